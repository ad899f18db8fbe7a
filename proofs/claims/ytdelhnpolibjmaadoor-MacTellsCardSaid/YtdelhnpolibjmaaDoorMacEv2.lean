/- What the reference's Text and Parse and the kinds come to, in plain words; wakes; conditions: ranges alone. -/
import Derived.Test.YtdelhnpolibjmaaDoorMacEv
namespace Go.Proofs.YtdelhnpolibjmaaDoor.P
open Go.RowKit Go.Proofs.YtdelhnpolibjmaaDoorW.PrintWords Go.Proofs.YtdelhnpolibjmaaDoor.X Go.Proofs.YtdelhnpolibjmaaDoor.Plain Go.Proofs.YtdelhnpolibjmaaDoor
set_option linter.unusedVariables false
set_option linter.unusedSimpArgs false

/-! ### the reference's Text -/
def gd (a : Nat) : Bool := decide (a < 281474976710656)
theorem goodref_now (a : Nat) : weirgateref09_Good.f (a : Int) = some (gd a) := by
  unfold weirgateref09_Good.f gd
  by_cases h : a < 281474976710656
  · rw [decide_eq_true h, decide_eq_true (show (a : Int) < 281474976710656 by omega)]
  · rw [decide_eq_false h, decide_eq_false (show ¬ (a : Int) < 281474976710656 by omega)]
theorem hex_cut (n : Nat) (h : n < 16) (x : Int) (hx : x = n) : (⟨#[48, 49, 50, 51, 52, 53, 54, 55, 56, 57, 97, 98, 99, 100, 101, 102]⟩ : ByteArray).extract x.toNat ((x + 1) % 256).toNat = B [hexd n] := by
  subst hx
  have := hexOne_nat n h
  unfold hexOne hexDigits at this
  rw [show ((n : Int) + 1) % 256 = (n : Int) + 1 by omega]
  exact this
/-- The rest of the text. -/
def tailT : Bool → List Nat → L
  | _, [] => []
  | first, b :: r => (if first then [] else [58]) ++ two b ++ tailT false r
theorem tailT_macText (a : Nat) : tailT true (macBytes a) = macText a := by
  rw [macText_now]
  unfold macBytes
  simp [tailT]
theorem textref_loop (bs : List Nat) (h6 : bs.length = 6) (hb : ∀ b ∈ bs, b < 256) : ∀ (d i : Nat) (acc : L), i + d = 6 → acc.length ≤ 3 * i →
    Ev (fun k => weirgateref09_Text.l0 k (ints bs) (B acc) (i : Int)) (B (acc ++ tailT (i == 0) (bs.drop i))) := by
  intro d
  induction d with
  | zero =>
    intro i acc hi ha
    refine Ev.step (f := fun _ => some (B acc)) (fun k => ?_) ?_
    · simp only [weirgateref09_Text.l0]
      rw [if_neg (by omega)]
    · rw [List.drop_eq_nil_of_le (by omega), show tailT (i == 0) [] = [] by cases (i == 0) <;> rfl, List.append_nil]
      exact Ev.now _
  | succ d ih =>
    intro i acc hi ha
    have hlt : i < bs.length := by omega
    have hbb := hb bs[i] (List.getElem_mem hlt)
    have hq : (Int.tdiv ((bs[i] : Nat) : Int) 16) % 256 = ((bs[i] / 16 : Nat) : Int) := by
      rw [Int.tdiv_eq_ediv_of_nonneg (by omega)]; omega
    have hm : Int.tmod ((bs[i] : Nat) : Int) 16 = ((bs[i] % 16 : Nat) : Int) := by
      rw [Int.tmod_eq_emod_of_nonneg (by omega)]; omega
    have ea : (B acc).size = acc.length := B_size acc
    have et : B [hexd (bs[i] / 16)] ++ B [hexd (bs[i] % 16)] = B (two bs[i]) := by rw [B_append]; rfl
    have e1 : (B [hexd (bs[i] / 16)]).size = 1 := B_size _
    have e2 : (B [hexd (bs[i] % 16)]).size = 1 := B_size _
    have e3 : (B (two bs[i])).size = 2 := B_size _
    have e58 : (⟨#[58]⟩ : ByteArray) = B [58] := rfl
    rw [List.drop_eq_getElem_cons hlt]
    by_cases h0 : i = 0
    · refine Ev.step (f := fun k => weirgateref09_Text.l0 k (ints bs) (B (acc ++ two bs[i])) ((i + 1 : Nat) : Int)) (fun k => ?_) ?_
      · simp only [weirgateref09_Text.l0]
        rw [if_pos (by omega), if_neg (by omega), if_pos (by omega), if_pos (by rw [ints_length]; omega), rd_ints hlt, hq, hm, if_pos (by omega), if_pos (by omega), if_pos (by omega), if_pos (by omega), if_pos (by omega), if_pos (by omega)]
        rw [hex_cut (bs[i] / 16) (by omega) _ rfl, hex_cut (bs[i] % 16) (by omega) _ rfl, et, if_pos (by omega), if_pos (by omega), B_append, wrap_up (by omega) (by omega)]
        rfl
      · have := ih (i + 1) (acc ++ two bs[i]) (by omega) (by simp only [List.length_append, two, List.length_cons, List.length_nil]; omega)
        rw [show (i + 1 == 0) = false from rfl, List.append_assoc] at this
        rw [show (i == 0) = true by rw [h0]; rfl, tailT, if_pos rfl, List.nil_append]
        exact this
    · refine Ev.step (f := fun k => weirgateref09_Text.l0 k (ints bs) (B (acc ++ 58 :: two bs[i])) ((i + 1 : Nat) : Int)) (fun k => ?_) ?_
      · simp only [weirgateref09_Text.l0]
        rw [if_pos (by omega), if_pos (by omega), if_pos (by omega), if_pos (by omega), if_pos (by rw [ints_length]; omega), rd_ints hlt, hq, hm, if_pos (by omega), if_pos (by omega), if_pos (by omega), if_pos (by omega), if_pos (by omega), if_pos (by omega)]
        rw [hex_cut (bs[i] / 16) (by omega) _ rfl, hex_cut (bs[i] % 16) (by omega) _ rfl, et, e58, B_append, if_pos (by omega), if_pos (by rw [B_size]; simp only [List.length_append, List.length_singleton]; omega), B_append, wrap_up (by omega) (by omega), List.append_assoc]
        rfl
      · have := ih (i + 1) (acc ++ 58 :: two bs[i]) (by omega) (by simp only [List.length_append, two, List.length_cons, List.length_nil]; omega)
        rw [show (i + 1 == 0) = false from rfl, List.append_assoc] at this
        rw [show (i == 0) = false from beq_eq_false_iff_ne.2 h0, tailT]
        exact this
theorem refBytes_now (a : Nat) : weirgateref09_Bytes.f (a : Int) = some (ints (macBytes a)) := by
  unfold weirgateref09_Bytes.f ints macBytes
  simp only [List.map_cons, List.map_nil]
  rw [show ((a / 1099511627776 % 256 : Nat) : Int) = (a : Int) / 1099511627776 % 256 by omega, show ((a / 4294967296 % 256 : Nat) : Int) = (a : Int) / 4294967296 % 256 by omega, show ((a / 16777216 % 256 : Nat) : Int) = (a : Int) / 16777216 % 256 by omega,
    show ((a / 65536 % 256 : Nat) : Int) = (a : Int) / 65536 % 256 by omega, show ((a / 256 % 256 : Nat) : Int) = (a : Int) / 256 % 256 by omega, show ((a % 256 : Nat) : Int) = (a : Int) % 256 by omega]
/-- The text of a number: none beyond 48 bits. -/
def textOf (a : Nat) : L := if a < 281474976710656 then macText a else []
theorem text_in (a : Nat) (h : a < 281474976710656) (k : Nat) : weirgateref09_Text.f k (a : Int) = weirgateref09_Text.l0 k (ints (macBytes a)) (⟨#[]⟩ : ByteArray) 0 := by
  unfold weirgateref09_Text.f
  rw [goodref_now, refBytes_now, gd, decide_eq_true h]
  rfl
theorem text_out (a : Nat) (h : ¬ a < 281474976710656) (k : Nat) : weirgateref09_Text.f k (a : Int) = some (⟨#[]⟩ : ByteArray) := by
  unfold weirgateref09_Text.f
  rw [goodref_now, gd, decide_eq_false h]
  rfl
theorem six (a : Nat) : (macBytes a).length = 6 := by
  unfold macBytes
  rfl
theorem textref_all (a : Nat) : Ev (fun k => weirgateref09_Text.l0 k (ints (macBytes a)) (B []) ((0 : Nat) : Int)) (B (macText a)) := by
  have := textref_loop (macBytes a) (six a) (macBytes_lt a) 6 0 [] (by omega) (by simp)
  rw [show ((0 : Nat) == 0) = true from rfl, List.drop_zero, tailT_macText, List.nil_append] at this
  exact this
theorem textref_ev (a : Nat) : Ev (fun k => weirgateref09_Text.f k (a : Int)) (B (textOf a)) := by
  by_cases h : a < 281474976710656
  · rw [textOf, if_pos h]
    exact Ev.congr (text_in a h) (textref_all a)
  · rw [textOf, if_neg h]
    exact Ev.congr (text_out a h) (Ev.now _)
theorem text_now (a : Nat) (h : a < 18446744073709551616) : mac_Text.f (a : Int) = some (B (textOf a)) := by
  unfold mac_Text.f textOf
  rw [if_pos (by omega)]
  split
  · rw [if_pos (by omega)]; rfl
  · rw [if_neg (by omega)]; rfl

/-! ### the reference's Parse -/
/-- Its search for a digit. -/
def scan (c : UInt8) : Int → Nat → L → Int
  | d, _, [] => d
  | d, j, h :: t => scan c (if h = c then (j : Int) else d) (j + 1) t
theorem index_no {c : UInt8} : ∀ {l : L}, c ∉ l → Lib.indexByte l c = -1
  | [], _ => rfl
  | h :: t, hc => by
    have h1 : ¬ h = c := fun e => hc (by rw [e]; exact List.mem_cons_self)
    have h2 := index_no (l := t) fun e => hc (List.mem_cons_of_mem _ e)
    unfold Lib.indexByte
    rw [h2]
    simp [h1]
theorem scan_no {c : UInt8} : ∀ (l : L) (d : Int) (j : Nat), c ∉ l → scan c d j l = d
  | [], _, _, _ => rfl
  | h :: t, d, j, hc => by
    have h1 : ¬ h = c := fun e => hc (by rw [e]; exact List.mem_cons_self)
    rw [scan, if_neg h1]
    exact scan_no t d (j + 1) fun e => hc (List.mem_cons_of_mem _ e)
theorem scan_is {c : UInt8} : ∀ (l : L) (d : Int) (j : Nat), l.Nodup → scan c d j l = if Lib.indexByte l c = -1 then d else (j : Int) + Lib.indexByte l c
  | [], _, _, _ => rfl
  | h :: t, d, j, hn => by
    obtain ⟨n1, n2⟩ := List.nodup_cons.1 hn
    rw [scan]
    by_cases hc : h = c
    · subst hc
      rw [if_pos rfl, scan_no t _ _ n1]
      unfold Lib.indexByte
      simp
    · rw [if_neg hc, scan_is t d (j + 1) n2]
      have hge : -1 ≤ Lib.indexByte t c := by
        clear scan_is n1 n2 hn
        induction t with
        | nil => exact Int.le_refl _
        | cons b t ih => unfold Lib.indexByte; split; · decide
                         · split; · decide
                           · omega
      conv => rhs; unfold Lib.indexByte
      by_cases hi : Lib.indexByte t c = -1
      · simp [hi, hc]
      · simp only [beq_iff_eq, hc, hi, if_false]
        rw [if_neg (by omega)]
        omega
theorem hex_nodup : hexList.Nodup := by decide
theorem scan_hv (c : UInt8) : scan c (-1) 0 hexList = hv c := by
  rw [scan_is _ _ _ hex_nodup]
  unfold hv
  split
  · rename_i h; rw [h]
  · omega
def after (s : ByteArray) : Option Nat → Int × Int
  | some v => if macText v = s.data.toList then ((v : Int), 0) else (0, 11)
  | none => (0, 11)
theorem hex_at {j : Nat} (h : j < hexList.length) : bt (⟨#[48, 49, 50, 51, 52, 53, 54, 55, 56, 57, 97, 98, 99, 100, 101, 102]⟩ : ByteArray) (j : Int) = ((hexList[j]'h).toNat : Int) := bt_at_data (s := B hexList) h
theorem search (s : ByteArray) (v : Nat) (i : Nat) (hi : i < s.data.toList.length) (r : Int × Int)
    (hr : ∀ d : Int, d = hv (s.data.toList[i]) → Ev (fun k => if d < 0 then some (0, 11) else weirgateref09_Parse.l0 k s (IntKind.u64.wrap (IntKind.u64.wrap ((v : Int) * 16) + IntKind.u64.wrap d)) (wrap64 ((i : Int) + 1))) r) :
    Ev (fun k => weirgateref09_Parse.l1 k s (v : Int) (i : Int) (-1) ((0 : Nat) : Int)) r := by
  have hs := size_data s
  have loop : ∀ (e j : Nat) (d : Int), j + e = 16 → scan s.data.toList[i] d j (hexList.drop j) = hv s.data.toList[i] → Ev (fun k => weirgateref09_Parse.l1 k s (v : Int) (i : Int) d (j : Int)) r := by
    intro e
    induction e with
    | zero =>
      intro j d hj hd
      rw [List.drop_eq_nil_of_le (by show 16 ≤ j; omega)] at hd
      refine Ev.step (f := fun k => if d < 0 then some (0, 11) else weirgateref09_Parse.l0 k s (IntKind.u64.wrap (IntKind.u64.wrap ((v : Int) * 16) + IntKind.u64.wrap d)) (wrap64 ((i : Int) + 1))) (fun k => ?_) (hr d hd)
      simp only [weirgateref09_Parse.l1]
      rw [if_neg (by omega)]
    | succ e ih =>
      intro j d hj hd
      have hlt : j < hexList.length := by show j < 16; omega
      rw [List.drop_eq_getElem_cons hlt, scan] at hd
      refine Ev.step (f := fun k => weirgateref09_Parse.l1 k s (v : Int) (i : Int) (if hexList[j] = s.data.toList[i] then (j : Int) else d) ((j + 1 : Nat) : Int)) (fun k => ?_) (ih (j + 1) _ (by omega) hd)
      simp only [weirgateref09_Parse.l1]
      rw [if_pos (by omega), if_pos (by omega), if_pos (by omega), if_pos (by omega), hex_at hlt, bt_at_data hi, wrap_up (by omega) (by omega)]
      by_cases he : hexList[j] = s.data.toList[i]
      · rw [if_pos (toNat_eq.2 he), if_pos he]
        rfl
      · rw [if_neg fun e => he (toNat_eq.1 e), if_neg he]
        rfl
  exact loop 16 0 (-1) (by omega) (scan_hv _)
theorem parseref_ev (s : ByteArray) : Ev (fun k => weirgateref09_Parse.f k s) (macParse s.data.toList) := by
  rw [← refParse_is]
  have hs := size_data s
  by_cases h17 : s.data.toList.length = 17
  · have loop : ∀ (d i v : Nat), i + d = 17 → v < 16 ^ (i - i / 3) → Ev (fun k => weirgateref09_Parse.l0 k s (v : Int) (i : Int)) (after s (rp (i % 3) v (s.data.toList.drop i))) := by
      intro d
      induction d with
      | zero =>
        intro i v hi hv'
        obtain rfl : i = 17 := by omega
        have hv2 : v < 281474976710656 := hv'
        refine Ev.step (f := fun k => (weirgateref09_Text.f k (v : Int)).bind fun t144 => if t144.toList = s.toList then some ((v : Int), 0) else some (0, 11)) (fun k => ?_) ?_
        · simp only [weirgateref09_Parse.l0]
          rw [if_neg (by omega)]
        · rw [List.drop_eq_nil_of_le (by omega), rp_nil]
          refine (textref_ev v).bind ?_
          rw [B_toList, toList_data]
          unfold textOf
          rw [if_pos hv2]
          refine Ev.congr (f := fun _ => some (after s (some v))) (fun k => ?_) (Ev.now _)
          simp only [after]
          split <;> rfl
      | succ d ih =>
        intro i v hi hv'
        have hlt : i < s.data.toList.length := by omega
        rw [List.drop_eq_getElem_cons hlt]
        by_cases h2 : i % 3 = 2
        · refine Ev.step (f := fun k => weirgateref09_Parse.l0 k s (v : Int) ((i + 1 : Nat) : Int)) (fun k => ?_) ?_
          · simp only [weirgateref09_Parse.l0]
            rw [if_pos (by omega), if_pos (by rw [Int.tmod_eq_emod_of_nonneg (by omega)]; omega), wrap_up (by omega) (by omega)]
            rfl
          · have := ih (i + 1) v (by omega) (by rw [show i + 1 - (i + 1) / 3 = i - i / 3 by omega]; exact hv')
            rw [show (i + 1) % 3 = 0 by omega] at this
            rw [h2, rp_2]
            exact this
        · refine Ev.step (f := fun k => weirgateref09_Parse.l1 k s (v : Int) (i : Int) (-1) ((0 : Nat) : Int)) (fun k => ?_) (search s v i hlt _ ?_)
          · simp only [weirgateref09_Parse.l0]
            rw [if_pos (by omega), if_neg (by rw [Int.tmod_eq_emod_of_nonneg (by omega)]; omega)]
            rfl
          · rintro e he
            have h11 : 16 ^ (i - i / 3) ≤ 16 ^ 11 := Nat.pow_le_pow_right (by decide) (by omega)
            have hc := hv_cases s.data.toList[i]
            rw [← he] at hc
            have er : rp (i % 3) v (s.data.toList[i] :: s.data.toList.drop (i + 1)) = if e < 0 then none else rp ((i + 1) % 3) (v * 16 + e.toNat) (s.data.toList.drop (i + 1)) := by
              rcases (show i % 3 = 0 ∨ i % 3 = 1 by omega) with h | h
              · rw [h, rp_0, ← he, show (i + 1) % 3 = 1 by omega]
              · rw [h, rp_1, ← he, show (i + 1) % 3 = 2 by omega]
            rw [er]
            by_cases hn : e < 0
            · refine Ev.congr (f := fun _ => some (0, 11)) (fun k => ?_) ?_
              · rw [if_pos hn]
              · rw [if_pos hn]
                exact Ev.now _
            · have := ih (i + 1) (v * 16 + e.toNat) (by omega) (by rw [show i + 1 - (i + 1) / 3 = i - i / 3 + 1 by omega, Nat.pow_succ]; omega)
              rw [if_neg hn]
              refine Ev.congr (fun k => ?_) this
              rw [if_neg hn, add_join16 v e (by omega) (by omega) (by omega), wrap_up (by omega) (by omega)]
              rfl
    refine Ev.congr (f := fun k => weirgateref09_Parse.l0 k s ((0 : Nat) : Int) ((0 : Nat) : Int)) (fun k => ?_) ?_
    · unfold weirgateref09_Parse.f
      rw [if_pos (by omega)]
      rfl
    · have := loop 17 0 0 (by omega) (by decide)
      have e : after s (rp (0 % 3) 0 (s.data.toList.drop 0)) = refParse s.data.toList := by
        unfold refParse
        rw [if_pos h17, List.drop_zero]
        show after s (rp 0 0 s.data.toList) = _
        cases rp 0 0 s.data.toList <;> rfl
      rw [← e]
      exact this
  · refine Ev.congr (f := fun _ => some (0, 11)) (fun k => ?_) ?_
    · unfold weirgateref09_Parse.f
      rw [if_neg (by omega)]
    · unfold refParse
      rw [if_neg h17]
      exact Ev.now _

/-! ### kinds -/
def gr (a : Nat) : Bool := gd a && decide (a / 1099511627776 % 2 = 1)
def kp (a : Nat) : Bool := decide (1652522221568 ≤ a ∧ a ≤ 1652522221583)
theorem good_now (a : Nat) : mac_Good.f (a : Int) = some (gd a) := by
  unfold mac_Good.f gd
  by_cases h : a < 281474976710656
  · rw [decide_eq_true h, show (a : Int) / 281474976710656 = 0 by omega]; rfl
  · rw [decide_eq_false h, beq_eq_false_iff_ne.2 (show ¬ (a : Int) / 281474976710656 = 0 by omega)]
theorem bit_one (x : Int) (h0 : 0 ≤ x) (h1 : x < 18446744073709551616) : Go.bits .and .u64 x 1 = x % 2 := by
  have := bits_mask .u64 64 (by decide) wraps_u64 1 (by decide) x h0 (by omega)
  simpa using this
theorem group_now (a : Nat) (h : a < 18446744073709551616) : mac_Group.f (a : Int) = some (gr a) := by
  unfold mac_Group.f gr
  rw [good_now]
  simp only [Option.bind_some]
  rw [bit_one _ (by omega) (by omega)]
  cases gd a
  · simp
  · simp only [if_pos, Bool.true_and]
    congr 1
    rw [Bool.eq_iff_iff]
    simp
    omega
theorem groupref_now (a : Nat) (h : a < 18446744073709551616) : weirgateref09_Group.f (a : Int) = some (gr a) := by
  unfold weirgateref09_Group.f gr
  rw [goodref_now]
  simp only [Option.bind_some]
  rw [bit_one _ (by omega) (by omega)]
  cases gd a
  · simp
  · simp only [if_pos, Bool.true_and]
    congr 1
    rw [Bool.eq_iff_iff]
    simp
    omega
theorem and_not_low (a : Nat) (h : a < 18446744073709551616) : Go.bits .andNot .u64 (a : Int) 15 = ((a / 16 * 16 : Nat) : Int) := by
  have hw : a &&& 18446744073709551600 = a / 16 * 16 := by
    rw [show a / 16 * 16 = a >>> 4 <<< 4 by rw [Nat.shiftLeft_eq, Nat.shiftRight_eq_div_pow]]
    apply Nat.eq_of_testBit_eq
    intro i
    rw [Nat.testBit_and, Nat.testBit_shiftLeft, Nat.testBit_shiftRight]
    by_cases hi : i < 64
    · have hc : ∀ j : Nat, j < 64 → Nat.testBit 18446744073709551600 j = decide (4 ≤ j) := by decide
      rw [hc i hi]
      by_cases h4 : 4 ≤ i
      · rw [show 4 + (i - 4) = i by omega]
        simp [h4]
      · simp [h4]
    · have : a.testBit i = false := Nat.testBit_lt_two_pow (Nat.lt_of_lt_of_le (show a < 2 ^ 64 from h) (Nat.pow_le_pow_right (show 2 > 0 by omega) (show 64 ≤ i by omega)))
      rw [this, show 4 + (i - 4) = i by omega, this]
      simp
  have e : Go.bits .andNot .u64 (a : Int) 15 = IntKind.u64.wrap ((BitVec.ofInt 64 (a : Int) &&& ~~~ BitVec.ofInt 64 15).toNat : Int) := rfl
  rw [e, BitVec.toNat_and, BitVec.ofInt_natCast, BitVec.toNat_ofNat, Nat.mod_eq_of_lt h]
  rw [show (~~~ BitVec.ofInt 64 15).toNat = 18446744073709551600 by decide, hw, wraps_u64 _ (by omega) (by omega)]
theorem kept_now (a : Nat) (h : a < 18446744073709551616) : mac_Kept.f (a : Int) = some (kp a) := by
  unfold mac_Kept.f kp
  rw [and_not_low a h]
  congr 1
  rw [Bool.eq_iff_iff]
  simp
  omega
theorem keptref_now (a : Nat) : weirgateref09_Kept.f (a : Int) = some (kp a) := by
  unfold weirgateref09_Kept.f kp
  split
  · congr 1
    rw [Bool.eq_iff_iff]
    simp
    omega
  · congr 1
    rw [Bool.eq_iff_iff]
    simp
    omega

/-! ### wakes -/
theorem wakes_ev : Ev (fun k => weirgatelaw09_wakes.f k) true := by
  have p1 : macParse (⟨#[48, 49, 58, 56, 48, 58, 99, 50, 58, 48, 48, 58, 48, 48, 58, 48, 102]⟩ : ByteArray).data.toList = (1652522221583, 0) := by decide
  have p2 : macParse (⟨#[48, 49, 58, 56, 48, 58, 67, 50, 58, 48, 48, 58, 48, 48, 58, 48, 102]⟩ : ByteArray).data.toList = (0, 11) := by decide
  have o1 : ofB [0, 1, 2, 3, 4, 255] = (4328719615, 0) := by decide
  have e1 := parse_ev (⟨#[48, 49, 58, 56, 48, 58, 99, 50, 58, 48, 48, 58, 48, 48, 58, 48, 102]⟩ : ByteArray) (by decide)
  have e2 := parse_ev (⟨#[48, 49, 58, 56, 48, 58, 67, 50, 58, 48, 48, 58, 48, 48, 58, 48, 102]⟩ : ByteArray) (by decide)
  have e3 := of_ev [0, 1, 2, 3, 4, 255] (by decide)
  rw [p1] at e1
  rw [p2] at e2
  rw [o1] at e3
  have k1 : mac_Kept.f 1652522221583 = some true := (kept_now 1652522221583 (by decide)).trans (by rw [kp, decide_eq_true (by omega)])
  have g1 : mac_Group.f 1652522221583 = some true := (group_now 1652522221583 (by decide)).trans (by rw [gr, gd, decide_eq_true (by omega), decide_eq_true (by omega)]; rfl)
  have g2 : mac_Group.f 4328719615 = some false := (group_now 4328719615 (by decide)).trans (by rw [gr, decide_eq_false (by omega), Bool.and_false])
  have d1 : mac_Good.f 4328719615 = some true := (good_now 4328719615).trans (by rw [gd, decide_eq_true (by omega)])
  have t1 : mac_Text.f 4328719615 = some (B (macText 4328719615)) := (text_now 4328719615 (by decide)).trans (by rw [textOf, if_pos (by omega)])
  have m1 : macText 4328719615 = [48, 48, 58, 48, 49, 58, 48, 50, 58, 48, 51, 58, 48, 52, 58, 102, 102] := by
    rw [macText_now]
    decide
  unfold weirgatelaw09_wakes.f
  refine e1.bind ((show Ev (fun k => mac_Of.f k ([0, 1, 2, 3, 4, 255] : List Int)) (4328719615, 0) from e3).bind (e2.bind ?_))
  simp only [k1, g1, g2, d1, t1, m1, Option.bind_some, if_pos, B_toList]
  exact Ev.now true
end Go.Proofs.YtdelhnpolibjmaaDoor.P
