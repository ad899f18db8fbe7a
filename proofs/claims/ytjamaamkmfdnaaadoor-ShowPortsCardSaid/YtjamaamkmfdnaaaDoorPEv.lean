/- What the program's words and addresses come to, in plain words; conditions: sizes and ranges alone. -/
import Derived.Test.YtjamaamkmfdnaaaDoorXx2
import Derived.Test.YtjamaamkmfdnaaaDoorXx2
import Derived.Test.YtjamaamkmfdnaaaDoorMacPlain
namespace Go.Proofs.YtjamaamkmfdnaaaDoor.P
open Go.RowKit Go.Proofs.YtjamaamkmfdnaaaDoorW.PrintWords Go.Proofs.YtjamaamkmfdnaaaDoor.X Go.Proofs.YtjamaamkmfdnaaaDoor.Plain Go.Proofs.YtjamaamkmfdnaaaDoor
set_option linter.unusedVariables false
set_option linter.unusedSimpArgs false

theorem wrap_up {i : Int} (h0 : 0 ≤ i) (h : i < 9223372036854775807) : wrap64 (i + 1) = i + 1 := by unfold wrap64; omega
theorem toList_data (s : ByteArray) : s.toList = s.data.toList := Lib.toList_data s
theorem B_toList (l : L) : (B l).toList = l := by rw [toList_data, B_data]
theorem size_data (s : ByteArray) : s.size = s.data.toList.length := Lib.size_eq s
theorem B_size (l : L) : (B l).size = l.length := by rw [size_data, B_data]
theorem B_append (a b : L) : B a ++ B b = B (a ++ b) := ext_data (by simp [B])
theorem append_B (a : ByteArray) (b : L) : a ++ B b = B (a.data.toList ++ b) := by rw [← data_B a, B_append, B_data]
theorem rdOf_at {l : List ByteArray} {i : Nat} (h : i < l.length) : rdOf ByteArray.empty l (i : Int) = l[i] := by
  unfold rdOf
  rw [Int.toNat_natCast, List.getD_eq_getElem?_getD, List.getElem?_eq_getElem h]
  rfl
theorem bt_at_data {s : ByteArray} {i : Nat} (h : i < s.data.toList.length) : bt s (i : Int) = ((s.data.toList[i]).toNat : Int) := by
  unfold bt
  rw [dif_pos (by rw [Int.toNat_natCast, size_data]; exact h)]
  simp only [Int.toNat_natCast]
  rfl
theorem toNat_eq {a b : UInt8} : (a.toNat : Int) = (b.toNat : Int) ↔ a = b := by
  constructor
  · intro h
    exact UInt8.toNat_inj.1 (by omega)
  · rintro rfl; rfl
theorem cut_ev (s : ByteArray) (h : s.size < 4294967281) : Ev (fun k => words_Cut.f k s) ((cut s.data.toList).map B) := by
  have loop : ∀ (ps : List ByteArray) (hps : ps.length < 9223372036854775807) (d i : Nat) (acc : List ByteArray), i + d = ps.length → acc.length + d < 8796093022208 →
      Ev (fun k => words_Cut.l0 k acc ps (ps.length : Int) (i : Int)) (acc ++ (ps.drop i).filter (fun p => !p.data.toList.isEmpty)) := by
    intro ps hps d
    induction d with
    | zero =>
      intro i acc hi hb
      refine Ev.step (f := fun _ => some (acc ++ (ps.drop i).filter (fun p => !p.data.toList.isEmpty))) (fun k => ?_) (Ev.now _)
      simp only [words_Cut.l0]
      rw [if_neg (by omega), List.drop_eq_nil_of_le (by omega)]
      simp
    | succ d ih =>
      intro i acc hi hb
      have hlt : i < ps.length := by omega
      rw [List.drop_eq_getElem_cons hlt, List.filter_cons]
      by_cases he : ps[i].data.toList = []
      · refine Ev.step (f := fun k => words_Cut.l0 k acc ps (ps.length : Int) ((i + 1 : Nat) : Int)) (fun k => ?_) ?_
        · simp only [words_Cut.l0]
          rw [if_pos (by omega), if_pos (by omega), if_pos (by omega), if_pos (by rw [rdOf_at hlt, toList_data]; exact he), wrap_up (by omega) (by omega)]
          rfl
        · rw [if_neg (by simp [he])]
          exact ih (i + 1) acc (by omega) (by omega)
      · refine Ev.step (f := fun k => words_Cut.l0 k (acc ++ [ps[i]]) ps (ps.length : Int) ((i + 1 : Nat) : Int)) (fun k => ?_) ?_
        · simp only [words_Cut.l0]
          rw [if_pos (by omega), if_pos (by omega), if_pos (by omega), if_neg (by rw [rdOf_at hlt, toList_data]; exact he), if_pos (by omega), wrap_up (by omega) (by omega), rdOf_at hlt]
          rfl
        · rw [if_pos (by simpa using he)]
          have := ih (i + 1) (acc ++ [ps[i]]) (by omega) (by simp only [List.length_append, List.length_singleton]; omega)
          simpa using this
  have hps := Plain.splitB_pieces 32 (⟨#[32]⟩ : ByteArray) s rfl
  generalize hq : Lib.splitB (⟨#[32]⟩ : ByteArray) 0 (Lib.countB s (⟨#[32]⟩ : ByteArray)) s = ps at hps
  have hl : ps.length ≤ s.size + 1 := by
    have := congrArg List.length hps
    rw [List.length_map] at this
    have := pieces_length 32 s.data.toList
    have := size_data s
    omega
  refine Ev.congr (f := fun k => words_Cut.l0 k [] ps (ps.length : Int) ((0 : Nat) : Int)) (fun k => ?_) ?_
  · unfold words_Cut.f strings_Split.f
    rw [if_pos ⟨by decide, h⟩, hq]
    rfl
  · have := loop ps (by omega) ps.length 0 [] (by omega) (by simp only [List.length_nil]; omega)
    rw [List.drop_zero, List.nil_append] at this
    have e : ps.filter (fun p => !p.data.toList.isEmpty) = (cut s.data.toList).map B := by
      refine map_data_inj ?_
      rw [List.map_map, show ((fun x : ByteArray => x.data.toList) ∘ B) = id from funext fun l => B_data l, List.map_id]
      unfold cut
      rw [← hps, List.filter_map]
      rfl
    rw [← e]
    exact this
theorem num_now (s : ByteArray) (h : s.size ≤ 281474976710656) : words_Num.f s = some (Plain.num s.data.toList) := by
  unfold words_Num.f
  rw [if_pos h]
  rfl
theorem text_now (n : Int) (h0 : -9223372036854775808 ≤ n) (h1 : n ≤ 9223372036854775807) : words_Text.f n = some (B (Lib.itoa n)) := by
  unfold words_Text.f strconv_Itoa.f
  rw [if_pos ⟨h0, h1⟩]
  rfl
/-- Bytes as numbers. -/
def ints (bs : List Nat) : List Int := bs.map (fun n : Nat => (n : Int))
theorem ints_length (bs : List Nat) : (ints bs).length = bs.length := by simp [ints]
theorem ints_snoc (bs : List Nat) (n : Nat) : ints (bs ++ [n]) = ints bs ++ [(n : Int)] := by simp only [ints, List.map_append, List.map_cons, List.map_nil]
theorem rd_ints {bs : List Nat} {i : Nat} (h : i < bs.length) : rd (ints bs) (i : Int) = ((bs[i] : Nat) : Int) := by
  unfold rd ints
  rw [Int.toNat_natCast, List.getD_eq_getElem?_getD, List.getElem?_eq_getElem (by simpa using h)]
  simp
theorem wraps_u64 (n : Int) (h₀ : 0 ≤ n) (h₁ : n < 2 ^ 64) : IntKind.u64.wrap n = n := by
  have : IntKind.u64.wrap n = n % 18446744073709551616 := by simp [IntKind.wrap, IntKind.bits, IntKind.signed]
  rw [this]
  omega
theorem wraps_i64 (n : Int) (h₀ : 0 ≤ n) (h₁ : n < 2 ^ 63) : IntKind.i64.wrap n = n := by
  rw [IntKind.wrap_i64]
  omega
theorem or_join (v b : Nat) (h : v < 281474976710656) (hb : b < 256) : Go.bits .or .u64 (IntKind.u64.wrap ((v : Int) * 256)) (IntKind.u64.wrap (b : Int)) = ((v * 256 + b : Nat) : Int) := by
  rw [wraps_u64 _ (by omega) (by omega), wraps_u64 _ (by omega) (by omega), bits_join .u64 64 (by decide) wraps_u64 8 _ _ (by omega) (by omega) (by omega) (by omega) (by omega) (by omega)]
  omega
theorem or_byte (x y : Int) (h0 : 0 ≤ x) (h1 : x < 16) (k0 : 0 ≤ y) (k1 : y < 16) : (Go.bits .or .i64 (wrap64 (x * 16)) y) % 256 = ((x.toNat * 16 + y.toNat : Nat) : Int) := by
  have : wrap64 (x * 16) = x * 16 := by unfold wrap64; omega
  rw [this, bits_join .i64 63 (by decide) wraps_i64 4 _ _ (by omega) (by omega) (by omega) (by omega) (by omega) (by omega)]
  omega
theorem of_ev (bs : List Nat) (hb : ∀ b ∈ bs, b < 256) : Ev (fun k => mac_Of.f k (ints bs)) (ofB bs) := by
  by_cases h6 : bs.length = 6
  · have loop : ∀ (d i acc : Nat), i + d = 6 → acc < 256 ^ i → Ev (fun k => mac_Of.l0 k (acc : Int) (ints bs) ((ints bs).length : Int) (i : Int)) (((bval acc (bs.drop i) : Nat) : Int), 0) := by
      intro d
      induction d with
      | zero =>
        intro i acc hi ha
        refine Ev.step (f := fun _ => some ((acc : Int), 0)) (fun k => ?_) ?_
        · simp only [mac_Of.l0]
          rw [if_neg (by rw [ints_length]; omega)]
        · rw [List.drop_eq_nil_of_le (by omega)]
          exact Ev.now _
      | succ d ih =>
        intro i acc hi ha
        have hlt : i < bs.length := by omega
        have h5 : 256 ^ i ≤ 256 ^ 5 := Nat.pow_le_pow_right (by decide) (by omega)
        have hbb := hb bs[i] (List.getElem_mem hlt)
        refine Ev.step (f := fun k => mac_Of.l0 k ((acc * 256 + bs[i] : Nat) : Int) (ints bs) ((ints bs).length : Int) ((i + 1 : Nat) : Int)) (fun k => ?_) ?_
        · simp only [mac_Of.l0]
          rw [if_pos (by rw [ints_length]; omega), if_pos (by omega), if_pos (by rw [ints_length]; omega), rd_ints hlt, or_join _ _ (by omega) hbb, wrap_up (by omega) (by omega)]
          rfl
        · rw [List.drop_eq_getElem_cons hlt, bval]
          exact ih (i + 1) _ (by omega) (by rw [Nat.pow_succ]; omega)
    refine Ev.congr (f := fun k => mac_Of.l0 k ((0 : Nat) : Int) (ints bs) ((ints bs).length : Int) ((0 : Nat) : Int)) (fun k => ?_) ?_
    · unfold mac_Of.f
      rw [if_pos (by rw [ints_length, h6]; rfl)]
      rfl
    · unfold ofB
      rw [if_pos h6]
      exact loop 6 0 0 (by omega) (by decide)
  · refine Ev.congr (f := fun _ => some (0, 11)) (fun k => ?_) ?_
    · unfold mac_Of.f
      rw [if_neg (by rw [ints_length]; omega)]
    · unfold ofB
      rw [if_neg h6]
      exact Ev.now _
theorem idx_hv (x : UInt8) : strings_IndexByte.f (⟨#[48, 49, 50, 51, 52, 53, 54, 55, 56, 57, 97, 98, 99, 100, 101, 102]⟩ : ByteArray) ((x.toNat : Nat) : Int) = some (hv x) := by
  unfold strings_IndexByte.f
  rw [Int.toNat_natCast]
  have : x.toNat.toUInt8 = x := UInt8.ofNat_toNat
  rw [this]
  rfl
def fin (acc : List Nat) : Option (List Nat) → Int × Int
  | some bs => ofB (acc ++ bs)
  | none => (0, 11)
theorem macparse_ev (s : ByteArray) (h : s.size < 4294967281) : Ev (fun k => mac_Parse.f k s) (macParse s.data.toList) := by
  have loop : ∀ (ps : List ByteArray) (hps : ps.length < 9223372036854775807) (d i : Nat) (acc : List Nat) (ha : ∀ b ∈ acc, b < 256), i + d = ps.length → acc.length + d < 8796093022208 →
      Ev (fun k => mac_Parse.l0 k (ints acc) ps (ps.length : Int) (i : Int)) (fin acc (parts ((ps.drop i).map (·.data.toList)))) := by
    intro ps hps d
    induction d with
    | zero =>
      intro i acc ha hi hb
      refine Ev.step (f := fun k => (mac_Of.f k (ints acc)).bind fun bt105 => some (bt105.1, bt105.2)) (fun k => ?_) ?_
      · simp only [mac_Parse.l0]
        rw [if_neg (by omega)]
      · rw [List.drop_eq_nil_of_le (by omega)]
        have e : fin acc (parts (([] : List ByteArray).map (·.data.toList))) = ofB acc := by simp [fin, parts]
        rw [e]
        exact (of_ev acc ha).bind (Ev.now _)
    | succ d ih =>
      intro i acc ha hi hb
      have hlt : i < ps.length := by omega
      rw [List.drop_eq_getElem_cons hlt, List.map_cons]
      by_cases h2 : ps[i].data.toList.length = 2
      · obtain ⟨x, y, hxy⟩ : ∃ x y, ps[i].data.toList = [x, y] := by
          match hq : ps[i].data.toList, h2 with
          | [x, y], _ => exact ⟨x, y, rfl⟩
        have hs : ps[i].size = 2 := by rw [size_data]; exact h2
        have b0 : bt ps[i] 0 = ((x.toNat : Nat) : Int) := by
          have := bt_at_data (s := ps[i]) (i := 0) (by omega)
          simpa [hxy] using this
        have b1 : bt ps[i] 1 = ((y.toNat : Nat) : Int) := by
          have := bt_at_data (s := ps[i]) (i := 1) (by omega)
          simpa [hxy] using this
        rw [hxy]
        by_cases hn : hv x < 0 ∨ hv y < 0
        · refine Ev.step (f := fun _ => some (0, 11)) (fun k => ?_) ?_
          · simp only [mac_Parse.l0]
            rw [if_pos (by omega), if_pos (by omega), if_pos (by omega), rdOf_at hlt, if_pos (by omega), if_pos (by omega), b0, b1, idx_hv, idx_hv]
            simp only [Option.bind_some]
            rw [if_pos (by omega)]
            rcases hn with hn | hn
            · rw [if_pos hn]
            · rw [if_pos hn]
              split <;> rfl
          · have e : fin acc (parts ([x, y] :: (ps.drop (i + 1)).map (·.data.toList))) = (0, 11) := by
              unfold parts Plain.part
              simp only
              rw [if_pos hn]
              rfl
            rw [e]
            exact Ev.now _
        · have hx := hv_cases x
          have hy := hv_cases y
          refine Ev.step (f := fun k => mac_Parse.l0 k (ints (acc ++ [(hv x).toNat * 16 + (hv y).toNat])) ps (ps.length : Int) ((i + 1 : Nat) : Int)) (fun k => ?_) ?_
          · simp only [mac_Parse.l0]
            rw [if_pos (by omega), if_pos (by omega), if_pos (by omega), rdOf_at hlt, if_pos (by omega), if_pos (by omega), b0, b1, idx_hv, idx_hv]
            simp only [Option.bind_some]
            rw [if_pos (by omega), if_neg (by omega), if_neg (by omega), if_pos (by rw [ints_length]; omega), or_byte _ _ (by omega) (by omega) (by omega) (by omega), wrap_up (by omega) (by omega)]
            rw [ints_snoc]
            rfl
          · have e : fin acc (parts ([x, y] :: (ps.drop (i + 1)).map (·.data.toList))) = fin (acc ++ [(hv x).toNat * 16 + (hv y).toNat]) (parts ((ps.drop (i + 1)).map (·.data.toList))) := by
              rw [parts]
              unfold Plain.part
              simp only
              rw [if_neg hn]
              cases parts ((ps.drop (i + 1)).map (·.data.toList)) <;> simp [fin]
            rw [e]
            refine ih (i + 1) _ ?_ (by omega) (by simp only [List.length_append, List.length_singleton]; omega)
            intro b hb'
            rcases List.mem_append.1 hb' with hb' | hb'
            · exact ha b hb'
            · simp only [List.mem_singleton] at hb'
              omega
      · refine Ev.step (f := fun _ => some (0, 11)) (fun k => ?_) ?_
        · simp only [mac_Parse.l0]
          rw [if_pos (by omega), if_pos (by omega), if_pos (by omega), rdOf_at hlt, if_neg (by rw [size_data]; omega)]
        · have e : Plain.part ps[i].data.toList = none := by
            unfold Plain.part
            split
            · rename_i x y hq
              rw [hq] at h2
              exact absurd rfl h2
            · rfl
          rw [parts, e]
          exact Ev.now _
  have hps := Plain.splitB_pieces 58 (⟨#[58]⟩ : ByteArray) s rfl
  generalize hq : Lib.splitB (⟨#[58]⟩ : ByteArray) 0 (Lib.countB s (⟨#[58]⟩ : ByteArray)) s = ps at hps
  have hl : ps.length ≤ s.size + 1 := by
    have := congrArg List.length hps
    rw [List.length_map] at this
    have := pieces_length 58 s.data.toList
    have := size_data s
    omega
  refine Ev.congr (f := fun k => mac_Parse.l0 k (ints []) ps (ps.length : Int) ((0 : Nat) : Int)) (fun k => ?_) ?_
  · unfold mac_Parse.f strings_Split.f
    rw [if_pos ⟨by decide, h⟩, hq]
    rfl
  · have := loop ps (by omega) ps.length 0 [] (by simp) (by omega) (by simp only [List.length_nil]; omega)
    rw [List.drop_zero, hps] at this
    have e : fin [] (parts (pieces 58 s.data.toList)) = macParse s.data.toList := by
      unfold macParse
      cases parts (pieces 58 s.data.toList) <;> rfl
    rw [← e]
    exact this
/-- The text of a number: none beyond 48 bits. -/
def textOf (a : Nat) : L := if a < 281474976710656 then macText a else []
theorem mactext_now (a : Nat) (h : a < 18446744073709551616) : mac_Text.f (a : Int) = some (B (textOf a)) := by
  unfold mac_Text.f textOf
  rw [if_pos (by omega)]
  split
  · rw [if_pos (by omega)]; rfl
  · rw [if_neg (by omega)]; rfl
end Go.Proofs.YtjamaamkmfdnaaaDoor.P
