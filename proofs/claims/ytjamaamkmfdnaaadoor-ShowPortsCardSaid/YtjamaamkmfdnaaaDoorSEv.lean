/- What the program's show functions come to, in plain words; conditions: ranges alone. -/
import Derived.Test.YtjamaamkmfdnaaaDoorPCode
import Derived.Test.YtjamaamkmfdnaaaDoorXx4
import Derived.Test.YtjamaamkmfdnaaaDoorXx5
import Derived.Test.YtjamaamkmfdnaaaDoorXx6
import Derived.Test.YtjamaamkmfdnaaaDoorXx6
import Derived.Test.YtjamaamkmfdnaaaDoorXx6
import Derived.Test.YtjamaamkmfdnaaaDoorXx7
import Derived.Test.YtjamaamkmfdnaaaDoorXx7
namespace Go.Proofs.YtjamaamkmfdnaaaDoor.P
open Go.RowKit Go.Proofs.YtjamaamkmfdnaaaDoorW.PrintWords Go.Proofs.YtjamaamkmfdnaaaDoor.X Go.Proofs.YtjamaamkmfdnaaaDoor.Plain Go.Proofs.YtjamaamkmfdnaaaDoor
set_option linter.unusedVariables false
set_option linter.unusedSimpArgs false

theorem texts_same (l : List ByteArray) (h : l.length ≤ 9223372036854775807) : Ev (fun k => weirgatekeep_Texts.f k l l) true := by
  have loop : ∀ (d i : Nat), i + d = l.length → Ev (fun k => weirgatekeep_Texts.l0 k l l (i : Int)) true := by
    intro d
    induction d with
    | zero =>
      intro i hi
      refine Ev.step (f := fun _ => some true) (fun k => ?_) (Ev.now _)
      simp only [weirgatekeep_Texts.l0]
      rw [if_neg (by omega)]
    | succ d ih =>
      intro i hi
      refine Ev.step (f := fun k => weirgatekeep_Texts.l0 k l l ((i + 1 : Nat) : Int)) (fun k => ?_) (ih (i + 1) (by omega))
      simp only [weirgatekeep_Texts.l0]
      rw [if_pos (by omega), if_pos (by omega), if_pos (by omega), if_pos trivial, wrap_up (by omega) (by omega)]
      rfl
  refine Ev.congr (f := fun k => weirgatekeep_Texts.l0 k l l ((0 : Nat) : Int)) (fun k => ?_) (loop l.length 0 (by omega))
  unfold weirgatekeep_Texts.f
  rw [if_pos rfl]
  rfl
def ne (l : List ByteArray) : List L := (l.map (·.data.toList)).filter (fun p => !p.isEmpty)
theorem ne_snoc_nil {l : List ByteArray} {x : ByteArray} (h : x.data.toList = []) : ne (l ++ [x]) = ne l := by simp [ne, h]
theorem ne_snoc {l : List ByteArray} {x : ByteArray} (h : ¬ x.data.toList = []) : ne (l ++ [x]) = ne l ++ [x.data.toList] := by simp [ne, h]
theorem ne_mem {l : List ByteArray} {p : L} (h : p ∈ ne l) : p ≠ [] := by
  have := (List.mem_filter.1 h).2
  simpa using this
theorem ne_filter (l : List ByteArray) : (l.filter (fun p => !p.data.toList.isEmpty)).map (·.data.toList) = ne l := by
  unfold ne
  rw [List.filter_map]
  rfl
theorem join_ev (l : List ByteArray) (hl : l.length < 8796093022208) (hb : (line (ne l)).length ≤ 140737488355328) : Ev (fun k => words_Join.f k l) (B (line (ne l))) := by
  have loop : ∀ (d i : Nat) (acc : List ByteArray), i + d = l.length → acc.length + d < 8796093022208 → acc ++ (l.drop i).filter (fun p => !p.data.toList.isEmpty) = l.filter (fun p => !p.data.toList.isEmpty) →
      Ev (fun k => words_Join.l0 k acc l (l.length : Int) (i : Int)) (B (line (ne l))) := by
    intro d
    induction d with
    | zero =>
      intro i acc hi hq hacc
      refine Ev.step (f := fun _ => some (B (line (ne l)))) (fun k => ?_) (Ev.now _)
      simp only [words_Join.l0]
      rw [List.drop_eq_nil_of_le (by omega), List.filter_nil, List.append_nil] at hacc
      have e : acc.map (·.data.toList) = ne l := by rw [hacc]; exact ne_filter l
      rw [if_neg (by omega)]
      unfold strings_Join.f
      rw [show (⟨#[32]⟩ : ByteArray).data.toList = [32] from rfl, e, join_line, if_pos ⟨by omega, hb⟩]
      rfl
    | succ d ih =>
      intro i acc hi hq hacc
      have hlt : i < l.length := by omega
      rw [List.drop_eq_getElem_cons hlt, List.filter_cons] at hacc
      by_cases he : l[i].data.toList = []
      · refine Ev.step (f := fun k => words_Join.l0 k acc l (l.length : Int) ((i + 1 : Nat) : Int)) (fun k => ?_) ?_
        · simp only [words_Join.l0]
          rw [if_pos (by omega), if_pos (by omega), if_pos (by omega), if_pos (by rw [rdOf_at hlt, toList_data]; exact he), wrap_up (by omega) (by omega)]
          rfl
        · rw [if_neg (by simp [he])] at hacc
          exact ih (i + 1) acc (by omega) (by omega) hacc
      · refine Ev.step (f := fun k => words_Join.l0 k (acc ++ [l[i]]) l (l.length : Int) ((i + 1 : Nat) : Int)) (fun k => ?_) ?_
        · simp only [words_Join.l0]
          rw [if_pos (by omega), if_pos (by omega), if_pos (by omega), if_neg (by rw [rdOf_at hlt, toList_data]; exact he), if_pos (by omega), wrap_up (by omega) (by omega), rdOf_at hlt]
          rfl
        · rw [if_pos (by simpa using he)] at hacc
          exact ih (i + 1) (acc ++ [l[i]]) (by omega) (by simp only [List.length_append, List.length_singleton]; omega) (by rw [List.append_assoc]; exact hacc)
  exact loop l.length 0 [] (by omega) (by simp only [List.length_nil]; omega) (by simp)
theorem digit_text (u : Nat) : strOfNums [(48 + ((Int.tmod (u : Int) 10) % 256)) % 256] = B [UInt8.ofNat (48 + u % 10)] := by
  have : (48 + ((Int.tmod (u : Int) 10) % 256)) % 256 = ((48 + u % 10 : Nat) : Int) := by
    rw [Int.tmod_eq_emod_of_nonneg (by omega)]
    omega
  rw [this]
  refine ext_data ?_
  rw [B_data]
  simp only [strOfNums, List.map_cons, List.map_nil, Int.toNat_natCast]

theorem ne_map {ws : List L} (h : ∀ w ∈ ws, w ≠ []) : ne (ws.map B) = ws := by
  unfold ne
  rw [List.map_map, show ((fun x : ByteArray => x.data.toList) ∘ B) = id from funext fun l => B_data l, List.map_id]
  refine List.filter_eq_self.2 (fun p hp => ?_)
  cases p with
  | nil => exact absurd rfl (h _ hp)
  | cons a b => rfl
theorem joinw_ev (ws : List L) (h : ∀ w ∈ ws, w ≠ []) (hl : ws.length ≤ 100) (hw : ∀ w ∈ ws, w.length ≤ 20) : Ev (fun k => words_Join.f k (ws.map B)) (B (line ws)) := by
  have h1 := line_length ws
  have h2 : ∀ l : List L, (∀ w ∈ l, w.length ≤ 20) → (l.map (fun p => p.length + 1)).sum ≤ 21 * l.length := by
    intro l
    induction l with
    | nil => intro _; simp
    | cons x l ih =>
      intro hf
      have := ih (fun y hy => hf y (List.mem_cons_of_mem _ hy))
      have := hf x List.mem_cons_self
      simp only [List.map_cons, List.sum_cons, List.length_cons]
      omega
  have h3 := h2 ws hw
  have := join_ev (ws.map B) (by rw [List.length_map]; omega) (by rw [ne_map h]; omega)
  rwa [ne_map h] at this

/-! ### digits -/
theorem dec_step (u q r : Nat) (h : u = q * 10 + r) (hr : r < 10) (hq : 0 < q) : Lib.decDigits u = Lib.decDigits q ++ [UInt8.ofNat (48 + r)] := by
  rw [decDigits_big (by omega), show u / 10 = q by omega, show u % 10 = r by omega]
theorem dec_length (u : Nat) (h : u < 18446744073709551616) : (Lib.decDigits u).length ≤ 20 := by
  have pow : ∀ (k u : Nat), u < 10 ^ (k + 1) → (Lib.decDigits u).length ≤ k + 1 := by
    intro k
    induction k with
    | zero =>
      intro u hu
      rw [decDigits_small (by simpa using hu)]
      simp
    | succ k ih =>
      intro u hu
      by_cases hs : u < 10
      · rw [decDigits_small hs]; simp
      · rw [decDigits_big hs, List.length_append]
        have := ih (u / 10) (by rw [Nat.pow_succ] at hu; omega)
        simp only [List.length_singleton]
        omega
  exact pow 19 u (by omega)
theorem dec_loop : ∀ (n u : Nat), u < n → u < 18446744073709551616 → ∀ acc : L, acc.length + (Lib.decDigits u).length ≤ 100 → Ev (fun k => weirgatelaw24_dec.l0 k (u : Int) (B acc)) (B (Lib.decDigits u ++ acc))
  | 0, u, hn, _, _, _ => by omega
  | n + 1, u, hn, hu, acc, hacc => by
    have hsz : (B [UInt8.ofNat (48 + u % 10)]).size + (B acc).size ≤ 9223372036854775807 := by
      rw [B_size, B_size]
      simp only [List.length_singleton]
      omega
    have hdiv : IntKind.u64.wrap (Int.tdiv (u : Int) 10) = ((u / 10 : Nat) : Int) := by
      rw [Int.tdiv_eq_ediv_of_nonneg (by omega), IntKind.wrap_u64]
      omega
    by_cases hs : u < 10
    · refine Ev.step (f := fun _ => some (B (Lib.decDigits u ++ acc))) (fun k => ?_) (Ev.now _)
      simp only [weirgatelaw24_dec.l0, Option.bind_some]
      rw [digit_text, if_pos hsz, hdiv, if_pos (by omega), B_append, decDigits_small hs, show u % 10 = u by omega]
    · have hb := decDigits_big hs
      have IH := dec_loop n (u / 10) (by omega) (by omega) (UInt8.ofNat (48 + u % 10) :: acc) (by rw [hb, List.length_append, List.length_singleton] at hacc; simp only [List.length_cons]; omega)
      rw [show Lib.decDigits (u / 10) ++ UInt8.ofNat (48 + u % 10) :: acc = Lib.decDigits u ++ acc by rw [hb, List.append_assoc]; rfl] at IH
      refine Ev.step (f := fun k => weirgatelaw24_dec.l0 k ((u / 10 : Nat) : Int) (B (UInt8.ofNat (48 + u % 10) :: acc))) (fun k => ?_) IH
      simp only [weirgatelaw24_dec.l0, Option.bind_some]
      rw [digit_text, if_pos hsz, hdiv, if_neg (by omega), B_append]
      rfl
theorem dec_ev (u : Nat) (h : u < 18446744073709551616) : Ev (fun k => weirgatelaw24_dec.f k (u : Int)) (B (Lib.decDigits u)) := by
  have := dec_loop (u + 1) u (by omega) h [] (by have := dec_length u h; simp only [List.length_nil]; omega)
  rw [List.append_nil] at this
  exact this
theorem long_now (u : Nat) (h : u < 18446744073709551616) : show_long.f (u : Int) = some (B (Lib.decDigits u)) := by
  unfold show_long.f strconv_FormatUint.f
  rw [if_pos ⟨by omega, by omega, rfl⟩, Int.toNat_natCast]
  rfl

/-! ### a port's line -/
def roleN : Nat → L
  | 0 => [100, 105, 115, 97, 98, 108, 101, 100]
  | 1 => [97, 108, 116, 101, 114, 110, 97, 116, 101]
  | 2 => [114, 111, 111, 116]
  | 3 => [100, 101, 115, 105, 103, 110, 97, 116, 101, 100]
  | _ => [98, 97, 99, 107, 117, 112]
def stateN : Nat → L
  | 0 => [100, 105, 115, 99, 97, 114, 100, 105, 110, 103]
  | 1 => [108, 101, 97, 114, 110, 105, 110, 103]
  | _ => [102, 111, 114, 119, 97, 114, 100, 105, 110, 103]
theorem roleN_fine (r : Nat) : roleN r ≠ [] ∧ (roleN r).length ≤ 20 := by
  match r with
  | 0 => decide
  | 1 => decide
  | 2 => decide
  | 3 => decide
  | n + 4 => exact ⟨by simp [roleN], by simp [roleN]⟩
theorem stateN_fine (r : Nat) : stateN r ≠ [] ∧ (stateN r).length ≤ 20 := by
  match r with
  | 0 => decide
  | 1 => decide
  | n + 2 => exact ⟨by simp [stateN], by simp [stateN]⟩
theorem role_now (r : Nat) (h : r < 5) : show_name.f (r : Int) [(⟨#[100, 105, 115, 97, 98, 108, 101, 100]⟩ : ByteArray), (⟨#[97, 108, 116, 101, 114, 110, 97, 116, 101]⟩ : ByteArray), (⟨#[114, 111, 111, 116]⟩ : ByteArray), (⟨#[100, 101, 115, 105, 103, 110, 97, 116, 101, 100]⟩ : ByteArray), (⟨#[98, 97, 99, 107, 117, 112]⟩ : ByteArray)] = some (B (roleN r)) := by
  match r, h with
  | 0, _ => rfl
  | 1, _ => rfl
  | 2, _ => rfl
  | 3, _ => rfl
  | 4, _ => rfl
  | n + 5, h => exact absurd h (by omega)
theorem state_now (r : Nat) (h : r < 3) : show_name.f (r : Int) [(⟨#[100, 105, 115, 99, 97, 114, 100, 105, 110, 103]⟩ : ByteArray), (⟨#[108, 101, 97, 114, 110, 105, 110, 103]⟩ : ByteArray), (⟨#[102, 111, 114, 119, 97, 114, 100, 105, 110, 103]⟩ : ByteArray)] = some (B (stateN r)) := by
  match r, h with
  | 0, _ => rfl
  | 1, _ => rfl
  | 2, _ => rfl
  | n + 3, h => exact absurd h (by omega)
/-- The head of a port's line. -/
def headW (n r s : Nat) : List L := [[112, 111, 114, 116], Lib.decDigits n, roleN r, stateN s]
def tailW : Option (Nat × Nat × Nat) → List L
  | none => [[115, 105, 108, 101, 110, 116]]
  | some (root, bridge, cost) => [[114, 111, 111, 116], Lib.decDigits root, [102, 114, 111, 109], Lib.decDigits bridge, [99, 111, 115, 116], Lib.decDigits cost]
theorem port_ev (n r s : Nat) (hn : n < 9223372036854775808) (hr : r < 5) (hs : s < 3) (up : Bool) (path root cost bridge pt age life timer : Int) (agreed : Bool) :
    Ev (fun k => show_Port.f k (n : Int) up path false root cost bridge pt age life (r : Int) (s : Int) timer agreed) (B (line (headW n r s ++ tailW none))) := by
  have hj := joinw_ev (headW n r s ++ tailW none) (by
    intro w hw
    simp only [headW, tailW, List.cons_append, List.nil_append, List.mem_cons, List.not_mem_nil, or_false] at hw
    rcases hw with rfl | rfl | rfl | rfl | rfl
    · decide
    · exact decDigits_ne _
    · exact (roleN_fine r).1
    · exact (stateN_fine s).1
    · decide) (by simp [headW, tailW]) (by
    intro w hw
    simp only [headW, tailW, List.cons_append, List.nil_append, List.mem_cons, List.not_mem_nil, or_false] at hw
    rcases hw with rfl | rfl | rfl | rfl | rfl
    · decide
    · exact dec_length _ (by omega)
    · exact (roleN_fine r).2
    · exact (stateN_fine s).2
    · decide)
  have ht := text_now (n : Int) (by omega) (by omega)
  rw [itoa_nat] at ht
  unfold show_Port.f
  rw [role_now r hr, state_now s hs]
  simp only [Option.bind_some, Bool.false_eq_true, if_false, ht]
  exact hj.bind (Ev.now _)
theorem port_known_ev (n r s root bridge cost : Nat) (hn : n < 9223372036854775808) (hr : r < 5) (hs : s < 3) (h1 : root < 18446744073709551616) (h2 : bridge < 18446744073709551616) (h3 : cost < 4294967296) (up : Bool) (path pt age life timer : Int) (agreed : Bool) :
    Ev (fun k => show_Port.f k (n : Int) up path true (root : Int) (cost : Int) (bridge : Int) pt age life (r : Int) (s : Int) timer agreed) (B (line (headW n r s ++ tailW (some (root, bridge, cost))))) := by
  have hj := joinw_ev (headW n r s ++ tailW (some (root, bridge, cost))) (by
    intro w hw
    simp only [headW, tailW, List.cons_append, List.nil_append, List.mem_cons, List.not_mem_nil, or_false] at hw
    rcases hw with rfl | rfl | rfl | rfl | rfl | rfl | rfl | rfl | rfl | rfl
    · decide
    · exact decDigits_ne _
    · exact (roleN_fine r).1
    · exact (stateN_fine s).1
    · decide
    · exact decDigits_ne _
    · decide
    · exact decDigits_ne _
    · decide
    · exact decDigits_ne _) (by simp [headW, tailW]) (by
    intro w hw
    simp only [headW, tailW, List.cons_append, List.nil_append, List.mem_cons, List.not_mem_nil, or_false] at hw
    rcases hw with rfl | rfl | rfl | rfl | rfl | rfl | rfl | rfl | rfl | rfl
    · decide
    · exact dec_length _ (by omega)
    · exact (roleN_fine r).2
    · exact (stateN_fine s).2
    · decide
    · exact dec_length _ (by omega)
    · decide
    · exact dec_length _ (by omega)
    · decide
    · exact dec_length _ (by omega))
  have ht := text_now (n : Int) (by omega) (by omega)
  rw [itoa_nat] at ht
  unfold show_Port.f
  rw [role_now r hr, state_now s hs]
  simp only [Option.bind_some, if_true, ht, long_now root h1, long_now bridge h2]
  rw [show IntKind.u64.wrap (cost : Int) = (cost : Int) by rw [IntKind.wrap_u64]; omega, long_now cost (by omega)]
  simp only [Option.bind_some]
  exact hj.bind (Ev.now _)

/-! ### edits' lines -/
def cmOf (e : S65) : Cm := ⟨1, e.f0, e.f1, e.f2, e.f3, e.f4, e.f5, e.f6⟩
theorem rd_edit {l : List S65} {i : Nat} (h : i < l.length) : rd_T65 l (i : Int) = l[i] := by
  unfold rd_T65
  rw [Int.toNat_natCast, List.getD_eq_getElem?_getD, List.getElem?_eq_getElem h]
  rfl
theorem lines_loop (es : List S65) (hes : es.length < 1000000) (h : ∀ e ∈ es, (cmOf e).Ok) : ∀ (d i : Nat) (acc : List ByteArray), i + d = es.length → acc.length ≤ i → Ev (fun k => show_lines.l0 k acc es (es.length : Int) (i : Int)) (acc ++ ((es.drop i).filterMap fun e => textP (cmOf e)).map B)
  | 0, i, acc, hi, ha => by
    refine Ev.step (f := fun _ => some _) (fun k => ?_) (Ev.now _)
    simp only [show_lines.l0]
    rw [if_neg (by omega), List.drop_eq_nil_of_le (by omega)]
    simp
  | d + 1, i, acc, hi, ha => by
    have hlt : i < es.length := by omega
    have ht := text_ev (cmOf es[i]) (h _ (List.getElem_mem hlt))
    rw [List.drop_eq_getElem_cons hlt, List.filterMap_cons]
    refine Ev.step (f := fun k => (X.parse_Text.f k 1 es[i].f0 es[i].f1 es[i].f2 es[i].f3 es[i].f4 es[i].f5 es[i].f6).bind fun b => if b.2 = 0 then (if acc.length < 8796093022208 then show_lines.l0 k (acc ++ [b.1]) es (es.length : Int) ((i + 1 : Nat) : Int) else none) else show_lines.l0 k acc es (es.length : Int) ((i + 1 : Nat) : Int)) (fun k => ?_) (ht.bind ?_)
    · simp only [show_lines.l0]
      rw [if_pos (by omega), if_pos (by omega), if_pos (by omega), rd_edit hlt, wrap_up (by omega) (by omega)]
      rfl
    · cases hx : textP (cmOf es[i]) with
      | none => exact Ev.congr (fun k => if_neg (by simp [outX])) (lines_loop es hes h d (i + 1) acc (by omega) (by omega))
      | some t =>
        have := lines_loop es hes h d (i + 1) (acc ++ [B t]) (by omega) (by simp only [List.length_append, List.length_singleton]; omega)
        simp only [List.map_cons]
        rw [List.append_assoc] at this
        exact Ev.congr (fun k => (if_pos rfl).trans (if_pos (by omega))) this
theorem lines_ev (es : List S65) (hes : es.length < 1000000) (h : ∀ e ∈ es, (cmOf e).Ok) : Ev (fun k => show_lines.f k es) ((es.filterMap fun e => textP (cmOf e)).map B) := by
  have := lines_loop es hes h es.length 0 [] (by omega) (by simp)
  rw [List.drop_zero, List.nil_append] at this
  exact this

/-! ### numbers of the examples -/
theorem d0 : Lib.decDigits 0 = [48] := by
  rw [decDigits_small (u := 0) (by omega)]
  rfl
theorem i0 : Lib.itoa 0 = [48] := by
  rw [itoa_pos (by omega)]
  exact d0
theorem m0 : num [48] = (0, true) := by
  have := num_digits 0 (by omega)
  rwa [d0] at this
theorem d1 : Lib.decDigits 1 = [49] := by
  rw [decDigits_small (u := 1) (by omega)]
  rfl
theorem i1 : Lib.itoa 1 = [49] := by
  rw [itoa_pos (by omega)]
  exact d1
theorem m1 : num [49] = (1, true) := by
  have := num_digits 1 (by omega)
  rwa [d1] at this
theorem d2 : Lib.decDigits 2 = [50] := by
  rw [decDigits_small (u := 2) (by omega)]
  rfl
theorem i2 : Lib.itoa 2 = [50] := by
  rw [itoa_pos (by omega)]
  exact d2
theorem m2 : num [50] = (2, true) := by
  have := num_digits 2 (by omega)
  rwa [d2] at this
theorem d3 : Lib.decDigits 3 = [51] := by
  rw [decDigits_small (u := 3) (by omega)]
  rfl
theorem i3 : Lib.itoa 3 = [51] := by
  rw [itoa_pos (by omega)]
  exact d3
theorem m3 : num [51] = (3, true) := by
  have := num_digits 3 (by omega)
  rwa [d3] at this
theorem d5 : Lib.decDigits 5 = [53] := by
  rw [decDigits_small (u := 5) (by omega)]
  rfl
theorem i5 : Lib.itoa 5 = [53] := by
  rw [itoa_pos (by omega)]
  exact d5
theorem m5 : num [53] = (5, true) := by
  have := num_digits 5 (by omega)
  rwa [d5] at this
theorem d14 : Lib.decDigits 14 = [49, 52] := by
  rw [dec_step 14 1 4 (by omega) (by omega) (by omega), decDigits_small (u := 1) (by omega)]
  rfl
theorem i14 : Lib.itoa 14 = [49, 52] := by
  rw [itoa_pos (by omega)]
  exact d14
theorem m14 : num [49, 52] = (14, true) := by
  have := num_digits 14 (by omega)
  rwa [d14] at this
theorem d15 : Lib.decDigits 15 = [49, 53] := by
  rw [dec_step 15 1 5 (by omega) (by omega) (by omega), decDigits_small (u := 1) (by omega)]
  rfl
theorem i15 : Lib.itoa 15 = [49, 53] := by
  rw [itoa_pos (by omega)]
  exact d15
theorem m15 : num [49, 53] = (15, true) := by
  have := num_digits 15 (by omega)
  rwa [d15] at this
theorem d20 : Lib.decDigits 20 = [50, 48] := by
  rw [dec_step 20 2 0 (by omega) (by omega) (by omega), decDigits_small (u := 2) (by omega)]
  rfl
theorem i20 : Lib.itoa 20 = [50, 48] := by
  rw [itoa_pos (by omega)]
  exact d20
theorem m20 : num [50, 48] = (20, true) := by
  have := num_digits 20 (by omega)
  rwa [d20] at this
theorem d4096 : Lib.decDigits 4096 = [52, 48, 57, 54] := by
  rw [dec_step 4096 409 6 (by omega) (by omega) (by omega), dec_step 409 40 9 (by omega) (by omega) (by omega), dec_step 40 4 0 (by omega) (by omega) (by omega), decDigits_small (u := 4) (by omega)]
  rfl
theorem i4096 : Lib.itoa 4096 = [52, 48, 57, 54] := by
  rw [itoa_pos (by omega)]
  exact d4096
theorem m4096 : num [52, 48, 57, 54] = (4096, true) := by
  have := num_digits 4096 (by omega)
  rwa [d4096] at this
theorem d8192 : Lib.decDigits 8192 = [56, 49, 57, 50] := by
  rw [dec_step 8192 819 2 (by omega) (by omega) (by omega), dec_step 819 81 9 (by omega) (by omega) (by omega), dec_step 81 8 1 (by omega) (by omega) (by omega), decDigits_small (u := 8) (by omega)]
  rfl
theorem i8192 : Lib.itoa 8192 = [56, 49, 57, 50] := by
  rw [itoa_pos (by omega)]
  exact d8192
theorem m8192 : num [56, 49, 57, 50] = (8192, true) := by
  have := num_digits 8192 (by omega)
  rwa [d8192] at this
theorem d20000 : Lib.decDigits 20000 = [50, 48, 48, 48, 48] := by
  rw [dec_step 20000 2000 0 (by omega) (by omega) (by omega), dec_step 2000 200 0 (by omega) (by omega) (by omega), dec_step 200 20 0 (by omega) (by omega) (by omega), dec_step 20 2 0 (by omega) (by omega) (by omega), decDigits_small (u := 2) (by omega)]
  rfl
theorem i20000 : Lib.itoa 20000 = [50, 48, 48, 48, 48] := by
  rw [itoa_pos (by omega)]
  exact d20000
theorem m20000 : num [50, 48, 48, 48, 48] = (20000, true) := by
  have := num_digits 20000 (by omega)
  rwa [d20000] at this
theorem d32768 : Lib.decDigits 32768 = [51, 50, 55, 54, 56] := by
  rw [dec_step 32768 3276 8 (by omega) (by omega) (by omega), dec_step 3276 327 6 (by omega) (by omega) (by omega), dec_step 327 32 7 (by omega) (by omega) (by omega), dec_step 32 3 2 (by omega) (by omega) (by omega), decDigits_small (u := 3) (by omega)]
  rfl
theorem i32768 : Lib.itoa 32768 = [51, 50, 55, 54, 56] := by
  rw [itoa_pos (by omega)]
  exact d32768
theorem m32768 : num [51, 50, 55, 54, 56] = (32768, true) := by
  have := num_digits 32768 (by omega)
  rwa [d32768] at this
theorem line_0 : textP ⟨1, 1, 0, 32768, 0, 0, 0, 0⟩ = some [112, 114, 105, 111, 114, 105, 116, 121, 32, 51, 50, 55, 54, 56] := by
  simp [textP, allF, textS, takeP, rdW, wrW, Cm.eqb, line, i0, m0, i1, m1, i2, m2, i3, m3, i5, m5, i14, m14, i15, m15, i20, m20, i4096, m4096, i8192, m8192, i20000, m20000, i32768, m32768]
theorem line_1 : textP ⟨1, 2, 0, 20, 0, 0, 0, 0⟩ = some [97, 103, 101, 32, 50, 48] := by
  simp [textP, allF, textS, takeP, rdW, wrW, Cm.eqb, line, i0, m0, i1, m1, i2, m2, i3, m3, i5, m5, i14, m14, i15, m15, i20, m20, i4096, m4096, i8192, m8192, i20000, m20000, i32768, m32768]
theorem line_2 : textP ⟨1, 3, 0, 15, 0, 0, 0, 0⟩ = some [100, 101, 108, 97, 121, 32, 49, 53] := by
  simp [textP, allF, textS, takeP, rdW, wrW, Cm.eqb, line, i0, m0, i1, m1, i2, m2, i3, m3, i5, m5, i14, m14, i15, m15, i20, m20, i4096, m4096, i8192, m8192, i20000, m20000, i32768, m32768]
theorem line_3 : textP ⟨1, 7, 0, 0, 1, 1, 0, 0⟩ = some [118, 108, 97, 110, 32, 49, 32, 109, 101, 109, 98, 101, 114, 115, 32, 49, 32, 116, 97, 103, 103, 101, 100, 32, 48] := by
  simp [textP, allF, textS, takeP, rdW, wrW, Cm.eqb, line, i0, m0, i1, m1, i2, m2, i3, m3, i5, m5, i14, m14, i15, m15, i20, m20, i4096, m4096, i8192, m8192, i20000, m20000, i32768, m32768]
theorem line_4 : textP ⟨1, 4, 0, 1, 0, 0, 0, 0⟩ = some [112, 111, 114, 116, 32, 48, 32, 117, 112] := by
  simp [textP, allF, textS, takeP, rdW, wrW, Cm.eqb, line, i0, m0, i1, m1, i2, m2, i3, m3, i5, m5, i14, m14, i15, m15, i20, m20, i4096, m4096, i8192, m8192, i20000, m20000, i32768, m32768]
theorem line_5 : textP ⟨1, 5, 0, 20000, 0, 0, 0, 0⟩ = some [112, 111, 114, 116, 32, 48, 32, 99, 111, 115, 116, 32, 50, 48, 48, 48, 48] := by
  simp [textP, allF, textS, takeP, rdW, wrW, Cm.eqb, line, i0, m0, i1, m1, i2, m2, i3, m3, i5, m5, i14, m14, i15, m15, i20, m20, i4096, m4096, i8192, m8192, i20000, m20000, i32768, m32768]
theorem line_6 : textP ⟨1, 6, 0, 1, 0, 0, 0, 0⟩ = some [112, 111, 114, 116, 32, 48, 32, 112, 118, 105, 100, 32, 49] := by
  simp [textP, allF, textS, takeP, rdW, wrW, Cm.eqb, line, i0, m0, i1, m1, i2, m2, i3, m3, i5, m5, i14, m14, i15, m15, i20, m20, i4096, m4096, i8192, m8192, i20000, m20000, i32768, m32768]

theorem first_ev : Ev (fun k => config_First.f k 1) (32768, 20, 15, [⟨true, 20000, 1⟩], [⟨1, 1, 0⟩], [], 0) := by
  refine Ev.congr (f := fun k => config_First.j0 k 1 false) (fun k => ?_) ?_
  · unfold config_First.f
    rw [if_neg (by omega)]
    rfl
  · refine Ev.step (f := fun k => config_First.l0 k 1 0 32768 20 15 [] 1 0 0) (fun k => ?_) ?_
    · simp only [config_First.j0]
      rfl
    · refine Ev.step (f := fun k => config_First.l0 k 1 1 32768 20 15 [⟨true, 20000, 1⟩] 1 1 0) (fun k => ?_) ?_
      · simp only [config_First.l0]
        rw [if_pos (by omega), if_pos (by simp), if_pos (by omega), show wrap64 (0 + 1) = 1 by unfold wrap64; omega, show Go.bits .or .u8 0 (shl .u8 1 0) = 1 by decide]
        rfl
      · refine Ev.step (f := fun _ => some _) (fun k => ?_) (Ev.now _)
        simp only [config_First.l0]
        rw [if_neg (by omega)]
/-- The lines of the first configuration of one port. -/
def firstL : List L := [[112, 114, 105, 111, 114, 105, 116, 121, 32, 51, 50, 55, 54, 56],
  [97, 103, 101, 32, 50, 48],
  [100, 101, 108, 97, 121, 32, 49, 53],
  [118, 108, 97, 110, 32, 49, 32, 109, 101, 109, 98, 101, 114, 115, 32, 49, 32, 116, 97, 103, 103, 101, 100, 32, 48],
  [112, 111, 114, 116, 32, 48, 32, 117, 112],
  [112, 111, 114, 116, 32, 48, 32, 99, 111, 115, 116, 32, 50, 48, 48, 48, 48],
  [112, 111, 114, 116, 32, 48, 32, 112, 118, 105, 100, 32, 49]]
theorem config_ev : Ev (fun k => show_Config.f k 32768 20 15 [⟨true, 20000, 1⟩] [⟨1, 1, 0⟩] []) (firstL.map B) := by
  have hl := lines_ev [⟨1, 0, 32768, 0, 0, 0, 0⟩, ⟨2, 0, 20, 0, 0, 0, 0⟩, ⟨3, 0, 15, 0, 0, 0, 0⟩, ⟨7, 0, 0, 1, 1, 0, 0⟩, ⟨4, 0, 1, 0, 0, 0, 0⟩, ⟨5, 0, 20000, 0, 0, 0, 0⟩, ⟨6, 0, 1, 0, 0, 0, 0⟩] (by decide) (by
    intro e he
    simp only [List.mem_cons, List.not_mem_nil, or_false] at he
    rcases he with rfl | rfl | rfl | rfl | rfl | rfl | rfl <;> exact ⟨by decide, by decide, by decide, by decide, by decide, by decide, by decide, by decide, by decide, by decide, by decide, by decide⟩)
  rw [show (([ ⟨1, 0, 32768, 0, 0, 0, 0⟩, ⟨2, 0, 20, 0, 0, 0, 0⟩, ⟨3, 0, 15, 0, 0, 0, 0⟩, ⟨7, 0, 0, 1, 1, 0, 0⟩, ⟨4, 0, 1, 0, 0, 0, 0⟩, ⟨5, 0, 20000, 0, 0, 0, 0⟩, ⟨6, 0, 1, 0, 0, 0, 0⟩] : List S65).filterMap fun e => textP (cmOf e)) = firstL by
    simp only [List.filterMap_cons, List.filterMap_nil, cmOf, line_0, line_1, line_2, line_3, line_4, line_5, line_6]
    rfl] at hl
  have hw : wrap64 (0 + 1) = 1 := by unfold wrap64; omega
  have hw2 : wrap64 20000 = 20000 := by unfold wrap64; omega
  refine Ev.congr (f := fun k => show_Config.l0 k [⟨1, 0, 32768, 0, 0, 0, 0⟩, ⟨2, 0, 20, 0, 0, 0, 0⟩, ⟨3, 0, 15, 0, 0, 0, 0⟩] [⟨1, 1, 0⟩] 1 0 32768 20 15 [⟨true, 20000, 1⟩] [⟨1, 1, 0⟩] []) (fun k => rfl) ?_
  refine Ev.step (f := fun k => show_Config.l0 k [⟨1, 0, 32768, 0, 0, 0, 0⟩, ⟨2, 0, 20, 0, 0, 0, 0⟩, ⟨3, 0, 15, 0, 0, 0, 0⟩, ⟨7, 0, 0, 1, 1, 0, 0⟩] [⟨1, 1, 0⟩] 1 1 32768 20 15 [⟨true, 20000, 1⟩] [⟨1, 1, 0⟩] []) (fun k => ?_) ?_
  · simp only [show_Config.l0]
    rw [if_pos (by decide), if_pos (by decide), if_pos (by decide), if_pos (by decide), hw]
    rfl
  refine Ev.step (f := fun k => show_Config.l1 k [⟨1, 0, 32768, 0, 0, 0, 0⟩, ⟨2, 0, 20, 0, 0, 0, 0⟩, ⟨3, 0, 15, 0, 0, 0, 0⟩, ⟨7, 0, 0, 1, 1, 0, 0⟩] [⟨true, 20000, 1⟩] 1 0 32768 20 15 [⟨true, 20000, 1⟩] [⟨1, 1, 0⟩] []) (fun k => ?_) ?_
  · simp only [show_Config.l0]
    rw [if_neg (by decide)]
    rfl
  refine Ev.step (f := fun k => show_Config.l1 k [⟨1, 0, 32768, 0, 0, 0, 0⟩, ⟨2, 0, 20, 0, 0, 0, 0⟩, ⟨3, 0, 15, 0, 0, 0, 0⟩, ⟨7, 0, 0, 1, 1, 0, 0⟩, ⟨4, 0, 1, 0, 0, 0, 0⟩, ⟨5, 0, 20000, 0, 0, 0, 0⟩, ⟨6, 0, 1, 0, 0, 0, 0⟩] [⟨true, 20000, 1⟩] 1 1 32768 20 15 [⟨true, 20000, 1⟩] [⟨1, 1, 0⟩] []) (fun k => ?_) ?_
  · simp only [show_Config.l1, Option.bind_some]
    rw [if_pos (by decide), if_pos (by decide), if_pos (by decide), if_pos (by decide), if_pos (by decide), hw, show (rd_T63 ([⟨true, 20000, 1⟩] : List S63) 0).f1 = 20000 from rfl, hw2]
    rfl
  refine Ev.step (f := fun k => show_Config.l2 k [⟨1, 0, 32768, 0, 0, 0, 0⟩, ⟨2, 0, 20, 0, 0, 0, 0⟩, ⟨3, 0, 15, 0, 0, 0, 0⟩, ⟨7, 0, 0, 1, 1, 0, 0⟩, ⟨4, 0, 1, 0, 0, 0, 0⟩, ⟨5, 0, 20000, 0, 0, 0, 0⟩, ⟨6, 0, 1, 0, 0, 0, 0⟩] [] 0 0) (fun k => ?_) ?_
  · simp only [show_Config.l1]
    rw [if_neg (by decide)]
    rfl
  refine Ev.step (fun k => rfl) ?_
  simp only [show_Config.l2]
  refine Ev.congr (fun k => if_neg (by decide)) ?_
  exact hl.bind (Ev.now _)
def tableL : L := [48, 48, 58, 48, 48, 58, 48, 48, 58, 48, 48, 58, 48, 48, 58, 48, 53, 32, 118, 108, 97, 110, 32, 49, 32, 112, 111, 114, 116, 32, 50]
theorem table_ev : Ev (fun k => show_Table.f k [⟨5, 1, 2, 0⟩]) [B tableL] := by
  have hj := joinw_ev [[48, 48, 58, 48, 48, 58, 48, 48, 58, 48, 48, 58, 48, 48, 58, 48, 53], [118, 108, 97, 110], [49], [112, 111, 114, 116], [50]] (by decide) (by decide) (by decide)
  unfold show_Table.f
  refine Ev.step (fun k => rfl) ?_
  simp only [show_Table.l0]
  have h1 := mactext_now 5 (by omega)
  have h2 := text_now 1 (by omega) (by omega)
  have h3 := text_now 2 (by omega) (by omega)
  rw [show textOf 5 = [48, 48, 58, 48, 48, 58, 48, 48, 58, 48, 48, 58, 48, 48, 58, 48, 53] from by decide] at h1
  rw [i1] at h2
  rw [i2] at h3
  refine Ev.congr (f := fun k => (words_Join.f k ([[48, 48, 58, 48, 48, 58, 48, 48, 58, 48, 48, 58, 48, 48, 58, 48, 53], [118, 108, 97, 110], [49], [112, 111, 114, 116], [50]].map B)).bind fun t => show_Table.l0 k [t] [⟨5, 1, 2, 0⟩] 1 1) (fun k => ?_) (hj.bind ?_)
  · refine (if_pos (by decide)).trans ((if_pos (by decide)).trans ((if_pos (by decide)).trans ?_))
    rw [show (rd_T53 ([⟨5, 1, 2, 0⟩] : List S53) 0).f0 = ((5 : Nat) : Int) from rfl, h1, show (rd_T53 ([⟨5, 1, 2, 0⟩] : List S53) 0).f1 = 1 from rfl, h2, show (rd_T53 ([⟨5, 1, 2, 0⟩] : List S53) 0).f2 = 2 from rfl, h3, show wrap64 (0 + 1) = 1 by unfold wrap64; omega]
    rfl
  · refine Ev.step (f := fun _ => some _) (fun k => ?_) (Ev.now _)
    simp only [show_Table.l0]
    rw [if_neg (by decide)]
    rfl
theorem error_0 (k : Nat) : show_Error.f k 0 = some (B [111, 107]) := rfl
theorem error_14 : Ev (fun k => show_Error.f k 14) (B [101, 114, 114, 111, 114, 32, 49, 52]) := by
  have hj := joinw_ev [[101, 114, 114, 111, 114], [49, 52]] (by decide) (by decide) (by decide)
  have h1 := text_now 14 (by omega) (by omega)
  rw [i14] at h1
  refine Ev.congr (f := fun k => (words_Join.f k ([[101, 114, 114, 111, 114], [49, 52]].map B)).bind fun t => some t) (fun k => ?_) (hj.bind (Ev.now _))
  unfold show_Error.f
  rw [if_neg (by decide), h1]
  rfl
end Go.Proofs.YtjamaamkmfdnaaaDoor.P
