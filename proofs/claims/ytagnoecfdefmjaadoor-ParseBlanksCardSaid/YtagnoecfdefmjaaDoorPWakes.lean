/- What wakes asks of parse, in plain words; a line's command has numbers of their kinds. No condition. -/
import Derived.Test.YtagnoecfdefmjaaDoorPCode
import Derived.Test.YtagnoecfdefmjaaDoorWakes22
namespace Go.Proofs.YtagnoecfdefmjaaDoor.P
open Go.RowKit Go.Proofs.YtagnoecfdefmjaaDoorW.PrintWords Go.Proofs.YtagnoecfdefmjaaDoor.X Go.Proofs.YtagnoecfdefmjaaDoor.Plain Go.Proofs.YtagnoecfdefmjaaDoor
set_option linter.unusedVariables false
set_option linter.unusedSimpArgs false

theorem rd_ok {c d : Cm} {y x : L} (h : rdW c y x = some d) (hc : c.Ok) : d.Ok := by
  have num_ok : (num x).2 = true → 0 ≤ (num x).1 ∧ (num x).1 ≤ 4294967295 := fun e => ⟨(num_yes (v := (num x).1) (Prod.ext rfl e)).1, (num_yes (v := (num x).1) (Prod.ext rfl e)).2.1⟩
  obtain ⟨g1, g2, g3, g4, g5, g6, g7, g8, g9, g10, g11, g12⟩ := hc
  rcases slot_cases y with rfl | rfl | rfl | rfl | rfl | rfl | hk
  · rw [rdW_N] at h
    split at h
    · rename_i hn
      obtain rfl := Option.some.inj h
      have := num_ok hn
      exact ⟨by simp only; omega, by simp only; omega, g3, g4, g5, g6, g7, g8, g9, g10, g11, g12⟩
    · cases h
  · rw [rdW_P] at h
    split at h
    · rename_i hn
      obtain rfl := Option.some.inj h
      have := num_ok hn.1
      exact ⟨g1, g2, by simp only; omega, by simp only; omega, g5, g6, g7, g8, g9, g10, g11, g12⟩
    · cases h
  · rw [rdW_V] at h
    split at h
    · rename_i hn
      obtain rfl := Option.some.inj h
      have := num_ok hn.1
      exact ⟨g1, g2, g3, g4, by simp only; omega, by simp only; omega, g7, g8, g9, g10, g11, g12⟩
    · cases h
  · rw [rdW_M] at h
    split at h
    · rename_i hn
      obtain rfl := Option.some.inj h
      have := num_ok hn.1
      exact ⟨g1, g2, g3, g4, g5, g6, by simp only; omega, by simp only; omega, g9, g10, g11, g12⟩
    · cases h
  · rw [rdW_T] at h
    split at h
    · rename_i hn
      obtain rfl := Option.some.inj h
      have := num_ok hn.1
      exact ⟨g1, g2, g3, g4, g5, g6, g7, g8, by simp only; omega, by simp only; omega, g11, g12⟩
    · cases h
  · rw [rdW_A] at h
    split at h
    · rename_i hn
      obtain rfl := Option.some.inj h
      rcases macParse_cases x with ⟨a, ha, rfl, e⟩ | ⟨_, e⟩
      · rw [e]
        exact ⟨g1, g2, g3, g4, g5, g6, g7, g8, g9, g10, by simp only; omega, by simp only; omega⟩
      · rw [e] at hn
        cases hn
    · cases h
  · rw [rdW_key c x hk] at h
    split at h
    · obtain rfl := Option.some.inj h
      exact ⟨g1, g2, g3, g4, g5, g6, g7, g8, g9, g10, g11, g12⟩
    · cases h
theorem take_ok : ∀ (ys xs : List L) (c d : Cm), takeP c ys xs = some d → c.Ok → d.Ok
  | y :: ys, x :: xs, c, d, h, hc => by
    unfold takeP at h
    obtain ⟨e, he, h⟩ := Option.bind_eq_some_iff.1 h
    exact take_ok ys xs e d h (rd_ok he hc)
  | [], xs, c, d, h, hc => by
    unfold takeP at h
    cases h; exact hc
  | _ :: _, [], c, d, h, hc => by
    unfold takeP at h
    cases h; exact hc
theorem forms_ok : ∀ f ∈ allF, f.1.Ok := by
  intro f hf
  simp only [allF, List.mem_cons, List.not_mem_nil, or_false] at hf
  rcases hf with rfl | rfl | rfl | rfl | rfl | rfl | rfl | rfl | rfl | rfl | rfl | rfl | rfl | rfl | rfl | rfl <;> exact ⟨by decide, by decide, by decide, by decide, by decide, by decide, by decide, by decide, by decide, by decide, by decide, by decide⟩
theorem line_ok {ws : List L} {d : Cm} (h : lineP ws = some d) : d.Ok := by
  obtain ⟨f, hf, _, ht⟩ := of_lineP h
  exact take_ok _ _ _ _ ht (forms_ok f hf)

/-! ### what wakes asks -/
theorem num_false_of_head (c : UInt8) (l : L) (hc : ¬ isDig c) : Plain.num (c :: l) = (0, false) := num_no fun u _ e => by
  have := decDigits_dig u
  rw [e] at this
  exact hc (this c List.mem_cons_self)
theorem n10 : num [49, 48] = (10, true) := by
  have := num_digits 10 (by omega)
  rwa [decDigits_big (by omega), decDigits_small (by omega)] at this
theorem n1 (u : Nat) (h : u < 10) : num [UInt8.ofNat (48 + u)] = ((u : Int), true) := by
  have := num_digits u (by omega)
  rwa [decDigits_small h] at this
theorem wakes_1 : lineP (cut [118, 108, 97, 110, 32, 49, 48, 32, 109, 101, 109, 98, 101, 114, 115, 32, 51, 32, 116, 97, 103, 103, 101, 100, 32, 32, 50]) = some ⟨1, 7, 0, 0, 10, 3, 2, 0⟩ := by
  rw [show cut [118, 108, 97, 110, 32, 49, 48, 32, 109, 101, 109, 98, 101, 114, 115, 32, 51, 32, 116, 97, 103, 103, 101, 100, 32, 32, 50] = [[118, 108, 97, 110], [49, 48], [109, 101, 109, 98, 101, 114, 115], [51], [116, 97, 103, 103, 101, 100], [50]] from by decide]
  refine line_of_take (f := (⟨1, 7, 0, 0, 0, 0, 0, 0⟩, [[118, 108, 97, 110], [86], [109, 101, 109, 98, 101, 114, 115], [77], [116, 97, 103, 103, 101, 100], [84]])) (by simp [allF]) rfl ?_
  have h3 : num [51] = (3, true) := n1 3 (by omega)
  have h2 : num [50] = (2, true) := n1 2 (by omega)
  simp [takeP, rdW, n10, h3, h2]
theorem wakes_2 : lineP (cut [110, 111, 32, 115, 116, 97, 116, 105, 99, 32, 48, 48, 58, 48, 48, 58, 48, 48, 58, 48, 48, 58, 48, 48, 58, 48, 53, 32, 118, 108, 97, 110, 32, 55]) = some ⟨1, 10, 0, 0, 7, 0, 0, 5⟩ := by
  rw [show cut [110, 111, 32, 115, 116, 97, 116, 105, 99, 32, 48, 48, 58, 48, 48, 58, 48, 48, 58, 48, 48, 58, 48, 48, 58, 48, 53, 32, 118, 108, 97, 110, 32, 55] = [[110, 111], [115, 116, 97, 116, 105, 99], [48, 48, 58, 48, 48, 58, 48, 48, 58, 48, 48, 58, 48, 48, 58, 48, 53], [118, 108, 97, 110], [55]] from by decide]
  refine line_of_take (f := (⟨1, 10, 0, 0, 0, 0, 0, 0⟩, [[110, 111], [115, 116, 97, 116, 105, 99], [65], [118, 108, 97, 110], [86]])) (by simp [allF]) rfl ?_
  have h7 : num [55] = (7, true) := n1 7 (by omega)
  have hm : macParse [48, 48, 58, 48, 48, 58, 48, 48, 58, 48, 48, 58, 48, 48, 58, 48, 53] = (5, 0) := by
    have := macParse_text (a := 5) (by omega)
    rwa [show macText 5 = [48, 48, 58, 48, 48, 58, 48, 48, 58, 48, 48, 58, 48, 48, 58, 48, 53] from by decide] at this
  simp [takeP, rdW, h7, hm]
theorem wakes_3 : lineP (cut [112, 111, 114, 116, 32, 120, 32, 117, 112]) = none := by
  rw [show cut [112, 111, 114, 116, 32, 120, 32, 117, 112] = [[112, 111, 114, 116], [120], [117, 112]] from by decide]
  have hx : num [120] = (0, false) := num_false_of_head 120 [] (by unfold isDig; decide)
  simp [lineP, allF, lineS, takeP, rdW, hx]
theorem wakes_4 : textP ⟨1, 4, 2, 0, 0, 0, 0, 0⟩ = some [112, 111, 114, 116, 32, 50, 32, 100, 111, 119, 110] := by
  have h2 : num [50] = (2, true) := n1 2 (by omega)
  have h0 : num [48] = (0, true) := n1 0 (by omega)
  have i0 : Lib.itoa 0 = [48] := by rw [itoa_pos (by omega)]; exact decDigits_small (by omega)
  have i2 : Lib.itoa 2 = [50] := by rw [itoa_pos (by omega)]; exact decDigits_small (by omega)
  simp [textP, allF, textS, takeP, rdW, wrW, h2, h0, i0, i2, Cm.eqb, line]
theorem wakes_ev : Ev (fun k => weirgatelaw22_wakes.f k) true := by
  unfold weirgatelaw22_wakes.f
  have e1 := line_ev (B [118, 108, 97, 110, 32, 49, 48, 32, 109, 101, 109, 98, 101, 114, 115, 32, 51, 32, 116, 97, 103, 103, 101, 100, 32, 32, 50]) (by decide)
  have e2 := line_ev (B [110, 111, 32, 115, 116, 97, 116, 105, 99, 32, 48, 48, 58, 48, 48, 58, 48, 48, 58, 48, 48, 58, 48, 48, 58, 48, 53, 32, 118, 108, 97, 110, 32, 55]) (by decide)
  have e3 := line_ev (B [112, 111, 114, 116, 32, 120, 32, 117, 112]) (by decide)
  have e4 := text_ev ⟨1, 4, 2, 0, 0, 0, 0, 0⟩ ⟨by decide, by decide, by decide, by decide, by decide, by decide, by decide, by decide, by decide, by decide, by decide, by decide⟩
  rw [B_data, wakes_1] at e1
  rw [B_data, wakes_2] at e2
  rw [B_data, wakes_3] at e3
  rw [wakes_4] at e4
  exact e1.bind (e2.bind (e3.bind (e4.bind (Ev.congr (f := fun _ => some true) (fun k => (if_pos rfl).trans ((if_pos rfl).trans ((if_pos rfl).trans (if_pos ⟨rfl, rfl⟩)))) (Ev.now _)))))

end Go.Proofs.YtagnoecfdefmjaaDoor.P
