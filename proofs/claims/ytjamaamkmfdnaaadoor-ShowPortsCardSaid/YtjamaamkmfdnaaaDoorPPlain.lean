/- Commands and their lines, in plain words: a line's command, a command's line, and how they come back; no program; no condition. -/
import Derived.Test.YtjamaamkmfdnaaaDoorPEv
namespace Go.Proofs.YtjamaamkmfdnaaaDoor.P
open Go.Proofs.YtjamaamkmfdnaaaDoor.Plain Go.Proofs.YtjamaamkmfdnaaaDoor
set_option linter.unusedVariables false
set_option linter.unusedSimpArgs false

/-- A command: what, and an edit's kind, port, number, VLAN, members, tagged ones, address. -/
structure Cm where
  w : Int
  k : Int
  p : Int
  n : Int
  v : Int
  m : Int
  t : Int
  a : Int
def Cm.eqb (x y : Cm) : Bool := x.w == y.w && (x.k == y.k && (x.p == y.p && (x.n == y.n && (x.v == y.v && (x.m == y.m && (x.t == y.t && x.a == y.a))))))
theorem Cm.eqb_iff (x y : Cm) : x.eqb y = true ↔ x = y := by
  obtain ⟨x1, x2, x3, x4, x5, x6, x7, x8⟩ := x
  obtain ⟨y1, y2, y3, y4, y5, y6, y7, y8⟩ := y
  simp [Cm.eqb]
/-- All lines' shapes. -/
def allF : List (Cm × List L) := [
  (⟨1, 1, 0, 0, 0, 0, 0, 0⟩, [[112, 114, 105, 111, 114, 105, 116, 121], [78]]),
  (⟨1, 2, 0, 0, 0, 0, 0, 0⟩, [[97, 103, 101], [78]]),
  (⟨1, 3, 0, 0, 0, 0, 0, 0⟩, [[100, 101, 108, 97, 121], [78]]),
  (⟨1, 4, 0, 1, 0, 0, 0, 0⟩, [[112, 111, 114, 116], [80], [117, 112]]),
  (⟨1, 4, 0, 0, 0, 0, 0, 0⟩, [[112, 111, 114, 116], [80], [100, 111, 119, 110]]),
  (⟨1, 5, 0, 0, 0, 0, 0, 0⟩, [[112, 111, 114, 116], [80], [99, 111, 115, 116], [78]]),
  (⟨1, 6, 0, 0, 0, 0, 0, 0⟩, [[112, 111, 114, 116], [80], [112, 118, 105, 100], [78]]),
  (⟨1, 7, 0, 0, 0, 0, 0, 0⟩, [[118, 108, 97, 110], [86], [109, 101, 109, 98, 101, 114, 115], [77], [116, 97, 103, 103, 101, 100], [84]]),
  (⟨1, 8, 0, 0, 0, 0, 0, 0⟩, [[110, 111], [118, 108, 97, 110], [86]]),
  (⟨1, 9, 0, 0, 0, 0, 0, 0⟩, [[115, 116, 97, 116, 105, 99], [65], [118, 108, 97, 110], [86], [112, 111, 114, 116], [80]]),
  (⟨1, 10, 0, 0, 0, 0, 0, 0⟩, [[110, 111], [115, 116, 97, 116, 105, 99], [65], [118, 108, 97, 110], [86]]),
  (⟨2, 0, 0, 0, 0, 0, 0, 0⟩, [[99, 111, 109, 109, 105, 116]]),
  (⟨3, 0, 0, 0, 0, 0, 0, 0⟩, [[114, 111, 108, 108, 98, 97, 99, 107]]),
  (⟨4, 0, 0, 0, 0, 0, 0, 0⟩, [[115, 104, 111, 119], [99, 111, 110, 102, 105, 103]]),
  (⟨5, 0, 0, 0, 0, 0, 0, 0⟩, [[115, 104, 111, 119], [112, 111, 114, 116, 115]]),
  (⟨6, 0, 0, 0, 0, 0, 0, 0⟩, [[115, 104, 111, 119], [116, 97, 98, 108, 101]])]
/-- A word is read where another one stands in a form. -/
def rdW (c : Cm) (y x : L) : Option Cm :=
  if y = [78] then (if (num x).2 = true then some { c with n := (num x).1 } else none)
  else if y = [80] then (if (num x).2 = true ∧ (num x).1 ≤ 255 then some { c with p := (num x).1 } else none)
  else if y = [86] then (if (num x).2 = true ∧ (num x).1 ≤ 65535 then some { c with v := (num x).1 } else none)
  else if y = [77] then (if (num x).2 = true ∧ (num x).1 ≤ 255 then some { c with m := (num x).1 } else none)
  else if y = [84] then (if (num x).2 = true ∧ (num x).1 ≤ 255 then some { c with t := (num x).1 } else none)
  else if y = [65] then (if (macParse x).2 = 0 then some { c with a := (macParse x).1 } else none)
  else if x = y then some c else none
/-- A word that stands where another one stands in a form. -/
def wrW (c : Cm) (y : L) : L := if y = [78] then Lib.itoa c.n else if y = [80] then Lib.itoa c.p else if y = [86] then Lib.itoa c.v else if y = [77] then Lib.itoa c.m else if y = [84] then Lib.itoa c.t else if y = [65] then textOf c.a.toNat else y
def takeP : Cm → List L → List L → Option Cm
  | c, y :: ys, x :: xs => (rdW c y x).bind fun d => takeP d ys xs
  | c, [], _ => some c
  | c, _ :: _, [] => some c
def lineS (ws : List L) (f : Cm × List L) : Option Cm := if f.2.length = ws.length then takeP f.1 f.2 ws else none
/-- The command of a line's words. -/
def lineP (ws : List L) : Option Cm := allF.findSome? (lineS ws)
def textS (c : Cm) (f : Cm × List L) : Option L :=
  if (f.2.map (wrW c)).contains [] then none else
  match takeP f.1 f.2 (f.2.map (wrW c)) with
  | some d => if d.eqb c = true then some (line (f.2.map (wrW c))) else none
  | none => none
/-- The line of a command. -/
def textP (c : Cm) : Option L := allF.findSome? (textS c)

def isSlot (y : L) : Bool := y == [78] || (y == [80] || (y == [86] || (y == [77] || (y == [84] || y == [65]))))
theorem not_slot {y : L} (h : isSlot y = false) : y ≠ [78] ∧ y ≠ [80] ∧ y ≠ [86] ∧ y ≠ [77] ∧ y ≠ [84] ∧ y ≠ [65] := by
  simp only [isSlot, Bool.or_eq_false_iff, beq_eq_false_iff_ne] at h
  exact h
theorem wr_key (c : Cm) {y : L} (h : isSlot y = false) : wrW c y = y := by
  obtain ⟨h1, h2, h3, h4, h5, h6⟩ := not_slot h
  simp [wrW, h1, h2, h3, h4, h5, h6]
theorem rdW_N (c : Cm) (x : L) : rdW c [78] x = if (num x).2 = true then some { c with n := (num x).1 } else none := by rw [rdW, if_pos rfl]
theorem wrW_N (c : Cm) : wrW c [78] = Lib.itoa c.n := by rw [wrW, if_pos rfl]
theorem rdW_P (c : Cm) (x : L) : rdW c [80] x = if (num x).2 = true ∧ (num x).1 ≤ 255 then some { c with p := (num x).1 } else none := by rw [rdW, if_neg (by decide), if_pos rfl]
theorem wrW_P (c : Cm) : wrW c [80] = Lib.itoa c.p := by rw [wrW, if_neg (by decide), if_pos rfl]
theorem rdW_V (c : Cm) (x : L) : rdW c [86] x = if (num x).2 = true ∧ (num x).1 ≤ 65535 then some { c with v := (num x).1 } else none := by rw [rdW, if_neg (by decide), if_neg (by decide), if_pos rfl]
theorem wrW_V (c : Cm) : wrW c [86] = Lib.itoa c.v := by rw [wrW, if_neg (by decide), if_neg (by decide), if_pos rfl]
theorem rdW_M (c : Cm) (x : L) : rdW c [77] x = if (num x).2 = true ∧ (num x).1 ≤ 255 then some { c with m := (num x).1 } else none := by rw [rdW, if_neg (by decide), if_neg (by decide), if_neg (by decide), if_pos rfl]
theorem wrW_M (c : Cm) : wrW c [77] = Lib.itoa c.m := by rw [wrW, if_neg (by decide), if_neg (by decide), if_neg (by decide), if_pos rfl]
theorem rdW_T (c : Cm) (x : L) : rdW c [84] x = if (num x).2 = true ∧ (num x).1 ≤ 255 then some { c with t := (num x).1 } else none := by rw [rdW, if_neg (by decide), if_neg (by decide), if_neg (by decide), if_neg (by decide), if_pos rfl]
theorem wrW_T (c : Cm) : wrW c [84] = Lib.itoa c.t := by rw [wrW, if_neg (by decide), if_neg (by decide), if_neg (by decide), if_neg (by decide), if_pos rfl]
theorem rdW_A (c : Cm) (x : L) : rdW c [65] x = if (macParse x).2 = 0 then some { c with a := (macParse x).1 } else none := by rw [rdW, if_neg (by decide), if_neg (by decide), if_neg (by decide), if_neg (by decide), if_neg (by decide), if_pos rfl]
theorem wrW_A (c : Cm) : wrW c [65] = textOf c.a.toNat := by rw [wrW, if_neg (by decide), if_neg (by decide), if_neg (by decide), if_neg (by decide), if_neg (by decide), if_pos rfl]
theorem rdW_key (c : Cm) {y : L} (x : L) (h : isSlot y = false) : rdW c y x = if x = y then some c else none := by
  obtain ⟨h1, h2, h3, h4, h5, h6⟩ := not_slot h
  rw [rdW, if_neg h1, if_neg h2, if_neg h3, if_neg h4, if_neg h5, if_neg h6]
theorem slot_cases (y : L) : y = [78] ∨ y = [80] ∨ y = [86] ∨ y = [77] ∨ y = [84] ∨ y = [65] ∨ isSlot y = false := by
  cases h : isSlot y
  · simp
  · simp only [isSlot, Bool.or_eq_true, beq_iff_eq] at h
    rcases h with h | h | h | h | h | h <;> simp [h]
theorem num_is {x : L} (h : (num x).2 = true) : Lib.itoa (num x).1 = x := (num_yes (v := (num x).1) (Prod.ext rfl h)).2.2
theorem mac_is {x : L} (h : (macParse x).2 = 0) : textOf (macParse x).1.toNat = x := by
  rcases macParse_cases x with ⟨a, ha, rfl, e⟩ | ⟨_, e⟩
  · rw [e]
    simp [textOf, ha]
  · rw [e] at h
    cases h
theorem rd_wr {c d : Cm} {y x : L} (h : rdW c y x = some d) : wrW d y = x := by
  rcases slot_cases y with rfl | rfl | rfl | rfl | rfl | rfl | hk
  · rw [rdW_N] at h
    split at h
    · rename_i hc
      obtain rfl := Option.some.inj h
      rw [wrW_N]
      exact num_is hc
    · cases h
  · rw [rdW_P] at h
    split at h
    · rename_i hc
      obtain rfl := Option.some.inj h
      rw [wrW_P]
      exact num_is hc.1
    · cases h
  · rw [rdW_V] at h
    split at h
    · rename_i hc
      obtain rfl := Option.some.inj h
      rw [wrW_V]
      exact num_is hc.1
    · cases h
  · rw [rdW_M] at h
    split at h
    · rename_i hc
      obtain rfl := Option.some.inj h
      rw [wrW_M]
      exact num_is hc.1
    · cases h
  · rw [rdW_T] at h
    split at h
    · rename_i hc
      obtain rfl := Option.some.inj h
      rw [wrW_T]
      exact num_is hc.1
    · cases h
  · rw [rdW_A] at h
    split at h
    · rename_i hc
      obtain rfl := Option.some.inj h
      rw [wrW_A]
      exact mac_is hc
    · cases h
  · rw [rdW_key c x hk] at h
    split at h
    · rename_i hc
      obtain rfl := Option.some.inj h
      rw [wr_key _ hk, hc]
    · cases h
theorem rd_other {c d : Cm} {y x z : L} (h : rdW c y x = some d) (hz : z ≠ y) : wrW d z = wrW c z := by
  rcases slot_cases y with rfl | rfl | rfl | rfl | rfl | rfl | hk
  · rw [rdW_N] at h
    split at h
    · rename_i hc
      obtain rfl := Option.some.inj h
      rcases slot_cases z with rfl | rfl | rfl | rfl | rfl | rfl | hq
      all_goals first | exact absurd rfl hz | rw [wr_key _ hq, wr_key _ hq] | simp only [wrW_N, wrW_P, wrW_V, wrW_M, wrW_T, wrW_A]
    · cases h
  · rw [rdW_P] at h
    split at h
    · rename_i hc
      obtain rfl := Option.some.inj h
      rcases slot_cases z with rfl | rfl | rfl | rfl | rfl | rfl | hq
      all_goals first | exact absurd rfl hz | rw [wr_key _ hq, wr_key _ hq] | simp only [wrW_N, wrW_P, wrW_V, wrW_M, wrW_T, wrW_A]
    · cases h
  · rw [rdW_V] at h
    split at h
    · rename_i hc
      obtain rfl := Option.some.inj h
      rcases slot_cases z with rfl | rfl | rfl | rfl | rfl | rfl | hq
      all_goals first | exact absurd rfl hz | rw [wr_key _ hq, wr_key _ hq] | simp only [wrW_N, wrW_P, wrW_V, wrW_M, wrW_T, wrW_A]
    · cases h
  · rw [rdW_M] at h
    split at h
    · rename_i hc
      obtain rfl := Option.some.inj h
      rcases slot_cases z with rfl | rfl | rfl | rfl | rfl | rfl | hq
      all_goals first | exact absurd rfl hz | rw [wr_key _ hq, wr_key _ hq] | simp only [wrW_N, wrW_P, wrW_V, wrW_M, wrW_T, wrW_A]
    · cases h
  · rw [rdW_T] at h
    split at h
    · rename_i hc
      obtain rfl := Option.some.inj h
      rcases slot_cases z with rfl | rfl | rfl | rfl | rfl | rfl | hq
      all_goals first | exact absurd rfl hz | rw [wr_key _ hq, wr_key _ hq] | simp only [wrW_N, wrW_P, wrW_V, wrW_M, wrW_T, wrW_A]
    · cases h
  · rw [rdW_A] at h
    split at h
    · rename_i hc
      obtain rfl := Option.some.inj h
      rcases slot_cases z with rfl | rfl | rfl | rfl | rfl | rfl | hq
      all_goals first | exact absurd rfl hz | rw [wr_key _ hq, wr_key _ hq] | simp only [wrW_N, wrW_P, wrW_V, wrW_M, wrW_T, wrW_A]
    · cases h
  · rw [rdW_key c x hk] at h
    split at h
    · rename_i hc
      obtain rfl := Option.some.inj h
      rfl
    · cases h
theorem take_other : ∀ (ys xs : List L) (c d : Cm) (z : L), takeP c ys xs = some d → z ∉ ys → wrW d z = wrW c z
  | y :: ys, x :: xs, c, d, z, h, hz => by
    unfold takeP at h
    obtain ⟨e, he, h⟩ := Option.bind_eq_some_iff.1 h
    rw [take_other ys xs e d z h (fun hm => hz (List.mem_cons_of_mem _ hm))]
    exact rd_other he (fun e' => hz (by rw [e']; exact List.mem_cons_self))
  | [], xs, c, d, z, h, _ => by
    unfold takeP at h
    cases h; rfl
  | _ :: _, [], c, d, z, h, _ => by
    unfold takeP at h
    cases h; rfl
theorem rd_key {c d : Cm} {y x : L} (h : rdW c y x = some d) (hk : isSlot y = false) : x = y := by
  have := rd_wr h
  rw [wr_key d hk] at this
  exact this.symm
theorem take_back : ∀ (ys xs : List L) (c d : Cm), takeP c ys xs = some d → ys.length = xs.length → (ys.filter isSlot).Nodup → ys.map (wrW d) = xs
  | y :: ys, x :: xs, c, d, h, hl, hn => by
    unfold takeP at h
    obtain ⟨e, he, h⟩ := Option.bind_eq_some_iff.1 h
    have hl' : ys.length = xs.length := by simpa using hl
    cases hs : isSlot y
    · rw [List.filter_cons_of_neg (by rw [hs]; simp)] at hn
      rw [List.map_cons, take_back ys xs e d h hl' hn, wr_key d hs, rd_key he hs]
    · rw [List.filter_cons_of_pos hs, List.nodup_cons] at hn
      rw [List.map_cons, take_back ys xs e d h hl' hn.2, take_other ys xs e d y h (fun hm => hn.1 (List.mem_filter.2 ⟨hm, hs⟩)), rd_wr he]
  | [], [], _, _, _, _, _ => rfl
  | [], _ :: _, _, _, _, hl, _ => by simp at hl
  | _ :: _, [], _, _, _, hl, _ => by simp at hl

/-- What words are like that were read. -/
def Fine (x : L) : Prop := (32 : UInt8) ∉ x ∧ (9 : UInt8) ∉ x ∧ x ≠ [] ∧ x.length ≤ 17
def fineB (x : L) : Bool := !x.contains 32 && (!x.contains 9 && (!x.isEmpty && decide (x.length ≤ 17)))
theorem fine_of {x : L} (h : fineB x = true) : Fine x := by
  simp only [fineB, Bool.and_eq_true, Bool.not_eq_true', decide_eq_true_eq, List.contains_eq_mem, decide_eq_false_iff_not] at h
  exact ⟨h.1, h.2.1, fun e => by rw [e] at h; simp at h, h.2.2.2⟩
theorem fine_num {x : L} (h : (num x).2 = true) : Fine x := by
  rcases num_cases x with ⟨u, hu, rfl, _⟩ | ⟨_, e⟩
  · have hd := decDigits_dig u
    refine ⟨fun hm => ?_, fun hm => ?_, decDigits_ne u, by have := decDigits_length_lt u hu; omega⟩
    · have := hd _ hm
      simp [isDig] at this
    · have := hd _ hm
      simp [isDig] at this
  · rw [e] at h
    cases h
theorem hexd_fine : ∀ n : Nat, n < 16 → ¬ (hexd n = 32) ∧ ¬ (hexd n = 9) := by decide
theorem two_fine {n : Nat} (h : n < 256) : (32 : UInt8) ∉ two n ∧ (9 : UInt8) ∉ two n := by
  have h1 := hexd_fine (n / 16) (by omega)
  have h2 := hexd_fine (n % 16) (by omega)
  simp only [two, List.mem_cons, List.not_mem_nil, or_false, not_or]
  exact ⟨⟨fun e => h1.1 e.symm, fun e => h2.1 e.symm⟩, ⟨fun e => h1.2 e.symm, fun e => h2.2 e.symm⟩⟩
theorem fine_macText (a : Nat) : Fine (macText a) := by
  refine ⟨?_, ?_, fun e => ?_, by rw [macText_length]; omega⟩
  · rw [macText_now]
    simp only [List.mem_append, List.mem_cons, not_or]
    refine ⟨(two_fine (by omega)).1, by decide, (two_fine (by omega)).1, by decide, (two_fine (by omega)).1, by decide, (two_fine (by omega)).1, by decide, (two_fine (by omega)).1, by decide, (two_fine (by omega)).1⟩
  · rw [macText_now]
    simp only [List.mem_append, List.mem_cons, not_or]
    refine ⟨(two_fine (by omega)).2, by decide, (two_fine (by omega)).2, by decide, (two_fine (by omega)).2, by decide, (two_fine (by omega)).2, by decide, (two_fine (by omega)).2, by decide, (two_fine (by omega)).2⟩
  · have := macText_length a
    rw [e] at this
    cases this
theorem fine_mac {x : L} (h : (macParse x).2 = 0) : Fine x := by
  rcases macParse_cases x with ⟨a, ha, rfl, e⟩ | ⟨_, e⟩
  · exact fine_macText a
  · rw [e] at h
    cases h
theorem rd_fine {c d : Cm} {y x : L} (h : rdW c y x = some d) (hy : Fine y) : Fine x := by
  rcases slot_cases y with rfl | rfl | rfl | rfl | rfl | rfl | hk
  · rw [rdW_N] at h
    split at h
    · rename_i hc
      obtain rfl := Option.some.inj h
      exact fine_num hc
    · cases h
  · rw [rdW_P] at h
    split at h
    · rename_i hc
      obtain rfl := Option.some.inj h
      exact fine_num hc.1
    · cases h
  · rw [rdW_V] at h
    split at h
    · rename_i hc
      obtain rfl := Option.some.inj h
      exact fine_num hc.1
    · cases h
  · rw [rdW_M] at h
    split at h
    · rename_i hc
      obtain rfl := Option.some.inj h
      exact fine_num hc.1
    · cases h
  · rw [rdW_T] at h
    split at h
    · rename_i hc
      obtain rfl := Option.some.inj h
      exact fine_num hc.1
    · cases h
  · rw [rdW_A] at h
    split at h
    · rename_i hc
      obtain rfl := Option.some.inj h
      exact fine_mac hc
    · cases h
  · rw [rdW_key c x hk] at h
    split at h
    · rename_i hc
      obtain rfl := Option.some.inj h
      rw [hc]; exact hy
    · cases h
theorem take_fine : ∀ (ys xs : List L) (c d : Cm), takeP c ys xs = some d → ys.length = xs.length → (∀ y ∈ ys, Fine y) → ∀ x ∈ xs, Fine x
  | y :: ys, x :: xs, c, d, h, hl, hy => by
    unfold takeP at h
    obtain ⟨e, he, h⟩ := Option.bind_eq_some_iff.1 h
    intro z hz
    rcases List.mem_cons.1 hz with rfl | hz
    · exact rd_fine he (hy _ List.mem_cons_self)
    · exact take_fine ys xs e d h (by simpa using hl) (fun q hq => hy q (List.mem_cons_of_mem _ hq)) z hz
  | [], [], _, _, _, _, _ => fun x hx => by cases hx
  | [], _ :: _, _, _, _, hl, _ => by simp at hl
  | _ :: _, [], _, _, _, hl, _ => by simp at hl

/-! ### the shapes' table -/
def apart : List L → List L → Bool
  | y :: ys, z :: zs => (!isSlot y && (!isSlot z && y != z)) || apart ys zs
  | _, _ => false
theorem apart_at : ∀ (ys zs : List L), apart ys zs = true → ∃ (i : Nat) (y z : L), ys[i]? = some y ∧ zs[i]? = some z ∧ isSlot y = false ∧ isSlot z = false ∧ y ≠ z
  | y :: ys, z :: zs, h => by
    simp only [apart, Bool.or_eq_true, Bool.and_eq_true, Bool.not_eq_true', bne_iff_ne] at h
    rcases h with ⟨h1, h2, h3⟩ | h
    · exact ⟨0, y, z, rfl, rfl, h1, h2, h3⟩
    · obtain ⟨i, a, b, ha, hb, hr⟩ := apart_at ys zs h
      exact ⟨i + 1, a, b, ha, hb, hr⟩
  | [], _, h => by simp [apart] at h
  | _ :: _, [], h => by simp [apart] at h
def Rel (f g : Cm × List L) : Prop := (f.2.length = g.2.length → apart f.2 g.2 = true)
theorem table_apart : allF.Pairwise (fun f g => (!(f.2.length == g.2.length) || apart f.2 g.2) = true) := by decide
theorem table_more : (allF.all fun f => allF.all fun g => !(g.2.length == f.2.length + 1) || apart f.2 g.2) = true := by decide
theorem table_fine : (allF.all fun f => f.2.all fineB) = true := by decide
theorem table_nodup : ∀ f ∈ allF, (f.2.filter isSlot).Nodup := by decide
theorem table_six : ∀ f ∈ allF, f.2.length ≤ 6 ∧ f.2 ≠ [] := by decide
theorem fine_at {f : Cm × List L} (hf : f ∈ allF) : ∀ y ∈ f.2, Fine y := fun y hy => fine_of (List.all_eq_true.1 (List.all_eq_true.1 table_fine f hf) y hy)
theorem no_both {ys zs : List L} {c d : Cm} (ha : apart ys zs = true) (h : ∀ (i : Nat) (x y : L), (ys.map (wrW c))[i]? = some x → (zs.map (wrW d))[i]? = some y → x = y) : False := by
  obtain ⟨i, y, z, hy, hz, ky, kz, hne⟩ := apart_at ys zs ha
  have := h i (wrW c y) (wrW d z) (by rw [List.getElem?_map, hy]; rfl) (by rw [List.getElem?_map, hz]; rfl)
  rw [wr_key c ky, wr_key d kz] at this
  exact hne this
theorem find_only {α β : Type} {h : α → Option β} {R : α → α → Prop} {b : β} : ∀ {l : List α}, l.Pairwise R → ∀ f ∈ l, h f = some b → (∀ g ∈ l, R g f → h g = none) → l.findSome? h = some b
  | g :: l, hp, f, hf, hb, h2 => by
    rw [List.pairwise_cons] at hp
    rcases List.mem_cons.1 hf with rfl | hf
    · rw [List.findSome?_cons, hb]
    · rw [List.findSome?_cons, h2 g List.mem_cons_self (hp.1 f hf)]
      exact find_only hp.2 f hf hb (fun q hq => h2 q (List.mem_cons_of_mem _ hq))
theorem line_of_take {f : Cm × List L} {ws : List L} {c : Cm} (hf : f ∈ allF) (hl : f.2.length = ws.length) (h : takeP f.1 f.2 ws = some c) : lineP ws = some c := by
  refine find_only table_apart f hf (by unfold lineS; rw [if_pos hl]; exact h) (fun g hgm hr => ?_)
  unfold lineS
  by_cases hg : g.2.length = ws.length
  · rw [if_pos hg]
    cases hd : takeP g.1 g.2 ws with
    | none => rfl
    | some d =>
      exfalso
      have hap : apart g.2 f.2 = true := by
        have := hr
        rw [show (g.2.length == f.2.length) = true by rw [beq_iff_eq]; omega] at this
        simpa using this
      have e1 := take_back _ _ _ _ h hl (table_nodup f hf)
      have e2 := take_back _ _ _ _ hd hg (table_nodup g hgm)
      refine no_both (c := d) (d := c) hap (fun i x y hx hy => ?_)
      rw [e2] at hx
      rw [e1, hx] at hy
      exact Option.some.inj hy
  · rw [if_neg hg]
theorem of_lineP {ws : List L} {c : Cm} (h : lineP ws = some c) : ∃ f ∈ allF, f.2.length = ws.length ∧ takeP f.1 f.2 ws = some c := by
  obtain ⟨f, hf, h⟩ := List.exists_of_findSome?_eq_some h
  unfold lineS at h
  split at h
  · exact ⟨f, hf, by assumption, h⟩
  · cases h
theorem line_short {l : List L} (h6 : l.length ≤ 6) (hf : ∀ x ∈ l, Fine x) : (line l).length ≤ 108 := by
  have h1 := line_length l
  have h2 : ∀ l : List L, (∀ x ∈ l, Fine x) → (l.map (fun p => p.length + 1)).sum ≤ 18 * l.length := by
    intro l
    induction l with
    | nil => intro _; simp
    | cons x l ih =>
      intro hf
      have := ih (fun y hy => hf y (List.mem_cons_of_mem _ hy))
      have := (hf x List.mem_cons_self).2.2.2
      simp only [List.map_cons, List.sum_cons, List.length_cons]
      omega
  have := h2 l hf
  omega
theorem of_textP {c : Cm} {t : L} (h : textP c = some t) : ∃ f ∈ allF, takeP f.1 f.2 (f.2.map (wrW c)) = some c ∧ t = line (f.2.map (wrW c)) ∧ (∀ x ∈ f.2.map (wrW c), Fine x) := by
  obtain ⟨f, hf, h⟩ := List.exists_of_findSome?_eq_some h
  unfold textS at h
  split at h
  · cases h
  · split at h
    · rename_i d hd
      split at h
      · rename_i he
        obtain rfl := (Cm.eqb_iff _ _).1 he
        refine ⟨f, hf, hd, (Option.some.inj h).symm, take_fine _ _ _ _ hd (by simp) (fine_at hf)⟩
      · cases h
    · cases h
/-- A command's line is short, and its command is it. -/
theorem text_line {c : Cm} {t : L} (h : textP c = some t) : t.length ≤ 108 ∧ lineP (cut t) = some c := by
  obtain ⟨f, hf, ht, rfl, hfine⟩ := of_textP h
  refine ⟨line_short (by rw [List.length_map]; exact (table_six f hf).1) hfine, ?_⟩
  rw [cut_line _ (fun p hp => ⟨(hfine p hp).2.2.1, (hfine p hp).1⟩)]
  exact line_of_take hf (by simp) ht
/-- A line's command has a line. -/
theorem line_text {ws : List L} {d : Cm} (h : lineP ws = some d) : ∃ t, textP d = some t := by
  obtain ⟨f, hf, hl, ht⟩ := of_lineP h
  have e := take_back _ _ _ _ ht hl (table_nodup f hf)
  have hfine := take_fine _ _ _ _ ht hl (fine_at hf)
  have hs : textS d f = some (line ws) := by
    unfold textS
    rw [e, ht, if_neg (by rw [List.contains_eq_mem]; simp only [decide_eq_true_eq]; exact fun hm => (hfine [] hm).2.2.1 rfl)]
    simp only
    rw [if_pos ((Cm.eqb_iff d d).2 rfl)]
  cases hx : textP d with
  | some t => exact ⟨t, rfl⟩
  | none =>
    have := List.findSome?_eq_none_iff.1 hx f hf
    rw [hs] at this
    cases this

/-! ### blanks -/
def infl (n : Nat) : L → L
  | [] => []
  | b :: r => b :: ((if b = 32 then List.replicate n 32 else []) ++ infl n r)
theorem infl_append (n : Nat) : ∀ a b : L, infl n (a ++ b) = infl n a ++ infl n b
  | [], _ => rfl
  | x :: a, b => by simp [infl, infl_append n a b]
theorem infl_word (n : Nat) : ∀ p : L, (32 : UInt8) ∉ p → infl n p = p
  | [], _ => rfl
  | x :: p, h => by
    simp only [List.mem_cons, not_or] at h
    rw [infl, if_neg (fun e => h.1 e.symm), infl_word n p h.2]
    rfl
theorem cut_blank (r : L) : cut (32 :: r) = cut r := by
  have := cut_front [] r (by simp)
  simpa using this
theorem cut_blanks (r : L) : ∀ n : Nat, cut (List.replicate n 32 ++ r) = cut r
  | 0 => rfl
  | n + 1 => by rw [List.replicate_succ, List.cons_append, cut_blank, cut_blanks r n]
theorem cut_infl (n : Nat) : ∀ l : List L, (∀ x ∈ l, Fine x) → cut (infl n (line l)) = l ∧ (infl n (line l)).length ≤ (line l).length + n * l.length
  | [], _ => ⟨rfl, by simp [line, infl]⟩
  | [p], h => by
    have hp := h p List.mem_cons_self
    rw [show line [p] = p from rfl, infl_word n p hp.1]
    refine ⟨?_, by omega⟩
    rw [cut_none p hp.1, if_neg (by simpa using hp.2.2.1)]
  | p :: q :: l, h => by
    have hp := h p List.mem_cons_self
    obtain ⟨i1, i2⟩ := cut_infl n (q :: l) (fun x hx => h x (List.mem_cons_of_mem _ hx))
    rw [line_cons p (q :: l) (by simp), infl_append, infl_word n p hp.1, infl, if_pos rfl]
    refine ⟨?_, ?_⟩
    · rw [cut_front _ _ hp.1, cut_blanks, i1, if_neg (by simpa using hp.2.2.1)]
      rfl
    · simp only [List.length_append, List.length_cons, List.length_replicate] at i2 ⊢
      rw [show n * (l.length + 1 + 1) = n * (l.length + 1) + n by rw [Nat.mul_add (m := l.length + 1), Nat.mul_one]]
      omega
/-- Blanks ahead of, behind and between words change nothing. -/
theorem blanks {c : Cm} {t : L} (h : textP c = some t) (n : Nat) (hn : n ≤ 3) : (infl n t).length ≤ 130 ∧ lineP (cut ([32, 32] ++ infl n t ++ [32])) = some c := by
  obtain ⟨f, hf, ht, rfl, hfine⟩ := of_textP h
  obtain ⟨h1, h2⟩ := cut_infl n _ hfine
  have h3 := line_short (by rw [List.length_map]; exact (table_six f hf).1) hfine
  refine ⟨?_, ?_⟩
  · have := (table_six f hf).1
    rw [List.length_map] at h2
    have : n * f.2.length ≤ 3 * 6 := Nat.mul_le_mul hn this
    omega
  · rw [show ([32, 32] ++ infl n (line (f.2.map (wrW c))) ++ [32] : L) = (32 :: 32 :: infl n (line (f.2.map (wrW c)))) ++ 32 :: [] from rfl, cut_append, cut_blank, cut_blank, h1]
    rw [show cut [] = [] from rfl, List.append_nil]
    exact line_of_take hf (by simp) ht
theorem lineP_none {ws : List L} (h : ∀ g ∈ allF, g.2.length = ws.length → ∀ d, takeP g.1 g.2 ws = some d → False) : lineP ws = none := by
  cases hx : lineP ws with
  | none => rfl
  | some d =>
    obtain ⟨g, hg, hl, ht⟩ := of_lineP hx
    exact absurd ht (fun ht => h g hg hl d ht)
/-- One word more makes none. -/
theorem one_more {c : Cm} {t : L} (h : textP c = some t) : lineP (cut (t ++ [32, 120])) = none := by
  obtain ⟨f, hf, ht, rfl, hfine⟩ := of_textP h
  rw [show line (f.2.map (wrW c)) ++ [32, 120] = line (f.2.map (wrW c)) ++ 32 :: [120] from rfl, cut_append, cut_line _ (fun p hp => ⟨(hfine p hp).2.2.1, (hfine p hp).1⟩), show cut [120] = [[120]] from rfl]
  refine lineP_none (fun g hg hl d hd => ?_)
  rw [List.length_append, List.length_map] at hl
  have hap : apart f.2 g.2 = true := by
    have := List.all_eq_true.1 (List.all_eq_true.1 table_more f hf) g hg
    rw [show (g.2.length == f.2.length + 1) = true by rw [beq_iff_eq]; exact hl] at this
    simpa using this
  have e := take_back _ _ _ _ hd (by simpa using hl) (table_nodup g hg)
  refine no_both (c := c) (d := d) hap (fun i x y hx hy => ?_)
  rw [e, List.getElem?_append_left (List.getElem?_eq_some_iff.1 hx).1, hx] at hy
  exact Option.some.inj hy
/-- A tab behind makes none. -/
theorem tab_behind {c : Cm} {t : L} (h : textP c = some t) : lineP (cut (t ++ [9])) = none := by
  obtain ⟨f, hf, ht, rfl, hfine⟩ := of_textP h
  generalize f.2.map (wrW c) = l at ht hfine ⊢
  have key : ∃ p ∈ cut (line l ++ [9]), (9 : UInt8) ∈ p := by
    rcases List.eq_nil_or_concat l with rfl | ⟨q, p, rfl⟩
    · exact ⟨[9], by decide, by decide⟩
    · rw [List.concat_eq_append] at hfine ⊢
      have hq : ∀ x ∈ q, x ≠ [] ∧ (32 : UInt8) ∉ x := fun x hx => ⟨(hfine x (List.mem_append_left _ hx)).2.2.1, (hfine x (List.mem_append_left _ hx)).1⟩
      have hp := hfine p (List.mem_append_right _ List.mem_cons_self)
      have h32 : (32 : UInt8) ∉ p ++ [9] := by
        simp only [List.mem_append, List.mem_cons, List.not_mem_nil, or_false, not_or]
        exact ⟨hp.1, by decide⟩
      have e : line (q ++ [p]) ++ [9] = line (q ++ [p ++ [9]]) := by
        cases q with
        | nil => rfl
        | cons a q => rw [line_snoc _ _ (by simp), line_snoc _ _ (by simp)]; simp
      rw [e, cut_line _ (by
        intro x hx
        rcases List.mem_append.1 hx with hx | hx
        · exact hq x hx
        · rw [List.mem_singleton.1 hx]
          exact ⟨by simp, h32⟩)]
      exact ⟨p ++ [9], by simp, by simp⟩
  obtain ⟨p, hp, h9⟩ := key
  refine lineP_none (fun g hg hl d hd => ?_)
  exact (take_fine _ _ _ _ hd hl (fine_at hg) p hp).2.1 h9
end Go.Proofs.YtjamaamkmfdnaaaDoor.P
