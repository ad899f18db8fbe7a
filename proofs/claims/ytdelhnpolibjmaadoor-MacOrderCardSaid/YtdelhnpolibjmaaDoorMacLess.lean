/- Of two addresses the lesser one's text is less, byte by byte; so are its bytes; no program; no condition but the ranges. -/
import Derived.Test.YtdelhnpolibjmaaDoorMacEv2
namespace Go.Proofs.YtdelhnpolibjmaaDoor.P
open Go.RowKit Go.Proofs.YtdelhnpolibjmaaDoorW.PrintWords Go.Proofs.YtdelhnpolibjmaaDoor.X Go.Proofs.YtdelhnpolibjmaaDoor.Plain Go.Proofs.YtdelhnpolibjmaaDoor

def lx : List Nat → List Nat → Bool
  | x :: r, y :: q => decide (x < y) || (decide (x = y) && lx r q)
  | _, _ => false
theorem bval_lx : ∀ (xs ys : List Nat), xs.length = ys.length → (∀ b ∈ xs, b < 256) → (∀ b ∈ ys, b < 256) → ∀ a b : Nat, (bval a xs < bval b ys ↔ a < b ∨ (a = b ∧ lx xs ys = true))
  | [], [], _, _, _, a, b => by simp [bval, lx]
  | x :: r, y :: q, hl, hx, hy, a, b => by
    have h1 := hx x List.mem_cons_self
    have h2 := hy y List.mem_cons_self
    rw [bval, bval, bval_lx r q (by simpa using hl) (fun c hc => hx c (List.mem_cons_of_mem _ hc)) (fun c hc => hy c (List.mem_cons_of_mem _ hc)), lx]
    simp only [Bool.or_eq_true, Bool.and_eq_true, decide_eq_true_eq]
    by_cases e1 : a * 256 + x < b * 256 + y
    · by_cases e2 : a < b
      · simp [e1, e2]
      · have : a = b ∧ x < y := by omega
        simp [this]
    · by_cases e3 : a * 256 + x = b * 256 + y
      · have : a = b ∧ x = y := by omega
        obtain ⟨rfl, rfl⟩ := this
        simp
      · constructor
        · rintro (h | ⟨h, _⟩) <;> omega
        · rintro (h | ⟨rfl, h | ⟨rfl, _⟩⟩) <;> omega
theorem lx_macBytes {n m : Nat} (hn : n < 281474976710656) (hm : m < 281474976710656) : lx (macBytes n) (macBytes m) = decide (n < m) := by
  have := bval_lx (macBytes n) (macBytes m) rfl (macBytes_lt n) (macBytes_lt m) 0 0
  rw [bval_macBytes hn, bval_macBytes hm] at this
  rw [Bool.eq_iff_iff, decide_eq_true_eq, this]
  simp
theorem less_cons (a b : UInt8) (x y : L) : Op.bytesLess (a :: x) (b :: y) = (decide (a < b) || (a == b && Op.bytesLess x y)) := by rw [Op.bytesLess]
theorem less_same (a : UInt8) (x y : L) : Op.bytesLess (a :: x) (a :: y) = Op.bytesLess x y := by
  rw [less_cons]
  simp
theorem hexd_lt : ∀ a b : Nat, a < 16 → b < 16 → (hexd a < hexd b ↔ a < b) := by
  have h : ∀ a : Nat, a < 16 → ∀ b : Nat, b < 16 → (hexd a < hexd b ↔ a < b) := by decide
  intro a b ha hb
  exact h a ha b hb
theorem hexd_inj : ∀ a b : Nat, a < 16 → b < 16 → (hexd a = hexd b ↔ a = b) := by
  have h : ∀ a : Nat, a < 16 → ∀ b : Nat, b < 16 → (hexd a = hexd b ↔ a = b) := by decide
  intro a b ha hb
  exact h a ha b hb
theorem less_two {x y : Nat} (hx : x < 256) (hy : y < 256) (r q : L) : Op.bytesLess (two x ++ r) (two y ++ q) = (decide (x < y) || (decide (x = y) && Op.bytesLess r q)) := by
  unfold two
  rw [List.cons_append, List.cons_append, List.cons_append, List.cons_append, List.nil_append, List.nil_append, less_cons, less_cons]
  rw [Bool.eq_iff_iff]
  simp only [Bool.or_eq_true, Bool.and_eq_true, decide_eq_true_eq, beq_iff_eq]
  rw [hexd_lt _ _ (by omega) (by omega), hexd_lt _ _ (by omega) (by omega), hexd_inj _ _ (by omega) (by omega), hexd_inj _ _ (by omega) (by omega)]
  by_cases h : x = y
  · subst h; simp
  · by_cases h2 : x < y
    · simp only [h2, true_or, iff_true]
      omega
    · simp only [h, h2, false_and, or_self, iff_false]
      omega
theorem less_tail : ∀ (xs ys : List Nat) (f : Bool), xs.length = ys.length → (∀ b ∈ xs, b < 256) → (∀ b ∈ ys, b < 256) → Op.bytesLess (tailT f xs) (tailT f ys) = lx xs ys
  | [], [], f, _, _, _ => by cases f <;> rfl
  | x :: r, y :: q, f, hl, hx, hy => by
    have ih := less_tail r q false (by simpa using hl) (fun c hc => hx c (List.mem_cons_of_mem _ hc)) (fun c hc => hy c (List.mem_cons_of_mem _ hc))
    rw [tailT, tailT, lx, ← ih]
    cases f
    · rw [if_neg Bool.false_ne_true, List.append_assoc, List.append_assoc, List.cons_append, List.cons_append, List.nil_append, List.nil_append, less_same]
      exact less_two (hx x List.mem_cons_self) (hy y List.mem_cons_self) _ _
    · rw [if_pos rfl, List.nil_append, List.nil_append]
      exact less_two (hx x List.mem_cons_self) (hy y List.mem_cons_self) _ _
theorem less_macText {n m : Nat} (hn : n < 281474976710656) (hm : m < 281474976710656) : Op.bytesLess (macText n) (macText m) = decide (n < m) := by
  rw [← tailT_macText, ← tailT_macText, less_tail (macBytes n) (macBytes m) true rfl (macBytes_lt n) (macBytes_lt m), lx_macBytes hn hm]
theorem less_map : ∀ (xs ys : List Nat), xs.length = ys.length → (∀ b ∈ xs, b < 256) → (∀ b ∈ ys, b < 256) → Op.bytesLess (xs.map UInt8.ofNat) (ys.map UInt8.ofNat) = lx xs ys
  | [], [], _, _, _ => rfl
  | x :: r, y :: q, hl, hx, hy => by
    have ih := less_map r q (by simpa using hl) (fun c hc => hx c (List.mem_cons_of_mem _ hc)) (fun c hc => hy c (List.mem_cons_of_mem _ hc))
    have h1 := hx x List.mem_cons_self
    have h2 := hy y List.mem_cons_self
    rw [List.map_cons, List.map_cons, less_cons, lx, ih]
    have e1 : (UInt8.ofNat x).toNat = x := by rw [UInt8.toNat_ofNat']; omega
    have e2 : (UInt8.ofNat y).toNat = y := by rw [UInt8.toNat_ofNat']; omega
    have a1 : (UInt8.ofNat x < UInt8.ofNat y) ↔ x < y := by rw [UInt8.lt_iff_toNat_lt, e1, e2]
    have a2 : (UInt8.ofNat x = UInt8.ofNat y) ↔ x = y := by rw [← UInt8.toNat_inj, e1, e2]
    rw [Bool.eq_iff_iff]
    simp only [Bool.or_eq_true, Bool.and_eq_true, decide_eq_true_eq, beq_iff_eq, a1, a2]
/-- An address's bytes as a text. -/
theorem less_bytes {n m : Nat} (hn : n < 281474976710656) (hm : m < 281474976710656) : Op.bytesLess (strOfNums (ints (macBytes n))).toList (strOfNums (ints (macBytes m))).toList = decide (n < m) := by
  have e : ∀ a : Nat, (strOfNums (ints (macBytes a))).toList = (macBytes a).map UInt8.ofNat := by
    intro a
    rw [toList_data, strOfNums_data]
    unfold ints
    rw [List.map_map]
    rfl
  rw [e, e, less_map (macBytes n) (macBytes m) rfl (macBytes_lt n) (macBytes_lt m), lx_macBytes hn hm]
end Go.Proofs.YtdelhnpolibjmaaDoor.P
