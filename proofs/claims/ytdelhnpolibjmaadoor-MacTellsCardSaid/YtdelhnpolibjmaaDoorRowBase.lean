/- What the rows of this seat share: the variables that a row lists hold what the contracts ask ('laidOf'); how arguments read as lists; no condition. -/
import Derived.Test.YtdelhnpolibjmaaDoorRows
import Derived.Test.YtdelhnpolibjmaaDoorBase
import Derived.WalkKit
import Derived.ProofKit
import Derived.OpenShut
import Derived.ShutString
import Derived.ChangeOld
import Derived.SizedLaws
import Derived.SliceStrings
import Derived.LaidMore
import Derived.LaidSub
import Derived.Lay
import Derived.Deep.DeepHandedRow
import Derived.Lib.LaidTab
import Derived.Stop.LaidErr
import Derived.SevenTiedAt
import Derived.Stop.Joined
import Derived.Below
namespace Go.Proofs.YtdelhnpolibjmaaDoor
open Go.ChangeShapes Go.WideShapes Go.ChangeAt Go.RowKit Go.Proofs.YtdelhnpolibjmaaDoorW.PrintWords

theorem own : ownKnob Tryd.prog.godebug = none := by kernel_rfl
theorem laidOut : laidOutB Tryd.prog = true := by kernel_rfl


/-- A slice of strings that came in, as the contracts read it. -/
theorem C_strings {W : World} {a : Addr} {len : Nat} {ss : List ByteArray} (hl : len ≤ ss.length) (hm : len ≤ 9223372036854775807) (hcell : ∀ i, i < ss.length → W.cell? (a.add i) = some (.string (ss.getD i ByteArray.empty))) :
    Kd.C Kd.string W (some a) (ss.take len).length (ss.take len) := by
  have hlt : (ss.take len).length = len := by rw [List.length_take]; omega
  refine ⟨rfl, by rw [hlt]; exact hm, fun _ => ⟨a, rfl, fun j p hj => ⟨[.string p], rfl, rfl, fun i u hu => ?_⟩⟩⟩
  obtain ⟨hjl, hjp⟩ := List.getElem?_eq_some_iff.1 hj
  cases i with
  | succ i => simp at hu
  | zero =>
    simp only [List.getElem?_cons_zero, Option.some.injEq] at hu
    subst hu
    have hjs : j < ss.length := by omega
    have := hcell j hjs
    simp only [Kd.string, Kd.scalar, Nat.mul_one, Nat.add_zero]
    rw [this, List.getD_eq_getElem?_getD, List.getElem?_eq_getElem hjs, ← hjp, List.getElem_take]
    rfl
/-- A slice of bytes that came in, as the contracts read it. -/
theorem C_ints {k : IntKind} {W : World} {a : Addr} {len : Nat} {ss : List Int} (hl : len ≤ ss.length) (hm : len ≤ 9223372036854775807) (hcell : ∀ i, i < ss.length → W.cell? (a.add i) = some (.int k (ss.getD i 0))) :
    Kd.C (Kd.int k) W (some a) (ss.take len).length (ss.take len) := by
  have hlt : (ss.take len).length = len := by rw [List.length_take]; omega
  refine ⟨rfl, by rw [hlt]; exact hm, fun _ => ⟨a, rfl, fun j p hj => ⟨[.int k p], rfl, rfl, fun i u hu => ?_⟩⟩⟩
  obtain ⟨hjl, hjp⟩ := List.getElem?_eq_some_iff.1 hj
  cases i with
  | succ i => simp at hu
  | zero =>
    simp only [List.getElem?_cons_zero, Option.some.injEq] at hu
    subst hu
    have hjs : j < ss.length := by omega
    have := hcell j hjs
    simp only [Kd.int, Kd.scalar, Nat.mul_one, Nat.add_zero]
    rw [this, List.getD_eq_getElem?_getD, List.getElem?_eq_getElem hjs, ← hjp, List.getElem_take]
    rfl
theorem C_none {α : Type} (d : Kd α) (W : World) (a : Option Addr) : Kd.C d W a ([] : List α).length [] := ⟨rfl, by simp, fun h => absurd h (by simp)⟩

theorem wf_i64 {x : Int} (h : (Lit.int .i64 x).wf = true) : -9223372036854775808 ≤ x ∧ x ≤ 9223372036854775807 := by
  simp [Lit.wf, IntKind.min, IntKind.max, IntKind.signed, IntKind.bits] at h
  omega
theorem wf_u32 {x : Int} (h : (Lit.int .u32 x).wf = true) : 0 ≤ x ∧ x ≤ 4294967295 := by
  simp [Lit.wf, IntKind.min, IntKind.max, IntKind.signed, IntKind.bits] at h
  omega
theorem wf_u64 {x : Int} (h : (Lit.int .u64 x).wf = true) : 0 ≤ x ∧ x ≤ 18446744073709551615 := by
  simp [Lit.wf, IntKind.min, IntKind.max, IntKind.signed, IntKind.bits] at h
  omega
theorem wf_u8 {x : Int} (h : (Lit.int .u8 x).wf = true) : 0 ≤ x ∧ x ≤ 255 := by
  simp [Lit.wf, IntKind.min, IntKind.max, IntKind.signed, IntKind.bits] at h
  omega
end Go.Proofs.YtdelhnpolibjmaaDoor
