/- What the rows of this seat share: the variables that a row lists hold what the contracts ask ('laidOf'); how arguments read as lists; no condition. -/
import Derived.Test.YtjamaamkmfdnaaaDoorRows
import Derived.Test.YtjamaamkmfdnaaaDoorBase
import Derived.WalkKit
import Derived.ProofKit
import Derived.OpenShut
import Derived.ShutString
import Derived.ChangeOld
import Derived.SizedLaws
import Derived.SliceStrings
import Derived.LaidMore
import Derived.LaidSub
import Derived.Lay
import Derived.Deep.DeepHandedRow
import Derived.Lib.LaidTab
import Derived.Stop.LaidErr
import Derived.SevenTiedAt
import Derived.Stop.Joined
import Derived.Below
namespace Go.Proofs.YtjamaamkmfdnaaaDoor
open Go.ChangeShapes Go.WideShapes Go.ChangeAt Go.RowKit Go.Proofs.YtjamaamkmfdnaaaDoorW.PrintWords

theorem own : ownKnob Tryd.prog.godebug = none := by kernel_rfl
theorem laidOut : laidOutB Tryd.prog = true := by kernel_rfl

theorem pow_of {W : World} {l : List (String × DataW Unit)} (h : laidMet Tryd.prog l W) (hf : l.filter (fun x => x.1 == "internal/strconv.uint64pow10") = [("internal/strconv.uint64pow10", Lib.tabData .u64 Lib.pow10Tab)]) :
    Lib.TabIs Tryd.prog W "internal/strconv.uint64pow10" .u64 Lib.pow10Tab := by
  have h1 := laidMet.filter (fun x => x.1 == "internal/strconv.uint64pow10") h
  rw [hf] at h1
  exact Lib.tabIs_of_head (t := 108) (e := 23) (n := 20) gPow (by kernel_rfl) Tryd.underlying108 Tryd.underlying23 (by kernel_rfl) (by kernel_rfl) h1
theorem star : "*" ++ "errors.errorString" = "*errors.errorString" := by decide
theorem row85 (u : TypeId) (h : Tryd.prog.typeName? 3 u = some "*errors.errorString") : u = 153 :=
  typeName_ptr_named (nm := "errors.errorString") (by rw [star]; kernel_rfl) (by kernel_rfl) (by decide) u (by rw [star]; exact h)
theorem sentinel_of {W : World} {l : List (String × DataW Unit)} {n : String} {g : Nat} {text : List UInt8} (h : laidMet Tryd.prog l W) (hg : Tryd.prog.globalNamed n = some g) (ht : (Tryd.prog.globals[g]?).map (·.type) = some 75)
    (hf : l.filter (fun x => x.1 == n) = [(n, .iface "*errors.errorString" (.ptr (.agg [.lit (.string text)])))]) :
    ∃ tp p, W.var? Tryd.prog n = some #[.iface tp p] := by
  have h1 := laidMet.filter (fun x => x.1 == n) h
  rw [hf] at h1
  obtain ⟨a, s, hv, _⟩ := laid_sentinel h1 hg ht Tryd.underlying75 row85 Tryd.underlying153 Tryd.underlying155 rfl rfl Tryd.underlying9 (by kernel_rfl) (by kernel_rfl)
  exact ⟨_, _, hv⟩

/-- A slice of strings that came in, as the contracts read it. -/
theorem C_strings {W : World} {a : Addr} {len : Nat} {ss : List ByteArray} (hl : len ≤ ss.length) (hm : len ≤ 9223372036854775807) (hcell : ∀ i, i < ss.length → W.cell? (a.add i) = some (.string (ss.getD i ByteArray.empty))) :
    Kd.C Kd.string W (some a) (ss.take len).length (ss.take len) := by
  have hlt : (ss.take len).length = len := by rw [List.length_take]; omega
  refine ⟨rfl, by rw [hlt]; exact hm, fun _ => ⟨a, rfl, fun j p hj => ⟨[.string p], rfl, rfl, fun i u hu => ?_⟩⟩⟩
  obtain ⟨hjl, hjp⟩ := List.getElem?_eq_some_iff.1 hj
  cases i with
  | succ i => simp at hu
  | zero =>
    simp only [List.getElem?_cons_zero, Option.some.injEq] at hu
    subst hu
    have hjs : j < ss.length := by omega
    have := hcell j hjs
    simp only [Kd.string, Kd.scalar, Nat.mul_one, Nat.add_zero]
    rw [this, List.getD_eq_getElem?_getD, List.getElem?_eq_getElem hjs, ← hjp, List.getElem_take]
    rfl
/-- A slice of bytes that came in, as the contracts read it. -/
theorem C_ints {k : IntKind} {W : World} {a : Addr} {len : Nat} {ss : List Int} (hl : len ≤ ss.length) (hm : len ≤ 9223372036854775807) (hcell : ∀ i, i < ss.length → W.cell? (a.add i) = some (.int k (ss.getD i 0))) :
    Kd.C (Kd.int k) W (some a) (ss.take len).length (ss.take len) := by
  have hlt : (ss.take len).length = len := by rw [List.length_take]; omega
  refine ⟨rfl, by rw [hlt]; exact hm, fun _ => ⟨a, rfl, fun j p hj => ⟨[.int k p], rfl, rfl, fun i u hu => ?_⟩⟩⟩
  obtain ⟨hjl, hjp⟩ := List.getElem?_eq_some_iff.1 hj
  cases i with
  | succ i => simp at hu
  | zero =>
    simp only [List.getElem?_cons_zero, Option.some.injEq] at hu
    subst hu
    have hjs : j < ss.length := by omega
    have := hcell j hjs
    simp only [Kd.int, Kd.scalar, Nat.mul_one, Nat.add_zero]
    rw [this, List.getD_eq_getElem?_getD, List.getElem?_eq_getElem hjs, ← hjp, List.getElem_take]
    rfl
theorem C_none {α : Type} (d : Kd α) (W : World) (a : Option Addr) : Kd.C d W a ([] : List α).length [] := ⟨rfl, by simp, fun h => absurd h (by simp)⟩

theorem wf_i64 {x : Int} (h : (Lit.int .i64 x).wf = true) : -9223372036854775808 ≤ x ∧ x ≤ 9223372036854775807 := by
  simp [Lit.wf, IntKind.min, IntKind.max, IntKind.signed, IntKind.bits] at h
  omega
theorem wf_u32 {x : Int} (h : (Lit.int .u32 x).wf = true) : 0 ≤ x ∧ x ≤ 4294967295 := by
  simp [Lit.wf, IntKind.min, IntKind.max, IntKind.signed, IntKind.bits] at h
  omega
theorem wf_u64 {x : Int} (h : (Lit.int .u64 x).wf = true) : 0 ≤ x ∧ x ≤ 18446744073709551615 := by
  simp [Lit.wf, IntKind.min, IntKind.max, IntKind.signed, IntKind.bits] at h
  omega
theorem wf_u8 {x : Int} (h : (Lit.int .u8 x).wf = true) : 0 ≤ x ∧ x ≤ 255 := by
  simp [Lit.wf, IntKind.min, IntKind.max, IntKind.signed, IntKind.bits] at h
  omega
/-! ### a struct by value, opened field by field -/
section
variable {H : Type} {enc : TypeId × Value → H} {P : Program} {w : World} {base : Nat} {spare : Nat → Bool} {held : Bool}
theorem field_of {fs : Array Field} {t : TypeId} {fuel : Nat} {cs : List Value} {x : DataW H × List MemPlace} (ht : P.underlying t = some (.struct fs)) (h : DataW.trod enc P w base spare held fuel t cs = some x) (i : Nat) (f : Field) (hf : fs[i]? = some f) (m : Nat) (hm : P.cellsOf f.type = m) :
    ∃ n y, DataW.trod enc P w base spare held n f.type ((cs.drop f.offset).take m) = some y := by
  obtain ⟨xs, n, _, _, _, hl, hg⟩ := DataW.trod_struct ht h
  have hi : i < xs.length := by rw [hl]; exact (Array.getElem?_eq_some_iff.1 hf).1
  refine ⟨n, xs[i], ?_⟩
  rw [← hm, hg i f hf, List.getElem?_eq_getElem hi]
theorem elem_of {n : Nat} {e : TypeId} {t : TypeId} {fuel : Nat} {cs : List Value} {x : DataW H × List MemPlace} (ht : P.underlying t = some (.array n e)) (h : DataW.trod enc P w base spare held fuel t cs = some x) (i : Nat) (hi : i < n) (m : Nat) (hm : P.cellsOf e = m) :
    ∃ k y, DataW.trod enc P w base spare held k e ((cs.drop (i * m)).take m) = some y := by
  obtain ⟨xs, k, _, _, _, hl, hg⟩ := DataW.trod_array ht h
  refine ⟨k, xs[i], ?_⟩
  rw [← hm, hg i hi, List.getElem?_eq_getElem (by omega)]
theorem okWide_arr {r : Reach} {t : TypeId} {v : Value} {n : Nat} {e : TypeId} (ht : P.underlying t = some (.array n e)) (h : Value.okWide P w r base t v) : ∃ cs, v = .agg cs ∧ cs.size = P.cellsOf t := by
  simp only [Value.okWide, ht] at h
  obtain ⟨cs, h1, h2, _⟩ := h
  exact ⟨cs, h1, h2⟩
theorem leaf_int {k : IntKind} {t : TypeId} {fuel : Nat} {c : Value} {x : DataW H × List MemPlace} (ht : P.underlying t = some (.int k)) (h : DataW.trod enc P w base spare held fuel t [c] = some x) : ∃ n, c = .int k n ∧ (Lit.int k n).wf = true := by
  obtain ⟨n, hc, _, hw⟩ := DataW.trod_int ht h
  simp only [List.cons.injEq, and_true] at hc
  exact ⟨n, hc, hw⟩
theorem leaf_bool {t : TypeId} {fuel : Nat} {c : Value} {x : DataW H × List MemPlace} (ht : P.underlying t = some .bool) (h : DataW.trod enc P w base spare held fuel t [c] = some x) : ∃ b, c = .bool b := by
  obtain ⟨n, hc, _⟩ := DataW.trod_bool ht h
  simp only [List.cons.injEq, and_true] at hc
  exact ⟨n, hc⟩
end
end Go.Proofs.YtjamaamkmfdnaaaDoor
