/- Six bytes that lie in a block of their own, as the contracts read them; no condition. -/
import Derived.Test.YtdelhnpolibjmaaDoorMacCalls
namespace Go.Proofs.YtdelhnpolibjmaaDoor.P
open Go.RowKit Go.Proofs.YtdelhnpolibjmaaDoorW.PrintWords Go.Proofs.YtdelhnpolibjmaaDoor.X Go.Proofs.YtdelhnpolibjmaaDoor.Plain Go.Proofs.YtdelhnpolibjmaaDoor
theorem C_six (w0 : World) (t : TypeId) (p0 p1 p2 p3 p4 p5 : Int) : Kd.C (Kd.int .u8) (w0.alloc (.cells #[.int .u8 p0, .int .u8 p1, .int .u8 p2, .int .u8 p3, .int .u8 p4, .int .u8 p5] t)) (some ⟨w0.heap.size, 0, none⟩) 6 [p0, p1, p2, p3, p4, p5] := by
  refine ⟨rfl, by simp, fun _ => ⟨_, rfl, fun j p hj => ⟨[.int .u8 p], rfl, rfl, fun i u hu => ?_⟩⟩⟩
  cases i with
  | succ i => simp at hu
  | zero =>
    simp only [List.getElem?_cons_zero, Option.some.injEq] at hu
    subst hu
    have e : (w0.alloc (.cells #[.int .u8 p0, .int .u8 p1, .int .u8 p2, .int .u8 p3, .int .u8 p4, .int .u8 p5] t)).cell? ⟨w0.heap.size, 0 + (j * 1 + 0), none⟩ = some (.int .u8 p) := by
      rw [World.cell?_alloc_mark, Nat.zero_add, Nat.mul_one, Nat.add_zero]
      match j, hj with
      | 0, hj => injection hj with hj; subst hj; rfl
      | 1, hj => injection hj with hj; subst hj; rfl
      | 2, hj => injection hj with hj; subst hj; rfl
      | 3, hj => injection hj with hj; subst hj; rfl
      | 4, hj => injection hj with hj; subst hj; rfl
      | 5, hj => injection hj with hj; subst hj; rfl
    simp only [Kd.int, Kd.scalar]
    rw [show Addr.add (⟨w0.heap.size, 0, none⟩ : Addr) (j * 1 + 0) = ⟨w0.heap.size, 0 + (j * 1 + 0), none⟩ by unfold Addr.add; split <;> simp_all]
    exact e
theorem ints_macBytes (n : Nat) : ints (macBytes n) = [(n : Int) / 1099511627776 % 256, (n : Int) / 4294967296 % 256, (n : Int) / 16777216 % 256, (n : Int) / 65536 % 256, (n : Int) / 256 % 256, (n : Int) % 256] := by
  have := refBytes_now n
  unfold weirgateref09_Bytes.f at this
  exact (Option.some.inj this).symm
end Go.Proofs.YtdelhnpolibjmaaDoor.P
