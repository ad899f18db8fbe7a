/- Contract of the reference's 'made': the command of a shape, by its numbers, and its address. -/
import Derived.Test.YtagnoecfdefmjaaDoorXx0
import Derived.Outline
import Derived.RegionTactic
import Derived.ChangeAlike
import Derived.BigRegion
namespace Go.Proofs.YtagnoecfdefmjaaDoor
open Go.RowKit Go.Proofs.YtagnoecfdefmjaaDoorW.PrintWords Go.Proofs.YtagnoecfdefmjaaDoorW.PrintLast Go.Proofs.YtagnoecfdefmjaaDoorW.PrintMore
set_option linter.unusedVariables false
set_option linter.unusedSimpArgs false
set_option maxHeartbeats 8000000
set_option maxRecDepth 100000

/-- A call of 'made' gives this. -/
def Gives (k : Int) (sl : Value) (mac : Int) (w : World) (v : Value) : Prop := Calls Tryd.prog 20 #[.int .i64 k, sl, .int .u64 mac] w fun e w' => e = .returned v ∧ Below w.heap.size w w'
theorem made_0 (n0 : Int) (c1 : Nat) (ls : List Int) (b o : Nat) (mac : Int) (w : World) (hb0 : w.cell? ⟨b, o, none⟩ = some (.int .i64 n0)) (l0 : 0 < ls.length) (hlt : b < w.heap.size) :
    Gives 0 (.slice (some ⟨b, o, none⟩) ls.length c1) mac w (.tuple #[.agg #[.int .i64 1, .int .i64 1, .int .i64 0, .int .i64 n0, .int .i64 0, .int .u8 0, .int .u8 0, .int .u64 0], .bool true]) := by
  have q1 : b < w.heap.size + 1 := by omega
  have q2 : b < w.heap.size + 1 + 1 := by omega
  have q3 : ¬ b = w.heap.size + 1 + 1 := by omega
  have q4 : ¬ b = w.heap.size + 1 := by omega
  unfold Gives
  go_enter Tryd.func20, Tryd.ntmps20
  go_wp2
  go_region
  go_wp2
  go_region
  go_wp2
  exact bodyPost_ret (by simp [results, Tryd.results20, go_sem]) rfl ⟨rfl, by repeat (first | exact Below.refl _ _ | apply below_alloc | apply below_drew)⟩

theorem made_1 (n0 : Int) (c1 : Nat) (ls : List Int) (b o : Nat) (mac : Int) (w : World) (hb0 : w.cell? ⟨b, o, none⟩ = some (.int .i64 n0)) (l0 : 0 < ls.length) (hlt : b < w.heap.size) :
    Gives 1 (.slice (some ⟨b, o, none⟩) ls.length c1) mac w (.tuple #[.agg #[.int .i64 1, .int .i64 2, .int .i64 0, .int .i64 n0, .int .i64 0, .int .u8 0, .int .u8 0, .int .u64 0], .bool true]) := by
  have q1 : b < w.heap.size + 1 := by omega
  have q2 : b < w.heap.size + 1 + 1 := by omega
  have q3 : ¬ b = w.heap.size + 1 + 1 := by omega
  have q4 : ¬ b = w.heap.size + 1 := by omega
  unfold Gives
  go_enter Tryd.func20, Tryd.ntmps20
  go_wp2
  go_region
  go_wp2
  go_region
  go_wp2
  exact bodyPost_ret (by simp [results, Tryd.results20, go_sem]) rfl ⟨rfl, by repeat (first | exact Below.refl _ _ | apply below_alloc | apply below_drew)⟩

theorem made_2 (n0 : Int) (c1 : Nat) (ls : List Int) (b o : Nat) (mac : Int) (w : World) (hb0 : w.cell? ⟨b, o, none⟩ = some (.int .i64 n0)) (l0 : 0 < ls.length) (hlt : b < w.heap.size) :
    Gives 2 (.slice (some ⟨b, o, none⟩) ls.length c1) mac w (.tuple #[.agg #[.int .i64 1, .int .i64 3, .int .i64 0, .int .i64 n0, .int .i64 0, .int .u8 0, .int .u8 0, .int .u64 0], .bool true]) := by
  have q1 : b < w.heap.size + 1 := by omega
  have q2 : b < w.heap.size + 1 + 1 := by omega
  have q3 : ¬ b = w.heap.size + 1 + 1 := by omega
  have q4 : ¬ b = w.heap.size + 1 := by omega
  unfold Gives
  go_enter Tryd.func20, Tryd.ntmps20
  go_wp2
  go_region
  go_wp2
  go_region
  go_wp2
  exact bodyPost_ret (by simp [results, Tryd.results20, go_sem]) rfl ⟨rfl, by repeat (first | exact Below.refl _ _ | apply below_alloc | apply below_drew)⟩

theorem made_3_y (n0 : Int) (c1 : Nat) (ls : List Int) (b o : Nat) (mac : Int) (w : World) (hb0 : w.cell? ⟨b, o, none⟩ = some (.int .i64 n0)) (l0 : 0 < ls.length) (hlt : b < w.heap.size) (h1 : n0 ≤ 255) :
    Gives 3 (.slice (some ⟨b, o, none⟩) ls.length c1) mac w (.tuple #[.agg #[.int .i64 1, .int .i64 4, .int .i64 n0, .int .i64 1, .int .i64 0, .int .u8 0, .int .u8 0, .int .u64 0], .bool true]) := by
  have d1 : decide (n0 ≤ 255) = true := decide_eq_true h1
  unfold Gives
  go_enter Tryd.func20, Tryd.ntmps20
  go_wp2
  go_region
  go_wp2
  go_region
  go_wp2
  exact bodyPost_ret (by simp [results, Tryd.results20, go_sem]) rfl ⟨rfl, by repeat (first | exact Below.refl _ _ | apply below_alloc | apply below_drew)⟩

theorem made_3_n (n0 : Int) (c1 : Nat) (ls : List Int) (b o : Nat) (mac : Int) (w : World) (hb0 : w.cell? ⟨b, o, none⟩ = some (.int .i64 n0)) (l0 : 0 < ls.length) (hlt : b < w.heap.size) (h1 : ¬ n0 ≤ 255) :
    Gives 3 (.slice (some ⟨b, o, none⟩) ls.length c1) mac w (.tuple #[.agg #[.int .i64 1, .int .i64 4, .int .i64 n0, .int .i64 1, .int .i64 0, .int .u8 0, .int .u8 0, .int .u64 0], .bool false]) := by
  have d1 : decide (n0 ≤ 255) = false := decide_eq_false h1
  unfold Gives
  go_enter Tryd.func20, Tryd.ntmps20
  go_wp2
  go_region
  go_wp2
  go_region
  go_wp2
  exact bodyPost_ret (by simp [results, Tryd.results20, go_sem]) rfl ⟨rfl, by repeat (first | exact Below.refl _ _ | apply below_alloc | apply below_drew)⟩

theorem made_4_y (n0 : Int) (c1 : Nat) (ls : List Int) (b o : Nat) (mac : Int) (w : World) (hb0 : w.cell? ⟨b, o, none⟩ = some (.int .i64 n0)) (l0 : 0 < ls.length) (hlt : b < w.heap.size) (h1 : n0 ≤ 255) :
    Gives 4 (.slice (some ⟨b, o, none⟩) ls.length c1) mac w (.tuple #[.agg #[.int .i64 1, .int .i64 4, .int .i64 n0, .int .i64 0, .int .i64 0, .int .u8 0, .int .u8 0, .int .u64 0], .bool true]) := by
  have d1 : decide (n0 ≤ 255) = true := decide_eq_true h1
  unfold Gives
  go_enter Tryd.func20, Tryd.ntmps20
  go_wp2
  go_region
  go_wp2
  go_region
  go_wp2
  exact bodyPost_ret (by simp [results, Tryd.results20, go_sem]) rfl ⟨rfl, by repeat (first | exact Below.refl _ _ | apply below_alloc | apply below_drew)⟩

theorem made_4_n (n0 : Int) (c1 : Nat) (ls : List Int) (b o : Nat) (mac : Int) (w : World) (hb0 : w.cell? ⟨b, o, none⟩ = some (.int .i64 n0)) (l0 : 0 < ls.length) (hlt : b < w.heap.size) (h1 : ¬ n0 ≤ 255) :
    Gives 4 (.slice (some ⟨b, o, none⟩) ls.length c1) mac w (.tuple #[.agg #[.int .i64 1, .int .i64 4, .int .i64 n0, .int .i64 0, .int .i64 0, .int .u8 0, .int .u8 0, .int .u64 0], .bool false]) := by
  have d1 : decide (n0 ≤ 255) = false := decide_eq_false h1
  unfold Gives
  go_enter Tryd.func20, Tryd.ntmps20
  go_wp2
  go_region
  go_wp2
  go_region
  go_wp2
  exact bodyPost_ret (by simp [results, Tryd.results20, go_sem]) rfl ⟨rfl, by repeat (first | exact Below.refl _ _ | apply below_alloc | apply below_drew)⟩

theorem made_5_y (n0 n1 : Int) (c1 : Nat) (ls : List Int) (b o : Nat) (mac : Int) (w : World) (hb0 : w.cell? ⟨b, o, none⟩ = some (.int .i64 n0)) (l0 : 0 < ls.length) (hb1 : w.cell? ⟨b, o + 1, none⟩ = some (.int .i64 n1)) (l1 : 1 < ls.length) (hlt : b < w.heap.size) (h1 : n0 ≤ 255) :
    Gives 5 (.slice (some ⟨b, o, none⟩) ls.length c1) mac w (.tuple #[.agg #[.int .i64 1, .int .i64 5, .int .i64 n0, .int .i64 n1, .int .i64 0, .int .u8 0, .int .u8 0, .int .u64 0], .bool true]) := by
  have d1 : decide (n0 ≤ 255) = true := decide_eq_true h1
  unfold Gives
  go_enter Tryd.func20, Tryd.ntmps20
  go_wp2
  go_region
  go_wp2
  go_region
  go_wp2
  exact bodyPost_ret (by simp [results, Tryd.results20, go_sem]) rfl ⟨rfl, by repeat (first | exact Below.refl _ _ | apply below_alloc | apply below_drew)⟩

theorem made_5_n (n0 n1 : Int) (c1 : Nat) (ls : List Int) (b o : Nat) (mac : Int) (w : World) (hb0 : w.cell? ⟨b, o, none⟩ = some (.int .i64 n0)) (l0 : 0 < ls.length) (hb1 : w.cell? ⟨b, o + 1, none⟩ = some (.int .i64 n1)) (l1 : 1 < ls.length) (hlt : b < w.heap.size) (h1 : ¬ n0 ≤ 255) :
    Gives 5 (.slice (some ⟨b, o, none⟩) ls.length c1) mac w (.tuple #[.agg #[.int .i64 1, .int .i64 5, .int .i64 n0, .int .i64 n1, .int .i64 0, .int .u8 0, .int .u8 0, .int .u64 0], .bool false]) := by
  have d1 : decide (n0 ≤ 255) = false := decide_eq_false h1
  unfold Gives
  go_enter Tryd.func20, Tryd.ntmps20
  go_wp2
  go_region
  go_wp2
  go_region
  go_wp2
  exact bodyPost_ret (by simp [results, Tryd.results20, go_sem]) rfl ⟨rfl, by repeat (first | exact Below.refl _ _ | apply below_alloc | apply below_drew)⟩

theorem made_6_y (n0 n1 : Int) (c1 : Nat) (ls : List Int) (b o : Nat) (mac : Int) (w : World) (hb0 : w.cell? ⟨b, o, none⟩ = some (.int .i64 n0)) (l0 : 0 < ls.length) (hb1 : w.cell? ⟨b, o + 1, none⟩ = some (.int .i64 n1)) (l1 : 1 < ls.length) (hlt : b < w.heap.size) (h1 : n0 ≤ 255) :
    Gives 6 (.slice (some ⟨b, o, none⟩) ls.length c1) mac w (.tuple #[.agg #[.int .i64 1, .int .i64 6, .int .i64 n0, .int .i64 n1, .int .i64 0, .int .u8 0, .int .u8 0, .int .u64 0], .bool true]) := by
  have d1 : decide (n0 ≤ 255) = true := decide_eq_true h1
  unfold Gives
  go_enter Tryd.func20, Tryd.ntmps20
  go_wp2
  go_region
  go_wp2
  go_region
  go_wp2
  exact bodyPost_ret (by simp [results, Tryd.results20, go_sem]) rfl ⟨rfl, by repeat (first | exact Below.refl _ _ | apply below_alloc | apply below_drew)⟩

theorem made_6_n (n0 n1 : Int) (c1 : Nat) (ls : List Int) (b o : Nat) (mac : Int) (w : World) (hb0 : w.cell? ⟨b, o, none⟩ = some (.int .i64 n0)) (l0 : 0 < ls.length) (hb1 : w.cell? ⟨b, o + 1, none⟩ = some (.int .i64 n1)) (l1 : 1 < ls.length) (hlt : b < w.heap.size) (h1 : ¬ n0 ≤ 255) :
    Gives 6 (.slice (some ⟨b, o, none⟩) ls.length c1) mac w (.tuple #[.agg #[.int .i64 1, .int .i64 6, .int .i64 n0, .int .i64 n1, .int .i64 0, .int .u8 0, .int .u8 0, .int .u64 0], .bool false]) := by
  have d1 : decide (n0 ≤ 255) = false := decide_eq_false h1
  unfold Gives
  go_enter Tryd.func20, Tryd.ntmps20
  go_wp2
  go_region
  go_wp2
  go_region
  go_wp2
  exact bodyPost_ret (by simp [results, Tryd.results20, go_sem]) rfl ⟨rfl, by repeat (first | exact Below.refl _ _ | apply below_alloc | apply below_drew)⟩

theorem made_7_y (n0 n1 n2 : Int) (c1 : Nat) (ls : List Int) (b o : Nat) (mac : Int) (w : World) (hb0 : w.cell? ⟨b, o, none⟩ = some (.int .i64 n0)) (l0 : 0 < ls.length) (hb1 : w.cell? ⟨b, o + 1, none⟩ = some (.int .i64 n1)) (l1 : 1 < ls.length) (hb2 : w.cell? ⟨b, o + 2, none⟩ = some (.int .i64 n2)) (l2 : 2 < ls.length) (hlt : b < w.heap.size) (p1 : 0 ≤ n1) (p2 : 0 ≤ n2) (g1 : n1 ≤ 255) (g2 : n2 ≤ 255) (h1 : n0 ≤ 65535) :
    Gives 7 (.slice (some ⟨b, o, none⟩) ls.length c1) mac w (.tuple #[.agg #[.int .i64 1, .int .i64 7, .int .i64 0, .int .i64 0, .int .i64 n0, .int .u8 n1, .int .u8 n2, .int .u64 0], .bool true]) := by
  have e1 : decide (255 < n1) = false := decide_eq_false (by omega)
  have e2 : decide (255 < n2) = false := decide_eq_false (by omega)
  have d1 : decide (n0 ≤ 65535) = true := decide_eq_true h1
  have u1 : IntKind.u8.wrap n1 = n1 := by rw [IntKind.wrap_u8]; omega
  have u2 : IntKind.u8.wrap n2 = n2 := by rw [IntKind.wrap_u8]; omega
  unfold Gives
  go_enter Tryd.func20, Tryd.ntmps20
  go_wp2
  go_region
  go_wp2
  go_region
  go_wp2
  exact bodyPost_ret (by simp [results, Tryd.results20, go_sem]) rfl ⟨rfl, by repeat (first | exact Below.refl _ _ | apply below_alloc | apply below_drew)⟩

theorem made_7_n (n0 n1 n2 : Int) (c1 : Nat) (ls : List Int) (b o : Nat) (mac : Int) (w : World) (hb0 : w.cell? ⟨b, o, none⟩ = some (.int .i64 n0)) (l0 : 0 < ls.length) (hb1 : w.cell? ⟨b, o + 1, none⟩ = some (.int .i64 n1)) (l1 : 1 < ls.length) (hb2 : w.cell? ⟨b, o + 2, none⟩ = some (.int .i64 n2)) (l2 : 2 < ls.length) (hlt : b < w.heap.size) (p1 : 0 ≤ n1) (p2 : 0 ≤ n2) (g1 : n1 ≤ 255) (g2 : n2 ≤ 255) (h1 : ¬ n0 ≤ 65535) :
    Gives 7 (.slice (some ⟨b, o, none⟩) ls.length c1) mac w (.tuple #[.agg #[.int .i64 1, .int .i64 7, .int .i64 0, .int .i64 0, .int .i64 n0, .int .u8 n1, .int .u8 n2, .int .u64 0], .bool false]) := by
  have e1 : decide (255 < n1) = false := decide_eq_false (by omega)
  have e2 : decide (255 < n2) = false := decide_eq_false (by omega)
  have d1 : decide (n0 ≤ 65535) = false := decide_eq_false h1
  have u1 : IntKind.u8.wrap n1 = n1 := by rw [IntKind.wrap_u8]; omega
  have u2 : IntKind.u8.wrap n2 = n2 := by rw [IntKind.wrap_u8]; omega
  unfold Gives
  go_enter Tryd.func20, Tryd.ntmps20
  go_wp2
  go_region
  go_wp2
  go_region
  go_wp2
  exact bodyPost_ret (by simp [results, Tryd.results20, go_sem]) rfl ⟨rfl, by repeat (first | exact Below.refl _ _ | apply below_alloc | apply below_drew)⟩

theorem made_7_a (n0 n1 n2 : Int) (c1 : Nat) (ls : List Int) (b o : Nat) (mac : Int) (w : World) (hb0 : w.cell? ⟨b, o, none⟩ = some (.int .i64 n0)) (l0 : 0 < ls.length) (hb1 : w.cell? ⟨b, o + 1, none⟩ = some (.int .i64 n1)) (l1 : 1 < ls.length) (hb2 : w.cell? ⟨b, o + 2, none⟩ = some (.int .i64 n2)) (l2 : 2 < ls.length) (hlt : b < w.heap.size) (g1 : ¬ n1 ≤ 255) :
    Gives 7 (.slice (some ⟨b, o, none⟩) ls.length c1) mac w (.tuple #[.agg #[.int .i64 0, .int .i64 0, .int .i64 0, .int .i64 0, .int .i64 0, .int .u8 0, .int .u8 0, .int .u64 0], .bool false]) := by
  have e1 : decide (255 < n1) = true := decide_eq_true (by omega)
  unfold Gives
  go_enter Tryd.func20, Tryd.ntmps20
  go_wp2
  exact bodyPost_ret (by simp [results, Tryd.results20, go_sem]) rfl ⟨rfl, by repeat (first | exact Below.refl _ _ | apply below_alloc | apply below_drew)⟩

theorem made_7_b (n0 n1 n2 : Int) (c1 : Nat) (ls : List Int) (b o : Nat) (mac : Int) (w : World) (hb0 : w.cell? ⟨b, o, none⟩ = some (.int .i64 n0)) (l0 : 0 < ls.length) (hb1 : w.cell? ⟨b, o + 1, none⟩ = some (.int .i64 n1)) (l1 : 1 < ls.length) (hb2 : w.cell? ⟨b, o + 2, none⟩ = some (.int .i64 n2)) (l2 : 2 < ls.length) (hlt : b < w.heap.size) (g1 : n1 ≤ 255) (g2 : ¬ n2 ≤ 255) :
    Gives 7 (.slice (some ⟨b, o, none⟩) ls.length c1) mac w (.tuple #[.agg #[.int .i64 0, .int .i64 0, .int .i64 0, .int .i64 0, .int .i64 0, .int .u8 0, .int .u8 0, .int .u64 0], .bool false]) := by
  have e1 : decide (255 < n1) = false := decide_eq_false (by omega)
  have e2 : decide (255 < n2) = true := decide_eq_true (by omega)
  unfold Gives
  go_enter Tryd.func20, Tryd.ntmps20
  go_wp2
  exact bodyPost_ret (by simp [results, Tryd.results20, go_sem]) rfl ⟨rfl, by repeat (first | exact Below.refl _ _ | apply below_alloc | apply below_drew)⟩

theorem made_8_y (n0 : Int) (c1 : Nat) (ls : List Int) (b o : Nat) (mac : Int) (w : World) (hb0 : w.cell? ⟨b, o, none⟩ = some (.int .i64 n0)) (l0 : 0 < ls.length) (hlt : b < w.heap.size) (h1 : n0 ≤ 65535) :
    Gives 8 (.slice (some ⟨b, o, none⟩) ls.length c1) mac w (.tuple #[.agg #[.int .i64 1, .int .i64 8, .int .i64 0, .int .i64 0, .int .i64 n0, .int .u8 0, .int .u8 0, .int .u64 0], .bool true]) := by
  have d1 : decide (n0 ≤ 65535) = true := decide_eq_true h1
  unfold Gives
  go_enter Tryd.func20, Tryd.ntmps20
  go_wp2
  go_region
  go_wp2
  go_region
  go_wp2
  exact bodyPost_ret (by simp [results, Tryd.results20, go_sem]) rfl ⟨rfl, by repeat (first | exact Below.refl _ _ | apply below_alloc | apply below_drew)⟩

theorem made_10_y (n0 : Int) (c1 : Nat) (ls : List Int) (b o : Nat) (mac : Int) (w : World) (hb0 : w.cell? ⟨b, o, none⟩ = some (.int .i64 n0)) (l0 : 0 < ls.length) (hlt : b < w.heap.size) (h1 : n0 ≤ 65535) :
    Gives 10 (.slice (some ⟨b, o, none⟩) ls.length c1) mac w (.tuple #[.agg #[.int .i64 1, .int .i64 10, .int .i64 0, .int .i64 0, .int .i64 n0, .int .u8 0, .int .u8 0, .int .u64 mac], .bool true]) := by
  have d1 : decide (n0 ≤ 65535) = true := decide_eq_true h1
  unfold Gives
  go_enter Tryd.func20, Tryd.ntmps20
  go_wp2
  go_region
  go_wp2
  go_region
  go_wp2
  exact bodyPost_ret (by simp [results, Tryd.results20, go_sem]) rfl ⟨rfl, by repeat (first | exact Below.refl _ _ | apply below_alloc | apply below_drew)⟩

theorem made_8_n (n0 : Int) (c1 : Nat) (ls : List Int) (b o : Nat) (mac : Int) (w : World) (hb0 : w.cell? ⟨b, o, none⟩ = some (.int .i64 n0)) (l0 : 0 < ls.length) (hlt : b < w.heap.size) (h1 : ¬ n0 ≤ 65535) :
    Gives 8 (.slice (some ⟨b, o, none⟩) ls.length c1) mac w (.tuple #[.agg #[.int .i64 1, .int .i64 8, .int .i64 0, .int .i64 0, .int .i64 n0, .int .u8 0, .int .u8 0, .int .u64 0], .bool false]) := by
  have d1 : decide (n0 ≤ 65535) = false := decide_eq_false h1
  unfold Gives
  go_enter Tryd.func20, Tryd.ntmps20
  go_wp2
  go_region
  go_wp2
  go_region
  go_wp2
  exact bodyPost_ret (by simp [results, Tryd.results20, go_sem]) rfl ⟨rfl, by repeat (first | exact Below.refl _ _ | apply below_alloc | apply below_drew)⟩

theorem made_10_n (n0 : Int) (c1 : Nat) (ls : List Int) (b o : Nat) (mac : Int) (w : World) (hb0 : w.cell? ⟨b, o, none⟩ = some (.int .i64 n0)) (l0 : 0 < ls.length) (hlt : b < w.heap.size) (h1 : ¬ n0 ≤ 65535) :
    Gives 10 (.slice (some ⟨b, o, none⟩) ls.length c1) mac w (.tuple #[.agg #[.int .i64 1, .int .i64 10, .int .i64 0, .int .i64 0, .int .i64 n0, .int .u8 0, .int .u8 0, .int .u64 mac], .bool false]) := by
  have d1 : decide (n0 ≤ 65535) = false := decide_eq_false h1
  unfold Gives
  go_enter Tryd.func20, Tryd.ntmps20
  go_wp2
  go_region
  go_wp2
  go_region
  go_wp2
  exact bodyPost_ret (by simp [results, Tryd.results20, go_sem]) rfl ⟨rfl, by repeat (first | exact Below.refl _ _ | apply below_alloc | apply below_drew)⟩

theorem made_9_yy (n0 n1 : Int) (c1 : Nat) (ls : List Int) (b o : Nat) (mac : Int) (w : World) (hb0 : w.cell? ⟨b, o, none⟩ = some (.int .i64 n0)) (l0 : 0 < ls.length) (hb1 : w.cell? ⟨b, o + 1, none⟩ = some (.int .i64 n1)) (l1 : 1 < ls.length) (hlt : b < w.heap.size) (h1 : n1 ≤ 255) (h2 : n0 ≤ 65535) :
    Gives 9 (.slice (some ⟨b, o, none⟩) ls.length c1) mac w (.tuple #[.agg #[.int .i64 1, .int .i64 9, .int .i64 n1, .int .i64 0, .int .i64 n0, .int .u8 0, .int .u8 0, .int .u64 mac], .bool true]) := by
  have d1 : decide (n1 ≤ 255) = true := decide_eq_true h1
  have d2 : decide (n0 ≤ 65535) = true := decide_eq_true h2
  unfold Gives
  go_enter Tryd.func20, Tryd.ntmps20
  go_wp2
  go_region
  go_wp2
  go_region
  go_wp2
  exact bodyPost_ret (by simp [results, Tryd.results20, go_sem]) rfl ⟨rfl, by repeat (first | exact Below.refl _ _ | apply below_alloc | apply below_drew)⟩

theorem made_9_yn (n0 n1 : Int) (c1 : Nat) (ls : List Int) (b o : Nat) (mac : Int) (w : World) (hb0 : w.cell? ⟨b, o, none⟩ = some (.int .i64 n0)) (l0 : 0 < ls.length) (hb1 : w.cell? ⟨b, o + 1, none⟩ = some (.int .i64 n1)) (l1 : 1 < ls.length) (hlt : b < w.heap.size) (h1 : n1 ≤ 255) (h2 : ¬ n0 ≤ 65535) :
    Gives 9 (.slice (some ⟨b, o, none⟩) ls.length c1) mac w (.tuple #[.agg #[.int .i64 1, .int .i64 9, .int .i64 n1, .int .i64 0, .int .i64 n0, .int .u8 0, .int .u8 0, .int .u64 mac], .bool false]) := by
  have d1 : decide (n1 ≤ 255) = true := decide_eq_true h1
  have d2 : decide (n0 ≤ 65535) = false := decide_eq_false h2
  unfold Gives
  go_enter Tryd.func20, Tryd.ntmps20
  go_wp2
  go_region
  go_wp2
  go_region
  go_wp2
  exact bodyPost_ret (by simp [results, Tryd.results20, go_sem]) rfl ⟨rfl, by repeat (first | exact Below.refl _ _ | apply below_alloc | apply below_drew)⟩

theorem made_9_n (n0 n1 : Int) (c1 : Nat) (ls : List Int) (b o : Nat) (mac : Int) (w : World) (hb0 : w.cell? ⟨b, o, none⟩ = some (.int .i64 n0)) (l0 : 0 < ls.length) (hb1 : w.cell? ⟨b, o + 1, none⟩ = some (.int .i64 n1)) (l1 : 1 < ls.length) (hlt : b < w.heap.size) (h1 : ¬ n1 ≤ 255) :
    Gives 9 (.slice (some ⟨b, o, none⟩) ls.length c1) mac w (.tuple #[.agg #[.int .i64 1, .int .i64 9, .int .i64 n1, .int .i64 0, .int .i64 n0, .int .u8 0, .int .u8 0, .int .u64 mac], .bool false]) := by
  have d1 : decide (n1 ≤ 255) = false := decide_eq_false h1
  unfold Gives
  go_enter Tryd.func20, Tryd.ntmps20
  go_wp2
  go_region
  go_wp2
  go_region
  go_wp2
  exact bodyPost_ret (by simp [results, Tryd.results20, go_sem]) rfl ⟨rfl, by repeat (first | exact Below.refl _ _ | apply below_alloc | apply below_drew)⟩

theorem made_11 (A1 : Option Addr) (c1 : Nat) (ls : List Int) (mac : Int) (w : World) :
    Gives 11 (.slice A1 ls.length c1) mac w (.tuple #[.agg #[.int .i64 2, .int .i64 0, .int .i64 0, .int .i64 0, .int .i64 0, .int .u8 0, .int .u8 0, .int .u64 0], .bool true]) := by
  unfold Gives
  go_enter Tryd.func20, Tryd.ntmps20
  go_wp2
  exact bodyPost_ret (by simp [results, Tryd.results20, go_sem]) rfl ⟨rfl, by repeat (first | exact Below.refl _ _ | apply below_alloc | apply below_drew)⟩

theorem made_12 (A1 : Option Addr) (c1 : Nat) (ls : List Int) (mac : Int) (w : World) :
    Gives 12 (.slice A1 ls.length c1) mac w (.tuple #[.agg #[.int .i64 3, .int .i64 0, .int .i64 0, .int .i64 0, .int .i64 0, .int .u8 0, .int .u8 0, .int .u64 0], .bool true]) := by
  unfold Gives
  go_enter Tryd.func20, Tryd.ntmps20
  go_wp2
  exact bodyPost_ret (by simp [results, Tryd.results20, go_sem]) rfl ⟨rfl, by repeat (first | exact Below.refl _ _ | apply below_alloc | apply below_drew)⟩

theorem made_13 (A1 : Option Addr) (c1 : Nat) (ls : List Int) (mac : Int) (w : World) :
    Gives 13 (.slice A1 ls.length c1) mac w (.tuple #[.agg #[.int .i64 4, .int .i64 0, .int .i64 0, .int .i64 0, .int .i64 0, .int .u8 0, .int .u8 0, .int .u64 0], .bool true]) := by
  unfold Gives
  go_enter Tryd.func20, Tryd.ntmps20
  go_wp2
  exact bodyPost_ret (by simp [results, Tryd.results20, go_sem]) rfl ⟨rfl, by repeat (first | exact Below.refl _ _ | apply below_alloc | apply below_drew)⟩

theorem made_14 (A1 : Option Addr) (c1 : Nat) (ls : List Int) (mac : Int) (w : World) :
    Gives 14 (.slice A1 ls.length c1) mac w (.tuple #[.agg #[.int .i64 5, .int .i64 0, .int .i64 0, .int .i64 0, .int .i64 0, .int .u8 0, .int .u8 0, .int .u64 0], .bool true]) := by
  unfold Gives
  go_enter Tryd.func20, Tryd.ntmps20
  go_wp2
  exact bodyPost_ret (by simp [results, Tryd.results20, go_sem]) rfl ⟨rfl, by repeat (first | exact Below.refl _ _ | apply below_alloc | apply below_drew)⟩

theorem made_15 (A1 : Option Addr) (c1 : Nat) (ls : List Int) (mac : Int) (w : World) :
    Gives 15 (.slice A1 ls.length c1) mac w (.tuple #[.agg #[.int .i64 6, .int .i64 0, .int .i64 0, .int .i64 0, .int .i64 0, .int .u8 0, .int .u8 0, .int .u64 0], .bool true]) := by
  unfold Gives
  go_enter Tryd.func20, Tryd.ntmps20
  go_wp2
  exact bodyPost_ret (by simp [results, Tryd.results20, go_sem]) rfl ⟨rfl, by repeat (first | exact Below.refl _ _ | apply below_alloc | apply below_drew)⟩

/-- What 'made' answers. -/
def weirgateref22_made.f (a0 : Int) (l1 : List Int) (a2 : Int) : Option (Int × Int × Int × Int × Int × Int × Int × Int × Bool) :=
  if a0 = 0 then (match l1 with | n0 :: _ => some (1, 1, 0, n0, 0, 0, 0, 0, true) | _ => none) else
  if a0 = 1 then (match l1 with | n0 :: _ => some (1, 2, 0, n0, 0, 0, 0, 0, true) | _ => none) else
  if a0 = 2 then (match l1 with | n0 :: _ => some (1, 3, 0, n0, 0, 0, 0, 0, true) | _ => none) else
  if a0 = 3 then (match l1 with | n0 :: _ => some (1, 4, n0, 1, 0, 0, 0, 0, decide (n0 ≤ 255)) | _ => none) else
  if a0 = 4 then (match l1 with | n0 :: _ => some (1, 4, n0, 0, 0, 0, 0, 0, decide (n0 ≤ 255)) | _ => none) else
  if a0 = 5 then (match l1 with | n0 :: n1 :: _ => some (1, 5, n0, n1, 0, 0, 0, 0, decide (n0 ≤ 255)) | _ => none) else
  if a0 = 6 then (match l1 with | n0 :: n1 :: _ => some (1, 6, n0, n1, 0, 0, 0, 0, decide (n0 ≤ 255)) | _ => none) else
  if a0 = 7 then (match l1 with | n0 :: n1 :: n2 :: _ => if 0 ≤ n1 ∧ 0 ≤ n2 then (if n1 ≤ 255 then (if n2 ≤ 255 then some (1, 7, 0, 0, n0, n1, n2, 0, decide (n0 ≤ 65535)) else some (0, 0, 0, 0, 0, 0, 0, 0, false)) else some (0, 0, 0, 0, 0, 0, 0, 0, false)) else none | _ => none) else
  if a0 = 8 then (match l1 with | n0 :: _ => some (1, 8, 0, 0, n0, 0, 0, 0, decide (n0 ≤ 65535)) | _ => none) else
  if a0 = 9 then (match l1 with | n0 :: n1 :: _ => some (1, 9, n1, 0, n0, 0, 0, a2, decide (n1 ≤ 255) && decide (n0 ≤ 65535)) | _ => none) else
  if a0 = 10 then (match l1 with | n0 :: _ => some (1, 10, 0, 0, n0, 0, 0, a2, decide (n0 ≤ 65535)) | _ => none) else
  if a0 = 11 then some (2, 0, 0, 0, 0, 0, 0, 0, true) else
  if a0 = 12 then some (3, 0, 0, 0, 0, 0, 0, 0, true) else
  if a0 = 13 then some (4, 0, 0, 0, 0, 0, 0, 0, true) else
  if a0 = 14 then some (5, 0, 0, 0, 0, 0, 0, 0, true) else
  if a0 = 15 then some (6, 0, 0, 0, 0, 0, 0, 0, true) else
  none

theorem C_intsM {w : World} {A : Option Addr} {xs : List Int} {k : IntKind} (h : Kd.C (Kd.int k) w A xs.length xs) (hp : 0 < xs.length) :
    ∃ bk o, A = some ⟨bk, o, none⟩ ∧ bk < w.heap.size ∧ ∀ (j : Nat) x, xs[j]? = some x → w.cell? ⟨bk, o + j, none⟩ = some (.int k x) := by
  obtain ⟨ad, rfl, hc⟩ := h.2.2 hp
  have cellAt : ∀ (j : Nat) x, xs[j]? = some x → w.cell? (ad.add j) = some (.int k x) := by
    intro j x hx
    obtain ⟨c, h1, h2, h3⟩ := hc j x hx
    have h2' : c = [Value.int k x] := h2
    subst h2'
    have := h3 0 (.int k x) rfl
    simpa [Kd.int, Kd.scalar] using this
  obtain ⟨b, o, sp⟩ := ad
  have h0 := cellAt 0 _ (List.getElem?_eq_getElem hp)
  have hs : sp = none := by
    cases sp with
    | none => rfl
    | some s =>
      simp only [Addr.add, if_true, World.cell?] at h0
      split at h0 <;> simp at h0
  subst hs
  refine ⟨b, o, rfl, ?_, fun j x hx => ?_⟩
  · have := World.block_lt_of_cell? w _ h0
    simpa [Addr.add] using this
  · have := cellAt j x hx
    rwa [show (⟨b, o, none⟩ : Addr).add j = ⟨b, o + j, none⟩ by unfold Addr.add; split <;> simp_all] at this

theorem weirgateref22_made.calls (a0 : Int) (A1 : Option Addr) (c1 : Nat) (l1 : List Int) (a2 : Int) (r1 : Int) (r2 : Int) (r3 : Int) (r4 : Int) (r5 : Int) (r6 : Int) (r7 : Int) (r8 : Int) (r9 : Bool) (w : World) (hr1 : Kd.C (Kd.int .i64) w A1 l1.length l1) (hc1 : l1.length ≤ c1) (hL : Laid w) (h : weirgateref22_made.f a0 l1 a2 = some (r1, r2, r3, r4, r5, r6, r7, r8, r9)) :
    Calls Tryd.prog 20 #[.int .i64 a0, .slice A1 l1.length c1, .int .u64 a2] w fun e w' => e = .returned (.tuple #[.agg #[.int .i64 r1, .int .i64 r2, .int .i64 r3, .int .i64 r4, .int .i64 r5, .int .u8 r6, .int .u8 r7, .int .u64 r8], .bool r9]) ∧ Below w.heap.size w w' := by
  unfold weirgateref22_made.f at h
  by_cases hk : a0 = 0
  · rw [if_pos hk] at h
    subst hk
    rcases l1 with _ | ⟨n0, t⟩
    · exact absurd h (by simp)
    obtain ⟨b, o, rfl, hlt, hc⟩ := C_intsM hr1 (by simp)
    have hb0 := hc 0 n0 rfl
    rw [Nat.add_zero] at hb0
    have l0 : 0 < (n0 :: t).length := by simp
    simp only [Option.some.injEq, Prod.mk.injEq] at h
    obtain ⟨rfl, rfl, rfl, rfl, rfl, rfl, rfl, rfl, rfl⟩ := h
    exact made_0 n0 c1 (n0 :: t) b o a2 w hb0 l0 hlt
  rw [if_neg hk] at h
  clear hk
  by_cases hk : a0 = 1
  · rw [if_pos hk] at h
    subst hk
    rcases l1 with _ | ⟨n0, t⟩
    · exact absurd h (by simp)
    obtain ⟨b, o, rfl, hlt, hc⟩ := C_intsM hr1 (by simp)
    have hb0 := hc 0 n0 rfl
    rw [Nat.add_zero] at hb0
    have l0 : 0 < (n0 :: t).length := by simp
    simp only [Option.some.injEq, Prod.mk.injEq] at h
    obtain ⟨rfl, rfl, rfl, rfl, rfl, rfl, rfl, rfl, rfl⟩ := h
    exact made_1 n0 c1 (n0 :: t) b o a2 w hb0 l0 hlt
  rw [if_neg hk] at h
  clear hk
  by_cases hk : a0 = 2
  · rw [if_pos hk] at h
    subst hk
    rcases l1 with _ | ⟨n0, t⟩
    · exact absurd h (by simp)
    obtain ⟨b, o, rfl, hlt, hc⟩ := C_intsM hr1 (by simp)
    have hb0 := hc 0 n0 rfl
    rw [Nat.add_zero] at hb0
    have l0 : 0 < (n0 :: t).length := by simp
    simp only [Option.some.injEq, Prod.mk.injEq] at h
    obtain ⟨rfl, rfl, rfl, rfl, rfl, rfl, rfl, rfl, rfl⟩ := h
    exact made_2 n0 c1 (n0 :: t) b o a2 w hb0 l0 hlt
  rw [if_neg hk] at h
  clear hk
  by_cases hk : a0 = 3
  · rw [if_pos hk] at h
    subst hk
    rcases l1 with _ | ⟨n0, t⟩
    · exact absurd h (by simp)
    obtain ⟨b, o, rfl, hlt, hc⟩ := C_intsM hr1 (by simp)
    have hb0 := hc 0 n0 rfl
    rw [Nat.add_zero] at hb0
    have l0 : 0 < (n0 :: t).length := by simp
    simp only [Option.some.injEq, Prod.mk.injEq] at h
    obtain ⟨rfl, rfl, rfl, rfl, rfl, rfl, rfl, rfl, rfl⟩ := h
    by_cases h1 : n0 ≤ 255
    · rw [decide_eq_true h1]; exact made_3_y n0 c1 (n0 :: t) b o a2 w hb0 l0 hlt h1
    · rw [decide_eq_false h1]; exact made_3_n n0 c1 (n0 :: t) b o a2 w hb0 l0 hlt h1
  rw [if_neg hk] at h
  clear hk
  by_cases hk : a0 = 4
  · rw [if_pos hk] at h
    subst hk
    rcases l1 with _ | ⟨n0, t⟩
    · exact absurd h (by simp)
    obtain ⟨b, o, rfl, hlt, hc⟩ := C_intsM hr1 (by simp)
    have hb0 := hc 0 n0 rfl
    rw [Nat.add_zero] at hb0
    have l0 : 0 < (n0 :: t).length := by simp
    simp only [Option.some.injEq, Prod.mk.injEq] at h
    obtain ⟨rfl, rfl, rfl, rfl, rfl, rfl, rfl, rfl, rfl⟩ := h
    by_cases h1 : n0 ≤ 255
    · rw [decide_eq_true h1]; exact made_4_y n0 c1 (n0 :: t) b o a2 w hb0 l0 hlt h1
    · rw [decide_eq_false h1]; exact made_4_n n0 c1 (n0 :: t) b o a2 w hb0 l0 hlt h1
  rw [if_neg hk] at h
  clear hk
  by_cases hk : a0 = 5
  · rw [if_pos hk] at h
    subst hk
    rcases l1 with _ | ⟨n0, _ | ⟨n1, t⟩⟩
    · exact absurd h (by simp)
    · exact absurd h (by simp)
    obtain ⟨b, o, rfl, hlt, hc⟩ := C_intsM hr1 (by simp)
    have hb0 := hc 0 n0 rfl
    have hb1 := hc 1 n1 rfl
    rw [Nat.add_zero] at hb0
    have l0 : 0 < (n0 :: n1 :: t).length := by simp
    have l1 : 1 < (n0 :: n1 :: t).length := by simp
    simp only [Option.some.injEq, Prod.mk.injEq] at h
    obtain ⟨rfl, rfl, rfl, rfl, rfl, rfl, rfl, rfl, rfl⟩ := h
    by_cases h1 : n0 ≤ 255
    · rw [decide_eq_true h1]; exact made_5_y n0 n1 c1 (n0 :: n1 :: t) b o a2 w hb0 l0 hb1 l1 hlt h1
    · rw [decide_eq_false h1]; exact made_5_n n0 n1 c1 (n0 :: n1 :: t) b o a2 w hb0 l0 hb1 l1 hlt h1
  rw [if_neg hk] at h
  clear hk
  by_cases hk : a0 = 6
  · rw [if_pos hk] at h
    subst hk
    rcases l1 with _ | ⟨n0, _ | ⟨n1, t⟩⟩
    · exact absurd h (by simp)
    · exact absurd h (by simp)
    obtain ⟨b, o, rfl, hlt, hc⟩ := C_intsM hr1 (by simp)
    have hb0 := hc 0 n0 rfl
    have hb1 := hc 1 n1 rfl
    rw [Nat.add_zero] at hb0
    have l0 : 0 < (n0 :: n1 :: t).length := by simp
    have l1 : 1 < (n0 :: n1 :: t).length := by simp
    simp only [Option.some.injEq, Prod.mk.injEq] at h
    obtain ⟨rfl, rfl, rfl, rfl, rfl, rfl, rfl, rfl, rfl⟩ := h
    by_cases h1 : n0 ≤ 255
    · rw [decide_eq_true h1]; exact made_6_y n0 n1 c1 (n0 :: n1 :: t) b o a2 w hb0 l0 hb1 l1 hlt h1
    · rw [decide_eq_false h1]; exact made_6_n n0 n1 c1 (n0 :: n1 :: t) b o a2 w hb0 l0 hb1 l1 hlt h1
  rw [if_neg hk] at h
  clear hk
  by_cases hk : a0 = 7
  · rw [if_pos hk] at h
    subst hk
    rcases l1 with _ | ⟨n0, _ | ⟨n1, _ | ⟨n2, t⟩⟩⟩
    · exact absurd h (by simp)
    · exact absurd h (by simp)
    · exact absurd h (by simp)
    obtain ⟨b, o, rfl, hlt, hc⟩ := C_intsM hr1 (by simp)
    have hb0 := hc 0 n0 rfl
    have hb1 := hc 1 n1 rfl
    have hb2 := hc 2 n2 rfl
    rw [Nat.add_zero] at hb0
    have l0 : 0 < (n0 :: n1 :: n2 :: t).length := by simp
    have l1 : 1 < (n0 :: n1 :: n2 :: t).length := by simp
    have l2 : 2 < (n0 :: n1 :: n2 :: t).length := by simp
    simp only at h
    by_cases hp : 0 ≤ n1 ∧ 0 ≤ n2
    · rw [if_pos hp] at h
      by_cases g1 : n1 ≤ 255
      · rw [if_pos g1] at h
        by_cases g2 : n2 ≤ 255
        · rw [if_pos g2] at h
          simp only [Option.some.injEq, Prod.mk.injEq] at h
          obtain ⟨rfl, rfl, rfl, rfl, rfl, rfl, rfl, rfl, rfl⟩ := h
          by_cases h1 : n0 ≤ 65535
          · rw [decide_eq_true h1]; exact made_7_y n0 n1 n2 c1 (n0 :: n1 :: n2 :: t) b o a2 w hb0 l0 hb1 l1 hb2 l2 hlt hp.1 hp.2 g1 g2 h1
          · rw [decide_eq_false h1]; exact made_7_n n0 n1 n2 c1 (n0 :: n1 :: n2 :: t) b o a2 w hb0 l0 hb1 l1 hb2 l2 hlt hp.1 hp.2 g1 g2 h1
        · rw [if_neg g2] at h
          simp only [Option.some.injEq, Prod.mk.injEq] at h
          obtain ⟨rfl, rfl, rfl, rfl, rfl, rfl, rfl, rfl, rfl⟩ := h
          exact made_7_b n0 n1 n2 c1 (n0 :: n1 :: n2 :: t) b o a2 w hb0 l0 hb1 l1 hb2 l2 hlt g1 g2
      · rw [if_neg g1] at h
        simp only [Option.some.injEq, Prod.mk.injEq] at h
        obtain ⟨rfl, rfl, rfl, rfl, rfl, rfl, rfl, rfl, rfl⟩ := h
        exact made_7_a n0 n1 n2 c1 (n0 :: n1 :: n2 :: t) b o a2 w hb0 l0 hb1 l1 hb2 l2 hlt g1
    · rw [if_neg hp] at h
      cases h
  rw [if_neg hk] at h
  clear hk
  by_cases hk : a0 = 8
  · rw [if_pos hk] at h
    subst hk
    rcases l1 with _ | ⟨n0, t⟩
    · exact absurd h (by simp)
    obtain ⟨b, o, rfl, hlt, hc⟩ := C_intsM hr1 (by simp)
    have hb0 := hc 0 n0 rfl
    rw [Nat.add_zero] at hb0
    have l0 : 0 < (n0 :: t).length := by simp
    simp only [Option.some.injEq, Prod.mk.injEq] at h
    obtain ⟨rfl, rfl, rfl, rfl, rfl, rfl, rfl, rfl, rfl⟩ := h
    by_cases h1 : n0 ≤ 65535
    · rw [decide_eq_true h1]; exact made_8_y n0 c1 (n0 :: t) b o a2 w hb0 l0 hlt h1
    · rw [decide_eq_false h1]; exact made_8_n n0 c1 (n0 :: t) b o a2 w hb0 l0 hlt h1
  rw [if_neg hk] at h
  clear hk
  by_cases hk : a0 = 9
  · rw [if_pos hk] at h
    subst hk
    rcases l1 with _ | ⟨n0, _ | ⟨n1, t⟩⟩
    · exact absurd h (by simp)
    · exact absurd h (by simp)
    obtain ⟨b, o, rfl, hlt, hc⟩ := C_intsM hr1 (by simp)
    have hb0 := hc 0 n0 rfl
    have hb1 := hc 1 n1 rfl
    rw [Nat.add_zero] at hb0
    have l0 : 0 < (n0 :: n1 :: t).length := by simp
    have l1 : 1 < (n0 :: n1 :: t).length := by simp
    simp only [Option.some.injEq, Prod.mk.injEq] at h
    obtain ⟨rfl, rfl, rfl, rfl, rfl, rfl, rfl, rfl, rfl⟩ := h
    by_cases h1 : n1 ≤ 255
    · rw [decide_eq_true h1, Bool.true_and]
      by_cases h2 : n0 ≤ 65535
      · rw [decide_eq_true h2]; exact made_9_yy n0 n1 c1 (n0 :: n1 :: t) b o a2 w hb0 l0 hb1 l1 hlt h1 h2
      · rw [decide_eq_false h2]; exact made_9_yn n0 n1 c1 (n0 :: n1 :: t) b o a2 w hb0 l0 hb1 l1 hlt h1 h2
    · rw [decide_eq_false h1, Bool.false_and]; exact made_9_n n0 n1 c1 (n0 :: n1 :: t) b o a2 w hb0 l0 hb1 l1 hlt h1
  rw [if_neg hk] at h
  clear hk
  by_cases hk : a0 = 10
  · rw [if_pos hk] at h
    subst hk
    rcases l1 with _ | ⟨n0, t⟩
    · exact absurd h (by simp)
    obtain ⟨b, o, rfl, hlt, hc⟩ := C_intsM hr1 (by simp)
    have hb0 := hc 0 n0 rfl
    rw [Nat.add_zero] at hb0
    have l0 : 0 < (n0 :: t).length := by simp
    simp only [Option.some.injEq, Prod.mk.injEq] at h
    obtain ⟨rfl, rfl, rfl, rfl, rfl, rfl, rfl, rfl, rfl⟩ := h
    by_cases h1 : n0 ≤ 65535
    · rw [decide_eq_true h1]; exact made_10_y n0 c1 (n0 :: t) b o a2 w hb0 l0 hlt h1
    · rw [decide_eq_false h1]; exact made_10_n n0 c1 (n0 :: t) b o a2 w hb0 l0 hlt h1
  rw [if_neg hk] at h
  clear hk
  by_cases hk : a0 = 11
  · rw [if_pos hk] at h
    subst hk
    simp only [Option.some.injEq, Prod.mk.injEq] at h
    obtain ⟨rfl, rfl, rfl, rfl, rfl, rfl, rfl, rfl, rfl⟩ := h
    exact made_11 A1 c1 l1 a2 w
  rw [if_neg hk] at h
  clear hk
  by_cases hk : a0 = 12
  · rw [if_pos hk] at h
    subst hk
    simp only [Option.some.injEq, Prod.mk.injEq] at h
    obtain ⟨rfl, rfl, rfl, rfl, rfl, rfl, rfl, rfl, rfl⟩ := h
    exact made_12 A1 c1 l1 a2 w
  rw [if_neg hk] at h
  clear hk
  by_cases hk : a0 = 13
  · rw [if_pos hk] at h
    subst hk
    simp only [Option.some.injEq, Prod.mk.injEq] at h
    obtain ⟨rfl, rfl, rfl, rfl, rfl, rfl, rfl, rfl, rfl⟩ := h
    exact made_13 A1 c1 l1 a2 w
  rw [if_neg hk] at h
  clear hk
  by_cases hk : a0 = 14
  · rw [if_pos hk] at h
    subst hk
    simp only [Option.some.injEq, Prod.mk.injEq] at h
    obtain ⟨rfl, rfl, rfl, rfl, rfl, rfl, rfl, rfl, rfl⟩ := h
    exact made_14 A1 c1 l1 a2 w
  rw [if_neg hk] at h
  clear hk
  by_cases hk : a0 = 15
  · rw [if_pos hk] at h
    subst hk
    simp only [Option.some.injEq, Prod.mk.injEq] at h
    obtain ⟨rfl, rfl, rfl, rfl, rfl, rfl, rfl, rfl, rfl⟩ := h
    exact made_15 A1 c1 l1 a2 w
  rw [if_neg hk] at h
  clear hk
  cases h

end Go.Proofs.YtagnoecfdefmjaaDoor
