-- WRITTEN BY A PROGRAM OF THIS CLAIM'S SESSION (xprint.py, over the kit's print): functions, contracts. Lean checks it.
import Derived.Test.YtjamaamkmfdnaaaDoorXx0
import Derived.Test.YtjamaamkmfdnaaaDoorXx4
namespace Go.Proofs.YtjamaamkmfdnaaaDoor.X
open Go.RowKit Go.Proofs.YtjamaamkmfdnaaaDoorW.PrintWords Go.Proofs.YtjamaamkmfdnaaaDoorW.PrintLast Go.Proofs.YtjamaamkmfdnaaaDoorW.PrintMore
attribute [local go_sem] max2_int min2_int max_two min_two max_three min_three max_four min_four   -- for this text's walks alone
set_option linter.unusedVariables false
set_option linter.unusedSimpArgs false

/-! ### show_Config: function 15 -/
mutual
def show_Config.l0 : Nat → List (S65) → List (S61) → Int → Int → Int → Int → Int → List (S63) → List (S61) → List (S68) → Option (List ByteArray)
  | 0, _, _, _, _, _, _, _, _, _, _ => none
  | k + 1, x3, x22, x23, x24, x205000, x205001, x205002, x205003, x205004, x205005 => if x24 < x23 then (if 0 ≤ x24 then (if x24 < (x22.length : Int) then (if x3.length < 2932031007402 then (show_Config.l0 k (x3 ++ [(⟨7, 0, 0, (rd_T61 x22 x24).f0, (rd_T61 x22 x24).f1, (rd_T61 x22 x24).f2, 0⟩ : S65)]) x22 x23 (wrap64 (x24 + 1)) x205000 x205001 x205002 x205003 x205004 x205005) else (none)) else (none)) else (none)) else (show_Config.l1 k x3 x205003 (x205003.length : Int) 0 x205000 x205001 x205002 x205003 x205004 x205005)
def show_Config.l1 : Nat → List (S65) → List (S63) → Int → Int → Int → Int → Int → List (S63) → List (S61) → List (S68) → Option (List ByteArray)
  | 0, _, _, _, _, _, _, _, _, _, _ => none
  | k + 1, x3, x40, x41, x42, x205000, x205001, x205002, x205003, x205004, x205005 => if x42 < x41 then (if 0 ≤ x42 then (if x42 < (x40.length : Int) then (if (rd_T63 x40 x42).f0 = true then ((some (([(⟨4, x42, 1, 0, 0, 0, 0⟩ : S65), (⟨5, x42, wrap64 ((rd_T63 x40 x42).f1), 0, 0, 0, 0⟩ : S65), (⟨6, x42, (rd_T63 x40 x42).f2, 0, 0, 0, 0⟩ : S65)] : List (S65)) : List (S65))).bind fun y215 => (if x3.length + y215.length < 2932031007402 then (show_Config.l1 k (x3 ++ y215) x40 x41 (wrap64 (x42 + 1)) x205000 x205001 x205002 x205003 x205004 x205005) else (none))) else ((some (([(⟨4, x42, 0, 0, 0, 0, 0⟩ : S65), (⟨5, x42, wrap64 ((rd_T63 x40 x42).f1), 0, 0, 0, 0⟩ : S65), (⟨6, x42, (rd_T63 x40 x42).f2, 0, 0, 0, 0⟩ : S65)] : List (S65)) : List (S65))).bind fun y221 => (if x3.length + y221.length < 2932031007402 then (show_Config.l1 k (x3 ++ y221) x40 x41 (wrap64 (x42 + 1)) x205000 x205001 x205002 x205003 x205004 x205005) else (none)))) else (none)) else (none)) else (show_Config.l2 k x3 x205005 (x205005.length : Int) 0)
def show_Config.l2 : Nat → List (S65) → List (S68) → Int → Int → Option (List ByteArray)
  | 0, _, _, _, _ => none
  | k + 1, x3, x66, x67, x68 => if x68 < x67 then (if 0 ≤ x68 then (if x68 < (x66.length : Int) then (if x3.length < 2932031007402 then (show_Config.l2 k (x3 ++ [(⟨9, (rd_T68 x66 x68).f2, 0, (rd_T68 x66 x68).f1, 0, 0, (rd_T68 x66 x68).f0⟩ : S65)]) x66 x67 (wrap64 (x68 + 1))) else (none)) else (none)) else (none)) else ((show_lines.f k x3).bind fun t232 => (some t232))
end
def show_Config.f (k : Nat) (a0_0 : Int) (a0_1 : Int) (a0_2 : Int) (l0_3 : List (S63)) (l0_4 : List (S61)) (l0_5 : List (S68)) : Option (List ByteArray) := show_Config.l0 k (([(⟨1, 0, a0_0, 0, 0, 0, 0⟩ : S65), (⟨2, 0, a0_1, 0, 0, 0, 0⟩ : S65), (⟨3, 0, a0_2, 0, 0, 0, 0⟩ : S65)] : List (S65))) l0_4 (l0_4.length : Int) 0 a0_0 a0_1 a0_2 l0_3 l0_4 l0_5
theorem show_Config.mono_l : ∀ k, (∀ y0 y1 y2 y3 y4 y5 y6 y7 y8 y9, LeO (show_Config.l0 k y0 y1 y2 y3 y4 y5 y6 y7 y8 y9) (show_Config.l0 (k + 1) y0 y1 y2 y3 y4 y5 y6 y7 y8 y9)) ∧ (∀ y0 y1 y2 y3 y4 y5 y6 y7 y8 y9, LeO (show_Config.l1 k y0 y1 y2 y3 y4 y5 y6 y7 y8 y9) (show_Config.l1 (k + 1) y0 y1 y2 y3 y4 y5 y6 y7 y8 y9)) ∧ (∀ y0 y1 y2 y3, LeO (show_Config.l2 k y0 y1 y2 y3) (show_Config.l2 (k + 1) y0 y1 y2 y3))
  | 0 => ⟨fun _ _ _ _ _ _ _ _ _ _ r h => by simp [show_Config.l0] at h, fun _ _ _ _ _ _ _ _ _ _ r h => by simp [show_Config.l1] at h, fun _ _ _ _ r h => by simp [show_Config.l2] at h⟩
  | k + 1 => by
    obtain ⟨ih0, ih1, ih2⟩ := show_Config.mono_l k
    refine ⟨?_, ?_, ?_⟩
    · intro y0 y1 y2 y3 y4 y5 y6 y7 y8 y9
      unfold show_Config.l0
      repeat' first
      | (with_reducible exact ih0 _ _ _ _ _ _ _ _ _ _)
      | (with_reducible exact ih1 _ _ _ _ _ _ _ _ _ _)
      | (with_reducible exact ih2 _ _ _ _)
      | (with_reducible exact show_lines.mono _ _)
      | (with_reducible exact LeO.refl _)
      | (with_reducible exact LeO.none _)
      | (with_reducible refine LeO.ite ?_ ?_)
      | (with_reducible refine LeO.bind ?_ (fun _ => ?_))
      | exact ih0 _ _ _ _ _ _ _ _ _ _
      | exact ih1 _ _ _ _ _ _ _ _ _ _
      | exact ih2 _ _ _ _
      | exact show_lines.mono _ _
      | exact LeO.none _
      | refine LeO.ite ?_ ?_
      | refine LeO.bind ?_ (fun _ => ?_)
    · intro y0 y1 y2 y3 y4 y5 y6 y7 y8 y9
      unfold show_Config.l1
      repeat' first
      | (with_reducible exact ih0 _ _ _ _ _ _ _ _ _ _)
      | (with_reducible exact ih1 _ _ _ _ _ _ _ _ _ _)
      | (with_reducible exact ih2 _ _ _ _)
      | (with_reducible exact show_lines.mono _ _)
      | (with_reducible exact LeO.refl _)
      | (with_reducible exact LeO.none _)
      | (with_reducible refine LeO.ite ?_ ?_)
      | (with_reducible refine LeO.bind ?_ (fun _ => ?_))
      | exact ih0 _ _ _ _ _ _ _ _ _ _
      | exact ih1 _ _ _ _ _ _ _ _ _ _
      | exact ih2 _ _ _ _
      | exact show_lines.mono _ _
      | exact LeO.none _
      | refine LeO.ite ?_ ?_
      | refine LeO.bind ?_ (fun _ => ?_)
    · intro y0 y1 y2 y3
      unfold show_Config.l2
      repeat' first
      | (with_reducible exact ih0 _ _ _ _ _ _ _ _ _ _)
      | (with_reducible exact ih1 _ _ _ _ _ _ _ _ _ _)
      | (with_reducible exact ih2 _ _ _ _)
      | (with_reducible exact show_lines.mono _ _)
      | (with_reducible exact LeO.refl _)
      | (with_reducible exact LeO.none _)
      | (with_reducible refine LeO.ite ?_ ?_)
      | (with_reducible refine LeO.bind ?_ (fun _ => ?_))
      | exact ih0 _ _ _ _ _ _ _ _ _ _
      | exact ih1 _ _ _ _ _ _ _ _ _ _
      | exact ih2 _ _ _ _
      | exact show_lines.mono _ _
      | exact LeO.none _
      | refine LeO.ite ?_ ?_
      | refine LeO.bind ?_ (fun _ => ?_)
theorem show_Config.mono : ∀ a0 a1 a2 a3 a4 a5 k, LeO (show_Config.f k a0 a1 a2 a3 a4 a5) (show_Config.f (k + 1) a0 a1 a2 a3 a4 a5) := by
  intro a0 a1 a2 a3 a4 a5 k
  obtain ⟨ih0, ih1, ih2⟩ := show_Config.mono_l k
  unfold show_Config.f
  repeat' first
      | (with_reducible exact ih0 _ _ _ _ _ _ _ _ _ _)
      | (with_reducible exact ih1 _ _ _ _ _ _ _ _ _ _)
      | (with_reducible exact ih2 _ _ _ _)
      | (with_reducible exact show_lines.mono _ _)
      | (with_reducible exact LeO.refl _)
      | (with_reducible exact LeO.none _)
      | (with_reducible refine LeO.ite ?_ ?_)
      | (with_reducible refine LeO.bind ?_ (fun _ => ?_))
      | exact ih0 _ _ _ _ _ _ _ _ _ _
      | exact ih1 _ _ _ _ _ _ _ _ _ _
      | exact ih2 _ _ _ _
      | exact show_lines.mono _ _
      | exact LeO.none _
      | refine LeO.ite ?_ ?_
      | refine LeO.bind ?_ (fun _ => ?_)
set_option maxHeartbeats 8000000 in
set_option maxRecDepth 100000 in
theorem show_Config.calls (k : Nat) (a0_0 : Int) (a0_1 : Int) (a0_2 : Int) (A0_3 : Option Addr) (c0_3 : Nat) (l0_3 : List (S63)) (A0_4 : Option Addr) (c0_4 : Nat) (l0_4 : List (S61)) (A0_5 : Option Addr) (c0_5 : Nat) (l0_5 : List (S68)) (r : List ByteArray) (w : World) (hr0_3 : Kd.C k63 w A0_3 l0_3.length l0_3) (hc0_3 : l0_3.length ≤ c0_3) (hr0_4 : Kd.C k61 w A0_4 l0_4.length l0_4) (hc0_4 : l0_4.length ≤ c0_4) (hr0_5 : Kd.C k68 w A0_5 l0_5.length l0_5) (hc0_5 : l0_5.length ≤ c0_5) (hL : Laid w) (h : show_Config.f k a0_0 a0_1 a0_2 l0_3 l0_4 l0_5 = some r) :
    Calls Tryd.prog 15 #[.agg #[.int .i64 a0_0, .int .i64 a0_1, .int .i64 a0_2, .slice A0_3 l0_3.length c0_3, .slice A0_4 l0_4.length c0_4, .slice A0_5 l0_5.length c0_5]] w fun e w' => ∃ v0_ : Value, e = .returned (v0_) ∧ Kd.R Kd.string 9 w' w.heap.size (fun _ => True) v0_ r ∧ Below w.heap.size w w' := by
  have hu46 := Tryd.underlying46
  have hu65 := Tryd.underlying65
  have hu61 := Tryd.underlying61
  have hu63 := Tryd.underlying63
  have hu68 := Tryd.underlying68
  have HR0_3 := Aside0.mk hr0_3
  have HC0_3 := Aside0.mk hc0_3
  clear hr0_3 hc0_3
  have HR0_4 := Aside0.mk hr0_4
  have HC0_4 := Aside0.mk hc0_4
  clear hr0_4 hc0_4
  have HR0_5 := Aside0.mk hr0_5
  have HC0_5 := Aside0.mk hc0_5
  clear hr0_5 hc0_5
  have HB := Aside0.mk (Below.refl w.heap.size w)
  have H : (show_Config.l0 k (([(⟨1, 0, a0_0, 0, 0, 0, 0⟩ : S65), (⟨2, 0, a0_1, 0, 0, 0, 0⟩ : S65), (⟨3, 0, a0_2, 0, 0, 0, 0⟩ : S65)] : List (S65))) l0_4 (l0_4.length : Int) 0 a0_0 a0_1 a0_2 l0_3 l0_4 l0_5) = some r := h
  clear h
  obtain ⟨y205, hy205⟩ : ∃ y_ : List (S65), y_ = (([(⟨1, 0, a0_0, 0, 0, 0, 0⟩ : S65), (⟨2, 0, a0_1, 0, 0, 0, 0⟩ : S65), (⟨3, 0, a0_2, 0, 0, 0, 0⟩ : S65)] : List (S65))) := ⟨_, rfl⟩
  replace H : (show_Config.l0 k y205 l0_4 (l0_4.length : Int) 0 a0_0 a0_1 a0_2 l0_3 l0_4 l0_5) = some r := by first | (rw [hy205]; with_reducible exact H) | (have H2_ := (Option.bind_some _ _).symm.trans H; rw [hy205]; with_reducible exact H2_) | (have H2_ := (Option.bind_some _ _).symm.trans H; with_reducible exact H2_) | with_reducible exact H | (rw [hy205]; exact H) | exact H
  have Ny205 := Aside0.mk hy205
  clear hy205
  have H' := Aside0.mk H
  clear H
  go_enter Tryd.func15, Tryd.ntmps15
  go_wp2_with (first | ((with_reducible refine gate_dst (N := 1) rfl ?_); refine box_event ?hg (N := 1) ?hd (cs := #[.int .i64 a0_0, .int .i64 a0_1, .int .i64 a0_2, .slice A0_3 l0_3.length c0_3, .slice A0_4 l0_4.length c0_4, .slice A0_5 l0_5.length c0_5]) (t := 46) ?hr ?_; (case hd => rfl); (case hg => rfl); (case hr => first | (go_simp; done) | (go_simp; rfl)); intro gb204 hg w2 hbox hb; have n0_ := Aside0.mk (below_step (by repeat (first | (with_reducible first | exact HB.out | apply below_alloc | apply pw_below_drewN | apply below_drew1) | exact HB.out)) hb); have n1_ := Aside0.mk (hbox); have n2_ := Aside0.mk ((by rw [hg]; exact (below_size (by repeat (first | (with_reducible first | exact HB.out | apply below_alloc | apply pw_below_drewN | apply below_drew1) | exact HB.out))) : w.heap.size ≤ gb204)); have n3_ := Aside0.mk ((by rw [hg]; exact (below_size (by repeat (first | (with_reducible first | exact HB.out | apply below_alloc | apply pw_below_drewN | apply below_drew1) | exact HB.out))) : w.heap.size ≤ gb204)); clear HB; have HB := n0_; have BK204 := n1_; have GW204 := n2_; have GE204 := n3_; clear n0_ n1_ n2_ n3_; clear hb hbox hg; have hcz3_0 : w2.cell? ⟨gb204, 0, none⟩ = some (.int .i64 a0_0) := (blk_cell BK204.out 0).trans rfl; have hcz3_1 : w2.cell? ⟨gb204, 1, none⟩ = some (.int .i64 a0_1) := (blk_cell BK204.out 1).trans rfl; have hcz3_2 : w2.cell? ⟨gb204, 2, none⟩ = some (.int .i64 a0_2) := (blk_cell BK204.out 2).trans rfl; have hcz3_3 : w2.cell? ⟨gb204, 3, none⟩ = some (.slice A0_3 l0_3.length c0_3) := (blk_cell BK204.out 3).trans rfl; have hcz3_4 : w2.cell? ⟨gb204, 4, none⟩ = some (.slice A0_4 l0_4.length c0_4) := (blk_cell BK204.out 4).trans rfl; have hcz3_5 : w2.cell? ⟨gb204, 5, none⟩ = some (.slice A0_5 l0_5.length c0_5) := (blk_cell BK204.out 5).trans rfl; have hfz3_0 := blk_frozen BK204.out 0; have hfz3_1 := blk_frozen BK204.out 1; have hfz3_2 := blk_frozen BK204.out 2; have hfz3_3 := blk_frozen BK204.out 3; have hfz3_4 := blk_frozen BK204.out 4; have hfz3_5 := blk_frozen BK204.out 5) | ((with_reducible refine gate_dst (N := 20) rfl ?_); refine Kd.R_lit k65 _ 65 ?hg (N := 20) ?hd (xs := ([(⟨1, 0, a0_0, 0, 0, 0, 0⟩ : S65), (⟨2, 0, a0_1, 0, 0, 0, 0⟩ : S65), (⟨3, 0, a0_2, 0, 0, 0, 0⟩ : S65)] : List (S65))) (inner := [.int .i64 1, .int .i64 0, .int .i64 a0_0, .int .i64 0, .int .u8 0, .int .u8 0, .int .u64 0, .int .i64 2, .int .i64 0, .int .i64 a0_1, .int .i64 0, .int .u8 0, .int .u8 0, .int .u64 0, .int .i64 3, .int .i64 0, .int .i64 a0_2, .int .i64 0, .int .u8 0, .int .u8 0, .int .u64 0]) (ok := fun _ => True) (okp := fun _ => True) ?hr ?hp (fun _ hk => hk) trivial (Below.refl _ _) (Nat.le_refl _) (by simp) ?_; (case hd => rfl); (case hg => rfl); (case hr => first | (go_simp; done) | (go_simp; rfl)); (case hp => exact (Reps.c7 (show Kd.M k65 _ _ _ (⟨1, 0, a0_0, 0, 0, 0, 0⟩ : S65) [.int .i64 1, .int .i64 0, .int .i64 a0_0, .int .i64 0, .int .u8 0, .int .u8 0, .int .u64 0] from (k65_mkM _ _ _ (⟨1, 0, a0_0, 0, 0, 0, 0⟩ : S65) )) (Reps.c7 (show Kd.M k65 _ _ _ (⟨2, 0, a0_1, 0, 0, 0, 0⟩ : S65) [.int .i64 2, .int .i64 0, .int .i64 a0_1, .int .i64 0, .int .u8 0, .int .u8 0, .int .u64 0] from (k65_mkM _ _ _ (⟨2, 0, a0_1, 0, 0, 0, 0⟩ : S65) )) (Reps.c7 (show Kd.M k65 _ _ _ (⟨3, 0, a0_2, 0, 0, 0, 0⟩ : S65) [.int .i64 3, .int .i64 0, .int .i64 a0_2, .int .i64 0, .int .u8 0, .int .u8 0, .int .u64 0] from (k65_mkM _ _ _ (⟨3, 0, a0_2, 0, 0, 0, 0⟩ : S65) )) (Reps.none _ _))))); intro v206 w4 ho5 hb hg_ hnew_; clear hg_ hnew_; (first | rw [← Ny205.out] at ho5 | (simp only [Int.reduceToNat] at ho5; rw [← Ny205.out] at ho5)); have n0_ := Aside0.mk (Kd.R_lower ho5 (below_size (by repeat (first | (with_reducible first | exact HB.out | apply below_alloc | apply pw_below_drewN | apply below_drew1 | refine below_set ?_ GE204.out) | exact HB.out)))); have n1_ := Aside0.mk (blk_below (g := gb204) (o := .cells #[.int .i64 a0_0, .int .i64 a0_1, .int .i64 a0_2, .slice A0_3 l0_3.length c0_3, .slice A0_4 l0_4.length c0_4, .slice A0_5 l0_5.length c0_5] 46 (0, 0)) (by (with_reducible repeat (first | refine blk_drewN ?_ _ | refine blk_drew ?_ | refine blk_alloc ?_ _)); exact BK204.out) hb); have n2_ := Aside0.mk (below_step (by repeat (first | (with_reducible first | exact HB.out | apply below_alloc | apply pw_below_drewN | apply below_drew1 | refine below_set ?_ GE204.out) | exact HB.out)) hb); clear BK204; clear HB; have HO207 := n0_; have BK204 := n1_; have HB := n2_; clear n0_ n1_ n2_; clear hb ho5; have hcz6_0 : w4.cell? ⟨gb204, 0, none⟩ = some (.int .i64 a0_0) := (blk_cell BK204.out 0).trans rfl; have hcz6_1 : w4.cell? ⟨gb204, 1, none⟩ = some (.int .i64 a0_1) := (blk_cell BK204.out 1).trans rfl; have hcz6_2 : w4.cell? ⟨gb204, 2, none⟩ = some (.int .i64 a0_2) := (blk_cell BK204.out 2).trans rfl; have hcz6_3 : w4.cell? ⟨gb204, 3, none⟩ = some (.slice A0_3 l0_3.length c0_3) := (blk_cell BK204.out 3).trans rfl; have hcz6_4 : w4.cell? ⟨gb204, 4, none⟩ = some (.slice A0_4 l0_4.length c0_4) := (blk_cell BK204.out 4).trans rfl; have hcz6_5 : w4.cell? ⟨gb204, 5, none⟩ = some (.slice A0_5 l0_5.length c0_5) := (blk_cell BK204.out 5).trans rfl; have hfz6_0 := blk_frozen BK204.out 0; have hfz6_1 := blk_frozen BK204.out 1; have hfz6_2 := blk_frozen BK204.out 2; have hfz6_3 := blk_frozen BK204.out 3; have hfz6_4 := blk_frozen BK204.out 4; have hfz6_5 := blk_frozen BK204.out 5))
  go_loopg [3, 24] k (fun kq v3 v24 w' => ∃ (x3_1 : List (S65)) (x24_1 : Int), v24 = .int .i64 x24_1 ∧ Aside0 (show_Config.l0 kq x3_1 l0_4 (l0_4.length : Int) x24_1 a0_0 a0_1 a0_2 l0_3 l0_4 l0_5 = some r) ∧ Aside0 (kq ≤ k) ∧ Aside0 (Kd.R k65 65 w' w.heap.size (fun _ => True) v3 x3_1) ∧ Aside0 (w'.heap[gb204]? = some (.cells #[.int .i64 a0_0, .int .i64 a0_1, .int .i64 a0_2, (.slice A0_3 l0_3.length c0_3), (.slice A0_4 l0_4.length c0_4), (.slice A0_5 l0_5.length c0_5)] 46 (0, 0))) ∧ Aside0 (Below w.heap.size w w'))
  case atStart => exact ⟨(y205), (0), (by first | rfl | (simp; done) | (simp [*]; done)), H', ⟨Nat.le_refl _⟩, ⟨by (with_reducible repeat (first | apply Kd.R_alloc | apply Kd.R_drewN | apply Kd.R_drew)); exact HO207.out⟩, ⟨by (with_reducible repeat (first | refine blk_drewN ?_ _ | refine blk_drew ?_ | refine blk_alloc ?_ _)); exact BK204.out⟩, ⟨by repeat (first | (with_reducible first | exact HB.out | apply below_alloc | apply pw_below_drewN | apply below_drew1 | refine below_set ?_ GE204.out) | exact HB.out)⟩⟩
  case round =>
    clear H'
    try clear c1
    try clear p2
    try clear hcz3_0
    try clear hcz3_1
    try clear hcz3_2
    try clear hcz3_3
    try clear hcz3_4
    try clear hcz3_5
    try clear hcz6_0
    try clear hcz6_1
    try clear hcz6_2
    try clear hcz6_3
    try clear hcz6_4
    try clear hcz6_5
    try clear hfz3_0
    try clear hfz3_1
    try clear hfz3_2
    try clear hfz3_3
    try clear hfz3_4
    try clear hfz3_5
    try clear hfz6_0
    try clear hfz6_1
    try clear hfz6_2
    try clear hfz6_3
    try clear hfz6_4
    try clear hfz6_5
    obtain ⟨x3_1, x24_1, rfl, HA, HK1, HO_3, BK204, HB⟩ := hrel
    cases gk with
    | zero => exact absurd HA.out (by simp [show_Config.l0])
    | succ k1 =>
      have H := HA.out
      clear HA
      simp only [show_Config.l0] at H
      by_cases c7 : x24_1 < (l0_4.length : Int)
      · rw [if_pos c7] at H
        have c7b0 : decide (x24_1 < (l0_4.length : Int)) = true := decide_eq_true c7
        clear c7
        by_cases c8 : 0 ≤ x24_1
        · rw [if_pos c8] at H
          have c8b0 : decide (0 ≤ x24_1) = true := decide_eq_true c8
          clear c8
          by_cases c9 : x24_1 < (l0_4.length : Int)
          · rw [if_pos c9] at H
            have c9b0 : decide (x24_1 < (l0_4.length : Int)) = true := decide_eq_true c9
            clear c9
            by_cases c10 : x3_1.length < 2932031007402
            · rw [if_pos c10] at H
              have LMc10 := Aside0.mk c10
              clear c10
              obtain ⟨y210, hy210⟩ : ∃ y_ : List (S65), y_ = (x3_1 ++ [(⟨7, 0, 0, (rd_T61 l0_4 x24_1).f0, (rd_T61 l0_4 x24_1).f1, (rd_T61 l0_4 x24_1).f2, 0⟩ : S65)]) := ⟨_, rfl⟩
              replace H : (show_Config.l0 k1 y210 l0_4 (l0_4.length : Int) (wrap64 (x24_1 + 1)) a0_0 a0_1 a0_2 l0_3 l0_4 l0_5) = some r := by first | (rw [hy210]; with_reducible exact H) | (have H2_ := (Option.bind_some _ _).symm.trans H; rw [hy210]; with_reducible exact H2_) | (have H2_ := (Option.bind_some _ _).symm.trans H; with_reducible exact H2_) | with_reducible exact H | (rw [hy210]; exact H) | exact H
              have Ny210 := Aside0.mk hy210
              clear hy210
              have H' := Aside0.mk H
              clear H
              have p208 : 0 ≤ (x24_1 : Int) := of_decide_eq_true (by first | (with_reducible assumption) | assumption)
              have q208 : x24_1 < (l0_4.length : Int) := of_decide_eq_true (by first | (with_reducible assumption) | assumption)
              obtain ⟨ad208, e208, hx208_0, hx208_1, hx208_2⟩ := at_T61 HR0_4.out x24_1 p208 q208
              cases e208
              replace hx208_0 := (HB.out.cell (World.block_lt_of_cell? w _ hx208_0)).trans hx208_0
              replace hx208_1 := (HB.out.cell (World.block_lt_of_cell? w _ hx208_1)).trans hx208_1
              replace hx208_2 := (HB.out.cell (World.block_lt_of_cell? w _ hx208_2)).trans hx208_2
              replace p208 := eq_true p208
              replace q208 := eq_true q208
              go_wp2_with (first | ((with_reducible refine gate_dst (N := 5) rfl ?_); refine box_event ?hg (N := 5) ?hd (cs := #[.int .i64 0, .int .u8 0, .int .u8 0]) (t := 61) ?hr ?_; (case hd => rfl); (case hg => rfl); (case hr => first | (go_simp; done) | (go_simp; rfl)); intro gb209 hg w11 hbox hb; have n0_ := Aside0.mk (Kd.R_below (by (with_reducible repeat (first | apply Kd.R_alloc | apply Kd.R_drewN | apply Kd.R_drew)); exact HO_3.out) hb); have n1_ := Aside0.mk (blk_below (g := gb204) (o := .cells #[.int .i64 a0_0, .int .i64 a0_1, .int .i64 a0_2, .slice A0_3 l0_3.length c0_3, .slice (some ad208) l0_4.length c0_4, .slice A0_5 l0_5.length c0_5] 46 (0, 0)) (by (with_reducible repeat (first | refine blk_drewN ?_ _ | refine blk_drew ?_ | refine blk_alloc ?_ _)); exact BK204.out) hb); have n2_ := Aside0.mk (below_step (by repeat (first | (with_reducible first | exact HB.out | apply below_alloc | apply pw_below_drewN | apply below_drew1 | refine below_set ?_ GE204.out) | exact HB.out)) hb); have n3_ := Aside0.mk (hbox); have n4_ := Aside0.mk ((by rw [hg]; exact (below_size (by repeat (first | (with_reducible first | exact HB.out | apply below_alloc | apply pw_below_drewN | apply below_drew1 | refine below_set ?_ GE204.out) | exact HB.out))) : w.heap.size ≤ gb209)); have n5_ := Aside0.mk ((by rw [hg]; exact (below_size (by repeat (first | (with_reducible first | exact HB.out | apply below_alloc | apply pw_below_drewN | apply below_drew1 | refine below_set ?_ GE204.out) | exact HB.out))) : w.heap.size ≤ gb209)); have n6_ := Aside0.mk ((by rw [hg]; exact Nat.ne_of_lt (blk_lt (g := gb204) (o := .cells #[.int .i64 a0_0, .int .i64 a0_1, .int .i64 a0_2, .slice A0_3 l0_3.length c0_3, .slice (some ad208) l0_4.length c0_4, .slice A0_5 l0_5.length c0_5] 46 (0, 0)) (by (with_reducible repeat (first | refine blk_drewN ?_ _ | refine blk_drew ?_ | refine blk_alloc ?_ _)); exact BK204.out)) : gb204 ≠ gb209)); have n7_ := Aside0.mk ((by rw [hg]; exact Nat.ne_of_gt (blk_lt (g := gb204) (o := .cells #[.int .i64 a0_0, .int .i64 a0_1, .int .i64 a0_2, .slice A0_3 l0_3.length c0_3, .slice (some ad208) l0_4.length c0_4, .slice A0_5 l0_5.length c0_5] 46 (0, 0)) (by (with_reducible repeat (first | refine blk_drewN ?_ _ | refine blk_drew ?_ | refine blk_alloc ?_ _)); exact BK204.out)) : gb209 ≠ gb204)); clear HO_3; clear BK204; clear HB; have HO_3 := n0_; have BK204 := n1_; have HB := n2_; have BK209 := n3_; have GW209 := n4_; have GE209 := n5_; have NB204_209 := n6_; have NB209_204 := n7_; clear n0_ n1_ n2_ n3_ n4_ n5_ n6_ n7_; clear hb hbox hg; have hnb12 := NB209_204.out; have hnc12 := NB204_209.out; have hcz13_0 : w11.cell? ⟨gb209, 0, none⟩ = some (.int .i64 0) := (blk_cell BK209.out 0).trans rfl; have hcz13_1 : w11.cell? ⟨gb209, 1, none⟩ = some (.int .u8 0) := (blk_cell BK209.out 1).trans rfl; have hcz13_2 : w11.cell? ⟨gb209, 2, none⟩ = some (.int .u8 0) := (blk_cell BK209.out 2).trans rfl; have hfz13_0 := blk_frozen BK209.out 0; have hfz13_1 := blk_frozen BK209.out 1; have hfz13_2 := blk_frozen BK209.out 2) | ((with_reducible refine gate_builtin (b := .append) (xs := #[.tmp 28, .tmp 36]) rfl ?_); at_builtin; refine Kd.R_append k65 (w0 := w) w.heap.size rfl (.tmp 28) (.tmp 36) 66 65 (.agg #[(.int .i64 0), (.int .i64 0), (.int .i64 0), (.int .i64 0), (.int .u8 0), (.int .u8 0), (.int .u64 0)]) 48 rfl Tryd.underlying66 info65 rfl (by decide) (by omega) u3 x3_1 (⟨7, 0, 0, (rd_T61 l0_4 x24_1).f0, (rd_T61 l0_4 x24_1).f1, (rd_T61 l0_4 x24_1).f2, 0⟩ : S65) [.int .i64 7, .int .i64 0, .int .i64 0, .int .i64 ((rd_T61 l0_4 x24_1).f0), .int .u8 ((rd_T61 l0_4 x24_1).f1), .int .u8 ((rd_T61 l0_4 x24_1).f2), .int .u64 0] (fun _ => True) (fun _ => False) rfl (by first | (go_simp; done) | (go_simp; rfl)) ?aP (fun _ hk => hk.elim) ?aF ?aO ?aB ?aS ?aL ?_; (case aP => exact k65_mkM _ _ _ (⟨7, 0, 0, (rd_T61 l0_4 x24_1).f0, (rd_T61 l0_4 x24_1).f1, (rd_T61 l0_4 x24_1).f2, 0⟩ : S65)); (case aB => exact (by repeat (first | (with_reducible first | exact HB.out | apply below_alloc | apply pw_below_drewN | apply below_drew1 | refine below_set ?_ GE204.out | refine below_set ?_ GE209.out) | exact HB.out))); (case aF => exact (fun _ _ => trivial)); (case aO => exact (by (with_reducible repeat (first | apply Kd.R_alloc | apply Kd.R_drewN | apply Kd.R_drew)); exact Kd.R_mono (Kd.R_far (p := ⟨gb209, 2, none⟩) (Kd.R_far (p := ⟨gb209, 1, none⟩) (Kd.R_far (p := ⟨gb209, 0, none⟩) (Kd.R_types HO_3.out BK209.out (by decide)) (fun _ hk => hk.2) (.int .i64 ((rd_T61 l0_4 x24_1).f0))) (fun _ hk => hk.2) (.int .u8 ((rd_T61 l0_4 x24_1).f1))) (fun _ hk => hk.2) (.int .u8 ((rd_T61 l0_4 x24_1).f2))) (fun _ hk => trivial))); (case aS => exact (below_size (by repeat (first | (with_reducible first | exact HB.out | apply below_alloc | apply pw_below_drewN | apply below_drew1 | refine below_set ?_ GE204.out | refine below_set ?_ GE209.out) | exact HB.out)))); (case aL => have := LMc10.out; omega); intro v211 w14 ho hb hg hat; rw [← Ny210.out] at ho; have n0_ := Aside0.mk (blk_grown (g := gb204) (o := .cells #[.int .i64 a0_0, .int .i64 a0_1, .int .i64 a0_2, .slice A0_3 l0_3.length c0_3, .slice (some ad208) l0_4.length c0_4, .slice A0_5 l0_5.length c0_5] 46 (0, 0)) (by (with_reducible repeat (first | refine blk_drewN ?_ _ | refine blk_drew ?_ | refine blk_alloc ?_ _)); refine blk_far ?_ NB204_209.out _; (with_reducible repeat (first | refine blk_drewN ?_ _ | refine blk_drew ?_ | refine blk_alloc ?_ _)); refine blk_far ?_ NB204_209.out _; (with_reducible repeat (first | refine blk_drewN ?_ _ | refine blk_drew ?_ | refine blk_alloc ?_ _)); refine blk_far ?_ NB204_209.out _; (with_reducible repeat (first | refine blk_drewN ?_ _ | refine blk_drew ?_ | refine blk_alloc ?_ _)); exact BK204.out) hg (Kd.R_ne HO_3.out BK204.out (by decide))); have n1_ := Aside0.mk (blk_grown (g := gb209) (o := .cells #[.int .i64 ((rd_T61 l0_4 x24_1).f0), .int .u8 ((rd_T61 l0_4 x24_1).f1), .int .u8 ((rd_T61 l0_4 x24_1).f2)] 61 (0, 0)) (by (with_reducible repeat (first | refine blk_drewN ?_ _ | refine blk_drew ?_ | refine blk_alloc ?_ _)); refine blk_put (cs := #[.int .i64 ((rd_T61 l0_4 x24_1).f0), .int .u8 ((rd_T61 l0_4 x24_1).f1), .int .u8 0]) ?_ 2 _ rfl; (with_reducible repeat (first | refine blk_drewN ?_ _ | refine blk_drew ?_ | refine blk_alloc ?_ _)); refine blk_put (cs := #[.int .i64 ((rd_T61 l0_4 x24_1).f0), .int .u8 0, .int .u8 0]) ?_ 1 _ rfl; (with_reducible repeat (first | refine blk_drewN ?_ _ | refine blk_drew ?_ | refine blk_alloc ?_ _)); refine blk_put (cs := #[.int .i64 0, .int .u8 0, .int .u8 0]) ?_ 0 _ rfl; (with_reducible repeat (first | refine blk_drewN ?_ _ | refine blk_drew ?_ | refine blk_alloc ?_ _)); exact BK209.out) hg (Kd.R_ne HO_3.out BK209.out (by decide))); have n2_ := Aside0.mk (hb); have n3_ := Aside0.mk (ho); clear BK204; clear BK209; clear HB; clear HO_3; have BK204 := n0_; have BK209 := n1_; have HB := n2_; have HO212 := n3_; clear n0_ n1_ n2_ n3_; clear ho hb hg hat))
              go_roundg k1
              case measure => have := HK1.out; omega
              case rel => exact ⟨(y210), (wrap64 (x24_1 + 1)), (by first | rfl | (simp; done) | (simp [*]; done)), H', ⟨by have := HK1.out; omega⟩, ⟨by (with_reducible repeat (first | apply Kd.R_alloc | apply Kd.R_drewN | apply Kd.R_drew)); exact HO212.out⟩, ⟨by (with_reducible repeat (first | refine blk_drewN ?_ _ | refine blk_drew ?_ | refine blk_alloc ?_ _)); exact BK204.out⟩, ⟨by repeat (first | (with_reducible first | exact HB.out | apply below_alloc | apply pw_below_drewN | apply below_drew1 | refine below_set ?_ GE204.out | refine below_set ?_ GE209.out) | exact HB.out)⟩⟩
            · rw [if_neg c10] at H
              exact absurd H (by simp)
          · rw [if_neg c9] at H
            exact absurd H (by simp)
        · rw [if_neg c8] at H
          exact absurd H (by simp)
      · rw [if_neg c7] at H
        have c7b0 : decide (x24_1 < (l0_4.length : Int)) = false := decide_eq_false c7
        clear c7
        have H' := Aside0.mk H
        clear H
        have hcz15_0 : wr.cell? ⟨gb204, 0, none⟩ = some (.int .i64 a0_0) := (blk_cell BK204.out 0).trans rfl
        have hcz15_1 : wr.cell? ⟨gb204, 1, none⟩ = some (.int .i64 a0_1) := (blk_cell BK204.out 1).trans rfl
        have hcz15_2 : wr.cell? ⟨gb204, 2, none⟩ = some (.int .i64 a0_2) := (blk_cell BK204.out 2).trans rfl
        have hcz15_3 : wr.cell? ⟨gb204, 3, none⟩ = some (.slice A0_3 l0_3.length c0_3) := (blk_cell BK204.out 3).trans rfl
        have hcz15_4 : wr.cell? ⟨gb204, 4, none⟩ = some (.slice A0_4 l0_4.length c0_4) := (blk_cell BK204.out 4).trans rfl
        have hcz15_5 : wr.cell? ⟨gb204, 5, none⟩ = some (.slice A0_5 l0_5.length c0_5) := (blk_cell BK204.out 5).trans rfl
        have hfz15_0 := blk_frozen BK204.out 0
        have hfz15_1 := blk_frozen BK204.out 1
        have hfz15_2 := blk_frozen BK204.out 2
        have hfz15_3 := blk_frozen BK204.out 3
        have hfz15_4 := blk_frozen BK204.out 4
        have hfz15_5 := blk_frozen BK204.out 5
        go_wp2
        go_loopg [3, 42] k1 (fun kq v3 v42 w' => ∃ (x3_2 : List (S65)) (x42_2 : Int), v42 = .int .i64 x42_2 ∧ Aside0 (show_Config.l1 kq x3_2 l0_3 (l0_3.length : Int) x42_2 a0_0 a0_1 a0_2 l0_3 l0_4 l0_5 = some r) ∧ Aside0 (kq ≤ k1) ∧ Aside0 (Kd.R k65 65 w' w.heap.size (fun _ => True) v3 x3_2) ∧ Aside0 (w'.heap[gb204]? = some (.cells #[.int .i64 a0_0, .int .i64 a0_1, .int .i64 a0_2, (.slice A0_3 l0_3.length c0_3), (.slice A0_4 l0_4.length c0_4), (.slice A0_5 l0_5.length c0_5)] 46 (0, 0))) ∧ Aside0 (Below w.heap.size w w'))
        case atStart => exact ⟨(x3_1), (0), (by first | rfl | (simp; done) | (simp [*]; done)), H', ⟨Nat.le_refl _⟩, ⟨by (with_reducible repeat (first | apply Kd.R_alloc | apply Kd.R_drewN | apply Kd.R_drew)); exact HO_3.out⟩, ⟨by (with_reducible repeat (first | refine blk_drewN ?_ _ | refine blk_drew ?_ | refine blk_alloc ?_ _)); exact BK204.out⟩, ⟨by repeat (first | (with_reducible first | exact HB.out | apply below_alloc | apply pw_below_drewN | apply below_drew1 | refine below_set ?_ GE204.out) | exact HB.out)⟩⟩
        case round =>
          clear H'
          try clear c1
          try clear p2
          try clear q2
          try clear hx2
          try clear p6
          try clear c7
          try clear c7b0
          try clear c8
          try clear c8b0
          try clear c9
          try clear c9b0
          try clear c10
          try clear c12
          try clear c15
          try clear hcz13_0
          try clear hcz13_1
          try clear hcz13_2
          try clear hcz15_0
          try clear hcz15_1
          try clear hcz15_2
          try clear hcz15_3
          try clear hcz15_4
          try clear hcz15_5
          try clear hcz3_0
          try clear hcz3_1
          try clear hcz3_2
          try clear hcz3_3
          try clear hcz3_4
          try clear hcz3_5
          try clear hcz6_0
          try clear hcz6_1
          try clear hcz6_2
          try clear hcz6_3
          try clear hcz6_4
          try clear hcz6_5
          try clear hfz13_0
          try clear hfz13_1
          try clear hfz13_2
          try clear hfz15_0
          try clear hfz15_1
          try clear hfz15_2
          try clear hfz15_3
          try clear hfz15_4
          try clear hfz15_5
          try clear hfz3_0
          try clear hfz3_1
          try clear hfz3_2
          try clear hfz3_3
          try clear hfz3_4
          try clear hfz3_5
          try clear hfz6_0
          try clear hfz6_1
          try clear hfz6_2
          try clear hfz6_3
          try clear hfz6_4
          try clear hfz6_5
          try clear hx208_0
          try clear hx208_1
          try clear hx208_2
          try clear p2
          try clear p208
          try clear q208
          obtain ⟨x3_2, x42_2, rfl, HA, HK2, HO_3, BK204, HB⟩ := hrel
          cases gk with
          | zero => exact absurd HA.out (by simp [show_Config.l1])
          | succ k2 =>
            have H := HA.out
            clear HA
            simp only [show_Config.l1] at H
            by_cases c16 : x42_2 < (l0_3.length : Int)
            · rw [if_pos c16] at H
              have c16b0 : decide (x42_2 < (l0_3.length : Int)) = true := decide_eq_true c16
              clear c16
              by_cases c17 : 0 ≤ x42_2
              · rw [if_pos c17] at H
                have c17b0 : decide (0 ≤ x42_2) = true := decide_eq_true c17
                clear c17
                by_cases c18 : x42_2 < (l0_3.length : Int)
                · rw [if_pos c18] at H
                  have c18b0 : decide (x42_2 < (l0_3.length : Int)) = true := decide_eq_true c18
                  clear c18
                  obtain ⟨bq19, hbq19⟩ : ∃ b_ : Bool, b_ = ((rd_T63 l0_3 x42_2).f0) := ⟨_, rfl⟩
                  replace H : (if bq19 = true then ((some (([(⟨4, x42_2, 1, 0, 0, 0, 0⟩ : S65), (⟨5, x42_2, wrap64 ((rd_T63 l0_3 x42_2).f1), 0, 0, 0, 0⟩ : S65), (⟨6, x42_2, (rd_T63 l0_3 x42_2).f2, 0, 0, 0, 0⟩ : S65)] : List (S65)) : List (S65))).bind fun y215 => (if x3_2.length + y215.length < 2932031007402 then (show_Config.l1 k2 (x3_2 ++ y215) l0_3 (l0_3.length : Int) (wrap64 (x42_2 + 1)) a0_0 a0_1 a0_2 l0_3 l0_4 l0_5) else (none))) else ((some (([(⟨4, x42_2, 0, 0, 0, 0, 0⟩ : S65), (⟨5, x42_2, wrap64 ((rd_T63 l0_3 x42_2).f1), 0, 0, 0, 0⟩ : S65), (⟨6, x42_2, (rd_T63 l0_3 x42_2).f2, 0, 0, 0, 0⟩ : S65)] : List (S65)) : List (S65))).bind fun y221 => (if x3_2.length + y221.length < 2932031007402 then (show_Config.l1 k2 (x3_2 ++ y221) l0_3 (l0_3.length : Int) (wrap64 (x42_2 + 1)) a0_0 a0_1 a0_2 l0_3 l0_4 l0_5) else (none)))) = some r := by rw [← hbq19] at H; exact H
                  have Nbq19 := Aside0.mk hbq19
                  clear hbq19
                  by_cases c20 : bq19 = true
                  · subst c20
                    have H1 : ((some (([(⟨4, x42_2, 1, 0, 0, 0, 0⟩ : S65), (⟨5, x42_2, wrap64 ((rd_T63 l0_3 x42_2).f1), 0, 0, 0, 0⟩ : S65), (⟨6, x42_2, (rd_T63 l0_3 x42_2).f2, 0, 0, 0, 0⟩ : S65)] : List (S65)) : List (S65))).bind fun y215 => (if x3_2.length + y215.length < 2932031007402 then (show_Config.l1 k2 (x3_2 ++ y215) l0_3 (l0_3.length : Int) (wrap64 (x42_2 + 1)) a0_0 a0_1 a0_2 l0_3 l0_4 l0_5) else (none))) = some r := by rw [if_pos rfl] at H; exact H
                    clear H
                    have H := H1
                    clear H1
                    obtain ⟨y215, hy215⟩ : ∃ y_ : List (S65), y_ = (([(⟨4, x42_2, 1, 0, 0, 0, 0⟩ : S65), (⟨5, x42_2, wrap64 ((rd_T63 l0_3 x42_2).f1), 0, 0, 0, 0⟩ : S65), (⟨6, x42_2, (rd_T63 l0_3 x42_2).f2, 0, 0, 0, 0⟩ : S65)] : List (S65))) := ⟨_, rfl⟩
                    replace H : (if x3_2.length + y215.length < 2932031007402 then (show_Config.l1 k2 (x3_2 ++ y215) l0_3 (l0_3.length : Int) (wrap64 (x42_2 + 1)) a0_0 a0_1 a0_2 l0_3 l0_4 l0_5) else (none)) = some r := by first | (rw [hy215]; with_reducible exact H) | (have H2_ := (Option.bind_some _ _).symm.trans H; rw [hy215]; with_reducible exact H2_) | (have H2_ := (Option.bind_some _ _).symm.trans H; with_reducible exact H2_) | with_reducible exact H | (rw [hy215]; exact H) | exact H
                    have Ny215 := Aside0.mk hy215
                    clear hy215
                    by_cases c21 : x3_2.length + y215.length < 2932031007402
                    · rw [if_pos c21] at H
                      have LMc21 := Aside0.mk c21
                      clear c21
                      obtain ⟨y218, hy218⟩ : ∃ y_ : List (S65), y_ = (x3_2 ++ y215) := ⟨_, rfl⟩
                      replace H : (show_Config.l1 k2 y218 l0_3 (l0_3.length : Int) (wrap64 (x42_2 + 1)) a0_0 a0_1 a0_2 l0_3 l0_4 l0_5) = some r := by first | (rw [hy218]; with_reducible exact H) | (have H2_ := (Option.bind_some _ _).symm.trans H; rw [hy218]; with_reducible exact H2_) | (have H2_ := (Option.bind_some _ _).symm.trans H; with_reducible exact H2_) | with_reducible exact H | (rw [hy218]; exact H) | exact H
                      have Ny218 := Aside0.mk hy218
                      clear hy218
                      have H' := Aside0.mk H
                      clear H
                      have p213 : 0 ≤ (x42_2 : Int) := of_decide_eq_true (by first | (with_reducible assumption) | assumption)
                      have q213 : x42_2 < (l0_3.length : Int) := of_decide_eq_true (by first | (with_reducible assumption) | assumption)
                      obtain ⟨ad213, e213, hx213_0, hx213_1, hx213_2⟩ := at_T63 HR0_3.out x42_2 p213 q213
                      (try rw [← Nbq19.out] at hx213_0)
                      cases e213
                      replace hx213_0 := (HB.out.cell (World.block_lt_of_cell? w _ hx213_0)).trans hx213_0
                      replace hx213_1 := (HB.out.cell (World.block_lt_of_cell? w _ hx213_1)).trans hx213_1
                      replace hx213_2 := (HB.out.cell (World.block_lt_of_cell? w _ hx213_2)).trans hx213_2
                      replace p213 := eq_true p213
                      replace q213 := eq_true q213
                      go_wp2_with (first | ((with_reducible refine gate_dst (N := 7) rfl ?_); refine box_event ?hg (N := 7) ?hd (cs := #[.bool false, .int .u32 0, .int .i64 0]) (t := 63) ?hr ?_; (case hd => rfl); (case hg => rfl); (case hr => first | (go_simp; done) | (go_simp; rfl)); intro gb214 hg w22 hbox hb; have n0_ := Aside0.mk (Kd.R_below (by (with_reducible repeat (first | apply Kd.R_alloc | apply Kd.R_drewN | apply Kd.R_drew)); exact HO_3.out) hb); have n1_ := Aside0.mk (blk_below (g := gb204) (o := .cells #[.int .i64 a0_0, .int .i64 a0_1, .int .i64 a0_2, .slice (some ad213) l0_3.length c0_3, .slice A0_4 l0_4.length c0_4, .slice A0_5 l0_5.length c0_5] 46 (0, 0)) (by (with_reducible repeat (first | refine blk_drewN ?_ _ | refine blk_drew ?_ | refine blk_alloc ?_ _)); exact BK204.out) hb); have n2_ := Aside0.mk (below_step (by repeat (first | (with_reducible first | exact HB.out | apply below_alloc | apply pw_below_drewN | apply below_drew1 | refine below_set ?_ GE204.out) | exact HB.out)) hb); have n3_ := Aside0.mk (hbox); have n4_ := Aside0.mk ((by rw [hg]; exact (below_size (by repeat (first | (with_reducible first | exact HB.out | apply below_alloc | apply pw_below_drewN | apply below_drew1 | refine below_set ?_ GE204.out) | exact HB.out))) : w.heap.size ≤ gb214)); have n5_ := Aside0.mk ((by rw [hg]; exact (below_size (by repeat (first | (with_reducible first | exact HB.out | apply below_alloc | apply pw_below_drewN | apply below_drew1 | refine below_set ?_ GE204.out) | exact HB.out))) : w.heap.size ≤ gb214)); have n6_ := Aside0.mk ((by rw [hg]; exact Nat.ne_of_lt (blk_lt (g := gb204) (o := .cells #[.int .i64 a0_0, .int .i64 a0_1, .int .i64 a0_2, .slice (some ad213) l0_3.length c0_3, .slice A0_4 l0_4.length c0_4, .slice A0_5 l0_5.length c0_5] 46 (0, 0)) (by (with_reducible repeat (first | refine blk_drewN ?_ _ | refine blk_drew ?_ | refine blk_alloc ?_ _)); exact BK204.out)) : gb204 ≠ gb214)); have n7_ := Aside0.mk ((by rw [hg]; exact Nat.ne_of_gt (blk_lt (g := gb204) (o := .cells #[.int .i64 a0_0, .int .i64 a0_1, .int .i64 a0_2, .slice (some ad213) l0_3.length c0_3, .slice A0_4 l0_4.length c0_4, .slice A0_5 l0_5.length c0_5] 46 (0, 0)) (by (with_reducible repeat (first | refine blk_drewN ?_ _ | refine blk_drew ?_ | refine blk_alloc ?_ _)); exact BK204.out)) : gb214 ≠ gb204)); clear HO_3; clear BK204; clear HB; have HO_3 := n0_; have BK204 := n1_; have HB := n2_; have BK214 := n3_; have GW214 := n4_; have GE214 := n5_; have NB204_214 := n6_; have NB214_204 := n7_; clear n0_ n1_ n2_ n3_ n4_ n5_ n6_ n7_; clear hb hbox hg; have hnb23 := NB214_204.out; have hnc23 := NB204_214.out; have hcz24_0 : w22.cell? ⟨gb214, 0, none⟩ = some (.bool false) := (blk_cell BK214.out 0).trans rfl; have hcz24_1 : w22.cell? ⟨gb214, 1, none⟩ = some (.int .u32 0) := (blk_cell BK214.out 1).trans rfl; have hcz24_2 : w22.cell? ⟨gb214, 2, none⟩ = some (.int .i64 0) := (blk_cell BK214.out 2).trans rfl; have hfz24_0 := blk_frozen BK214.out 0; have hfz24_1 := blk_frozen BK214.out 1; have hfz24_2 := blk_frozen BK214.out 2) | ((with_reducible refine gate_dst (N := 62) rfl ?_); refine Kd.R_lit k65 _ 65 ?hg (N := 62) ?hd (xs := ([(⟨4, x42_2, 1, 0, 0, 0, 0⟩ : S65), (⟨5, x42_2, wrap64 ((rd_T63 l0_3 x42_2).f1), 0, 0, 0, 0⟩ : S65), (⟨6, x42_2, (rd_T63 l0_3 x42_2).f2, 0, 0, 0, 0⟩ : S65)] : List (S65))) (inner := [.int .i64 4, .int .i64 x42_2, .int .i64 1, .int .i64 0, .int .u8 0, .int .u8 0, .int .u64 0, .int .i64 5, .int .i64 x42_2, .int .i64 (wrap64 ((rd_T63 l0_3 x42_2).f1)), .int .i64 0, .int .u8 0, .int .u8 0, .int .u64 0, .int .i64 6, .int .i64 x42_2, .int .i64 ((rd_T63 l0_3 x42_2).f2), .int .i64 0, .int .u8 0, .int .u8 0, .int .u64 0]) (ok := fun _ => True) (okp := fun _ => True) ?hr ?hp (fun _ hk => hk) trivial (Below.refl _ _) (Nat.le_refl _) (by simp) ?_; (case hd => rfl); (case hg => rfl); (case hr => first | (go_simp; done) | (go_simp; rfl)); (case hp => exact (Reps.c7 (show Kd.M k65 _ _ _ (⟨4, x42_2, 1, 0, 0, 0, 0⟩ : S65) [.int .i64 4, .int .i64 x42_2, .int .i64 1, .int .i64 0, .int .u8 0, .int .u8 0, .int .u64 0] from (k65_mkM _ _ _ (⟨4, x42_2, 1, 0, 0, 0, 0⟩ : S65) )) (Reps.c7 (show Kd.M k65 _ _ _ (⟨5, x42_2, wrap64 ((rd_T63 l0_3 x42_2).f1), 0, 0, 0, 0⟩ : S65) [.int .i64 5, .int .i64 x42_2, .int .i64 (wrap64 ((rd_T63 l0_3 x42_2).f1)), .int .i64 0, .int .u8 0, .int .u8 0, .int .u64 0] from (k65_mkM _ _ _ (⟨5, x42_2, wrap64 ((rd_T63 l0_3 x42_2).f1), 0, 0, 0, 0⟩ : S65) )) (Reps.c7 (show Kd.M k65 _ _ _ (⟨6, x42_2, (rd_T63 l0_3 x42_2).f2, 0, 0, 0, 0⟩ : S65) [.int .i64 6, .int .i64 x42_2, .int .i64 ((rd_T63 l0_3 x42_2).f2), .int .i64 0, .int .u8 0, .int .u8 0, .int .u64 0] from (k65_mkM _ _ _ (⟨6, x42_2, (rd_T63 l0_3 x42_2).f2, 0, 0, 0, 0⟩ : S65) )) (Reps.none _ _))))); intro v216 w25 ho26 hb hg_ hnew_; clear hg_ hnew_; (first | rw [← Ny215.out] at ho26 | (simp only [Int.reduceToNat] at ho26; rw [← Ny215.out] at ho26)); have n0_ := Aside0.mk (Kd.R_elder' (by (with_reducible repeat (first | apply Kd.R_alloc | apply Kd.R_drewN | apply Kd.R_drew)); exact (Kd.R_mono (Kd.R_far (p := ⟨gb214, 2, none⟩) (Kd.R_far (p := ⟨gb214, 1, none⟩) (Kd.R_far (p := ⟨gb214, 0, none⟩) (Kd.R_types HO_3.out BK214.out (by decide)) (fun _ hk => hk.2) (.bool true)) (fun _ hk => hk.2) (.int .u32 ((rd_T63 l0_3 x42_2).f1))) (fun _ hk => hk.2) (.int .i64 ((rd_T63 l0_3 x42_2).f2))) (fun _ h_ => h_.1))) (Kd.R_base ho26) hb); have n1_ := Aside0.mk (Kd.R_lower (Kd.R_new' ho26 (Kd.R_lt (by (with_reducible repeat (first | apply Kd.R_alloc | apply Kd.R_drewN | apply Kd.R_drew)); exact (Kd.R_mono (Kd.R_far (p := ⟨gb214, 2, none⟩) (Kd.R_far (p := ⟨gb214, 1, none⟩) (Kd.R_far (p := ⟨gb214, 0, none⟩) (Kd.R_types HO_3.out BK214.out (by decide)) (fun _ hk => hk.2) (.bool true)) (fun _ hk => hk.2) (.int .u32 ((rd_T63 l0_3 x42_2).f1))) (fun _ hk => hk.2) (.int .i64 ((rd_T63 l0_3 x42_2).f2))) (fun _ h_ => h_.1))))) (below_size (by repeat (first | (with_reducible first | exact HB.out | apply below_alloc | apply pw_below_drewN | apply below_drew1 | refine below_set ?_ GE204.out | refine below_set ?_ GE214.out) | exact HB.out)))); have n2_ := Aside0.mk (blk_below (g := gb204) (o := .cells #[.int .i64 a0_0, .int .i64 a0_1, .int .i64 a0_2, .slice (some ad213) l0_3.length c0_3, .slice A0_4 l0_4.length c0_4, .slice A0_5 l0_5.length c0_5] 46 (0, 0)) (by (with_reducible repeat (first | refine blk_drewN ?_ _ | refine blk_drew ?_ | refine blk_alloc ?_ _)); refine blk_far ?_ NB204_214.out _; (with_reducible repeat (first | refine blk_drewN ?_ _ | refine blk_drew ?_ | refine blk_alloc ?_ _)); refine blk_far ?_ NB204_214.out _; (with_reducible repeat (first | refine blk_drewN ?_ _ | refine blk_drew ?_ | refine blk_alloc ?_ _)); refine blk_far ?_ NB204_214.out _; (with_reducible repeat (first | refine blk_drewN ?_ _ | refine blk_drew ?_ | refine blk_alloc ?_ _)); exact BK204.out) hb); have n3_ := Aside0.mk (blk_below (g := gb214) (o := .cells #[.bool true, .int .u32 ((rd_T63 l0_3 x42_2).f1), .int .i64 ((rd_T63 l0_3 x42_2).f2)] 63 (0, 0)) (by (with_reducible repeat (first | refine blk_drewN ?_ _ | refine blk_drew ?_ | refine blk_alloc ?_ _)); refine blk_put (cs := #[.bool true, .int .u32 ((rd_T63 l0_3 x42_2).f1), .int .i64 0]) ?_ 2 _ rfl; (with_reducible repeat (first | refine blk_drewN ?_ _ | refine blk_drew ?_ | refine blk_alloc ?_ _)); refine blk_put (cs := #[.bool true, .int .u32 0, .int .i64 0]) ?_ 1 _ rfl; (with_reducible repeat (first | refine blk_drewN ?_ _ | refine blk_drew ?_ | refine blk_alloc ?_ _)); refine blk_put (cs := #[.bool false, .int .u32 0, .int .i64 0]) ?_ 0 _ rfl; (with_reducible repeat (first | refine blk_drewN ?_ _ | refine blk_drew ?_ | refine blk_alloc ?_ _)); exact BK214.out) hb); have n4_ := Aside0.mk (below_step (by repeat (first | (with_reducible first | exact HB.out | apply below_alloc | apply pw_below_drewN | apply below_drew1 | refine below_set ?_ GE204.out | refine below_set ?_ GE214.out) | exact HB.out)) hb); clear HO_3; clear BK204; clear BK214; clear HB; have HO_3 := n0_; have HO217 := n1_; have BK204 := n2_; have BK214 := n3_; have HB := n4_; clear n0_ n1_ n2_ n3_ n4_; clear hb ho26; obtain ⟨Ao28, co28, eo28⟩ := Kd.R_slice HO217.out; subst eo28) | ((with_reducible refine gate_builtin (b := .append) (xs := #[.tmp 49, .tmp 62]) rfl ?_); at_builtin; refine Kd.R_append_rows k65 (w0 := w) w.heap.size rfl (.tmp 49) (.tmp 62) 66 65 (.agg #[(.int .i64 0), (.int .i64 0), (.int .i64 0), (.int .i64 0), (.int .u8 0), (.int .u8 0), (.int .u64 0)]) 48 rfl Tryd.underlying66 info65 rfl (by decide) (by omega) u3 x3_2 y215 _ _ _ (fun k_ => some k_ ≠ (.slice Ao28 y215.length co28 : Value).ownBlock) (fun _ => False) rfl rfl ?aO ?aR (fun _ _ h => h) (fun _ h => h.elim) ?aF ?aB ?aS ?aL ?_; (case aR => repeat (first | exact (Kd.R_reads' HO217.out).2.2 | (with_reducible refine Kd.C_alloc ?_ _) | (with_reducible refine Kd.C_drewN ?_ _) | (with_reducible refine Kd.C_drew ?_))); (case aB => exact (by repeat (first | (with_reducible first | exact HB.out | apply below_alloc | apply pw_below_drewN | apply below_drew1 | refine below_set ?_ GE204.out | refine below_set ?_ GE214.out) | exact HB.out))); (case aF => exact (fun k_ hk => Kd.fresh' (Kd.R_lt (by (with_reducible repeat (first | apply Kd.R_alloc | apply Kd.R_drewN | apply Kd.R_drew)); exact HO217.out)) k_ hk)); (case aO => exact (by (with_reducible repeat (first | apply Kd.R_alloc | apply Kd.R_drewN | apply Kd.R_drew)); exact Kd.R_mono HO_3.out (fun _ hk => hk.2))); (case aS => exact (below_size (by repeat (first | (with_reducible first | exact HB.out | apply below_alloc | apply pw_below_drewN | apply below_drew1 | refine below_set ?_ GE204.out | refine below_set ?_ GE214.out) | exact HB.out)))); (case aL => have := LMc21.out; omega); intro v219 w27 ho hb hg hat; rw [← Ny218.out] at ho; have n0_ := Aside0.mk (blk_grown (g := gb204) (o := .cells #[.int .i64 a0_0, .int .i64 a0_1, .int .i64 a0_2, .slice (some ad213) l0_3.length c0_3, .slice A0_4 l0_4.length c0_4, .slice A0_5 l0_5.length c0_5] 46 (0, 0)) (by (with_reducible repeat (first | refine blk_drewN ?_ _ | refine blk_drew ?_ | refine blk_alloc ?_ _)); exact BK204.out) hg (Kd.R_ne HO_3.out BK204.out (by decide))); have n1_ := Aside0.mk (blk_grown (g := gb214) (o := .cells #[.bool true, .int .u32 ((rd_T63 l0_3 x42_2).f1), .int .i64 ((rd_T63 l0_3 x42_2).f2)] 63 (0, 0)) (by (with_reducible repeat (first | refine blk_drewN ?_ _ | refine blk_drew ?_ | refine blk_alloc ?_ _)); exact BK214.out) hg (Kd.R_ne HO_3.out BK214.out (by decide))); have n2_ := Aside0.mk (Kd.R_after (ok := (fun _ => True)) (by (with_reducible repeat (first | apply Kd.R_alloc | apply Kd.R_drewN | apply Kd.R_drew)); exact HO217.out) hg hat); have n3_ := Aside0.mk (hb); have n4_ := Aside0.mk (ho); clear BK204; clear BK214; clear HO217; clear HB; clear HO_3; have BK204 := n0_; have BK214 := n1_; have HO217 := n2_; have HB := n3_; have HO220 := n4_; clear n0_ n1_ n2_ n3_ n4_; clear ho hb hg hat))
                      go_roundg k2
                      case measure => have := HK1.out; have := HK2.out; omega
                      case rel => exact ⟨(y218), (wrap64 (x42_2 + 1)), (by first | rfl | (simp; done) | (simp [*]; done)), H', ⟨by have := HK1.out; have := HK2.out; omega⟩, ⟨by (with_reducible repeat (first | apply Kd.R_alloc | apply Kd.R_drewN | apply Kd.R_drew)); exact Kd.R_mono HO220.out (fun _ hk => trivial)⟩, ⟨by (with_reducible repeat (first | refine blk_drewN ?_ _ | refine blk_drew ?_ | refine blk_alloc ?_ _)); exact BK204.out⟩, ⟨by repeat (first | (with_reducible first | exact HB.out | apply below_alloc | apply pw_below_drewN | apply below_drew1 | refine below_set ?_ GE204.out | refine below_set ?_ GE214.out) | exact HB.out)⟩⟩
                    · rw [if_neg c21] at H
                      exact absurd H (by simp)
                  · replace c20 := Bool.eq_false_iff.mpr c20
                    subst c20
                    have H1 : ((some (([(⟨4, x42_2, 0, 0, 0, 0, 0⟩ : S65), (⟨5, x42_2, wrap64 ((rd_T63 l0_3 x42_2).f1), 0, 0, 0, 0⟩ : S65), (⟨6, x42_2, (rd_T63 l0_3 x42_2).f2, 0, 0, 0, 0⟩ : S65)] : List (S65)) : List (S65))).bind fun y221 => (if x3_2.length + y221.length < 2932031007402 then (show_Config.l1 k2 (x3_2 ++ y221) l0_3 (l0_3.length : Int) (wrap64 (x42_2 + 1)) a0_0 a0_1 a0_2 l0_3 l0_4 l0_5) else (none))) = some r := by rw [if_neg (show ¬ (false = true) by decide)] at H; exact H
                    clear H
                    have H := H1
                    clear H1
                    obtain ⟨y221, hy221⟩ : ∃ y_ : List (S65), y_ = (([(⟨4, x42_2, 0, 0, 0, 0, 0⟩ : S65), (⟨5, x42_2, wrap64 ((rd_T63 l0_3 x42_2).f1), 0, 0, 0, 0⟩ : S65), (⟨6, x42_2, (rd_T63 l0_3 x42_2).f2, 0, 0, 0, 0⟩ : S65)] : List (S65))) := ⟨_, rfl⟩
                    replace H : (if x3_2.length + y221.length < 2932031007402 then (show_Config.l1 k2 (x3_2 ++ y221) l0_3 (l0_3.length : Int) (wrap64 (x42_2 + 1)) a0_0 a0_1 a0_2 l0_3 l0_4 l0_5) else (none)) = some r := by first | (rw [hy221]; with_reducible exact H) | (have H2_ := (Option.bind_some _ _).symm.trans H; rw [hy221]; with_reducible exact H2_) | (have H2_ := (Option.bind_some _ _).symm.trans H; with_reducible exact H2_) | with_reducible exact H | (rw [hy221]; exact H) | exact H
                    have Ny221 := Aside0.mk hy221
                    clear hy221
                    by_cases c29 : x3_2.length + y221.length < 2932031007402
                    · rw [if_pos c29] at H
                      have LMc29 := Aside0.mk c29
                      clear c29
                      obtain ⟨y224, hy224⟩ : ∃ y_ : List (S65), y_ = (x3_2 ++ y221) := ⟨_, rfl⟩
                      replace H : (show_Config.l1 k2 y224 l0_3 (l0_3.length : Int) (wrap64 (x42_2 + 1)) a0_0 a0_1 a0_2 l0_3 l0_4 l0_5) = some r := by first | (rw [hy224]; with_reducible exact H) | (have H2_ := (Option.bind_some _ _).symm.trans H; rw [hy224]; with_reducible exact H2_) | (have H2_ := (Option.bind_some _ _).symm.trans H; with_reducible exact H2_) | with_reducible exact H | (rw [hy224]; exact H) | exact H
                      have Ny224 := Aside0.mk hy224
                      clear hy224
                      have H' := Aside0.mk H
                      clear H
                      have p213 : 0 ≤ (x42_2 : Int) := of_decide_eq_true (by first | (with_reducible assumption) | assumption)
                      have q213 : x42_2 < (l0_3.length : Int) := of_decide_eq_true (by first | (with_reducible assumption) | assumption)
                      obtain ⟨ad213, e213, hx213_0, hx213_1, hx213_2⟩ := at_T63 HR0_3.out x42_2 p213 q213
                      (try rw [← Nbq19.out] at hx213_0)
                      cases e213
                      replace hx213_0 := (HB.out.cell (World.block_lt_of_cell? w _ hx213_0)).trans hx213_0
                      replace hx213_1 := (HB.out.cell (World.block_lt_of_cell? w _ hx213_1)).trans hx213_1
                      replace hx213_2 := (HB.out.cell (World.block_lt_of_cell? w _ hx213_2)).trans hx213_2
                      replace p213 := eq_true p213
                      replace q213 := eq_true q213
                      go_wp2_with (first | ((with_reducible refine gate_dst (N := 7) rfl ?_); refine box_event ?hg (N := 7) ?hd (cs := #[.bool false, .int .u32 0, .int .i64 0]) (t := 63) ?hr ?_; (case hd => rfl); (case hg => rfl); (case hr => first | (go_simp; done) | (go_simp; rfl)); intro gb214 hg w30 hbox hb; have n0_ := Aside0.mk (Kd.R_below (by (with_reducible repeat (first | apply Kd.R_alloc | apply Kd.R_drewN | apply Kd.R_drew)); exact HO_3.out) hb); have n1_ := Aside0.mk (blk_below (g := gb204) (o := .cells #[.int .i64 a0_0, .int .i64 a0_1, .int .i64 a0_2, .slice (some ad213) l0_3.length c0_3, .slice A0_4 l0_4.length c0_4, .slice A0_5 l0_5.length c0_5] 46 (0, 0)) (by (with_reducible repeat (first | refine blk_drewN ?_ _ | refine blk_drew ?_ | refine blk_alloc ?_ _)); exact BK204.out) hb); have n2_ := Aside0.mk (below_step (by repeat (first | (with_reducible first | exact HB.out | apply below_alloc | apply pw_below_drewN | apply below_drew1 | refine below_set ?_ GE204.out) | exact HB.out)) hb); have n3_ := Aside0.mk (hbox); have n4_ := Aside0.mk ((by rw [hg]; exact (below_size (by repeat (first | (with_reducible first | exact HB.out | apply below_alloc | apply pw_below_drewN | apply below_drew1 | refine below_set ?_ GE204.out) | exact HB.out))) : w.heap.size ≤ gb214)); have n5_ := Aside0.mk ((by rw [hg]; exact (below_size (by repeat (first | (with_reducible first | exact HB.out | apply below_alloc | apply pw_below_drewN | apply below_drew1 | refine below_set ?_ GE204.out) | exact HB.out))) : w.heap.size ≤ gb214)); have n6_ := Aside0.mk ((by rw [hg]; exact Nat.ne_of_lt (blk_lt (g := gb204) (o := .cells #[.int .i64 a0_0, .int .i64 a0_1, .int .i64 a0_2, .slice (some ad213) l0_3.length c0_3, .slice A0_4 l0_4.length c0_4, .slice A0_5 l0_5.length c0_5] 46 (0, 0)) (by (with_reducible repeat (first | refine blk_drewN ?_ _ | refine blk_drew ?_ | refine blk_alloc ?_ _)); exact BK204.out)) : gb204 ≠ gb214)); have n7_ := Aside0.mk ((by rw [hg]; exact Nat.ne_of_gt (blk_lt (g := gb204) (o := .cells #[.int .i64 a0_0, .int .i64 a0_1, .int .i64 a0_2, .slice (some ad213) l0_3.length c0_3, .slice A0_4 l0_4.length c0_4, .slice A0_5 l0_5.length c0_5] 46 (0, 0)) (by (with_reducible repeat (first | refine blk_drewN ?_ _ | refine blk_drew ?_ | refine blk_alloc ?_ _)); exact BK204.out)) : gb214 ≠ gb204)); clear HO_3; clear BK204; clear HB; have HO_3 := n0_; have BK204 := n1_; have HB := n2_; have BK214 := n3_; have GW214 := n4_; have GE214 := n5_; have NB204_214 := n6_; have NB214_204 := n7_; clear n0_ n1_ n2_ n3_ n4_ n5_ n6_ n7_; clear hb hbox hg; have hnb31 := NB214_204.out; have hnc31 := NB204_214.out; have hcz32_0 : w30.cell? ⟨gb214, 0, none⟩ = some (.bool false) := (blk_cell BK214.out 0).trans rfl; have hcz32_1 : w30.cell? ⟨gb214, 1, none⟩ = some (.int .u32 0) := (blk_cell BK214.out 1).trans rfl; have hcz32_2 : w30.cell? ⟨gb214, 2, none⟩ = some (.int .i64 0) := (blk_cell BK214.out 2).trans rfl; have hfz32_0 := blk_frozen BK214.out 0; have hfz32_1 := blk_frozen BK214.out 1; have hfz32_2 := blk_frozen BK214.out 2) | ((with_reducible refine gate_dst (N := 62) rfl ?_); refine Kd.R_lit k65 _ 65 ?hg (N := 62) ?hd (xs := ([(⟨4, x42_2, 0, 0, 0, 0, 0⟩ : S65), (⟨5, x42_2, wrap64 ((rd_T63 l0_3 x42_2).f1), 0, 0, 0, 0⟩ : S65), (⟨6, x42_2, (rd_T63 l0_3 x42_2).f2, 0, 0, 0, 0⟩ : S65)] : List (S65))) (inner := [.int .i64 4, .int .i64 x42_2, .int .i64 0, .int .i64 0, .int .u8 0, .int .u8 0, .int .u64 0, .int .i64 5, .int .i64 x42_2, .int .i64 (wrap64 ((rd_T63 l0_3 x42_2).f1)), .int .i64 0, .int .u8 0, .int .u8 0, .int .u64 0, .int .i64 6, .int .i64 x42_2, .int .i64 ((rd_T63 l0_3 x42_2).f2), .int .i64 0, .int .u8 0, .int .u8 0, .int .u64 0]) (ok := fun _ => True) (okp := fun _ => True) ?hr ?hp (fun _ hk => hk) trivial (Below.refl _ _) (Nat.le_refl _) (by simp) ?_; (case hd => rfl); (case hg => rfl); (case hr => first | (go_simp; done) | (go_simp; rfl)); (case hp => exact (Reps.c7 (show Kd.M k65 _ _ _ (⟨4, x42_2, 0, 0, 0, 0, 0⟩ : S65) [.int .i64 4, .int .i64 x42_2, .int .i64 0, .int .i64 0, .int .u8 0, .int .u8 0, .int .u64 0] from (k65_mkM _ _ _ (⟨4, x42_2, 0, 0, 0, 0, 0⟩ : S65) )) (Reps.c7 (show Kd.M k65 _ _ _ (⟨5, x42_2, wrap64 ((rd_T63 l0_3 x42_2).f1), 0, 0, 0, 0⟩ : S65) [.int .i64 5, .int .i64 x42_2, .int .i64 (wrap64 ((rd_T63 l0_3 x42_2).f1)), .int .i64 0, .int .u8 0, .int .u8 0, .int .u64 0] from (k65_mkM _ _ _ (⟨5, x42_2, wrap64 ((rd_T63 l0_3 x42_2).f1), 0, 0, 0, 0⟩ : S65) )) (Reps.c7 (show Kd.M k65 _ _ _ (⟨6, x42_2, (rd_T63 l0_3 x42_2).f2, 0, 0, 0, 0⟩ : S65) [.int .i64 6, .int .i64 x42_2, .int .i64 ((rd_T63 l0_3 x42_2).f2), .int .i64 0, .int .u8 0, .int .u8 0, .int .u64 0] from (k65_mkM _ _ _ (⟨6, x42_2, (rd_T63 l0_3 x42_2).f2, 0, 0, 0, 0⟩ : S65) )) (Reps.none _ _))))); intro v222 w33 ho34 hb hg_ hnew_; clear hg_ hnew_; (first | rw [← Ny221.out] at ho34 | (simp only [Int.reduceToNat] at ho34; rw [← Ny221.out] at ho34)); have n0_ := Aside0.mk (Kd.R_elder' (by (with_reducible repeat (first | apply Kd.R_alloc | apply Kd.R_drewN | apply Kd.R_drew)); exact (Kd.R_mono (Kd.R_far (p := ⟨gb214, 2, none⟩) (Kd.R_far (p := ⟨gb214, 1, none⟩) (Kd.R_far (p := ⟨gb214, 0, none⟩) (Kd.R_types HO_3.out BK214.out (by decide)) (fun _ hk => hk.2) (.bool false)) (fun _ hk => hk.2) (.int .u32 ((rd_T63 l0_3 x42_2).f1))) (fun _ hk => hk.2) (.int .i64 ((rd_T63 l0_3 x42_2).f2))) (fun _ h_ => h_.1))) (Kd.R_base ho34) hb); have n1_ := Aside0.mk (Kd.R_lower (Kd.R_new' ho34 (Kd.R_lt (by (with_reducible repeat (first | apply Kd.R_alloc | apply Kd.R_drewN | apply Kd.R_drew)); exact (Kd.R_mono (Kd.R_far (p := ⟨gb214, 2, none⟩) (Kd.R_far (p := ⟨gb214, 1, none⟩) (Kd.R_far (p := ⟨gb214, 0, none⟩) (Kd.R_types HO_3.out BK214.out (by decide)) (fun _ hk => hk.2) (.bool false)) (fun _ hk => hk.2) (.int .u32 ((rd_T63 l0_3 x42_2).f1))) (fun _ hk => hk.2) (.int .i64 ((rd_T63 l0_3 x42_2).f2))) (fun _ h_ => h_.1))))) (below_size (by repeat (first | (with_reducible first | exact HB.out | apply below_alloc | apply pw_below_drewN | apply below_drew1 | refine below_set ?_ GE204.out | refine below_set ?_ GE214.out) | exact HB.out)))); have n2_ := Aside0.mk (blk_below (g := gb204) (o := .cells #[.int .i64 a0_0, .int .i64 a0_1, .int .i64 a0_2, .slice (some ad213) l0_3.length c0_3, .slice A0_4 l0_4.length c0_4, .slice A0_5 l0_5.length c0_5] 46 (0, 0)) (by (with_reducible repeat (first | refine blk_drewN ?_ _ | refine blk_drew ?_ | refine blk_alloc ?_ _)); refine blk_far ?_ NB204_214.out _; (with_reducible repeat (first | refine blk_drewN ?_ _ | refine blk_drew ?_ | refine blk_alloc ?_ _)); refine blk_far ?_ NB204_214.out _; (with_reducible repeat (first | refine blk_drewN ?_ _ | refine blk_drew ?_ | refine blk_alloc ?_ _)); refine blk_far ?_ NB204_214.out _; (with_reducible repeat (first | refine blk_drewN ?_ _ | refine blk_drew ?_ | refine blk_alloc ?_ _)); exact BK204.out) hb); have n3_ := Aside0.mk (blk_below (g := gb214) (o := .cells #[.bool false, .int .u32 ((rd_T63 l0_3 x42_2).f1), .int .i64 ((rd_T63 l0_3 x42_2).f2)] 63 (0, 0)) (by (with_reducible repeat (first | refine blk_drewN ?_ _ | refine blk_drew ?_ | refine blk_alloc ?_ _)); refine blk_put (cs := #[.bool false, .int .u32 ((rd_T63 l0_3 x42_2).f1), .int .i64 0]) ?_ 2 _ rfl; (with_reducible repeat (first | refine blk_drewN ?_ _ | refine blk_drew ?_ | refine blk_alloc ?_ _)); refine blk_put (cs := #[.bool false, .int .u32 0, .int .i64 0]) ?_ 1 _ rfl; (with_reducible repeat (first | refine blk_drewN ?_ _ | refine blk_drew ?_ | refine blk_alloc ?_ _)); refine blk_put (cs := #[.bool false, .int .u32 0, .int .i64 0]) ?_ 0 _ rfl; (with_reducible repeat (first | refine blk_drewN ?_ _ | refine blk_drew ?_ | refine blk_alloc ?_ _)); exact BK214.out) hb); have n4_ := Aside0.mk (below_step (by repeat (first | (with_reducible first | exact HB.out | apply below_alloc | apply pw_below_drewN | apply below_drew1 | refine below_set ?_ GE204.out | refine below_set ?_ GE214.out) | exact HB.out)) hb); clear HO_3; clear BK204; clear BK214; clear HB; have HO_3 := n0_; have HO223 := n1_; have BK204 := n2_; have BK214 := n3_; have HB := n4_; clear n0_ n1_ n2_ n3_ n4_; clear hb ho34; obtain ⟨Ao36, co36, eo36⟩ := Kd.R_slice HO223.out; subst eo36) | ((with_reducible refine gate_builtin (b := .append) (xs := #[.tmp 49, .tmp 62]) rfl ?_); at_builtin; refine Kd.R_append_rows k65 (w0 := w) w.heap.size rfl (.tmp 49) (.tmp 62) 66 65 (.agg #[(.int .i64 0), (.int .i64 0), (.int .i64 0), (.int .i64 0), (.int .u8 0), (.int .u8 0), (.int .u64 0)]) 48 rfl Tryd.underlying66 info65 rfl (by decide) (by omega) u3 x3_2 y221 _ _ _ (fun k_ => some k_ ≠ (.slice Ao36 y221.length co36 : Value).ownBlock) (fun _ => False) rfl rfl ?aO ?aR (fun _ _ h => h) (fun _ h => h.elim) ?aF ?aB ?aS ?aL ?_; (case aR => repeat (first | exact (Kd.R_reads' HO223.out).2.2 | (with_reducible refine Kd.C_alloc ?_ _) | (with_reducible refine Kd.C_drewN ?_ _) | (with_reducible refine Kd.C_drew ?_))); (case aB => exact (by repeat (first | (with_reducible first | exact HB.out | apply below_alloc | apply pw_below_drewN | apply below_drew1 | refine below_set ?_ GE204.out | refine below_set ?_ GE214.out) | exact HB.out))); (case aF => exact (fun k_ hk => Kd.fresh' (Kd.R_lt (by (with_reducible repeat (first | apply Kd.R_alloc | apply Kd.R_drewN | apply Kd.R_drew)); exact HO223.out)) k_ hk)); (case aO => exact (by (with_reducible repeat (first | apply Kd.R_alloc | apply Kd.R_drewN | apply Kd.R_drew)); exact Kd.R_mono HO_3.out (fun _ hk => hk.2))); (case aS => exact (below_size (by repeat (first | (with_reducible first | exact HB.out | apply below_alloc | apply pw_below_drewN | apply below_drew1 | refine below_set ?_ GE204.out | refine below_set ?_ GE214.out) | exact HB.out)))); (case aL => have := LMc29.out; omega); intro v225 w35 ho hb hg hat; rw [← Ny224.out] at ho; have n0_ := Aside0.mk (blk_grown (g := gb204) (o := .cells #[.int .i64 a0_0, .int .i64 a0_1, .int .i64 a0_2, .slice (some ad213) l0_3.length c0_3, .slice A0_4 l0_4.length c0_4, .slice A0_5 l0_5.length c0_5] 46 (0, 0)) (by (with_reducible repeat (first | refine blk_drewN ?_ _ | refine blk_drew ?_ | refine blk_alloc ?_ _)); exact BK204.out) hg (Kd.R_ne HO_3.out BK204.out (by decide))); have n1_ := Aside0.mk (blk_grown (g := gb214) (o := .cells #[.bool false, .int .u32 ((rd_T63 l0_3 x42_2).f1), .int .i64 ((rd_T63 l0_3 x42_2).f2)] 63 (0, 0)) (by (with_reducible repeat (first | refine blk_drewN ?_ _ | refine blk_drew ?_ | refine blk_alloc ?_ _)); exact BK214.out) hg (Kd.R_ne HO_3.out BK214.out (by decide))); have n2_ := Aside0.mk (Kd.R_after (ok := (fun _ => True)) (by (with_reducible repeat (first | apply Kd.R_alloc | apply Kd.R_drewN | apply Kd.R_drew)); exact HO223.out) hg hat); have n3_ := Aside0.mk (hb); have n4_ := Aside0.mk (ho); clear BK204; clear BK214; clear HO223; clear HB; clear HO_3; have BK204 := n0_; have BK214 := n1_; have HO223 := n2_; have HB := n3_; have HO226 := n4_; clear n0_ n1_ n2_ n3_ n4_; clear ho hb hg hat))
                      go_roundg k2
                      case measure => have := HK1.out; have := HK2.out; omega
                      case rel => exact ⟨(y224), (wrap64 (x42_2 + 1)), (by first | rfl | (simp; done) | (simp [*]; done)), H', ⟨by have := HK1.out; have := HK2.out; omega⟩, ⟨by (with_reducible repeat (first | apply Kd.R_alloc | apply Kd.R_drewN | apply Kd.R_drew)); exact Kd.R_mono HO226.out (fun _ hk => trivial)⟩, ⟨by (with_reducible repeat (first | refine blk_drewN ?_ _ | refine blk_drew ?_ | refine blk_alloc ?_ _)); exact BK204.out⟩, ⟨by repeat (first | (with_reducible first | exact HB.out | apply below_alloc | apply pw_below_drewN | apply below_drew1 | refine below_set ?_ GE204.out | refine below_set ?_ GE214.out) | exact HB.out)⟩⟩
                    · rw [if_neg c29] at H
                      exact absurd H (by simp)
                · rw [if_neg c18] at H
                  exact absurd H (by simp)
              · rw [if_neg c17] at H
                exact absurd H (by simp)
            · rw [if_neg c16] at H
              have c16b0 : decide (x42_2 < (l0_3.length : Int)) = false := decide_eq_false c16
              clear c16
              have H' := Aside0.mk H
              clear H
              have hcz37_0 : wr.cell? ⟨gb204, 0, none⟩ = some (.int .i64 a0_0) := (blk_cell BK204.out 0).trans rfl
              have hcz37_1 : wr.cell? ⟨gb204, 1, none⟩ = some (.int .i64 a0_1) := (blk_cell BK204.out 1).trans rfl
              have hcz37_2 : wr.cell? ⟨gb204, 2, none⟩ = some (.int .i64 a0_2) := (blk_cell BK204.out 2).trans rfl
              have hcz37_3 : wr.cell? ⟨gb204, 3, none⟩ = some (.slice A0_3 l0_3.length c0_3) := (blk_cell BK204.out 3).trans rfl
              have hcz37_4 : wr.cell? ⟨gb204, 4, none⟩ = some (.slice A0_4 l0_4.length c0_4) := (blk_cell BK204.out 4).trans rfl
              have hcz37_5 : wr.cell? ⟨gb204, 5, none⟩ = some (.slice A0_5 l0_5.length c0_5) := (blk_cell BK204.out 5).trans rfl
              have hfz37_0 := blk_frozen BK204.out 0
              have hfz37_1 := blk_frozen BK204.out 1
              have hfz37_2 := blk_frozen BK204.out 2
              have hfz37_3 := blk_frozen BK204.out 3
              have hfz37_4 := blk_frozen BK204.out 4
              have hfz37_5 := blk_frozen BK204.out 5
              go_wp2
              go_loopg [3, 68] k2 (fun kq v3 v68 w' => ∃ (x3_3 : List (S65)) (x68_3 : Int), v68 = .int .i64 x68_3 ∧ Aside0 (show_Config.l2 kq x3_3 l0_5 (l0_5.length : Int) x68_3 = some r) ∧ Aside0 (kq ≤ k2) ∧ Aside0 (Kd.R k65 65 w' w.heap.size (fun _ => True) v3 x3_3) ∧ Aside0 (w'.heap[gb204]? = some (.cells #[.int .i64 a0_0, .int .i64 a0_1, .int .i64 a0_2, (.slice A0_3 l0_3.length c0_3), (.slice A0_4 l0_4.length c0_4), (.slice A0_5 l0_5.length c0_5)] 46 (0, 0))) ∧ Aside0 (Below w.heap.size w w'))
              case atStart => exact ⟨(x3_2), (0), (by first | rfl | (simp; done) | (simp [*]; done)), H', ⟨Nat.le_refl _⟩, ⟨by (with_reducible repeat (first | apply Kd.R_alloc | apply Kd.R_drewN | apply Kd.R_drew)); exact HO_3.out⟩, ⟨by (with_reducible repeat (first | refine blk_drewN ?_ _ | refine blk_drew ?_ | refine blk_alloc ?_ _)); exact BK204.out⟩, ⟨by repeat (first | (with_reducible first | exact HB.out | apply below_alloc | apply pw_below_drewN | apply below_drew1 | refine below_set ?_ GE204.out) | exact HB.out)⟩⟩
              case round =>
                clear H'
                try clear c1
                try clear q1
                try clear c2
                try clear p2
                try clear q2
                try clear hx2
                try clear c3
                try clear p6
                try clear c7
                try clear c7b0
                try clear c8
                try clear c8b0
                try clear c9
                try clear c9b0
                try clear c10
                try clear c12
                try clear c15
                try clear c16
                try clear c16b0
                try clear c17
                try clear c17b0
                try clear c18
                try clear c18b0
                try clear q19
                try clear c20
                try clear p20
                try clear q20
                try clear hx20
                try clear c21
                try clear p21
                try clear q21
                try clear hx21
                try clear c23
                try clear c29
                try clear c31
                try clear hcz13_0
                try clear hcz13_1
                try clear hcz13_2
                try clear hcz15_0
                try clear hcz15_1
                try clear hcz15_2
                try clear hcz15_3
                try clear hcz15_4
                try clear hcz15_5
                try clear hcz24_0
                try clear hcz24_1
                try clear hcz24_2
                try clear hcz32_0
                try clear hcz32_1
                try clear hcz32_2
                try clear hcz37_0
                try clear hcz37_1
                try clear hcz37_2
                try clear hcz37_3
                try clear hcz37_4
                try clear hcz37_5
                try clear hcz3_0
                try clear hcz3_1
                try clear hcz3_2
                try clear hcz3_3
                try clear hcz3_4
                try clear hcz3_5
                try clear hcz6_0
                try clear hcz6_1
                try clear hcz6_2
                try clear hcz6_3
                try clear hcz6_4
                try clear hcz6_5
                try clear hfz13_0
                try clear hfz13_1
                try clear hfz13_2
                try clear hfz15_0
                try clear hfz15_1
                try clear hfz15_2
                try clear hfz15_3
                try clear hfz15_4
                try clear hfz15_5
                try clear hfz24_0
                try clear hfz24_1
                try clear hfz24_2
                try clear hfz32_0
                try clear hfz32_1
                try clear hfz32_2
                try clear hfz37_0
                try clear hfz37_1
                try clear hfz37_2
                try clear hfz37_3
                try clear hfz37_4
                try clear hfz37_5
                try clear hfz3_0
                try clear hfz3_1
                try clear hfz3_2
                try clear hfz3_3
                try clear hfz3_4
                try clear hfz3_5
                try clear hfz6_0
                try clear hfz6_1
                try clear hfz6_2
                try clear hfz6_3
                try clear hfz6_4
                try clear hfz6_5
                try clear hx208_0
                try clear hx208_1
                try clear hx208_2
                try clear hx213_0
                try clear hx213_1
                try clear hx213_2
                try clear p2
                try clear p208
                try clear p213
                try clear p6
                try clear q2
                try clear q208
                try clear q213
                obtain ⟨x3_3, x68_3, rfl, HA, HK3, HO_3, BK204, HB⟩ := hrel
                cases gk with
                | zero => exact absurd HA.out (by simp [show_Config.l2])
                | succ k3 =>
                  have H := HA.out
                  clear HA
                  simp only [show_Config.l2] at H
                  by_cases c38 : x68_3 < (l0_5.length : Int)
                  · rw [if_pos c38] at H
                    have c38b0 : decide (x68_3 < (l0_5.length : Int)) = true := decide_eq_true c38
                    clear c38
                    by_cases c39 : 0 ≤ x68_3
                    · rw [if_pos c39] at H
                      have c39b0 : decide (0 ≤ x68_3) = true := decide_eq_true c39
                      clear c39
                      by_cases c40 : x68_3 < (l0_5.length : Int)
                      · rw [if_pos c40] at H
                        have c40b0 : decide (x68_3 < (l0_5.length : Int)) = true := decide_eq_true c40
                        clear c40
                        by_cases c41 : x3_3.length < 2932031007402
                        · rw [if_pos c41] at H
                          have LMc41 := Aside0.mk c41
                          clear c41
                          obtain ⟨y229, hy229⟩ : ∃ y_ : List (S65), y_ = (x3_3 ++ [(⟨9, (rd_T68 l0_5 x68_3).f2, 0, (rd_T68 l0_5 x68_3).f1, 0, 0, (rd_T68 l0_5 x68_3).f0⟩ : S65)]) := ⟨_, rfl⟩
                          replace H : (show_Config.l2 k3 y229 l0_5 (l0_5.length : Int) (wrap64 (x68_3 + 1))) = some r := by first | (rw [hy229]; with_reducible exact H) | (have H2_ := (Option.bind_some _ _).symm.trans H; rw [hy229]; with_reducible exact H2_) | (have H2_ := (Option.bind_some _ _).symm.trans H; with_reducible exact H2_) | with_reducible exact H | (rw [hy229]; exact H) | exact H
                          have Ny229 := Aside0.mk hy229
                          clear hy229
                          have H' := Aside0.mk H
                          clear H
                          have p227 : 0 ≤ (x68_3 : Int) := of_decide_eq_true (by first | (with_reducible assumption) | assumption)
                          have q227 : x68_3 < (l0_5.length : Int) := of_decide_eq_true (by first | (with_reducible assumption) | assumption)
                          obtain ⟨ad227, e227, hx227_0, hx227_1, hx227_2⟩ := at_T68 HR0_5.out x68_3 p227 q227
                          cases e227
                          replace hx227_0 := (HB.out.cell (World.block_lt_of_cell? w _ hx227_0)).trans hx227_0
                          replace hx227_1 := (HB.out.cell (World.block_lt_of_cell? w _ hx227_1)).trans hx227_1
                          replace hx227_2 := (HB.out.cell (World.block_lt_of_cell? w _ hx227_2)).trans hx227_2
                          replace p227 := eq_true p227
                          replace q227 := eq_true q227
                          go_wp2_with (first | ((with_reducible refine gate_dst (N := 10) rfl ?_); refine box_event ?hg (N := 10) ?hd (cs := #[.int .u64 0, .int .i64 0, .int .i64 0]) (t := 68) ?hr ?_; (case hd => rfl); (case hg => rfl); (case hr => first | (go_simp; done) | (go_simp; rfl)); intro gb228 hg w42 hbox hb; have n0_ := Aside0.mk (Kd.R_below (by (with_reducible repeat (first | apply Kd.R_alloc | apply Kd.R_drewN | apply Kd.R_drew)); exact HO_3.out) hb); have n1_ := Aside0.mk (blk_below (g := gb204) (o := .cells #[.int .i64 a0_0, .int .i64 a0_1, .int .i64 a0_2, .slice A0_3 l0_3.length c0_3, .slice A0_4 l0_4.length c0_4, .slice (some ad227) l0_5.length c0_5] 46 (0, 0)) (by (with_reducible repeat (first | refine blk_drewN ?_ _ | refine blk_drew ?_ | refine blk_alloc ?_ _)); exact BK204.out) hb); have n2_ := Aside0.mk (below_step (by repeat (first | (with_reducible first | exact HB.out | apply below_alloc | apply pw_below_drewN | apply below_drew1 | refine below_set ?_ GE204.out) | exact HB.out)) hb); have n3_ := Aside0.mk (hbox); have n4_ := Aside0.mk ((by rw [hg]; exact (below_size (by repeat (first | (with_reducible first | exact HB.out | apply below_alloc | apply pw_below_drewN | apply below_drew1 | refine below_set ?_ GE204.out) | exact HB.out))) : w.heap.size ≤ gb228)); have n5_ := Aside0.mk ((by rw [hg]; exact (below_size (by repeat (first | (with_reducible first | exact HB.out | apply below_alloc | apply pw_below_drewN | apply below_drew1 | refine below_set ?_ GE204.out) | exact HB.out))) : w.heap.size ≤ gb228)); have n6_ := Aside0.mk ((by rw [hg]; exact Nat.ne_of_lt (blk_lt (g := gb204) (o := .cells #[.int .i64 a0_0, .int .i64 a0_1, .int .i64 a0_2, .slice A0_3 l0_3.length c0_3, .slice A0_4 l0_4.length c0_4, .slice (some ad227) l0_5.length c0_5] 46 (0, 0)) (by (with_reducible repeat (first | refine blk_drewN ?_ _ | refine blk_drew ?_ | refine blk_alloc ?_ _)); exact BK204.out)) : gb204 ≠ gb228)); have n7_ := Aside0.mk ((by rw [hg]; exact Nat.ne_of_gt (blk_lt (g := gb204) (o := .cells #[.int .i64 a0_0, .int .i64 a0_1, .int .i64 a0_2, .slice A0_3 l0_3.length c0_3, .slice A0_4 l0_4.length c0_4, .slice (some ad227) l0_5.length c0_5] 46 (0, 0)) (by (with_reducible repeat (first | refine blk_drewN ?_ _ | refine blk_drew ?_ | refine blk_alloc ?_ _)); exact BK204.out)) : gb228 ≠ gb204)); clear HO_3; clear BK204; clear HB; have HO_3 := n0_; have BK204 := n1_; have HB := n2_; have BK228 := n3_; have GW228 := n4_; have GE228 := n5_; have NB204_228 := n6_; have NB228_204 := n7_; clear n0_ n1_ n2_ n3_ n4_ n5_ n6_ n7_; clear hb hbox hg; have hnb43 := NB228_204.out; have hnc43 := NB204_228.out; have hcz44_0 : w42.cell? ⟨gb228, 0, none⟩ = some (.int .u64 0) := (blk_cell BK228.out 0).trans rfl; have hcz44_1 : w42.cell? ⟨gb228, 1, none⟩ = some (.int .i64 0) := (blk_cell BK228.out 1).trans rfl; have hcz44_2 : w42.cell? ⟨gb228, 2, none⟩ = some (.int .i64 0) := (blk_cell BK228.out 2).trans rfl; have hfz44_0 := blk_frozen BK228.out 0; have hfz44_1 := blk_frozen BK228.out 1; have hfz44_2 := blk_frozen BK228.out 2) | ((with_reducible refine gate_builtin (b := .append) (xs := #[.tmp 72, .tmp 80]) rfl ?_); at_builtin; refine Kd.R_append k65 (w0 := w) w.heap.size rfl (.tmp 72) (.tmp 80) 66 65 (.agg #[(.int .i64 0), (.int .i64 0), (.int .i64 0), (.int .i64 0), (.int .u8 0), (.int .u8 0), (.int .u64 0)]) 48 rfl Tryd.underlying66 info65 rfl (by decide) (by omega) u3 x3_3 (⟨9, (rd_T68 l0_5 x68_3).f2, 0, (rd_T68 l0_5 x68_3).f1, 0, 0, (rd_T68 l0_5 x68_3).f0⟩ : S65) [.int .i64 9, .int .i64 ((rd_T68 l0_5 x68_3).f2), .int .i64 0, .int .i64 ((rd_T68 l0_5 x68_3).f1), .int .u8 0, .int .u8 0, .int .u64 ((rd_T68 l0_5 x68_3).f0)] (fun _ => True) (fun _ => False) rfl (by first | (go_simp; done) | (go_simp; rfl)) ?aP (fun _ hk => hk.elim) ?aF ?aO ?aB ?aS ?aL ?_; (case aP => exact k65_mkM _ _ _ (⟨9, (rd_T68 l0_5 x68_3).f2, 0, (rd_T68 l0_5 x68_3).f1, 0, 0, (rd_T68 l0_5 x68_3).f0⟩ : S65)); (case aB => exact (by repeat (first | (with_reducible first | exact HB.out | apply below_alloc | apply pw_below_drewN | apply below_drew1 | refine below_set ?_ GE204.out | refine below_set ?_ GE228.out) | exact HB.out))); (case aF => exact (fun _ _ => trivial)); (case aO => exact (by (with_reducible repeat (first | apply Kd.R_alloc | apply Kd.R_drewN | apply Kd.R_drew)); exact Kd.R_mono (Kd.R_far (p := ⟨gb228, 2, none⟩) (Kd.R_far (p := ⟨gb228, 1, none⟩) (Kd.R_far (p := ⟨gb228, 0, none⟩) (Kd.R_types HO_3.out BK228.out (by decide)) (fun _ hk => hk.2) (.int .u64 ((rd_T68 l0_5 x68_3).f0))) (fun _ hk => hk.2) (.int .i64 ((rd_T68 l0_5 x68_3).f1))) (fun _ hk => hk.2) (.int .i64 ((rd_T68 l0_5 x68_3).f2))) (fun _ hk => trivial))); (case aS => exact (below_size (by repeat (first | (with_reducible first | exact HB.out | apply below_alloc | apply pw_below_drewN | apply below_drew1 | refine below_set ?_ GE204.out | refine below_set ?_ GE228.out) | exact HB.out)))); (case aL => have := LMc41.out; omega); intro v230 w45 ho hb hg hat; rw [← Ny229.out] at ho; have n0_ := Aside0.mk (blk_grown (g := gb204) (o := .cells #[.int .i64 a0_0, .int .i64 a0_1, .int .i64 a0_2, .slice A0_3 l0_3.length c0_3, .slice A0_4 l0_4.length c0_4, .slice (some ad227) l0_5.length c0_5] 46 (0, 0)) (by (with_reducible repeat (first | refine blk_drewN ?_ _ | refine blk_drew ?_ | refine blk_alloc ?_ _)); refine blk_far ?_ NB204_228.out _; (with_reducible repeat (first | refine blk_drewN ?_ _ | refine blk_drew ?_ | refine blk_alloc ?_ _)); refine blk_far ?_ NB204_228.out _; (with_reducible repeat (first | refine blk_drewN ?_ _ | refine blk_drew ?_ | refine blk_alloc ?_ _)); refine blk_far ?_ NB204_228.out _; (with_reducible repeat (first | refine blk_drewN ?_ _ | refine blk_drew ?_ | refine blk_alloc ?_ _)); exact BK204.out) hg (Kd.R_ne HO_3.out BK204.out (by decide))); have n1_ := Aside0.mk (blk_grown (g := gb228) (o := .cells #[.int .u64 ((rd_T68 l0_5 x68_3).f0), .int .i64 ((rd_T68 l0_5 x68_3).f1), .int .i64 ((rd_T68 l0_5 x68_3).f2)] 68 (0, 0)) (by (with_reducible repeat (first | refine blk_drewN ?_ _ | refine blk_drew ?_ | refine blk_alloc ?_ _)); refine blk_put (cs := #[.int .u64 ((rd_T68 l0_5 x68_3).f0), .int .i64 ((rd_T68 l0_5 x68_3).f1), .int .i64 0]) ?_ 2 _ rfl; (with_reducible repeat (first | refine blk_drewN ?_ _ | refine blk_drew ?_ | refine blk_alloc ?_ _)); refine blk_put (cs := #[.int .u64 ((rd_T68 l0_5 x68_3).f0), .int .i64 0, .int .i64 0]) ?_ 1 _ rfl; (with_reducible repeat (first | refine blk_drewN ?_ _ | refine blk_drew ?_ | refine blk_alloc ?_ _)); refine blk_put (cs := #[.int .u64 0, .int .i64 0, .int .i64 0]) ?_ 0 _ rfl; (with_reducible repeat (first | refine blk_drewN ?_ _ | refine blk_drew ?_ | refine blk_alloc ?_ _)); exact BK228.out) hg (Kd.R_ne HO_3.out BK228.out (by decide))); have n2_ := Aside0.mk (hb); have n3_ := Aside0.mk (ho); clear BK204; clear BK228; clear HB; clear HO_3; have BK204 := n0_; have BK228 := n1_; have HB := n2_; have HO231 := n3_; clear n0_ n1_ n2_ n3_; clear ho hb hg hat))
                          go_roundg k3
                          case measure => have := HK1.out; have := HK2.out; have := HK3.out; omega
                          case rel => exact ⟨(y229), (wrap64 (x68_3 + 1)), (by first | rfl | (simp; done) | (simp [*]; done)), H', ⟨by have := HK1.out; have := HK2.out; have := HK3.out; omega⟩, ⟨by (with_reducible repeat (first | apply Kd.R_alloc | apply Kd.R_drewN | apply Kd.R_drew)); exact HO231.out⟩, ⟨by (with_reducible repeat (first | refine blk_drewN ?_ _ | refine blk_drew ?_ | refine blk_alloc ?_ _)); exact BK204.out⟩, ⟨by repeat (first | (with_reducible first | exact HB.out | apply below_alloc | apply pw_below_drewN | apply below_drew1 | refine below_set ?_ GE204.out | refine below_set ?_ GE228.out) | exact HB.out)⟩⟩
                        · rw [if_neg c41] at H
                          exact absurd H (by simp)
                      · rw [if_neg c40] at H
                        exact absurd H (by simp)
                    · rw [if_neg c39] at H
                      exact absurd H (by simp)
                  · rw [if_neg c38] at H
                    have c38b0 : decide (x68_3 < (l0_5.length : Int)) = false := decide_eq_false c38
                    clear c38
                    replace H := Option.bind_eq_some_iff.mp H
                    obtain ⟨t232, A460, H⟩ := H
                    replace H : (some t232) = some r := H
                    have A46 := Aside0.mk A460
                    clear A460
                    obtain rfl := Option.some.inj H
                    obtain ⟨Ao47, co47, eo47⟩ := Kd.R_slice HO_3.out
                    subst eo47
                    go_wp2_with (first | ((with_reducible refine gate_callee (f := 21) rfl ?_); refine goesL_ (some 84) rfl rfl Tryd.func21 (by kernel_rfl) rfl #[.slice Ao47 x3_3.length co47] rfl (by (try simp only [List.map_toArray, List.map_cons, List.map_nil]); first | done | rfl | (simp only [List.length_drop, List.length_take]; rfl)) ?_; (with_reducible refine (show_lines.calls k3 _ _ x3_3 t232 _ ?side1 ?side2 ?side3 A46.out).mono ?_); (case side1 => repeat (first | exact (Kd.R_reads' HO_3.out).2.2 | (with_reducible refine Kd.C_alloc ?_ _) | (with_reducible refine Kd.C_drewN ?_ _) | (with_reducible refine Kd.C_drew ?_))); (case side2 => exact (Kd.R_reads' HO_3.out).2.1); (case side3 => exact Laid.below hL (by repeat (first | (with_reducible first | exact HB.out | apply below_alloc | apply pw_below_drewN | apply below_drew1 | refine below_set ?_ GE204.out) | exact HB.out))); rintro e w48 ⟨v233, rfl, ho0, hb⟩; refine ⟨_, rfl, ?_⟩; have n0_ := Aside0.mk (Kd.R_below (by (with_reducible repeat (first | apply Kd.R_alloc | apply Kd.R_drewN | apply Kd.R_drew)); exact HO_3.out) hb); have n1_ := Aside0.mk (Kd.R_lower ho0 (below_size (by repeat (first | (with_reducible first | exact HB.out | apply below_alloc | apply pw_below_drewN | apply below_drew1 | refine below_set ?_ GE204.out) | exact HB.out)))); have n2_ := Aside0.mk (blk_below (g := gb204) (o := .cells #[.int .i64 a0_0, .int .i64 a0_1, .int .i64 a0_2, .slice A0_3 l0_3.length c0_3, .slice A0_4 l0_4.length c0_4, .slice A0_5 l0_5.length c0_5] 46 (0, 0)) (by (with_reducible repeat (first | refine blk_drewN ?_ _ | refine blk_drew ?_ | refine blk_alloc ?_ _)); exact BK204.out) hb); have n3_ := Aside0.mk (below_step (by repeat (first | (with_reducible first | exact HB.out | apply below_alloc | apply pw_below_drewN | apply below_drew1 | refine below_set ?_ GE204.out) | exact HB.out)) hb); clear HO_3; clear BK204; clear HB; have HO_3 := n0_; have HO234 := n1_; have BK204 := n2_; have HB := n3_; clear n0_ n1_ n2_ n3_; (try clear hb); (try clear hb2); (try clear hk); (try clear hi); (try clear ho0); (try clear A46)))
                    go_ret
                    exact ⟨_, by first | rfl | (simp [errW_none, errW_some] <;> rfl) | (simp [*, errW_none, errW_some] <;> rfl), by (with_reducible repeat (first | apply Kd.R_alloc | apply Kd.R_drewN | apply Kd.R_drew)); exact HO234.out, by repeat (first | (with_reducible first | exact HB.out | apply below_alloc | apply pw_below_drewN | apply below_drew1 | refine below_set ?_ GE204.out) | exact HB.out)⟩

end Go.Proofs.YtjamaamkmfdnaaaDoor.X
