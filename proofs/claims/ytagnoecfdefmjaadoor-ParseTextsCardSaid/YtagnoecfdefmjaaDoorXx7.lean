-- WRITTEN BY A PROGRAM OF THIS CLAIM'S SESSION (xprint.py, over the kit's print): functions, contracts. Lean checks it.
-- INDENT: one space a step
import Derived.Test.YtagnoecfdefmjaaDoorMade
import Derived.Test.YtagnoecfdefmjaaDoorXx0
import Derived.Test.YtagnoecfdefmjaaDoorXx5
import Derived.Test.YtagnoecfdefmjaaDoorXx6
namespace Go.Proofs.YtagnoecfdefmjaaDoor.X
open Go.RowKit Go.Proofs.YtagnoecfdefmjaaDoorW.PrintWords Go.Proofs.YtagnoecfdefmjaaDoorW.PrintLast Go.Proofs.YtagnoecfdefmjaaDoorW.PrintMore
attribute [local go_sem] max2_int min2_int max_two min_two max_three min_three max_four min_four   -- for this text's walks alone
set_option linter.unusedVariables false
set_option linter.unusedSimpArgs false

/-! ### weirgateref22_Line: function 9 -/
mutual
def weirgateref22_Line.l0 : Nat → List ByteArray → List (List ByteArray) → Int → Option (Int × Int × Int × Int × Int × Int × Int × Int × Int)
 | 0, _, _, _ => none
 | k + 1, x3, x4, x5 => if x5 < (x4.length : Int) then (if 0 ≤ x5 then (if ((rd_L7 x4 x5).length : Int) = (x3.length : Int) then (weirgateref22_Line.l1 k x3 x4 x5 ([] : List Int) 0 true 0) else (weirgateref22_Line.l0 k x3 x4 (wrap64 (x5 + 1)))) else (none)) else (some (0, 0, 0, 0, 0, 0, 0, 0, 15))
def weirgateref22_Line.l1 : Nat → List ByteArray → List (List ByteArray) → Int → List Int → Int → Bool → Int → Option (Int × Int × Int × Int × Int × Int × Int × Int × Int)
 | 0, _, _, _, _, _, _, _ => none
 | k + 1, x3, x4, x5, x6, x7, x8, x9 => if x9 < (x3.length : Int) then (if 0 ≤ x5 then (if x5 < (x4.length : Int) then (if 0 ≤ x9 then (if x9 < ((rd_L7 x4 x5).length : Int) then (if (rdOf ByteArray.empty (rd_L7 x4 x5) x9).toList = ([35] : List UInt8) then ((weirgateref21_Num.f k (rdOf ByteArray.empty x3 x9)).bind fun bt273 => (if x6.length < 17592186044416 then ((some (x6 ++ [bt273.1] : List Int)).bind fun y276 => (if x8 = true then (weirgateref22_Line.l1 k x3 x4 x5 y276 x7 bt273.2 (wrap64 (x9 + 1))) else (weirgateref22_Line.l1 k x3 x4 x5 y276 x7 false (wrap64 (x9 + 1))))) else (none))) else (if (rdOf ByteArray.empty (rd_L7 x4 x5) x9).toList = ([64] : List UInt8) then ((weirgateref09_Parse.f k (rdOf ByteArray.empty x3 x9)).bind fun bt280 => (if x8 = true then (weirgateref22_Line.l1 k x3 x4 x5 x6 bt280.1 (bt280.2 == 0) (wrap64 (x9 + 1))) else (weirgateref22_Line.l1 k x3 x4 x5 x6 bt280.1 false (wrap64 (x9 + 1))))) else (if x8 = true then (weirgateref22_Line.l1 k x3 x4 x5 x6 x7 ((rdOf ByteArray.empty x3 x9).toList == (rdOf ByteArray.empty (rd_L7 x4 x5) x9).toList) (wrap64 (x9 + 1))) else (weirgateref22_Line.l1 k x3 x4 x5 x6 x7 false (wrap64 (x9 + 1)))))) else (none)) else (none)) else (none)) else (none)) else (if x8 = true then ((weirgateref22_made.f x5 x6 x7).bind fun bt285 => (if bt285.2.2.2.2.2.2.2.2 = true then (some (bt285.1, bt285.2.1, bt285.2.2.1, bt285.2.2.2.1, bt285.2.2.2.2.1, bt285.2.2.2.2.2.1, bt285.2.2.2.2.2.2.1, bt285.2.2.2.2.2.2.2.1, 0)) else (weirgateref22_Line.l0 k x3 x4 (wrap64 (x5 + 1))))) else (weirgateref22_Line.l0 k x3 x4 (wrap64 (x5 + 1))))
end
def weirgateref22_Line.f (k : Nat) (a0 : ByteArray) : Option (Int × Int × Int × Int × Int × Int × Int × Int × Int) := if (a0.size : Int) > 200 then (some (0, 0, 0, 0, 0, 0, 0, 0, 2)) else ((weirgateref21_Cut.f k a0).bind fun t263 => ((weirgateref22_shapes.f).bind fun t266 => (weirgateref22_Line.l0 k t263 t266 0)))
theorem weirgateref22_Line.mono_l : ∀ k, (∀ y0 y1 y2, LeO (weirgateref22_Line.l0 k y0 y1 y2) (weirgateref22_Line.l0 (k + 1) y0 y1 y2)) ∧ (∀ y0 y1 y2 y3 y4 y5 y6, LeO (weirgateref22_Line.l1 k y0 y1 y2 y3 y4 y5 y6) (weirgateref22_Line.l1 (k + 1) y0 y1 y2 y3 y4 y5 y6))
 | 0 => ⟨fun _ _ _ r h => by simp [weirgateref22_Line.l0] at h, fun _ _ _ _ _ _ _ r h => by simp [weirgateref22_Line.l1] at h⟩
 | k + 1 => by
  obtain ⟨ih0, ih1⟩ := weirgateref22_Line.mono_l k
  refine ⟨?_, ?_⟩
  ·intro y0 y1 y2
   unfold weirgateref22_Line.l0
   repeat' first
   | (with_reducible exact ih0 _ _ _)
   | (with_reducible exact ih1 _ _ _ _ _ _ _)
   | (with_reducible exact weirgateref09_Parse.mono _ _)
   | (with_reducible exact weirgateref21_Cut.mono _ _)
   | (with_reducible exact weirgateref21_Num.mono _ _)
   | (with_reducible exact LeO.refl _)
   | (with_reducible exact LeO.none _)
   | (with_reducible refine LeO.ite ?_ ?_)
   | (with_reducible refine LeO.bind ?_ (fun _ => ?_))
   | exact ih0 _ _ _
   | exact ih1 _ _ _ _ _ _ _
   | exact weirgateref09_Parse.mono _ _
   | exact weirgateref21_Cut.mono _ _
   | exact weirgateref21_Num.mono _ _
   | exact LeO.none _
   | refine LeO.ite ?_ ?_
   | refine LeO.bind ?_ (fun _ => ?_)
  ·intro y0 y1 y2 y3 y4 y5 y6
   unfold weirgateref22_Line.l1
   repeat' first
   | (with_reducible exact ih0 _ _ _)
   | (with_reducible exact ih1 _ _ _ _ _ _ _)
   | (with_reducible exact weirgateref09_Parse.mono _ _)
   | (with_reducible exact weirgateref21_Cut.mono _ _)
   | (with_reducible exact weirgateref21_Num.mono _ _)
   | (with_reducible exact LeO.refl _)
   | (with_reducible exact LeO.none _)
   | (with_reducible refine LeO.ite ?_ ?_)
   | (with_reducible refine LeO.bind ?_ (fun _ => ?_))
   | exact ih0 _ _ _
   | exact ih1 _ _ _ _ _ _ _
   | exact weirgateref09_Parse.mono _ _
   | exact weirgateref21_Cut.mono _ _
   | exact weirgateref21_Num.mono _ _
   | exact LeO.none _
   | refine LeO.ite ?_ ?_
   | refine LeO.bind ?_ (fun _ => ?_)
theorem weirgateref22_Line.mono : ∀ a0 k, LeO (weirgateref22_Line.f k a0) (weirgateref22_Line.f (k + 1) a0) := by
 intro a0 k
 obtain ⟨ih0, ih1⟩ := weirgateref22_Line.mono_l k
 unfold weirgateref22_Line.f
 repeat' first
   | (with_reducible exact ih0 _ _ _)
   | (with_reducible exact ih1 _ _ _ _ _ _ _)
   | (with_reducible exact weirgateref09_Parse.mono _ _)
   | (with_reducible exact weirgateref21_Cut.mono _ _)
   | (with_reducible exact weirgateref21_Num.mono _ _)
   | (with_reducible exact LeO.refl _)
   | (with_reducible exact LeO.none _)
   | (with_reducible refine LeO.ite ?_ ?_)
   | (with_reducible refine LeO.bind ?_ (fun _ => ?_))
   | exact ih0 _ _ _
   | exact ih1 _ _ _ _ _ _ _
   | exact weirgateref09_Parse.mono _ _
   | exact weirgateref21_Cut.mono _ _
   | exact weirgateref21_Num.mono _ _
   | exact LeO.none _
   | refine LeO.ite ?_ ?_
   | refine LeO.bind ?_ (fun _ => ?_)
def weirgateref22_Line.T15 : Bool × List (List Nat × List Nat) := (true, [([], []), ([0], [0]), ([1], [1]), ([1], [1]), ([2, 3, 1], [1, 2, 3]), ([4, 1], [1, 4]), ([1], [1]), ([1], [1]), ([6, 7, 1], [1, 6, 7]), ([8, 1], [1, 8]), ([1], [1]), ([9, 10, 1], [1, 9, 10]), ([11, 1], [1, 11]), ([5, 12, 1], [1, 5, 12]), ([1, 13], [1, 13]), ([14, 1, 0, 1, 2, 3, 4, 5, 6, 7, 8, 9, 10, 11, 12, 13, 14], [0, 14])])
def weirgateref22_Line.B15 : List Nat := [0, 1, 3, 3, 15, 31, 3, 3, 195, 451, 3, 1987, 4035, 8191, 16383, 32767]
theorem weirgateref22_Line.tab15 : rtab .any (opsOf Tryd.f9 15) = weirgateref22_Line.T15 := by kernel_rfl
theorem weirgateref22_Line.bits15 : waitsOk weirgateref22_Line.T15.2 weirgateref22_Line.B15 = true := by kernel_rfl
def weirgateref22_Line.T18 : Bool × List (List Nat × List Nat) := (true, [([], []), ([], []), ([1], [1]), ([2], [2]), ([0, 3], [0, 3]), ([], []), ([5, 4], [5]), ([6], [6]), ([7, 6], [6, 7]), ([6, 8], [6, 8]), ([4, 6, 0, 1, 2, 3, 4], [0, 4]), ([9, 10, 0, 1, 2, 3, 4, 5, 6, 7, 8, 9, 10], [5, 9])])
def weirgateref22_Line.B18 : List Nat := [0, 0, 2, 6, 15, 0, 63, 127, 255, 511, 127, 2047]
theorem weirgateref22_Line.tab18 : rtab .any (opsOf Tryd.f9 18) = weirgateref22_Line.T18 := by kernel_rfl
theorem weirgateref22_Line.bits18 : waitsOk weirgateref22_Line.T18.2 weirgateref22_Line.B18 = true := by kernel_rfl
set_option maxHeartbeats 8000000 in
set_option maxRecDepth 100000 in
theorem weirgateref22_Line.calls (k : Nat) (a0 : ByteArray) (r1 : Int) (r2 : Int) (r3 : Int) (r4 : Int) (r5 : Int) (r6 : Int) (r7 : Int) (r8 : Int) (r9 : Int) (w : World) (hL : Laid w) (h : weirgateref22_Line.f k a0 = some (r1, r2, r3, r4, r5, r6, r7, r8, r9)) :
  Calls Tryd.prog 9 #[.string a0] w fun e w' => e = .returned (.agg #[.int .i64 r1, .int .i64 r2, .int .i64 r3, .int .i64 r4, .int .i64 r5, .int .u8 r6, .int .u8 r7, .int .u64 r8, .int .i64 r9]) ∧ Below w.heap.size w w' := by
 have hu34 := Tryd.underlying34
 have hu57 := Tryd.underlying57
 have hu32 := Tryd.underlying32
 have HB := Aside0.mk (Below.refl w.heap.size w)
 have H : (if (a0.size : Int) > 200 then (some (0, 0, 0, 0, 0, 0, 0, 0, 2)) else ((weirgateref21_Cut.f k a0).bind fun t263 => ((weirgateref22_shapes.f).bind fun t266 => (weirgateref22_Line.l0 k t263 t266 0)))) = some (r1, r2, r3, r4, r5, r6, r7, r8, r9) := h
 clear h
 by_cases c2 : (a0.size : Int) > 200
 ·rw [if_pos c2] at H
  have c2b0 : decide (200 < (a0.size : Int)) = true := decide_eq_true c2
  have c2b1 : decide (200 < a0.size) = true := decide_eq_true (by omega)
  clear c2
  simp only [Option.some.injEq, Prod.mk.injEq] at H
  obtain ⟨rfl, rfl, rfl, rfl, rfl, rfl, rfl, rfl, rfl⟩ := H
  go_enter Tryd.func9, Tryd.ntmps9
  go_wp2_with (first | ((with_reducible refine gate_dst (N := 2) rfl ?_); refine box_event ?hg (N := 2) ?hd (cs := #[.int .i64 0, .int .i64 0, .int .i64 0, .int .i64 0, .int .i64 0, .int .u8 0, .int .u8 0, .int .u64 0, .int .i64 0]) (t := 34) ?hr ?_; (case hd => rfl); (case hg => rfl); (case hr => first | (go_simp; done) | (go_simp; rfl)); intro gb262 hg w3 hbox hb; have n0_ := Aside0.mk (below_step (by repeat (first | (with_reducible first | exact HB.out | apply below_alloc | apply pw_below_drewN | apply below_drew1) | exact HB.out)) hb); have n1_ := Aside0.mk (hbox); have n2_ := Aside0.mk ((by rw [hg]; exact (below_size (by repeat (first | (with_reducible first | exact HB.out | apply below_alloc | apply pw_below_drewN | apply below_drew1) | exact HB.out))) : w.heap.size ≤ gb262)); have n3_ := Aside0.mk ((by rw [hg]; exact (below_size (by repeat (first | (with_reducible first | exact HB.out | apply below_alloc | apply pw_below_drewN | apply below_drew1) | exact HB.out))) : w.heap.size ≤ gb262)); clear HB; have HB := n0_; have BK262 := n1_; have GW262 := n2_; have GE262 := n3_; clear n0_ n1_ n2_ n3_; clear hb hbox hg; have hcz4_0 : w3.cell? ⟨gb262, 0, none⟩ = some (.int .i64 0) := (blk_cell BK262.out 0).trans rfl; have hcz4_1 : w3.cell? ⟨gb262, 1, none⟩ = some (.int .i64 0) := (blk_cell BK262.out 1).trans rfl; have hcz4_2 : w3.cell? ⟨gb262, 2, none⟩ = some (.int .i64 0) := (blk_cell BK262.out 2).trans rfl; have hcz4_3 : w3.cell? ⟨gb262, 3, none⟩ = some (.int .i64 0) := (blk_cell BK262.out 3).trans rfl; have hcz4_4 : w3.cell? ⟨gb262, 4, none⟩ = some (.int .i64 0) := (blk_cell BK262.out 4).trans rfl; have hcz4_5 : w3.cell? ⟨gb262, 5, none⟩ = some (.int .u8 0) := (blk_cell BK262.out 5).trans rfl; have hcz4_6 : w3.cell? ⟨gb262, 6, none⟩ = some (.int .u8 0) := (blk_cell BK262.out 6).trans rfl; have hcz4_7 : w3.cell? ⟨gb262, 7, none⟩ = some (.int .u64 0) := (blk_cell BK262.out 7).trans rfl; have hcz4_8 : w3.cell? ⟨gb262, 8, none⟩ = some (.int .i64 0) := (blk_cell BK262.out 8).trans rfl; have hfz4_0 := blk_frozen BK262.out 0; have hfz4_1 := blk_frozen BK262.out 1; have hfz4_2 := blk_frozen BK262.out 2; have hfz4_3 := blk_frozen BK262.out 3; have hfz4_4 := blk_frozen BK262.out 4; have hfz4_5 := blk_frozen BK262.out 5; have hfz4_6 := blk_frozen BK262.out 6; have hfz4_7 := blk_frozen BK262.out 7; have hfz4_8 := blk_frozen BK262.out 8))
  refine bodyPost_ret (results_cell_row rfl _ _ gb262 34 #[.int .i64 0, .int .i64 0, .int .i64 0, .int .i64 0, .int .i64 0, .int .u8 0, .int .u8 0, .int .u64 0, .int .i64 2] (0, 0) _ rfl (by (with_reducible repeat (first | refine blk_drewN ?_ _ | refine blk_drew ?_ | refine blk_alloc ?_ _)); refine blk_put (cs := #[.int .i64 0, .int .i64 0, .int .i64 0, .int .i64 0, .int .i64 0, .int .u8 0, .int .u8 0, .int .u64 0, .int .i64 0]) ?_ 8 _ rfl; (with_reducible repeat (first | refine blk_drewN ?_ _ | refine blk_drew ?_ | refine blk_alloc ?_ _)); refine blk_put (cs := #[.int .i64 0, .int .i64 0, .int .i64 0, .int .i64 0, .int .i64 0, .int .u8 0, .int .u8 0, .int .u64 0, .int .i64 0]) ?_ 7 _ rfl; (with_reducible repeat (first | refine blk_drewN ?_ _ | refine blk_drew ?_ | refine blk_alloc ?_ _)); refine blk_put (cs := #[.int .i64 0, .int .i64 0, .int .i64 0, .int .i64 0, .int .i64 0, .int .u8 0, .int .u8 0, .int .u64 0, .int .i64 0]) ?_ 6 _ rfl; (with_reducible repeat (first | refine blk_drewN ?_ _ | refine blk_drew ?_ | refine blk_alloc ?_ _)); refine blk_put (cs := #[.int .i64 0, .int .i64 0, .int .i64 0, .int .i64 0, .int .i64 0, .int .u8 0, .int .u8 0, .int .u64 0, .int .i64 0]) ?_ 5 _ rfl; (with_reducible repeat (first | refine blk_drewN ?_ _ | refine blk_drew ?_ | refine blk_alloc ?_ _)); refine blk_put (cs := #[.int .i64 0, .int .i64 0, .int .i64 0, .int .i64 0, .int .i64 0, .int .u8 0, .int .u8 0, .int .u64 0, .int .i64 0]) ?_ 4 _ rfl; (with_reducible repeat (first | refine blk_drewN ?_ _ | refine blk_drew ?_ | refine blk_alloc ?_ _)); refine blk_put (cs := #[.int .i64 0, .int .i64 0, .int .i64 0, .int .i64 0, .int .i64 0, .int .u8 0, .int .u8 0, .int .u64 0, .int .i64 0]) ?_ 3 _ rfl; (with_reducible repeat (first | refine blk_drewN ?_ _ | refine blk_drew ?_ | refine blk_alloc ?_ _)); refine blk_put (cs := #[.int .i64 0, .int .i64 0, .int .i64 0, .int .i64 0, .int .i64 0, .int .u8 0, .int .u8 0, .int .u64 0, .int .i64 0]) ?_ 2 _ rfl; (with_reducible repeat (first | refine blk_drewN ?_ _ | refine blk_drew ?_ | refine blk_alloc ?_ _)); refine blk_put (cs := #[.int .i64 0, .int .i64 0, .int .i64 0, .int .i64 0, .int .i64 0, .int .u8 0, .int .u8 0, .int .u64 0, .int .i64 0]) ?_ 1 _ rfl; (with_reducible repeat (first | refine blk_drewN ?_ _ | refine blk_drew ?_ | refine blk_alloc ?_ _)); refine blk_put (cs := #[.int .i64 0, .int .i64 0, .int .i64 0, .int .i64 0, .int .i64 0, .int .u8 0, .int .u8 0, .int .u64 0, .int .i64 0]) ?_ 0 _ rfl; (with_reducible repeat (first | refine blk_drewN ?_ _ | refine blk_drew ?_ | refine blk_alloc ?_ _)); exact BK262.out) Tryd.underlying34 rfl (by kernel_rfl)) rfl ?_
  exact ⟨by first | rfl | (simp [errW_none, errW_some] <;> rfl) | (simp [*, errW_none, errW_some] <;> rfl), by repeat (first | (with_reducible first | exact HB.out | apply below_alloc | apply pw_below_drewN | apply below_drew1 | refine below_set ?_ GE262.out) | exact HB.out)⟩
 ·rw [if_neg c2] at H
  have c2b0 : decide (200 < (a0.size : Int)) = false := decide_eq_false c2
  have c2b1 : decide (200 < a0.size) = false := decide_eq_false (by omega)
  clear c2
  replace H := Option.bind_eq_some_iff.mp H
  obtain ⟨t263, A50, H⟩ := H
  replace H : ((weirgateref22_shapes.f).bind fun t266 => (weirgateref22_Line.l0 k t263 t266 0)) = some (r1, r2, r3, r4, r5, r6, r7, r8, r9) := H
  have A5 := Aside0.mk A50
  clear A50
  replace H := Option.bind_eq_some_iff.mp H
  obtain ⟨t266, A60, H⟩ := H
  replace H : (weirgateref22_Line.l0 k t263 t266 0) = some (r1, r2, r3, r4, r5, r6, r7, r8, r9) := H
  have A6 := Aside0.mk A60
  clear A60
  have H' := Aside0.mk H
  clear H
  go_enter Tryd.func9, Tryd.ntmps9
  go_wp2_with (first | ((with_reducible refine gate_dst (N := 2) rfl ?_); refine box_event ?hg (N := 2) ?hd (cs := #[.int .i64 0, .int .i64 0, .int .i64 0, .int .i64 0, .int .i64 0, .int .u8 0, .int .u8 0, .int .u64 0, .int .i64 0]) (t := 34) ?hr ?_; (case hd => rfl); (case hg => rfl); (case hr => first | (go_simp; done) | (go_simp; rfl)); intro gb262 hg w7 hbox hb; have n0_ := Aside0.mk (below_step (by repeat (first | (with_reducible first | exact HB.out | apply below_alloc | apply pw_below_drewN | apply below_drew1) | exact HB.out)) hb); have n1_ := Aside0.mk (hbox); have n2_ := Aside0.mk ((by rw [hg]; exact (below_size (by repeat (first | (with_reducible first | exact HB.out | apply below_alloc | apply pw_below_drewN | apply below_drew1) | exact HB.out))) : w.heap.size ≤ gb262)); have n3_ := Aside0.mk ((by rw [hg]; exact (below_size (by repeat (first | (with_reducible first | exact HB.out | apply below_alloc | apply pw_below_drewN | apply below_drew1) | exact HB.out))) : w.heap.size ≤ gb262)); clear HB; have HB := n0_; have BK262 := n1_; have GW262 := n2_; have GE262 := n3_; clear n0_ n1_ n2_ n3_; clear hb hbox hg) | ((with_reducible refine gate_callee (f := 16) rfl ?_); refine goesL_ (some 20) rfl rfl Tryd.func16 (by kernel_rfl) rfl #[.string a0] rfl (by (try simp only [List.map_toArray, List.map_cons, List.map_nil]); first | done | rfl | (simp only [List.length_drop, List.length_take]; rfl)) ?_; (with_reducible refine (weirgateref21_Cut.calls k a0 t263 _ ?side1 A5.out).mono ?_); (case side1 => exact Laid.below hL (by repeat (first | (with_reducible first | exact HB.out | apply below_alloc | apply pw_below_drewN | apply below_drew1 | refine below_set ?_ GE262.out) | exact HB.out))); rintro e w8 ⟨v264, rfl, ho0, hb⟩; refine ⟨_, rfl, ?_⟩; have n0_ := Aside0.mk (Kd.R_lower ho0 (below_size (by repeat (first | (with_reducible first | exact HB.out | apply below_alloc | apply pw_below_drewN | apply below_drew1 | refine below_set ?_ GE262.out) | exact HB.out)))); have n1_ := Aside0.mk (blk_below (g := gb262) (o := .cells #[.int .i64 0, .int .i64 0, .int .i64 0, .int .i64 0, .int .i64 0, .int .u8 0, .int .u8 0, .int .u64 0, .int .i64 0] 34 (0, 0)) (by (with_reducible repeat (first | refine blk_drewN ?_ _ | refine blk_drew ?_ | refine blk_alloc ?_ _)); exact BK262.out) hb); have n2_ := Aside0.mk (below_step (by repeat (first | (with_reducible first | exact HB.out | apply below_alloc | apply pw_below_drewN | apply below_drew1 | refine below_set ?_ GE262.out) | exact HB.out)) hb); clear BK262; clear HB; have HO265 := n0_; have BK262 := n1_; have HB := n2_; clear n0_ n1_ n2_; (try clear hb); (try clear hb2); (try clear hk); (try clear hi); (try clear ho0); (try clear A5)) | ((with_reducible refine gate_callee (f := 17) rfl ?_); refine goesL_ (some 21) rfl rfl Tryd.func17 (by kernel_rfl) rfl #[] rfl (by (try simp only [List.map_toArray, List.map_cons, List.map_nil]); first | done | rfl | (simp only [List.length_drop, List.length_take]; rfl)) ?_; (with_reducible refine (weirgateref22_shapes.calls  t266 _ ?side1 A6.out).mono ?_); (case side1 => exact Laid.below hL (by repeat (first | (with_reducible first | exact HB.out | apply below_alloc | apply pw_below_drewN | apply below_drew1 | refine below_set ?_ GE262.out) | exact HB.out))); rintro e w9 ⟨v267, rfl, ho0, hb⟩; refine ⟨_, rfl, ?_⟩; have n0_ := Aside0.mk (Kd.R_below (by (with_reducible repeat (first | apply Kd.R_alloc | apply Kd.R_drewN | apply Kd.R_drew)); exact HO265.out) hb); have n1_ := Aside0.mk (Kd.N_lower (Kd.N_mono (ok' := fun k_ => some k_ ≠ (v264 : Value).ownBlock ∧ k_ ≠ gb262) ho0 (fun k_ hk_ => ⟨(Kd.fresh' (Kd.R_lt (by (with_reducible repeat (first | apply Kd.R_alloc | apply Kd.R_drewN | apply Kd.R_drew)); exact HO265.out)) k_ hk_), (Kd.freshB (g := gb262) (o := .cells #[.int .i64 0, .int .i64 0, .int .i64 0, .int .i64 0, .int .i64 0, .int .u8 0, .int .u8 0, .int .u64 0, .int .i64 0] 34 (0, 0)) (by (with_reducible repeat (first | refine blk_drewN ?_ _ | refine blk_drew ?_ | refine blk_alloc ?_ _)); exact BK262.out) k_ hk_)⟩)) (below_size (by repeat (first | (with_reducible first | exact HB.out | apply below_alloc | apply pw_below_drewN | apply below_drew1 | refine below_set ?_ GE262.out) | exact HB.out)))); have n2_ := Aside0.mk (blk_below (g := gb262) (o := .cells #[.int .i64 0, .int .i64 0, .int .i64 0, .int .i64 0, .int .i64 0, .int .u8 0, .int .u8 0, .int .u64 0, .int .i64 0] 34 (0, 0)) (by (with_reducible repeat (first | refine blk_drewN ?_ _ | refine blk_drew ?_ | refine blk_alloc ?_ _)); exact BK262.out) hb); have n3_ := Aside0.mk (below_step (by repeat (first | (with_reducible first | exact HB.out | apply below_alloc | apply pw_below_drewN | apply below_drew1 | refine below_set ?_ GE262.out) | exact HB.out)) hb); clear HO265; clear BK262; clear HB; have HO265 := n0_; have HO268 := n1_; have BK262 := n2_; have HB := n3_; clear n0_ n1_ n2_ n3_; (try clear hb); (try clear hb2); (try clear hk); (try clear hi); (try clear ho0); (try clear A6)))
  go_loopg [5] k (fun kq v5 w' => ∃ (x5_1 : Int) (x263000_1 : Int) (x263001_1 : Int) (x263002_1 : Int) (x263003_1 : Int) (x263004_1 : Int) (x263005_1 : Int) (x263006_1 : Int) (x263007_1 : Int) (x263008_1 : Int), v5 = .int .i64 x5_1 ∧ Aside0 (weirgateref22_Line.l0 kq t263 t266 x5_1 = some (r1, r2, r3, r4, r5, r6, r7, r8, r9)) ∧ Aside0 (kq ≤ k) ∧ Aside0 (Kd.R Kd.string 9 w' w.heap.size (fun _ => True) v264 t263) ∧ Aside0 (Kd.N (Kd.slice 9 Kd.string) 45 w' w.heap.size (fun k_ => some k_ ≠ (v264 : Value).ownBlock ∧ k_ ≠ gb262) v267 t266) ∧ Aside0 (w'.heap[gb262]? = some (.cells #[.int .i64 x263000_1, .int .i64 x263001_1, .int .i64 x263002_1, .int .i64 x263003_1, .int .i64 x263004_1, .int .u8 x263005_1, .int .u8 x263006_1, .int .u64 x263007_1, .int .i64 x263008_1] 34 (0, 0))) ∧ Aside0 (Below w.heap.size w w'))
  case atStart => exact ⟨(0), (0), (0), (0), (0), (0), (0), (0), (0), (0), (by first | rfl | (simp; done) | (simp [*]; done)), H', ⟨Nat.le_refl _⟩, ⟨by (with_reducible repeat (first | apply Kd.R_alloc | apply Kd.R_drewN | apply Kd.R_drew)); exact HO265.out⟩, ⟨by (with_reducible repeat (first | apply Kd.N_alloc | apply Kd.N_drewN | apply Kd.N_drew)); exact HO268.out⟩, ⟨by (with_reducible repeat (first | refine blk_drewN ?_ _ | refine blk_drew ?_ | refine blk_alloc ?_ _)); exact BK262.out⟩, ⟨by repeat (first | (with_reducible first | exact HB.out | apply below_alloc | apply pw_below_drewN | apply below_drew1 | refine below_set ?_ GE262.out) | exact HB.out)⟩⟩
  case round =>
   clear H'
   try clear c1
   try clear c2
   try clear c2b0
   try clear c2b1
   try clear p2
   try clear c9
   try clear hcz4_0
   try clear hcz4_1
   try clear hcz4_2
   try clear hcz4_3
   try clear hcz4_4
   try clear hcz4_5
   try clear hcz4_6
   try clear hcz4_7
   try clear hcz4_8
   try clear hfz4_0
   try clear hfz4_1
   try clear hfz4_2
   try clear hfz4_3
   try clear hfz4_4
   try clear hfz4_5
   try clear hfz4_6
   try clear hfz4_7
   try clear hfz4_8
   obtain ⟨x5_1, x263000_1, x263001_1, x263002_1, x263003_1, x263004_1, x263005_1, x263006_1, x263007_1, x263008_1, rfl, HA, HK1, HO_3, HO_4, BK262, HB⟩ := hrel
   cases gk with
   | zero => exact absurd HA.out (by simp [weirgateref22_Line.l0])
   | succ k1 =>
    have H := HA.out
    clear HA
    simp only [weirgateref22_Line.l0] at H
    by_cases c10 : x5_1 < (t266.length : Int)
    ·rw [if_pos c10] at H
     have c10b0 : decide (x5_1 < (t266.length : Int)) = true := decide_eq_true c10
     clear c10
     by_cases c11 : 0 ≤ x5_1
     ·rw [if_pos c11] at H
      have c11b0 : decide (0 ≤ x5_1) = true := decide_eq_true c11
      clear c11
      by_cases c12 : ((rd_L7 t266 x5_1).length : Int) = (t263.length : Int)
      ·rw [if_pos c12] at H
       have c12b0 : (((rd_L7 t266 x5_1).length : Int) == (t263.length : Int)) = true := beq_iff_eq.mpr c12
       have c12b1 : (((rd_L7 t266 x5_1).length : Int) != (t263.length : Int)) = false := bne_eq_false_iff_eq.mpr c12
       have c12b2 : ((rd_L7 t266 x5_1).length == t263.length) = true := by first | simpa using c12 | (simp at c12 ⊢; omega)
       clear c12
       have H' := Aside0.mk H
       clear H
       obtain ⟨Ao13, co13, eo13⟩ := Kd.N_slice HO_4.out
       subst eo13
       have p269 : 0 ≤ (x5_1 : Int) := of_decide_eq_true (by first | (with_reducible assumption) | assumption)
       have q269 : x5_1 < (t266.length : Int) := of_decide_eq_true (by first | (with_reducible assumption) | assumption)
       obtain ⟨ad269, A269_0, c269_0, e269, hx269_0, hl269_0, hi269_0⟩ := at_L7 (Kd.N_reads' HO_4.out).2.2 x5_1 p269 q269
       cases e269
       obtain ⟨ce269, hce269, hMe269, hcc269⟩ := Kd.N_get HO_4.out [] x5_1 p269 (by first | exact q269 | exact of_decide_eq_true (by first | (with_reducible assumption) | assumption) | (have e_ := (Kd.N_reads' HO_4.out).1; omega))
       obtain ⟨ua269_0, uc269_0, rfl, ul269_0, ge269_0⟩ := Kd.FK_slice_open hMe269
       have hv269_0 := hcc269 0 _ rfl
       rw [Nat.add_zero, show ((Kd.slice 9 Kd.string)).sz = 1 from rfl, Nat.mul_one] at hv269_0
       replace hv269_0 := Option.some.inj (hv269_0.symm.trans hx269_0)
       injection hv269_0 with hva_ hvn_ hvc_
       rw [hva_] at ge269_0
       rw [hvc_] at ul269_0
       have HL269_0 := Aside0.mk (show Kd.V Kd.string 9 _ w.heap.size _ _ (rd_L7 t266 x5_1) from Kd.V_mk ul269_0 ge269_0)
       clear hva_ hvn_ hvc_ ge269_0 ul269_0
       clear hcc269 hce269
       have HR269_0 := Aside0.mk hi269_0
       have HC269_0 := Aside0.mk hl269_0
       clear hi269_0 hl269_0
       replace p269 := eq_true p269
       replace q269 := eq_true q269
       obtain ⟨Ao14, co14, eo14⟩ := Kd.R_slice HO_3.out
       subst eo14
       go_wp2
       go_loopg [6, 7, 8, 9] k1 (fun kq v6 v7 v8 v9 w' => ∃ (x6_2 : List Int) (x7_2 : Int) (x8_2 : Bool) (x9_2 : Int), v7 = .int .u64 x7_2 ∧ v8 = .bool x8_2 ∧ v9 = .int .i64 x9_2 ∧ Aside0 (weirgateref22_Line.l1 kq t263 t266 x5_1 x6_2 x7_2 x8_2 x9_2 = some (r1, r2, r3, r4, r5, r6, r7, r8, r9)) ∧ Aside0 (kq ≤ k1) ∧ Aside0 (Kd.R Kd.string 9 w' w.heap.size (fun _ => True) (.slice Ao14 t263.length co14) t263) ∧ Aside0 (Kd.N (Kd.slice 9 Kd.string) 45 w' w.heap.size (fun k_ => some k_ ≠ ((.slice Ao14 t263.length co14) : Value).ownBlock ∧ some k_ ≠ (v6 : Value).ownBlock ∧ k_ ≠ gb262) (.slice (some ad269) t266.length co13) t266) ∧ Aside0 (Kd.R (Kd.int .i64) 3 w' w.heap.size (fun _ => True) v6 x6_2) ∧ Aside0 (w'.heap[gb262]? = some (.cells #[.int .i64 x263000_1, .int .i64 x263001_1, .int .i64 x263002_1, .int .i64 x263003_1, .int .i64 x263004_1, .int .u8 x263005_1, .int .u8 x263006_1, .int .u64 x263007_1, .int .i64 x263008_1] 34 (0, 0))) ∧ Aside0 (Below w.heap.size w w'))
       case atStart => exact ⟨(([] : List Int)), (0), (true), (0), (by first | rfl | (simp; done) | (simp [*]; done)), (by first | rfl | (simp; done) | (simp [*]; done)), (by first | rfl | (simp; done) | (simp [*]; done)), H', ⟨Nat.le_refl _⟩, ⟨by (with_reducible repeat (first | apply Kd.R_alloc | apply Kd.R_drewN | apply Kd.R_drew)); exact HO_3.out⟩, ⟨by (with_reducible repeat (first | apply Kd.N_alloc | apply Kd.N_drewN | apply Kd.N_drew)); exact Kd.N_mono HO_4.out (fun _ hk => ⟨hk.1, ⟨(by simp [Value.ownBlock]), hk.2⟩⟩)⟩, ⟨by first | exact Kd.R_nil _ _ _ _ _ | exact Kd.N_nil _ _ _ _ _ | exact Kd.V_nil _ _ _ _ _ | exact Kd.Q_nil _ _ _ _ _ | exact Kd.S_nil _ _ _ _ _⟩, ⟨by (with_reducible repeat (first | refine blk_drewN ?_ _ | refine blk_drew ?_ | refine blk_alloc ?_ _)); exact BK262.out⟩, ⟨by repeat (first | (with_reducible first | exact HB.out | apply below_alloc | apply pw_below_drewN | apply below_drew1 | refine below_set ?_ GE262.out) | exact HB.out)⟩⟩
       case round =>
        clear H'
        try clear c1
        try clear c2
        try clear c2b0
        try clear c2b1
        try clear p2
        try clear q2
        try clear hx2
        try clear c9
        try clear c10
        try clear c10b0
        try clear c11
        try clear c11b0
        try clear c12
        try clear c12b0
        try clear c12b1
        try clear c12b2
        try clear hcz4_0
        try clear hcz4_1
        try clear hcz4_2
        try clear hcz4_3
        try clear hcz4_4
        try clear hcz4_5
        try clear hcz4_6
        try clear hcz4_7
        try clear hcz4_8
        try clear hfz4_0
        try clear hfz4_1
        try clear hfz4_2
        try clear hfz4_3
        try clear hfz4_4
        try clear hfz4_5
        try clear hfz4_6
        try clear hfz4_7
        try clear hfz4_8
        try clear hx269_0
        try clear p2
        try clear p269
        try clear q269
        obtain ⟨x6_2, x7_2, x8_2, x9_2, rfl, rfl, rfl, HA, HK2, HO_3, HO_4, HO_6, BK262, HB⟩ := hrel
        cases gk with
        | zero => exact absurd HA.out (by simp [weirgateref22_Line.l1])
        | succ k2 =>
         have H := HA.out
         clear HA
         simp only [weirgateref22_Line.l1] at H
         by_cases c15 : x9_2 < (t263.length : Int)
         ·rw [if_pos c15] at H
          have c15b0 : decide (x9_2 < (t263.length : Int)) = true := decide_eq_true c15
          clear c15
          by_cases c16 : 0 ≤ x5_1
          ·rw [if_pos c16] at H
           have c16b0 : decide (0 ≤ x5_1) = true := decide_eq_true c16
           clear c16
           by_cases c17 : x5_1 < (t266.length : Int)
           ·rw [if_pos c17] at H
            have c17b0 : decide (x5_1 < (t266.length : Int)) = true := decide_eq_true c17
            clear c17
            by_cases c18 : 0 ≤ x9_2
            ·rw [if_pos c18] at H
             have c18b0 : decide (0 ≤ x9_2) = true := decide_eq_true c18
             clear c18
             by_cases c19 : x9_2 < ((rd_L7 t266 x5_1).length : Int)
             ·rw [if_pos c19] at H
              have c19b0 : decide (x9_2 < ((rd_L7 t266 x5_1).length : Int)) = true := decide_eq_true c19
              clear c19
              by_cases c20 : (rdOf ByteArray.empty (rd_L7 t266 x5_1) x9_2).toList = ([35] : List UInt8)
              ·rw [if_pos c20] at H
               have c20b0 : ((rdOf ByteArray.empty (rd_L7 t266 x5_1) x9_2).toList == ([35] : List UInt8)) = true := beq_iff_eq.mpr c20
               have c20b1 : ((rdOf ByteArray.empty (rd_L7 t266 x5_1) x9_2).toList != ([35] : List UInt8)) = false := bne_eq_false_iff_eq.mpr c20
               clear c20
               replace H := Option.bind_eq_some_iff.mp H
               obtain ⟨⟨t273, t274⟩, A210, H⟩ := H
               replace H : (if x6_2.length < 17592186044416 then ((some (x6_2 ++ [t273] : List Int)).bind fun y276 => (if x8_2 = true then (weirgateref22_Line.l1 k2 t263 t266 x5_1 y276 x7_2 t274 (wrap64 (x9_2 + 1))) else (weirgateref22_Line.l1 k2 t263 t266 x5_1 y276 x7_2 false (wrap64 (x9_2 + 1))))) else (none)) = some (r1, r2, r3, r4, r5, r6, r7, r8, r9) := H
               have A21 := Aside0.mk A210
               clear A210
               by_cases c22 : x6_2.length < 17592186044416
               ·rw [if_pos c22] at H
                have LMc22 := Aside0.mk c22
                clear c22
                obtain ⟨y276, hy276⟩ : ∃ y_ : List Int, y_ = (x6_2 ++ [t273]) := ⟨_, rfl⟩
                replace H : (if x8_2 = true then (weirgateref22_Line.l1 k2 t263 t266 x5_1 y276 x7_2 t274 (wrap64 (x9_2 + 1))) else (weirgateref22_Line.l1 k2 t263 t266 x5_1 y276 x7_2 false (wrap64 (x9_2 + 1)))) = some (r1, r2, r3, r4, r5, r6, r7, r8, r9) := by first | (rw [hy276]; with_reducible exact H) | (have H2_ := (Option.bind_some _ _).symm.trans H; rw [hy276]; with_reducible exact H2_) | (have H2_ := (Option.bind_some _ _).symm.trans H; with_reducible exact H2_) | with_reducible exact H | (rw [hy276]; exact H) | exact H
                have Ny276 := Aside0.mk hy276
                clear hy276
                by_cases c23 : x8_2 = true
                ·subst c23
                 have H1 : (weirgateref22_Line.l1 k2 t263 t266 x5_1 y276 x7_2 t274 (wrap64 (x9_2 + 1))) = some (r1, r2, r3, r4, r5, r6, r7, r8, r9) := by rw [if_pos rfl] at H; exact H
                 clear H
                 have H := H1
                 clear H1
                 have H' := Aside0.mk H
                 clear H
                 have p270 : 0 ≤ (x5_1 : Int) := of_decide_eq_true (by first | (with_reducible assumption) | assumption)
                 have q270 : x5_1 < (t266.length : Int) := of_decide_eq_true (by first | (with_reducible assumption) | assumption)
                 obtain ⟨ad270, A270_0, c270_0, e270, hx270_0, hl270_0, hi270_0⟩ := at_L7 (Kd.N_reads' HO_4.out).2.2 x5_1 p270 q270
                 obtain rfl : ad269 = ad270 := (by injection e270)
                 obtain ⟨ce270, hce270, hMe270, hcc270⟩ := Kd.N_get HO_4.out [] x5_1 p270 (by first | exact q270 | exact of_decide_eq_true (by first | (with_reducible assumption) | assumption) | (have e_ := (Kd.N_reads' HO_4.out).1; omega))
                 obtain ⟨ua270_0, uc270_0, rfl, ul270_0, ge270_0⟩ := Kd.FK_slice_open hMe270
                 have hv270_0 := hcc270 0 _ rfl
                 rw [Nat.add_zero, show ((Kd.slice 9 Kd.string)).sz = 1 from rfl, Nat.mul_one] at hv270_0
                 replace hv270_0 := Option.some.inj (hv270_0.symm.trans hx270_0)
                 injection hv270_0 with hva_ hvn_ hvc_
                 rw [hva_] at ge270_0
                 rw [hvc_] at ul270_0
                 have HL270_0 := Aside0.mk (show Kd.V Kd.string 9 _ w.heap.size _ _ (rd_L7 t266 x5_1) from Kd.V_mk ul270_0 ge270_0)
                 clear hva_ hvn_ hvc_ ge270_0 ul270_0
                 clear hcc270 hce270
                 have HR270_0 := Aside0.mk hi270_0
                 have HC270_0 := Aside0.mk hl270_0
                 clear hi270_0 hl270_0
                 replace p270 := eq_true p270
                 replace q270 := eq_true q270
                 have p271 : 0 ≤ (x9_2 : Int) := of_decide_eq_true (by first | (with_reducible assumption) | assumption)
                 have q271 : x9_2 < ((rd_L7 t266 x5_1).length : Int) := of_decide_eq_true (by first | (with_reducible assumption) | assumption)
                 obtain ⟨ad271, e271, hx271_0⟩ := Kd.at_string (by repeat (first | (with_reducible exact HR270_0.out) | (with_reducible refine Kd.C_alloc ?_ _) | (with_reducible refine Kd.C_drewN ?_ _) | (with_reducible refine Kd.C_drew ?_) | exact HR270_0.out)) x9_2 p271 q271
                 cases e271
                 replace p271 := eq_true p271
                 replace q271 := eq_true q271
                 have p272 : 0 ≤ (x9_2 : Int) := of_decide_eq_true (by first | (with_reducible assumption) | assumption)
                 have q272 : x9_2 < (t263.length : Int) := of_decide_eq_true (by first | (with_reducible assumption) | assumption)
                 obtain ⟨ad272, e272, hx272_0⟩ := Kd.at_string (Kd.R_reads' HO_3.out).2.2 x9_2 p272 q272
                 cases e272
                 replace p272 := eq_true p272
                 replace q272 := eq_true q272
                 try go_wp2_with (first | ((with_reducible refine gate_callee (f := 18) rfl ?_); refine goesL_ (some 70) rfl rfl Tryd.func18 (by kernel_rfl) rfl #[.string (rdOf ByteArray.empty t263 x9_2)] rfl (by (try simp only [List.map_toArray, List.map_cons, List.map_nil]); first | done | rfl | (simp only [List.length_drop, List.length_take]; rfl)) ?_; (with_reducible refine (weirgateref21_Num.calls k2 (rdOf ByteArray.empty t263 x9_2) t273 t274 _ ?side1 A21.out).mono ?_); (case side1 => exact Laid.below hL (by repeat (first | (with_reducible first | exact HB.out | apply below_alloc | apply pw_below_drewN | apply below_drew1 | refine below_set ?_ GE262.out) | exact HB.out))); rintro e w24 ⟨rfl, hb⟩; refine ⟨_, rfl, ?_⟩; have n0_ := Aside0.mk (Kd.R_below (by (with_reducible repeat (first | apply Kd.R_alloc | apply Kd.R_drewN | apply Kd.R_drew)); exact HO_3.out) hb); have n1_ := Aside0.mk (Kd.N_below (by (with_reducible repeat (first | apply Kd.N_alloc | apply Kd.N_drewN | apply Kd.N_drew)); exact HO_4.out) hb); have n2_ := Aside0.mk (Kd.R_below (by (with_reducible repeat (first | apply Kd.R_alloc | apply Kd.R_drewN | apply Kd.R_drew)); exact HO_6.out) hb); have n3_ := Aside0.mk (Kd.V_below (by (with_reducible repeat (first | apply Kd.V_alloc | apply Kd.V_drewN | apply Kd.V_drew)); exact HL270_0.out) hb); have n4_ := Aside0.mk (blk_below (g := gb262) (o := .cells #[.int .i64 x263000_1, .int .i64 x263001_1, .int .i64 x263002_1, .int .i64 x263003_1, .int .i64 x263004_1, .int .u8 x263005_1, .int .u8 x263006_1, .int .u64 x263007_1, .int .i64 x263008_1] 34 (0, 0)) (by (with_reducible repeat (first | refine blk_drewN ?_ _ | refine blk_drew ?_ | refine blk_alloc ?_ _)); exact BK262.out) hb); have n5_ := Aside0.mk (Kd.C_below (by repeat (first | (with_reducible exact HR270_0.out) | (with_reducible refine Kd.C_alloc ?_ _) | (with_reducible refine Kd.C_drewN ?_ _) | (with_reducible refine Kd.C_drew ?_) | exact HR270_0.out)) hb); have n6_ := Aside0.mk (below_step (by repeat (first | (with_reducible first | exact HB.out | apply below_alloc | apply pw_below_drewN | apply below_drew1 | refine below_set ?_ GE262.out) | exact HB.out)) hb); clear HO_3; clear HO_4; clear HO_6; clear HL270_0; clear BK262; clear HR270_0; clear HB; have HO_3 := n0_; have HO_4 := n1_; have HO_6 := n2_; have HL270_0 := n3_; have BK262 := n4_; have HR270_0 := n5_; have HB := n6_; clear n0_ n1_ n2_ n3_ n4_ n5_ n6_; (try clear hb); (try clear hb2); (try clear hk); (try clear hi); (try clear A21)) | ((with_reducible refine gate_dst (N := 10) rfl ?_); refine box_event ?hg (N := 10) ?hd (cs := #[.int .i64 0, .bool false]) (t := 57) ?hr ?_; (case hd => rfl); (case hg => rfl); (case hr => first | (go_simp; done) | (go_simp; rfl)); intro gb275 hg w25 hbox hb; have n0_ := Aside0.mk (Kd.R_below (by (with_reducible repeat (first | apply Kd.R_alloc | apply Kd.R_drewN | apply Kd.R_drew)); exact HO_3.out) hb); have n1_ := Aside0.mk (Kd.N_below (Kd.N_elderB (by (with_reducible repeat (first | apply Kd.N_alloc | apply Kd.N_drewN | apply Kd.N_drew)); exact HO_4.out) gb275 (Nat.le_of_eq hg.symm)) hb); have n2_ := Aside0.mk (Kd.R_below (by (with_reducible repeat (first | apply Kd.R_alloc | apply Kd.R_drewN | apply Kd.R_drew)); exact HO_6.out) hb); have n3_ := Aside0.mk (Kd.V_below (Kd.V_elderB (by (with_reducible repeat (first | apply Kd.V_alloc | apply Kd.V_drewN | apply Kd.V_drew)); exact HL270_0.out) gb275 (Nat.le_of_eq hg.symm)) hb); have n4_ := Aside0.mk (blk_below (g := gb262) (o := .cells #[.int .i64 x263000_1, .int .i64 x263001_1, .int .i64 x263002_1, .int .i64 x263003_1, .int .i64 x263004_1, .int .u8 x263005_1, .int .u8 x263006_1, .int .u64 x263007_1, .int .i64 x263008_1] 34 (0, 0)) (by (with_reducible repeat (first | refine blk_drewN ?_ _ | refine blk_drew ?_ | refine blk_alloc ?_ _)); exact BK262.out) hb); have n5_ := Aside0.mk (Kd.C_below (by repeat (first | (with_reducible exact HR270_0.out) | (with_reducible refine Kd.C_alloc ?_ _) | (with_reducible refine Kd.C_drewN ?_ _) | (with_reducible refine Kd.C_drew ?_) | exact HR270_0.out)) hb); have n6_ := Aside0.mk (below_step (by repeat (first | (with_reducible first | exact HB.out | apply below_alloc | apply pw_below_drewN | apply below_drew1 | refine below_set ?_ GE262.out) | exact HB.out)) hb); have n7_ := Aside0.mk (hbox); have n8_ := Aside0.mk ((by rw [hg]; exact (below_size (by repeat (first | (with_reducible first | exact HB.out | apply below_alloc | apply pw_below_drewN | apply below_drew1 | refine below_set ?_ GE262.out) | exact HB.out))) : w.heap.size ≤ gb275)); have n9_ := Aside0.mk ((by rw [hg]; exact (below_size (by repeat (first | (with_reducible first | exact HB.out | apply below_alloc | apply pw_below_drewN | apply below_drew1 | refine below_set ?_ GE262.out) | exact HB.out))) : w.heap.size ≤ gb275)); have n10_ := Aside0.mk ((by rw [hg]; exact Nat.ne_of_lt (blk_lt (g := gb262) (o := .cells #[.int .i64 x263000_1, .int .i64 x263001_1, .int .i64 x263002_1, .int .i64 x263003_1, .int .i64 x263004_1, .int .u8 x263005_1, .int .u8 x263006_1, .int .u64 x263007_1, .int .i64 x263008_1] 34 (0, 0)) (by (with_reducible repeat (first | refine blk_drewN ?_ _ | refine blk_drew ?_ | refine blk_alloc ?_ _)); exact BK262.out)) : gb262 ≠ gb275)); have n11_ := Aside0.mk ((by rw [hg]; exact Nat.ne_of_gt (blk_lt (g := gb262) (o := .cells #[.int .i64 x263000_1, .int .i64 x263001_1, .int .i64 x263002_1, .int .i64 x263003_1, .int .i64 x263004_1, .int .u8 x263005_1, .int .u8 x263006_1, .int .u64 x263007_1, .int .i64 x263008_1] 34 (0, 0)) (by (with_reducible repeat (first | refine blk_drewN ?_ _ | refine blk_drew ?_ | refine blk_alloc ?_ _)); exact BK262.out)) : gb275 ≠ gb262)); clear HO_3; clear HO_4; clear HO_6; clear HL270_0; clear BK262; clear HR270_0; clear HB; have HO_3 := n0_; have HO_4 := n1_; have HO_6 := n2_; have HL270_0 := n3_; have BK262 := n4_; have HR270_0 := n5_; have HB := n6_; have BK275 := n7_; have GW275 := n8_; have GE275 := n9_; have NB262_275 := n10_; have NB275_262 := n11_; clear n0_ n1_ n2_ n3_ n4_ n5_ n6_ n7_ n8_ n9_ n10_ n11_; clear hb hbox hg; have hnb26 := NB275_262.out; have hnc26 := NB262_275.out; have hcz27_0 : w25.cell? ⟨gb275, 0, none⟩ = some (.int .i64 0) := (blk_cell BK275.out 0).trans rfl; have hcz27_1 : w25.cell? ⟨gb275, 1, none⟩ = some (.bool false) := (blk_cell BK275.out 1).trans rfl; have hfz27_0 := blk_frozen BK275.out 0; have hfz27_1 := blk_frozen BK275.out 1))
                 have n0_ : Aside0 (Kd.R Kd.string 9 ((w25.setCell ⟨gb275, 0, none⟩ (.int .i64 t273)).setCell ⟨gb275, 1, none⟩ (.bool t274)) w.heap.size (fun _ => True) (.slice (some ad272) t263.length co14) t263) := ⟨by (with_reducible repeat (first | apply Kd.R_alloc | apply Kd.R_drewN | apply Kd.R_drew)); exact Kd.R_mono (Kd.R_far (p := ⟨gb275, 1, none⟩) (Kd.R_far (p := ⟨gb275, 0, none⟩) (Kd.R_types HO_3.out BK275.out (by decide)) (fun _ hk => hk.2) (.int .i64 t273)) (fun _ hk => hk.2) (.bool t274)) (fun _ hk => trivial)⟩
                 have n1_ : Aside0 (Kd.N (Kd.slice 9 Kd.string) 45 ((w25.setCell ⟨gb275, 0, none⟩ (.int .i64 t273)).setCell ⟨gb275, 1, none⟩ (.bool t274)) w.heap.size (fun k_ => some k_ ≠ (.slice (some ad272) t263.length co14 : Value).ownBlock ∧ some k_ ≠ (u6 : Value).ownBlock ∧ k_ ≠ gb262 ∧ k_ ≠ gb275) (.slice (some ad269) t266.length co13) t266) := ⟨by (with_reducible repeat (first | apply Kd.N_alloc | apply Kd.N_drewN | apply Kd.N_drew)); exact Kd.N_mono (Kd.N_far (p := ⟨gb275, 1, none⟩) (Kd.N_far (p := ⟨gb275, 0, none⟩) (Kd.N_mono HO_4.out (fun k_ hk => (⟨hk, hk.2⟩ : _ ∧ k_ ≠ gb275))) (fun _ hk => hk.2) (.int .i64 t273)) (fun _ hk => hk.2) (.bool t274)) (fun _ hk => ⟨hk.1.1.1, ⟨hk.1.1.2.1, ⟨hk.1.1.2.2, hk.1.2⟩⟩⟩)⟩
                 have n2_ : Aside0 (Kd.R (Kd.int .i64) 3 ((w25.setCell ⟨gb275, 0, none⟩ (.int .i64 t273)).setCell ⟨gb275, 1, none⟩ (.bool t274)) w.heap.size (fun _ => True) u6 x6_2) := ⟨by (with_reducible repeat (first | apply Kd.R_alloc | apply Kd.R_drewN | apply Kd.R_drew)); exact Kd.R_mono (Kd.R_far (p := ⟨gb275, 1, none⟩) (Kd.R_far (p := ⟨gb275, 0, none⟩) (Kd.R_types HO_6.out BK275.out (by decide)) (fun _ hk => hk.2) (.int .i64 t273)) (fun _ hk => hk.2) (.bool t274)) (fun _ hk => trivial)⟩
                 have n3_ : Aside0 (Kd.V Kd.string 9 ((w25.setCell ⟨gb275, 0, none⟩ (.int .i64 t273)).setCell ⟨gb275, 1, none⟩ (.bool t274)) w.heap.size (fun k_ => some k_ ≠ (.slice (some ad272) t263.length co14 : Value).ownBlock ∧ some k_ ≠ (.slice (some ad269) t266.length co13 : Value).ownBlock ∧ some k_ ≠ (u6 : Value).ownBlock ∧ k_ ≠ gb262 ∧ k_ ≠ gb275) (.slice (some ad271) (rd_L7 t266 x5_1).length c270_0) (rd_L7 t266 x5_1)) := ⟨by (with_reducible repeat (first | apply Kd.V_alloc | apply Kd.V_drewN | apply Kd.V_drew)); exact Kd.V_mono (Kd.V_far (p := ⟨gb275, 1, none⟩) (Kd.V_far (p := ⟨gb275, 0, none⟩) (Kd.V_mono HL270_0.out (fun k_ hk => (⟨hk, hk.2⟩ : _ ∧ k_ ≠ gb275))) (fun _ hk => hk.2) (.int .i64 t273)) (fun _ hk => hk.2) (.bool t274)) (fun _ hk => ⟨hk.1.1.1.1, ⟨hk.1.1.2, ⟨hk.1.1.1.2.1, ⟨hk.1.1.1.2.2, hk.1.2⟩⟩⟩⟩)⟩
                 have n4_ : Aside0 (((w25.setCell ⟨gb275, 0, none⟩ (.int .i64 t273)).setCell ⟨gb275, 1, none⟩ (.bool t274)).heap[gb262]? = some (.cells #[.int .i64 x263000_1, .int .i64 x263001_1, .int .i64 x263002_1, .int .i64 x263003_1, .int .i64 x263004_1, .int .u8 x263005_1, .int .u8 x263006_1, .int .u64 x263007_1, .int .i64 x263008_1] 34 (0, 0))) := ⟨by (with_reducible repeat (first | refine blk_drewN ?_ _ | refine blk_drew ?_ | refine blk_alloc ?_ _)); refine blk_far ?_ NB262_275.out _; (with_reducible repeat (first | refine blk_drewN ?_ _ | refine blk_drew ?_ | refine blk_alloc ?_ _)); refine blk_far ?_ NB262_275.out _; (with_reducible repeat (first | refine blk_drewN ?_ _ | refine blk_drew ?_ | refine blk_alloc ?_ _)); exact BK262.out⟩
                 have n5_ : Aside0 (((w25.setCell ⟨gb275, 0, none⟩ (.int .i64 t273)).setCell ⟨gb275, 1, none⟩ (.bool t274)).heap[gb275]? = some (.cells #[.int .i64 t273, .bool t274] 57 (0, 0))) := ⟨by (with_reducible repeat (first | refine blk_drewN ?_ _ | refine blk_drew ?_ | refine blk_alloc ?_ _)); refine blk_put (cs := #[.int .i64 t273, .bool false]) ?_ 1 _ rfl; (with_reducible repeat (first | refine blk_drewN ?_ _ | refine blk_drew ?_ | refine blk_alloc ?_ _)); refine blk_put (cs := #[.int .i64 0, .bool false]) ?_ 0 _ rfl; (with_reducible repeat (first | refine blk_drewN ?_ _ | refine blk_drew ?_ | refine blk_alloc ?_ _)); exact BK275.out⟩
                 have n6_ : Aside0 (Below w.heap.size w ((w25.setCell ⟨gb275, 0, none⟩ (.int .i64 t273)).setCell ⟨gb275, 1, none⟩ (.bool t274))) := ⟨by repeat (first | (with_reducible first | exact HB.out | apply below_alloc | apply pw_below_drewN | apply below_drew1 | refine below_set ?_ GE262.out | refine below_set ?_ GE275.out) | exact HB.out)⟩
                 (try clear HO_3)
                 (try clear HO_4)
                 (try clear HO_6)
                 (try clear HL270_0)
                 (try clear BK262)
                 (try clear BK275)
                 (try clear HB)
                 generalize ((w25.setCell ⟨gb275, 0, none⟩ (.int .i64 t273)).setCell ⟨gb275, 1, none⟩ (.bool t274)) = w28 at n0_ n1_ n2_ n3_ n4_ n5_ n6_ ⊢
                 have HO_3 := n0_
                 have HO_4 := n1_
                 have HO_6 := n2_
                 have HL270_0 := n3_
                 have BK262 := n4_
                 have BK275 := n5_
                 have HB := n6_
                 clear n0_ n1_ n2_ n3_ n4_ n5_ n6_
                 have n0_ := Aside0.mk (Kd.R_drew HO_3.out)
                 have n1_ := Aside0.mk (Kd.N_drew HO_4.out)
                 have n2_ := Aside0.mk (Kd.R_drew HO_6.out)
                 have n3_ := Aside0.mk (Kd.V_drew HL270_0.out)
                 have n4_ := Aside0.mk (blk_drew BK262.out)
                 have n5_ := Aside0.mk (blk_drew BK275.out)
                 have n6_ := Aside0.mk (below_drew1 HB.out)
                 clear HO_3
                 clear HO_4
                 clear HO_6
                 clear HL270_0
                 clear BK262
                 clear BK275
                 clear HB
                 have HO_3 := n0_
                 have HO_4 := n1_
                 have HO_6 := n2_
                 have HL270_0 := n3_
                 have BK262 := n4_
                 have BK275 := n5_
                 have HB := n6_
                 clear n0_ n1_ n2_ n3_ n4_ n5_ n6_
                 refine start_ (n := 12) (S := fun w' => w'.cell? ⟨gb275, 0, none⟩ = some (.int .i64 t273) ∧ w'.cell? ⟨gb275, 1, none⟩ = some (.bool t274)) (ds := []) #[false, false, false, false, false, false, false, false, false, false, false, false] (by kernel_rfl) rfl rfl ⟨(blk_cell BK275.out 0).trans rfl, (blk_cell BK275.out 1).trans rfl⟩ (fun hHeld => ?_); refine with_tabW weirgateref22_Line.tab18 weirgateref22_Line.bits18 (fun HT_ HW_ => ?_)
                 generalize w28.drew = w29 at HO_3 HO_4 HO_6 HL270_0 BK262 BK275 HB hHeld ⊢
                 refine pure_ (i := 0) (N := some 71) (v := ?_) (a' := ?_) #[true, false, false, false, false, false, false, false, false, false, false, false] rfl rfl (any_of HT_.out (by kernel_rfl)) (fun _ _ _ h => h) (Or.inl ⟨by rfl, ?_⟩) ?_ ?_
                 rotate_left
                 ·intro w'
                  go_simp
                  with_reducible rfl
                 rotate_left
                 ·simp only [Act.put, List.setIfInBounds_toArray, List.set_cons_zero, List.set_cons_succ, i64_w, i32_w]
                  rfl
                 refine pure_ (i := 1) (N := some 72) (v := ?_) (a' := ?_) #[true, true, false, false, false, false, false, false, false, false, false, false] rfl rfl (any_of HT_.out (by kernel_rfl)) (fun _ _ _ h => h) (Or.inl ⟨by rfl, ?_⟩) ?_ ?_
                 rotate_left
                 ·intro w'
                  go_simp
                  with_reducible rfl
                 rotate_left
                 ·simp only [Act.put, List.setIfInBounds_toArray, List.set_cons_zero, List.set_cons_succ, i64_w, i32_w]
                  rfl
                 refine pure_ (i := 5) (N := some 76) (v := ?_) (a' := ?_) #[true, true, false, false, false, true, false, false, false, false, false, false] rfl rfl (any_of HT_.out (by kernel_rfl)) (fun _ _ _ h => h) (Or.inl ⟨by rfl, ?_⟩) ?_ ?_
                 rotate_left
                 ·intro w'
                  go_simp
                  with_reducible rfl
                 rotate_left
                 ·simp only [Act.put, List.setIfInBounds_toArray, List.set_cons_zero, List.set_cons_succ, i64_w, i32_w]
                  rfl
                 refine take_ (i := 2) (N := some 73) (v := ?_) (a' := ?_) #[true, true, true, false, false, true, false, false, false, false, false, false] rfl rfl (take_ofW HT_.out HW_.out (by kernel_rfl)) (fun _ _ _ h => h) (Or.inl ⟨by rfl, ?_⟩) hHeld ?_ ?_
                 rotate_left
                 ·rintro w' ⟨s0, s1⟩
                  go_simp
                  with_reducible rfl
                 rotate_left
                 ·simp only [Act.put, List.setIfInBounds_toArray, List.set_cons_zero, List.set_cons_succ, i64_w, i32_w]
                  rfl
                 refine one_ (i := 3) (N := some 74) #[true, true, true, true, false, true, false, false, false, false, false, false] rfl rfl (one_of HT_.out (by kernel_rfl)) (by decide) (fun K hK => ?_)
                 refine value_ (w1 := ?_) (v := ?_) (by rfl) rfl ?_ ?_
                 rotate_left 2
                 ·go_simp
                  constructor
                  ·rfl
                  ·rfl
                 refine hK.out _ _ ⟨(blk_cell (blk_alloc BK275.out _) 0).trans rfl, (blk_cell (blk_alloc BK275.out _) 1).trans rfl⟩ (fun hHeld => ?_)
                 clear hK K
                 refine norm_ (a' := ?_) ?_ ?_
                 rotate_left
                 ·show Act.put _ (some 74) _ = _
                  simp only [Act.put, List.setIfInBounds_toArray, List.set_cons_zero, List.set_cons_succ, i64_w, i32_w]
                  rfl
                 refine one_ (i := 4) (N := some 75) #[true, true, true, true, true, true, false, false, false, false, false, false] rfl rfl (one_of HT_.out (by kernel_rfl)) (by decide) (fun K hK => ?_)
                 refine Kd.R_append_step (Kd.int .i64) (w0 := w) w.heap.size (by rfl) (.tmp 71) (.tmp 74) 55 3 (.int .i64 0) 8 rfl Tryd.underlying55 info3 rfl (by decide) (by omega) u6 x6_2 t273 [.int .i64 t273] (fun _ => True) (fun _ => False) rfl rfl ?aP (fun _ hk => hk.elim) ?aF ?aO ?aB ?aS ?aL ?_
                 (case aP => exact rfl)
                 (case aB => exact (by repeat (first | (with_reducible first | exact HB.out | apply below_alloc | apply pw_below_drewN | apply below_drew1 | refine below_set ?_ GE262.out | refine below_set ?_ GE275.out) | exact HB.out)))
                 (case aF => exact (fun _ _ => trivial))
                 (case aO => exact (by (with_reducible repeat (first | apply Kd.R_alloc | apply Kd.R_drewN | apply Kd.R_drew)); exact HO_6.out))
                 (case aS => exact (below_size (by repeat (first | (with_reducible first | exact HB.out | apply below_alloc | apply pw_below_drewN | apply below_drew1 | refine below_set ?_ GE262.out | refine below_set ?_ GE275.out) | exact HB.out))))
                 (case aL => have := LMc22.out; omega)
                 intro v277 w30 ho hb hg hat
                 rw [← Ny276.out] at ho
                 have n0_ := Aside0.mk (Kd.R_over' (by (with_reducible repeat (first | apply Kd.R_alloc | apply Kd.R_drewN | apply Kd.R_drew)); exact HO_3.out) (Kd.R_typed (by (with_reducible repeat (first | apply Kd.R_alloc | apply Kd.R_drewN | apply Kd.R_drew)); exact HO_6.out)) (by decide) hg)
                 have n1_ := Aside0.mk (Kd.N_afterv (ok := (fun k_ => some k_ ≠ (.slice (some ad272) t263.length co14 : Value).ownBlock ∧ k_ ≠ gb262 ∧ k_ ≠ gb275)) (by (with_reducible repeat (first | apply Kd.N_alloc | apply Kd.N_drewN | apply Kd.N_drew)); exact Kd.N_mono HO_4.out (fun _ hk => ⟨⟨hk.1, ⟨hk.2.2.1, hk.2.2.2⟩⟩, hk.2.1⟩)) hg hat)
                 have n2_ := Aside0.mk (blk_grown (g := gb262) (o := .cells #[.int .i64 x263000_1, .int .i64 x263001_1, .int .i64 x263002_1, .int .i64 x263003_1, .int .i64 x263004_1, .int .u8 x263005_1, .int .u8 x263006_1, .int .u64 x263007_1, .int .i64 x263008_1] 34 (0, 0)) (by (with_reducible repeat (first | refine blk_drewN ?_ _ | refine blk_drew ?_ | refine blk_alloc ?_ _)); exact BK262.out) hg (Kd.R_ne HO_6.out BK262.out (by decide)))
                 have n3_ := Aside0.mk (Kd.V_afterv (ok := (fun k_ => some k_ ≠ (.slice (some ad272) t263.length co14 : Value).ownBlock ∧ some k_ ≠ (.slice (some ad269) t266.length co13 : Value).ownBlock ∧ k_ ≠ gb262 ∧ k_ ≠ gb275)) (by (with_reducible repeat (first | apply Kd.V_alloc | apply Kd.V_drewN | apply Kd.V_drew)); exact Kd.V_mono HL270_0.out (fun _ hk => ⟨⟨hk.1, ⟨hk.2.1, ⟨hk.2.2.2.1, hk.2.2.2.2⟩⟩⟩, hk.2.2.1⟩)) hg hat)
                 have n4_ := Aside0.mk (blk_grown (g := gb275) (o := .cells #[.int .i64 t273, .bool t274] 57 (0, 0)) (by (with_reducible repeat (first | refine blk_drewN ?_ _ | refine blk_drew ?_ | refine blk_alloc ?_ _)); exact BK275.out) hg (Kd.R_ne HO_6.out BK275.out (by decide)))
                 have n5_ := Aside0.mk (hb)
                 have n6_ := Aside0.mk (ho)
                 clear HO_3
                 clear HO_4
                 clear BK262
                 clear HL270_0
                 clear BK275
                 clear HB
                 clear HO_6
                 have HO_3 := n0_
                 have HO_4 := n1_
                 have BK262 := n2_
                 have HL270_0 := n3_
                 have BK275 := n4_
                 have HB := n5_
                 have HO278 := n6_
                 clear n0_ n1_ n2_ n3_ n4_ n5_ n6_
                 clear ho hb hg hat
                 refine hK.out _ _ ⟨(blk_cell BK275.out 0).trans rfl, (blk_cell BK275.out 1).trans rfl⟩ (fun hHeld => ?_)
                 clear hK K
                 refine norm_ (a' := ?_) ?_ ?_
                 rotate_left
                 ·show Act.put _ (some 75) _ = _
                  simp only [Act.put, List.setIfInBounds_toArray, List.set_cons_zero, List.set_cons_succ, i64_w, i32_w]
                  rfl
                 refine pure_ (i := 6) (N := some 77) (v := ?_) (a' := ?_) #[true, true, true, true, true, true, true, false, false, false, false, false] rfl rfl (any_of HT_.out (by kernel_rfl)) (fun _ _ _ h => h) (Or.inl ⟨by rfl, ?_⟩) ?_ ?_
                 rotate_left
                 ·intro w'
                  go_simp
                  with_reducible rfl
                 rotate_left
                 ·simp only [Act.put, List.setIfInBounds_toArray, List.set_cons_zero, List.set_cons_succ, i64_w, i32_w]
                  rfl
                 refine pure_ (i := 7) (N := some 78) (v := ?_) (a' := ?_) #[true, true, true, true, true, true, true, true, false, false, false, false] rfl rfl (any_of HT_.out (by kernel_rfl)) (fun _ _ _ h => h) (Or.inl ⟨by rfl, ?_⟩) ?_ ?_
                 rotate_left
                 ·intro w'
                  go_simp
                  with_reducible rfl
                 rotate_left
                 ·simp only [Act.put, List.setIfInBounds_toArray, List.set_cons_zero, List.set_cons_succ, i64_w, i32_w]
                  rfl
                 refine pure_ (i := 10) (N := some 6) (v := ?_) (a' := ?_) #[true, true, true, true, true, true, true, true, false, false, true, false] rfl rfl (any_of HT_.out (by kernel_rfl)) (fun _ _ _ h => h) (Or.inl ⟨by rfl, ?_⟩) ?_ ?_
                 rotate_left
                 ·intro w'
                  go_simp
                  with_reducible rfl
                 rotate_left
                 ·simp only [Act.put, List.setIfInBounds_toArray, List.set_cons_zero, List.set_cons_succ, i64_w, i32_w]
                  rfl
                 refine take_ (i := 8) (N := some 79) (v := ?_) (a' := ?_) #[true, true, true, true, true, true, true, true, true, false, true, false] rfl rfl (take_ofW HT_.out HW_.out (by kernel_rfl)) (fun _ _ _ h => h) (Or.inl ⟨by rfl, ?_⟩) hHeld ?_ ?_
                 rotate_left
                 ·rintro w' ⟨s0, s1⟩
                  go_simp
                  with_reducible rfl
                 rotate_left
                 ·simp only [Act.put, List.setIfInBounds_toArray, List.set_cons_zero, List.set_cons_succ, i64_w, i32_w]
                  rfl
                 refine pure_ (i := 9) (N := some 80) (v := ?_) (a' := ?_) #[true, true, true, true, true, true, true, true, true, true, true, false] rfl rfl (any_of HT_.out (by kernel_rfl)) (fun _ _ _ h => h) (Or.inl ⟨by rfl, ?_⟩) ?_ ?_
                 rotate_left
                 ·intro w'
                  go_simp
                  with_reducible rfl
                 rotate_left
                 ·simp only [Act.put, List.setIfInBounds_toArray, List.set_cons_zero, List.set_cons_succ, i64_w, i32_w]
                  rfl
                 refine pure_ (i := 11) (N := some 8) (v := ?_) (a' := ?_) #[true, true, true, true, true, true, true, true, true, true, true, true] rfl rfl (any_of HT_.out (by kernel_rfl)) (fun _ _ _ h => h) (Or.inl ⟨by rfl, ?_⟩) ?_ ?_
                 rotate_left
                 ·intro w'
                  go_simp
                  with_reducible rfl
                 rotate_left
                 ·simp only [Act.put, List.setIfInBounds_toArray, List.set_cons_zero, List.set_cons_succ, i64_w, i32_w]
                  rfl
                 refine done_ (done_of HT_.out (by kernel_rfl)) ?_
                 try go_wp2
                 go_roundg k2
                 case measure => have := HK1.out; have := HK2.out; omega
                 case rel => exact ⟨(y276), (x7_2), (t274), (wrap64 (x9_2 + 1)), (by first | rfl | (simp; done) | (simp [*]; done)), (by first | rfl | (simp; done) | (simp [*]; done)), (by first | rfl | (simp; done) | (simp [*]; done)), H', ⟨by have := HK1.out; have := HK2.out; omega⟩, ⟨by (with_reducible repeat (first | apply Kd.R_alloc | apply Kd.R_drewN | apply Kd.R_drew)); exact HO_3.out⟩, ⟨by (with_reducible repeat (first | apply Kd.N_alloc | apply Kd.N_drewN | apply Kd.N_drew)); exact Kd.N_mono HO_4.out (fun _ hk => ⟨hk.1.1, ⟨hk.2, hk.1.2.1⟩⟩)⟩, ⟨by (with_reducible repeat (first | apply Kd.R_alloc | apply Kd.R_drewN | apply Kd.R_drew)); exact HO278.out⟩, ⟨by (with_reducible repeat (first | refine blk_drewN ?_ _ | refine blk_drew ?_ | refine blk_alloc ?_ _)); exact BK262.out⟩, ⟨by repeat (first | (with_reducible first | exact HB.out | apply below_alloc | apply pw_below_drewN | apply below_drew1 | refine below_set ?_ GE262.out | refine below_set ?_ GE275.out) | exact HB.out)⟩⟩
                ·replace c23 := Bool.eq_false_iff.mpr c23
                 subst c23
                 have H1 : (weirgateref22_Line.l1 k2 t263 t266 x5_1 y276 x7_2 false (wrap64 (x9_2 + 1))) = some (r1, r2, r3, r4, r5, r6, r7, r8, r9) := by rw [if_neg (show ¬ (false = true) by decide)] at H; exact H
                 clear H
                 have H := H1
                 clear H1
                 have H' := Aside0.mk H
                 clear H
                 have p270 : 0 ≤ (x5_1 : Int) := of_decide_eq_true (by first | (with_reducible assumption) | assumption)
                 have q270 : x5_1 < (t266.length : Int) := of_decide_eq_true (by first | (with_reducible assumption) | assumption)
                 obtain ⟨ad270, A270_0, c270_0, e270, hx270_0, hl270_0, hi270_0⟩ := at_L7 (Kd.N_reads' HO_4.out).2.2 x5_1 p270 q270
                 obtain rfl : ad269 = ad270 := (by injection e270)
                 obtain ⟨ce270, hce270, hMe270, hcc270⟩ := Kd.N_get HO_4.out [] x5_1 p270 (by first | exact q270 | exact of_decide_eq_true (by first | (with_reducible assumption) | assumption) | (have e_ := (Kd.N_reads' HO_4.out).1; omega))
                 obtain ⟨ua270_0, uc270_0, rfl, ul270_0, ge270_0⟩ := Kd.FK_slice_open hMe270
                 have hv270_0 := hcc270 0 _ rfl
                 rw [Nat.add_zero, show ((Kd.slice 9 Kd.string)).sz = 1 from rfl, Nat.mul_one] at hv270_0
                 replace hv270_0 := Option.some.inj (hv270_0.symm.trans hx270_0)
                 injection hv270_0 with hva_ hvn_ hvc_
                 rw [hva_] at ge270_0
                 rw [hvc_] at ul270_0
                 have HL270_0 := Aside0.mk (show Kd.V Kd.string 9 _ w.heap.size _ _ (rd_L7 t266 x5_1) from Kd.V_mk ul270_0 ge270_0)
                 clear hva_ hvn_ hvc_ ge270_0 ul270_0
                 clear hcc270 hce270
                 have HR270_0 := Aside0.mk hi270_0
                 have HC270_0 := Aside0.mk hl270_0
                 clear hi270_0 hl270_0
                 replace p270 := eq_true p270
                 replace q270 := eq_true q270
                 have p271 : 0 ≤ (x9_2 : Int) := of_decide_eq_true (by first | (with_reducible assumption) | assumption)
                 have q271 : x9_2 < ((rd_L7 t266 x5_1).length : Int) := of_decide_eq_true (by first | (with_reducible assumption) | assumption)
                 obtain ⟨ad271, e271, hx271_0⟩ := Kd.at_string (by repeat (first | (with_reducible exact HR270_0.out) | (with_reducible refine Kd.C_alloc ?_ _) | (with_reducible refine Kd.C_drewN ?_ _) | (with_reducible refine Kd.C_drew ?_) | exact HR270_0.out)) x9_2 p271 q271
                 cases e271
                 replace p271 := eq_true p271
                 replace q271 := eq_true q271
                 have p272 : 0 ≤ (x9_2 : Int) := of_decide_eq_true (by first | (with_reducible assumption) | assumption)
                 have q272 : x9_2 < (t263.length : Int) := of_decide_eq_true (by first | (with_reducible assumption) | assumption)
                 obtain ⟨ad272, e272, hx272_0⟩ := Kd.at_string (Kd.R_reads' HO_3.out).2.2 x9_2 p272 q272
                 cases e272
                 replace p272 := eq_true p272
                 replace q272 := eq_true q272
                 try go_wp2_with (first | ((with_reducible refine gate_callee (f := 18) rfl ?_); refine goesL_ (some 70) rfl rfl Tryd.func18 (by kernel_rfl) rfl #[.string (rdOf ByteArray.empty t263 x9_2)] rfl (by (try simp only [List.map_toArray, List.map_cons, List.map_nil]); first | done | rfl | (simp only [List.length_drop, List.length_take]; rfl)) ?_; (with_reducible refine (weirgateref21_Num.calls k2 (rdOf ByteArray.empty t263 x9_2) t273 t274 _ ?side1 A21.out).mono ?_); (case side1 => exact Laid.below hL (by repeat (first | (with_reducible first | exact HB.out | apply below_alloc | apply pw_below_drewN | apply below_drew1 | refine below_set ?_ GE262.out) | exact HB.out))); rintro e w31 ⟨rfl, hb⟩; refine ⟨_, rfl, ?_⟩; have n0_ := Aside0.mk (Kd.R_below (by (with_reducible repeat (first | apply Kd.R_alloc | apply Kd.R_drewN | apply Kd.R_drew)); exact HO_3.out) hb); have n1_ := Aside0.mk (Kd.N_below (by (with_reducible repeat (first | apply Kd.N_alloc | apply Kd.N_drewN | apply Kd.N_drew)); exact HO_4.out) hb); have n2_ := Aside0.mk (Kd.R_below (by (with_reducible repeat (first | apply Kd.R_alloc | apply Kd.R_drewN | apply Kd.R_drew)); exact HO_6.out) hb); have n3_ := Aside0.mk (Kd.V_below (by (with_reducible repeat (first | apply Kd.V_alloc | apply Kd.V_drewN | apply Kd.V_drew)); exact HL270_0.out) hb); have n4_ := Aside0.mk (blk_below (g := gb262) (o := .cells #[.int .i64 x263000_1, .int .i64 x263001_1, .int .i64 x263002_1, .int .i64 x263003_1, .int .i64 x263004_1, .int .u8 x263005_1, .int .u8 x263006_1, .int .u64 x263007_1, .int .i64 x263008_1] 34 (0, 0)) (by (with_reducible repeat (first | refine blk_drewN ?_ _ | refine blk_drew ?_ | refine blk_alloc ?_ _)); exact BK262.out) hb); have n5_ := Aside0.mk (Kd.C_below (by repeat (first | (with_reducible exact HR270_0.out) | (with_reducible refine Kd.C_alloc ?_ _) | (with_reducible refine Kd.C_drewN ?_ _) | (with_reducible refine Kd.C_drew ?_) | exact HR270_0.out)) hb); have n6_ := Aside0.mk (below_step (by repeat (first | (with_reducible first | exact HB.out | apply below_alloc | apply pw_below_drewN | apply below_drew1 | refine below_set ?_ GE262.out) | exact HB.out)) hb); clear HO_3; clear HO_4; clear HO_6; clear HL270_0; clear BK262; clear HR270_0; clear HB; have HO_3 := n0_; have HO_4 := n1_; have HO_6 := n2_; have HL270_0 := n3_; have BK262 := n4_; have HR270_0 := n5_; have HB := n6_; clear n0_ n1_ n2_ n3_ n4_ n5_ n6_; (try clear hb); (try clear hb2); (try clear hk); (try clear hi); (try clear A21)) | ((with_reducible refine gate_dst (N := 10) rfl ?_); refine box_event ?hg (N := 10) ?hd (cs := #[.int .i64 0, .bool false]) (t := 57) ?hr ?_; (case hd => rfl); (case hg => rfl); (case hr => first | (go_simp; done) | (go_simp; rfl)); intro gb275 hg w32 hbox hb; have n0_ := Aside0.mk (Kd.R_below (by (with_reducible repeat (first | apply Kd.R_alloc | apply Kd.R_drewN | apply Kd.R_drew)); exact HO_3.out) hb); have n1_ := Aside0.mk (Kd.N_below (Kd.N_elderB (by (with_reducible repeat (first | apply Kd.N_alloc | apply Kd.N_drewN | apply Kd.N_drew)); exact HO_4.out) gb275 (Nat.le_of_eq hg.symm)) hb); have n2_ := Aside0.mk (Kd.R_below (by (with_reducible repeat (first | apply Kd.R_alloc | apply Kd.R_drewN | apply Kd.R_drew)); exact HO_6.out) hb); have n3_ := Aside0.mk (Kd.V_below (Kd.V_elderB (by (with_reducible repeat (first | apply Kd.V_alloc | apply Kd.V_drewN | apply Kd.V_drew)); exact HL270_0.out) gb275 (Nat.le_of_eq hg.symm)) hb); have n4_ := Aside0.mk (blk_below (g := gb262) (o := .cells #[.int .i64 x263000_1, .int .i64 x263001_1, .int .i64 x263002_1, .int .i64 x263003_1, .int .i64 x263004_1, .int .u8 x263005_1, .int .u8 x263006_1, .int .u64 x263007_1, .int .i64 x263008_1] 34 (0, 0)) (by (with_reducible repeat (first | refine blk_drewN ?_ _ | refine blk_drew ?_ | refine blk_alloc ?_ _)); exact BK262.out) hb); have n5_ := Aside0.mk (Kd.C_below (by repeat (first | (with_reducible exact HR270_0.out) | (with_reducible refine Kd.C_alloc ?_ _) | (with_reducible refine Kd.C_drewN ?_ _) | (with_reducible refine Kd.C_drew ?_) | exact HR270_0.out)) hb); have n6_ := Aside0.mk (below_step (by repeat (first | (with_reducible first | exact HB.out | apply below_alloc | apply pw_below_drewN | apply below_drew1 | refine below_set ?_ GE262.out) | exact HB.out)) hb); have n7_ := Aside0.mk (hbox); have n8_ := Aside0.mk ((by rw [hg]; exact (below_size (by repeat (first | (with_reducible first | exact HB.out | apply below_alloc | apply pw_below_drewN | apply below_drew1 | refine below_set ?_ GE262.out) | exact HB.out))) : w.heap.size ≤ gb275)); have n9_ := Aside0.mk ((by rw [hg]; exact (below_size (by repeat (first | (with_reducible first | exact HB.out | apply below_alloc | apply pw_below_drewN | apply below_drew1 | refine below_set ?_ GE262.out) | exact HB.out))) : w.heap.size ≤ gb275)); have n10_ := Aside0.mk ((by rw [hg]; exact Nat.ne_of_lt (blk_lt (g := gb262) (o := .cells #[.int .i64 x263000_1, .int .i64 x263001_1, .int .i64 x263002_1, .int .i64 x263003_1, .int .i64 x263004_1, .int .u8 x263005_1, .int .u8 x263006_1, .int .u64 x263007_1, .int .i64 x263008_1] 34 (0, 0)) (by (with_reducible repeat (first | refine blk_drewN ?_ _ | refine blk_drew ?_ | refine blk_alloc ?_ _)); exact BK262.out)) : gb262 ≠ gb275)); have n11_ := Aside0.mk ((by rw [hg]; exact Nat.ne_of_gt (blk_lt (g := gb262) (o := .cells #[.int .i64 x263000_1, .int .i64 x263001_1, .int .i64 x263002_1, .int .i64 x263003_1, .int .i64 x263004_1, .int .u8 x263005_1, .int .u8 x263006_1, .int .u64 x263007_1, .int .i64 x263008_1] 34 (0, 0)) (by (with_reducible repeat (first | refine blk_drewN ?_ _ | refine blk_drew ?_ | refine blk_alloc ?_ _)); exact BK262.out)) : gb275 ≠ gb262)); clear HO_3; clear HO_4; clear HO_6; clear HL270_0; clear BK262; clear HR270_0; clear HB; have HO_3 := n0_; have HO_4 := n1_; have HO_6 := n2_; have HL270_0 := n3_; have BK262 := n4_; have HR270_0 := n5_; have HB := n6_; have BK275 := n7_; have GW275 := n8_; have GE275 := n9_; have NB262_275 := n10_; have NB275_262 := n11_; clear n0_ n1_ n2_ n3_ n4_ n5_ n6_ n7_ n8_ n9_ n10_ n11_; clear hb hbox hg; have hnb33 := NB275_262.out; have hnc33 := NB262_275.out; have hcz34_0 : w32.cell? ⟨gb275, 0, none⟩ = some (.int .i64 0) := (blk_cell BK275.out 0).trans rfl; have hcz34_1 : w32.cell? ⟨gb275, 1, none⟩ = some (.bool false) := (blk_cell BK275.out 1).trans rfl; have hfz34_0 := blk_frozen BK275.out 0; have hfz34_1 := blk_frozen BK275.out 1))
                 have n0_ : Aside0 (Kd.R Kd.string 9 ((w32.setCell ⟨gb275, 0, none⟩ (.int .i64 t273)).setCell ⟨gb275, 1, none⟩ (.bool t274)) w.heap.size (fun _ => True) (.slice (some ad272) t263.length co14) t263) := ⟨by (with_reducible repeat (first | apply Kd.R_alloc | apply Kd.R_drewN | apply Kd.R_drew)); exact Kd.R_mono (Kd.R_far (p := ⟨gb275, 1, none⟩) (Kd.R_far (p := ⟨gb275, 0, none⟩) (Kd.R_types HO_3.out BK275.out (by decide)) (fun _ hk => hk.2) (.int .i64 t273)) (fun _ hk => hk.2) (.bool t274)) (fun _ hk => trivial)⟩
                 have n1_ : Aside0 (Kd.N (Kd.slice 9 Kd.string) 45 ((w32.setCell ⟨gb275, 0, none⟩ (.int .i64 t273)).setCell ⟨gb275, 1, none⟩ (.bool t274)) w.heap.size (fun k_ => some k_ ≠ (.slice (some ad272) t263.length co14 : Value).ownBlock ∧ some k_ ≠ (u6 : Value).ownBlock ∧ k_ ≠ gb262 ∧ k_ ≠ gb275) (.slice (some ad269) t266.length co13) t266) := ⟨by (with_reducible repeat (first | apply Kd.N_alloc | apply Kd.N_drewN | apply Kd.N_drew)); exact Kd.N_mono (Kd.N_far (p := ⟨gb275, 1, none⟩) (Kd.N_far (p := ⟨gb275, 0, none⟩) (Kd.N_mono HO_4.out (fun k_ hk => (⟨hk, hk.2⟩ : _ ∧ k_ ≠ gb275))) (fun _ hk => hk.2) (.int .i64 t273)) (fun _ hk => hk.2) (.bool t274)) (fun _ hk => ⟨hk.1.1.1, ⟨hk.1.1.2.1, ⟨hk.1.1.2.2, hk.1.2⟩⟩⟩)⟩
                 have n2_ : Aside0 (Kd.R (Kd.int .i64) 3 ((w32.setCell ⟨gb275, 0, none⟩ (.int .i64 t273)).setCell ⟨gb275, 1, none⟩ (.bool t274)) w.heap.size (fun _ => True) u6 x6_2) := ⟨by (with_reducible repeat (first | apply Kd.R_alloc | apply Kd.R_drewN | apply Kd.R_drew)); exact Kd.R_mono (Kd.R_far (p := ⟨gb275, 1, none⟩) (Kd.R_far (p := ⟨gb275, 0, none⟩) (Kd.R_types HO_6.out BK275.out (by decide)) (fun _ hk => hk.2) (.int .i64 t273)) (fun _ hk => hk.2) (.bool t274)) (fun _ hk => trivial)⟩
                 have n3_ : Aside0 (Kd.V Kd.string 9 ((w32.setCell ⟨gb275, 0, none⟩ (.int .i64 t273)).setCell ⟨gb275, 1, none⟩ (.bool t274)) w.heap.size (fun k_ => some k_ ≠ (.slice (some ad272) t263.length co14 : Value).ownBlock ∧ some k_ ≠ (.slice (some ad269) t266.length co13 : Value).ownBlock ∧ some k_ ≠ (u6 : Value).ownBlock ∧ k_ ≠ gb262 ∧ k_ ≠ gb275) (.slice (some ad271) (rd_L7 t266 x5_1).length c270_0) (rd_L7 t266 x5_1)) := ⟨by (with_reducible repeat (first | apply Kd.V_alloc | apply Kd.V_drewN | apply Kd.V_drew)); exact Kd.V_mono (Kd.V_far (p := ⟨gb275, 1, none⟩) (Kd.V_far (p := ⟨gb275, 0, none⟩) (Kd.V_mono HL270_0.out (fun k_ hk => (⟨hk, hk.2⟩ : _ ∧ k_ ≠ gb275))) (fun _ hk => hk.2) (.int .i64 t273)) (fun _ hk => hk.2) (.bool t274)) (fun _ hk => ⟨hk.1.1.1.1, ⟨hk.1.1.2, ⟨hk.1.1.1.2.1, ⟨hk.1.1.1.2.2, hk.1.2⟩⟩⟩⟩)⟩
                 have n4_ : Aside0 (((w32.setCell ⟨gb275, 0, none⟩ (.int .i64 t273)).setCell ⟨gb275, 1, none⟩ (.bool t274)).heap[gb262]? = some (.cells #[.int .i64 x263000_1, .int .i64 x263001_1, .int .i64 x263002_1, .int .i64 x263003_1, .int .i64 x263004_1, .int .u8 x263005_1, .int .u8 x263006_1, .int .u64 x263007_1, .int .i64 x263008_1] 34 (0, 0))) := ⟨by (with_reducible repeat (first | refine blk_drewN ?_ _ | refine blk_drew ?_ | refine blk_alloc ?_ _)); refine blk_far ?_ NB262_275.out _; (with_reducible repeat (first | refine blk_drewN ?_ _ | refine blk_drew ?_ | refine blk_alloc ?_ _)); refine blk_far ?_ NB262_275.out _; (with_reducible repeat (first | refine blk_drewN ?_ _ | refine blk_drew ?_ | refine blk_alloc ?_ _)); exact BK262.out⟩
                 have n5_ : Aside0 (((w32.setCell ⟨gb275, 0, none⟩ (.int .i64 t273)).setCell ⟨gb275, 1, none⟩ (.bool t274)).heap[gb275]? = some (.cells #[.int .i64 t273, .bool t274] 57 (0, 0))) := ⟨by (with_reducible repeat (first | refine blk_drewN ?_ _ | refine blk_drew ?_ | refine blk_alloc ?_ _)); refine blk_put (cs := #[.int .i64 t273, .bool false]) ?_ 1 _ rfl; (with_reducible repeat (first | refine blk_drewN ?_ _ | refine blk_drew ?_ | refine blk_alloc ?_ _)); refine blk_put (cs := #[.int .i64 0, .bool false]) ?_ 0 _ rfl; (with_reducible repeat (first | refine blk_drewN ?_ _ | refine blk_drew ?_ | refine blk_alloc ?_ _)); exact BK275.out⟩
                 have n6_ : Aside0 (Below w.heap.size w ((w32.setCell ⟨gb275, 0, none⟩ (.int .i64 t273)).setCell ⟨gb275, 1, none⟩ (.bool t274))) := ⟨by repeat (first | (with_reducible first | exact HB.out | apply below_alloc | apply pw_below_drewN | apply below_drew1 | refine below_set ?_ GE262.out | refine below_set ?_ GE275.out) | exact HB.out)⟩
                 (try clear HO_3)
                 (try clear HO_4)
                 (try clear HO_6)
                 (try clear HL270_0)
                 (try clear BK262)
                 (try clear BK275)
                 (try clear HB)
                 generalize ((w32.setCell ⟨gb275, 0, none⟩ (.int .i64 t273)).setCell ⟨gb275, 1, none⟩ (.bool t274)) = w35 at n0_ n1_ n2_ n3_ n4_ n5_ n6_ ⊢
                 have HO_3 := n0_
                 have HO_4 := n1_
                 have HO_6 := n2_
                 have HL270_0 := n3_
                 have BK262 := n4_
                 have BK275 := n5_
                 have HB := n6_
                 clear n0_ n1_ n2_ n3_ n4_ n5_ n6_
                 have n0_ := Aside0.mk (Kd.R_drew HO_3.out)
                 have n1_ := Aside0.mk (Kd.N_drew HO_4.out)
                 have n2_ := Aside0.mk (Kd.R_drew HO_6.out)
                 have n3_ := Aside0.mk (Kd.V_drew HL270_0.out)
                 have n4_ := Aside0.mk (blk_drew BK262.out)
                 have n5_ := Aside0.mk (blk_drew BK275.out)
                 have n6_ := Aside0.mk (below_drew1 HB.out)
                 clear HO_3
                 clear HO_4
                 clear HO_6
                 clear HL270_0
                 clear BK262
                 clear BK275
                 clear HB
                 have HO_3 := n0_
                 have HO_4 := n1_
                 have HO_6 := n2_
                 have HL270_0 := n3_
                 have BK262 := n4_
                 have BK275 := n5_
                 have HB := n6_
                 clear n0_ n1_ n2_ n3_ n4_ n5_ n6_
                 refine start_ (n := 12) (S := fun w' => w'.cell? ⟨gb275, 0, none⟩ = some (.int .i64 t273) ∧ w'.cell? ⟨gb275, 1, none⟩ = some (.bool t274)) (ds := []) #[false, false, false, false, false, false, false, false, false, false, false, false] (by kernel_rfl) rfl rfl ⟨(blk_cell BK275.out 0).trans rfl, (blk_cell BK275.out 1).trans rfl⟩ (fun hHeld => ?_); refine with_tabW weirgateref22_Line.tab18 weirgateref22_Line.bits18 (fun HT_ HW_ => ?_)
                 generalize w35.drew = w36 at HO_3 HO_4 HO_6 HL270_0 BK262 BK275 HB hHeld ⊢
                 refine pure_ (i := 0) (N := some 71) (v := ?_) (a' := ?_) #[true, false, false, false, false, false, false, false, false, false, false, false] rfl rfl (any_of HT_.out (by kernel_rfl)) (fun _ _ _ h => h) (Or.inl ⟨by rfl, ?_⟩) ?_ ?_
                 rotate_left
                 ·intro w'
                  go_simp
                  with_reducible rfl
                 rotate_left
                 ·simp only [Act.put, List.setIfInBounds_toArray, List.set_cons_zero, List.set_cons_succ, i64_w, i32_w]
                  rfl
                 refine pure_ (i := 1) (N := some 72) (v := ?_) (a' := ?_) #[true, true, false, false, false, false, false, false, false, false, false, false] rfl rfl (any_of HT_.out (by kernel_rfl)) (fun _ _ _ h => h) (Or.inl ⟨by rfl, ?_⟩) ?_ ?_
                 rotate_left
                 ·intro w'
                  go_simp
                  with_reducible rfl
                 rotate_left
                 ·simp only [Act.put, List.setIfInBounds_toArray, List.set_cons_zero, List.set_cons_succ, i64_w, i32_w]
                  rfl
                 refine pure_ (i := 5) (N := some 76) (v := ?_) (a' := ?_) #[true, true, false, false, false, true, false, false, false, false, false, false] rfl rfl (any_of HT_.out (by kernel_rfl)) (fun _ _ _ h => h) (Or.inl ⟨by rfl, ?_⟩) ?_ ?_
                 rotate_left
                 ·intro w'
                  go_simp
                  with_reducible rfl
                 rotate_left
                 ·simp only [Act.put, List.setIfInBounds_toArray, List.set_cons_zero, List.set_cons_succ, i64_w, i32_w]
                  rfl
                 refine take_ (i := 2) (N := some 73) (v := ?_) (a' := ?_) #[true, true, true, false, false, true, false, false, false, false, false, false] rfl rfl (take_ofW HT_.out HW_.out (by kernel_rfl)) (fun _ _ _ h => h) (Or.inl ⟨by rfl, ?_⟩) hHeld ?_ ?_
                 rotate_left
                 ·rintro w' ⟨s0, s1⟩
                  go_simp
                  with_reducible rfl
                 rotate_left
                 ·simp only [Act.put, List.setIfInBounds_toArray, List.set_cons_zero, List.set_cons_succ, i64_w, i32_w]
                  rfl
                 refine one_ (i := 3) (N := some 74) #[true, true, true, true, false, true, false, false, false, false, false, false] rfl rfl (one_of HT_.out (by kernel_rfl)) (by decide) (fun K hK => ?_)
                 refine value_ (w1 := ?_) (v := ?_) (by rfl) rfl ?_ ?_
                 rotate_left 2
                 ·go_simp
                  constructor
                  ·rfl
                  ·rfl
                 refine hK.out _ _ ⟨(blk_cell (blk_alloc BK275.out _) 0).trans rfl, (blk_cell (blk_alloc BK275.out _) 1).trans rfl⟩ (fun hHeld => ?_)
                 clear hK K
                 refine norm_ (a' := ?_) ?_ ?_
                 rotate_left
                 ·show Act.put _ (some 74) _ = _
                  simp only [Act.put, List.setIfInBounds_toArray, List.set_cons_zero, List.set_cons_succ, i64_w, i32_w]
                  rfl
                 refine one_ (i := 4) (N := some 75) #[true, true, true, true, true, true, false, false, false, false, false, false] rfl rfl (one_of HT_.out (by kernel_rfl)) (by decide) (fun K hK => ?_)
                 refine Kd.R_append_step (Kd.int .i64) (w0 := w) w.heap.size (by rfl) (.tmp 71) (.tmp 74) 55 3 (.int .i64 0) 8 rfl Tryd.underlying55 info3 rfl (by decide) (by omega) u6 x6_2 t273 [.int .i64 t273] (fun _ => True) (fun _ => False) rfl rfl ?aP (fun _ hk => hk.elim) ?aF ?aO ?aB ?aS ?aL ?_
                 (case aP => exact rfl)
                 (case aB => exact (by repeat (first | (with_reducible first | exact HB.out | apply below_alloc | apply pw_below_drewN | apply below_drew1 | refine below_set ?_ GE262.out | refine below_set ?_ GE275.out) | exact HB.out)))
                 (case aF => exact (fun _ _ => trivial))
                 (case aO => exact (by (with_reducible repeat (first | apply Kd.R_alloc | apply Kd.R_drewN | apply Kd.R_drew)); exact HO_6.out))
                 (case aS => exact (below_size (by repeat (first | (with_reducible first | exact HB.out | apply below_alloc | apply pw_below_drewN | apply below_drew1 | refine below_set ?_ GE262.out | refine below_set ?_ GE275.out) | exact HB.out))))
                 (case aL => have := LMc22.out; omega)
                 intro v277 w37 ho hb hg hat
                 rw [← Ny276.out] at ho
                 have n0_ := Aside0.mk (Kd.R_over' (by (with_reducible repeat (first | apply Kd.R_alloc | apply Kd.R_drewN | apply Kd.R_drew)); exact HO_3.out) (Kd.R_typed (by (with_reducible repeat (first | apply Kd.R_alloc | apply Kd.R_drewN | apply Kd.R_drew)); exact HO_6.out)) (by decide) hg)
                 have n1_ := Aside0.mk (Kd.N_afterv (ok := (fun k_ => some k_ ≠ (.slice (some ad272) t263.length co14 : Value).ownBlock ∧ k_ ≠ gb262 ∧ k_ ≠ gb275)) (by (with_reducible repeat (first | apply Kd.N_alloc | apply Kd.N_drewN | apply Kd.N_drew)); exact Kd.N_mono HO_4.out (fun _ hk => ⟨⟨hk.1, ⟨hk.2.2.1, hk.2.2.2⟩⟩, hk.2.1⟩)) hg hat)
                 have n2_ := Aside0.mk (blk_grown (g := gb262) (o := .cells #[.int .i64 x263000_1, .int .i64 x263001_1, .int .i64 x263002_1, .int .i64 x263003_1, .int .i64 x263004_1, .int .u8 x263005_1, .int .u8 x263006_1, .int .u64 x263007_1, .int .i64 x263008_1] 34 (0, 0)) (by (with_reducible repeat (first | refine blk_drewN ?_ _ | refine blk_drew ?_ | refine blk_alloc ?_ _)); exact BK262.out) hg (Kd.R_ne HO_6.out BK262.out (by decide)))
                 have n3_ := Aside0.mk (Kd.V_afterv (ok := (fun k_ => some k_ ≠ (.slice (some ad272) t263.length co14 : Value).ownBlock ∧ some k_ ≠ (.slice (some ad269) t266.length co13 : Value).ownBlock ∧ k_ ≠ gb262 ∧ k_ ≠ gb275)) (by (with_reducible repeat (first | apply Kd.V_alloc | apply Kd.V_drewN | apply Kd.V_drew)); exact Kd.V_mono HL270_0.out (fun _ hk => ⟨⟨hk.1, ⟨hk.2.1, ⟨hk.2.2.2.1, hk.2.2.2.2⟩⟩⟩, hk.2.2.1⟩)) hg hat)
                 have n4_ := Aside0.mk (blk_grown (g := gb275) (o := .cells #[.int .i64 t273, .bool t274] 57 (0, 0)) (by (with_reducible repeat (first | refine blk_drewN ?_ _ | refine blk_drew ?_ | refine blk_alloc ?_ _)); exact BK275.out) hg (Kd.R_ne HO_6.out BK275.out (by decide)))
                 have n5_ := Aside0.mk (hb)
                 have n6_ := Aside0.mk (ho)
                 clear HO_3
                 clear HO_4
                 clear BK262
                 clear HL270_0
                 clear BK275
                 clear HB
                 clear HO_6
                 have HO_3 := n0_
                 have HO_4 := n1_
                 have BK262 := n2_
                 have HL270_0 := n3_
                 have BK275 := n4_
                 have HB := n5_
                 have HO278 := n6_
                 clear n0_ n1_ n2_ n3_ n4_ n5_ n6_
                 clear ho hb hg hat
                 refine hK.out _ _ ⟨(blk_cell BK275.out 0).trans rfl, (blk_cell BK275.out 1).trans rfl⟩ (fun hHeld => ?_)
                 clear hK K
                 refine norm_ (a' := ?_) ?_ ?_
                 rotate_left
                 ·show Act.put _ (some 75) _ = _
                  simp only [Act.put, List.setIfInBounds_toArray, List.set_cons_zero, List.set_cons_succ, i64_w, i32_w]
                  rfl
                 refine pure_ (i := 6) (N := some 77) (v := ?_) (a' := ?_) #[true, true, true, true, true, true, true, false, false, false, false, false] rfl rfl (any_of HT_.out (by kernel_rfl)) (fun _ _ _ h => h) (Or.inl ⟨by rfl, ?_⟩) ?_ ?_
                 rotate_left
                 ·intro w'
                  go_simp
                  with_reducible rfl
                 rotate_left
                 ·simp only [Act.put, List.setIfInBounds_toArray, List.set_cons_zero, List.set_cons_succ, i64_w, i32_w]
                  rfl
                 refine pure_ (i := 7) (N := some 78) (v := undef) (a' := ?_) #[true, true, true, true, true, true, true, true, false, false, false, false] rfl rfl (any_of HT_.out (by kernel_rfl)) (fun _ _ _ h => h) (Or.inr ⟨by rfl, rfl⟩) ?_ ?_
                 rotate_left
                 ·simp only [Act.put, List.setIfInBounds_toArray, List.set_cons_zero, List.set_cons_succ, i64_w, i32_w]
                  rfl
                 refine pure_ (i := 8) (N := some 79) (v := undef) (a' := ?_) #[true, true, true, true, true, true, true, true, true, false, false, false] rfl rfl (any_of HT_.out (by kernel_rfl)) (fun _ _ _ h => h) (Or.inr ⟨by rfl, rfl⟩) ?_ ?_
                 rotate_left
                 ·simp only [Act.put, List.setIfInBounds_toArray, List.set_cons_zero, List.set_cons_succ, i64_w, i32_w]
                  rfl
                 refine pure_ (i := 9) (N := some 80) (v := ?_) (a' := ?_) #[true, true, true, true, true, true, true, true, true, true, false, false] rfl rfl (any_of HT_.out (by kernel_rfl)) (fun _ _ _ h => h) (Or.inl ⟨by rfl, ?_⟩) ?_ ?_
                 rotate_left
                 ·intro w'
                  go_simp
                  with_reducible rfl
                 rotate_left
                 ·simp only [Act.put, List.setIfInBounds_toArray, List.set_cons_zero, List.set_cons_succ, i64_w, i32_w]
                  rfl
                 refine pure_ (i := 10) (N := some 6) (v := ?_) (a' := ?_) #[true, true, true, true, true, true, true, true, true, true, true, false] rfl rfl (any_of HT_.out (by kernel_rfl)) (fun _ _ _ h => h) (Or.inl ⟨by rfl, ?_⟩) ?_ ?_
                 rotate_left
                 ·intro w'
                  go_simp
                  with_reducible rfl
                 rotate_left
                 ·simp only [Act.put, List.setIfInBounds_toArray, List.set_cons_zero, List.set_cons_succ, i64_w, i32_w]
                  rfl
                 refine pure_ (i := 11) (N := some 8) (v := ?_) (a' := ?_) #[true, true, true, true, true, true, true, true, true, true, true, true] rfl rfl (any_of HT_.out (by kernel_rfl)) (fun _ _ _ h => h) (Or.inl ⟨by rfl, ?_⟩) ?_ ?_
                 rotate_left
                 ·intro w'
                  go_simp
                  with_reducible rfl
                 rotate_left
                 ·simp only [Act.put, List.setIfInBounds_toArray, List.set_cons_zero, List.set_cons_succ, i64_w, i32_w]
                  rfl
                 refine done_ (done_of HT_.out (by kernel_rfl)) ?_
                 try go_wp2
                 go_roundg k2
                 case measure => have := HK1.out; have := HK2.out; omega
                 case rel => exact ⟨(y276), (x7_2), (false), (wrap64 (x9_2 + 1)), (by first | rfl | (simp; done) | (simp [*]; done)), (by first | rfl | (simp; done) | (simp [*]; done)), (by first | rfl | (simp; done) | (simp [*]; done)), H', ⟨by have := HK1.out; have := HK2.out; omega⟩, ⟨by (with_reducible repeat (first | apply Kd.R_alloc | apply Kd.R_drewN | apply Kd.R_drew)); exact HO_3.out⟩, ⟨by (with_reducible repeat (first | apply Kd.N_alloc | apply Kd.N_drewN | apply Kd.N_drew)); exact Kd.N_mono HO_4.out (fun _ hk => ⟨hk.1.1, ⟨hk.2, hk.1.2.1⟩⟩)⟩, ⟨by (with_reducible repeat (first | apply Kd.R_alloc | apply Kd.R_drewN | apply Kd.R_drew)); exact HO278.out⟩, ⟨by (with_reducible repeat (first | refine blk_drewN ?_ _ | refine blk_drew ?_ | refine blk_alloc ?_ _)); exact BK262.out⟩, ⟨by repeat (first | (with_reducible first | exact HB.out | apply below_alloc | apply pw_below_drewN | apply below_drew1 | refine below_set ?_ GE262.out | refine below_set ?_ GE275.out) | exact HB.out)⟩⟩
               ·rw [if_neg c22] at H
                exact absurd H (by simp)
              ·rw [if_neg c20] at H
               have c20b0 : ((rdOf ByteArray.empty (rd_L7 t266 x5_1) x9_2).toList == ([35] : List UInt8)) = false := beq_eq_false_iff_ne.mpr c20
               have c20b1 : ((rdOf ByteArray.empty (rd_L7 t266 x5_1) x9_2).toList != ([35] : List UInt8)) = true := bne_iff_ne.mpr c20
               by_cases c38 : (rdOf ByteArray.empty (rd_L7 t266 x5_1) x9_2).toList = ([64] : List UInt8)
               ·rw [if_pos c38] at H
                have c38b0 : ((rdOf ByteArray.empty (rd_L7 t266 x5_1) x9_2).toList == ([64] : List UInt8)) = true := beq_iff_eq.mpr c38
                have c38b1 : ((rdOf ByteArray.empty (rd_L7 t266 x5_1) x9_2).toList != ([64] : List UInt8)) = false := bne_eq_false_iff_eq.mpr c38
                clear c38
                replace H := Option.bind_eq_some_iff.mp H
                obtain ⟨⟨t280, t281⟩, A390, H⟩ := H
                replace H : (if x8_2 = true then (weirgateref22_Line.l1 k2 t263 t266 x5_1 x6_2 t280 (t281 == 0) (wrap64 (x9_2 + 1))) else (weirgateref22_Line.l1 k2 t263 t266 x5_1 x6_2 t280 false (wrap64 (x9_2 + 1)))) = some (r1, r2, r3, r4, r5, r6, r7, r8, r9) := H
                have A39 := Aside0.mk A390
                clear A390
                by_cases c40 : x8_2 = true
                ·subst c40
                 have H1 : (weirgateref22_Line.l1 k2 t263 t266 x5_1 x6_2 t280 (t281 == 0) (wrap64 (x9_2 + 1))) = some (r1, r2, r3, r4, r5, r6, r7, r8, r9) := by rw [if_pos rfl] at H; exact H
                 clear H
                 have H := H1
                 clear H1
                 have H' := Aside0.mk H
                 clear H
                 have p270 : 0 ≤ (x5_1 : Int) := of_decide_eq_true (by first | (with_reducible assumption) | assumption)
                 have q270 : x5_1 < (t266.length : Int) := of_decide_eq_true (by first | (with_reducible assumption) | assumption)
                 obtain ⟨ad270, A270_0, c270_0, e270, hx270_0, hl270_0, hi270_0⟩ := at_L7 (Kd.N_reads' HO_4.out).2.2 x5_1 p270 q270
                 obtain rfl : ad269 = ad270 := (by injection e270)
                 obtain ⟨ce270, hce270, hMe270, hcc270⟩ := Kd.N_get HO_4.out [] x5_1 p270 (by first | exact q270 | exact of_decide_eq_true (by first | (with_reducible assumption) | assumption) | (have e_ := (Kd.N_reads' HO_4.out).1; omega))
                 obtain ⟨ua270_0, uc270_0, rfl, ul270_0, ge270_0⟩ := Kd.FK_slice_open hMe270
                 have hv270_0 := hcc270 0 _ rfl
                 rw [Nat.add_zero, show ((Kd.slice 9 Kd.string)).sz = 1 from rfl, Nat.mul_one] at hv270_0
                 replace hv270_0 := Option.some.inj (hv270_0.symm.trans hx270_0)
                 injection hv270_0 with hva_ hvn_ hvc_
                 rw [hva_] at ge270_0
                 rw [hvc_] at ul270_0
                 have HL270_0 := Aside0.mk (show Kd.V Kd.string 9 _ w.heap.size _ _ (rd_L7 t266 x5_1) from Kd.V_mk ul270_0 ge270_0)
                 clear hva_ hvn_ hvc_ ge270_0 ul270_0
                 clear hcc270 hce270
                 have HR270_0 := Aside0.mk hi270_0
                 have HC270_0 := Aside0.mk hl270_0
                 clear hi270_0 hl270_0
                 replace p270 := eq_true p270
                 replace q270 := eq_true q270
                 have p271 : 0 ≤ (x9_2 : Int) := of_decide_eq_true (by first | (with_reducible assumption) | assumption)
                 have q271 : x9_2 < ((rd_L7 t266 x5_1).length : Int) := of_decide_eq_true (by first | (with_reducible assumption) | assumption)
                 obtain ⟨ad271, e271, hx271_0⟩ := Kd.at_string (by repeat (first | (with_reducible exact HR270_0.out) | (with_reducible refine Kd.C_alloc ?_ _) | (with_reducible refine Kd.C_drewN ?_ _) | (with_reducible refine Kd.C_drew ?_) | exact HR270_0.out)) x9_2 p271 q271
                 cases e271
                 replace p271 := eq_true p271
                 replace q271 := eq_true q271
                 have p279 : 0 ≤ (x9_2 : Int) := of_decide_eq_true (by first | (with_reducible assumption) | assumption)
                 have q279 : x9_2 < (t263.length : Int) := of_decide_eq_true (by first | (with_reducible assumption) | assumption)
                 obtain ⟨ad279, e279, hx279_0⟩ := Kd.at_string (Kd.R_reads' HO_3.out).2.2 x9_2 p279 q279
                 cases e279
                 replace p279 := eq_true p279
                 replace q279 := eq_true q279
                 go_wp2_with (first | ((with_reducible refine gate_callee (f := 19) rfl ?_); refine goesL_ (some 88) rfl rfl Tryd.func19 (by kernel_rfl) rfl #[.string (rdOf ByteArray.empty t263 x9_2)] rfl (by (try simp only [List.map_toArray, List.map_cons, List.map_nil]); first | done | rfl | (simp only [List.length_drop, List.length_take]; rfl)) ?_; (with_reducible refine (weirgateref09_Parse.calls k2 (rdOf ByteArray.empty t263 x9_2) t280 t281 _ ?side1 A39.out).mono ?_); (case side1 => exact Laid.below hL (by repeat (first | (with_reducible first | exact HB.out | apply below_alloc | apply pw_below_drewN | apply below_drew1 | refine below_set ?_ GE262.out) | exact HB.out))); rintro e w41 ⟨rfl, hb⟩; refine ⟨_, rfl, ?_⟩; have n0_ := Aside0.mk (Kd.R_below (by (with_reducible repeat (first | apply Kd.R_alloc | apply Kd.R_drewN | apply Kd.R_drew)); exact HO_3.out) hb); have n1_ := Aside0.mk (Kd.N_below (by (with_reducible repeat (first | apply Kd.N_alloc | apply Kd.N_drewN | apply Kd.N_drew)); exact HO_4.out) hb); have n2_ := Aside0.mk (Kd.R_below (by (with_reducible repeat (first | apply Kd.R_alloc | apply Kd.R_drewN | apply Kd.R_drew)); exact HO_6.out) hb); have n3_ := Aside0.mk (Kd.V_below (by (with_reducible repeat (first | apply Kd.V_alloc | apply Kd.V_drewN | apply Kd.V_drew)); exact HL270_0.out) hb); have n4_ := Aside0.mk (blk_below (g := gb262) (o := .cells #[.int .i64 x263000_1, .int .i64 x263001_1, .int .i64 x263002_1, .int .i64 x263003_1, .int .i64 x263004_1, .int .u8 x263005_1, .int .u8 x263006_1, .int .u64 x263007_1, .int .i64 x263008_1] 34 (0, 0)) (by (with_reducible repeat (first | refine blk_drewN ?_ _ | refine blk_drew ?_ | refine blk_alloc ?_ _)); exact BK262.out) hb); have n5_ := Aside0.mk (Kd.C_below (by repeat (first | (with_reducible exact HR270_0.out) | (with_reducible refine Kd.C_alloc ?_ _) | (with_reducible refine Kd.C_drewN ?_ _) | (with_reducible refine Kd.C_drew ?_) | exact HR270_0.out)) hb); have n6_ := Aside0.mk (below_step (by repeat (first | (with_reducible first | exact HB.out | apply below_alloc | apply pw_below_drewN | apply below_drew1 | refine below_set ?_ GE262.out) | exact HB.out)) hb); clear HO_3; clear HO_4; clear HO_6; clear HL270_0; clear BK262; clear HR270_0; clear HB; have HO_3 := n0_; have HO_4 := n1_; have HO_6 := n2_; have HL270_0 := n3_; have BK262 := n4_; have HR270_0 := n5_; have HB := n6_; clear n0_ n1_ n2_ n3_ n4_ n5_ n6_; (try clear hb); (try clear hb2); (try clear hk); (try clear hi); (try clear A39)))
                 go_roundg k2
                 case measure => have := HK1.out; have := HK2.out; omega
                 case rel => exact ⟨(x6_2), (t280), ((t281 == 0)), (wrap64 (x9_2 + 1)), (by first | rfl | (simp; done) | (simp [*]; done)), (by first | rfl | (simp; done) | (simp [*]; done)), (by first | rfl | (simp; done) | (simp [*]; done)), H', ⟨by have := HK1.out; have := HK2.out; omega⟩, ⟨by (with_reducible repeat (first | apply Kd.R_alloc | apply Kd.R_drewN | apply Kd.R_drew)); exact HO_3.out⟩, ⟨by (with_reducible repeat (first | apply Kd.N_alloc | apply Kd.N_drewN | apply Kd.N_drew)); exact HO_4.out⟩, ⟨by (with_reducible repeat (first | apply Kd.R_alloc | apply Kd.R_drewN | apply Kd.R_drew)); exact HO_6.out⟩, ⟨by (with_reducible repeat (first | refine blk_drewN ?_ _ | refine blk_drew ?_ | refine blk_alloc ?_ _)); exact BK262.out⟩, ⟨by repeat (first | (with_reducible first | exact HB.out | apply below_alloc | apply pw_below_drewN | apply below_drew1 | refine below_set ?_ GE262.out) | exact HB.out)⟩⟩
                ·replace c40 := Bool.eq_false_iff.mpr c40
                 subst c40
                 have H1 : (weirgateref22_Line.l1 k2 t263 t266 x5_1 x6_2 t280 false (wrap64 (x9_2 + 1))) = some (r1, r2, r3, r4, r5, r6, r7, r8, r9) := by rw [if_neg (show ¬ (false = true) by decide)] at H; exact H
                 clear H
                 have H := H1
                 clear H1
                 have H' := Aside0.mk H
                 clear H
                 have p270 : 0 ≤ (x5_1 : Int) := of_decide_eq_true (by first | (with_reducible assumption) | assumption)
                 have q270 : x5_1 < (t266.length : Int) := of_decide_eq_true (by first | (with_reducible assumption) | assumption)
                 obtain ⟨ad270, A270_0, c270_0, e270, hx270_0, hl270_0, hi270_0⟩ := at_L7 (Kd.N_reads' HO_4.out).2.2 x5_1 p270 q270
                 obtain rfl : ad269 = ad270 := (by injection e270)
                 obtain ⟨ce270, hce270, hMe270, hcc270⟩ := Kd.N_get HO_4.out [] x5_1 p270 (by first | exact q270 | exact of_decide_eq_true (by first | (with_reducible assumption) | assumption) | (have e_ := (Kd.N_reads' HO_4.out).1; omega))
                 obtain ⟨ua270_0, uc270_0, rfl, ul270_0, ge270_0⟩ := Kd.FK_slice_open hMe270
                 have hv270_0 := hcc270 0 _ rfl
                 rw [Nat.add_zero, show ((Kd.slice 9 Kd.string)).sz = 1 from rfl, Nat.mul_one] at hv270_0
                 replace hv270_0 := Option.some.inj (hv270_0.symm.trans hx270_0)
                 injection hv270_0 with hva_ hvn_ hvc_
                 rw [hva_] at ge270_0
                 rw [hvc_] at ul270_0
                 have HL270_0 := Aside0.mk (show Kd.V Kd.string 9 _ w.heap.size _ _ (rd_L7 t266 x5_1) from Kd.V_mk ul270_0 ge270_0)
                 clear hva_ hvn_ hvc_ ge270_0 ul270_0
                 clear hcc270 hce270
                 have HR270_0 := Aside0.mk hi270_0
                 have HC270_0 := Aside0.mk hl270_0
                 clear hi270_0 hl270_0
                 replace p270 := eq_true p270
                 replace q270 := eq_true q270
                 have p271 : 0 ≤ (x9_2 : Int) := of_decide_eq_true (by first | (with_reducible assumption) | assumption)
                 have q271 : x9_2 < ((rd_L7 t266 x5_1).length : Int) := of_decide_eq_true (by first | (with_reducible assumption) | assumption)
                 obtain ⟨ad271, e271, hx271_0⟩ := Kd.at_string (by repeat (first | (with_reducible exact HR270_0.out) | (with_reducible refine Kd.C_alloc ?_ _) | (with_reducible refine Kd.C_drewN ?_ _) | (with_reducible refine Kd.C_drew ?_) | exact HR270_0.out)) x9_2 p271 q271
                 cases e271
                 replace p271 := eq_true p271
                 replace q271 := eq_true q271
                 have p279 : 0 ≤ (x9_2 : Int) := of_decide_eq_true (by first | (with_reducible assumption) | assumption)
                 have q279 : x9_2 < (t263.length : Int) := of_decide_eq_true (by first | (with_reducible assumption) | assumption)
                 obtain ⟨ad279, e279, hx279_0⟩ := Kd.at_string (Kd.R_reads' HO_3.out).2.2 x9_2 p279 q279
                 cases e279
                 replace p279 := eq_true p279
                 replace q279 := eq_true q279
                 go_wp2_with (first | ((with_reducible refine gate_callee (f := 19) rfl ?_); refine goesL_ (some 88) rfl rfl Tryd.func19 (by kernel_rfl) rfl #[.string (rdOf ByteArray.empty t263 x9_2)] rfl (by (try simp only [List.map_toArray, List.map_cons, List.map_nil]); first | done | rfl | (simp only [List.length_drop, List.length_take]; rfl)) ?_; (with_reducible refine (weirgateref09_Parse.calls k2 (rdOf ByteArray.empty t263 x9_2) t280 t281 _ ?side1 A39.out).mono ?_); (case side1 => exact Laid.below hL (by repeat (first | (with_reducible first | exact HB.out | apply below_alloc | apply pw_below_drewN | apply below_drew1 | refine below_set ?_ GE262.out) | exact HB.out))); rintro e w42 ⟨rfl, hb⟩; refine ⟨_, rfl, ?_⟩; have n0_ := Aside0.mk (Kd.R_below (by (with_reducible repeat (first | apply Kd.R_alloc | apply Kd.R_drewN | apply Kd.R_drew)); exact HO_3.out) hb); have n1_ := Aside0.mk (Kd.N_below (by (with_reducible repeat (first | apply Kd.N_alloc | apply Kd.N_drewN | apply Kd.N_drew)); exact HO_4.out) hb); have n2_ := Aside0.mk (Kd.R_below (by (with_reducible repeat (first | apply Kd.R_alloc | apply Kd.R_drewN | apply Kd.R_drew)); exact HO_6.out) hb); have n3_ := Aside0.mk (Kd.V_below (by (with_reducible repeat (first | apply Kd.V_alloc | apply Kd.V_drewN | apply Kd.V_drew)); exact HL270_0.out) hb); have n4_ := Aside0.mk (blk_below (g := gb262) (o := .cells #[.int .i64 x263000_1, .int .i64 x263001_1, .int .i64 x263002_1, .int .i64 x263003_1, .int .i64 x263004_1, .int .u8 x263005_1, .int .u8 x263006_1, .int .u64 x263007_1, .int .i64 x263008_1] 34 (0, 0)) (by (with_reducible repeat (first | refine blk_drewN ?_ _ | refine blk_drew ?_ | refine blk_alloc ?_ _)); exact BK262.out) hb); have n5_ := Aside0.mk (Kd.C_below (by repeat (first | (with_reducible exact HR270_0.out) | (with_reducible refine Kd.C_alloc ?_ _) | (with_reducible refine Kd.C_drewN ?_ _) | (with_reducible refine Kd.C_drew ?_) | exact HR270_0.out)) hb); have n6_ := Aside0.mk (below_step (by repeat (first | (with_reducible first | exact HB.out | apply below_alloc | apply pw_below_drewN | apply below_drew1 | refine below_set ?_ GE262.out) | exact HB.out)) hb); clear HO_3; clear HO_4; clear HO_6; clear HL270_0; clear BK262; clear HR270_0; clear HB; have HO_3 := n0_; have HO_4 := n1_; have HO_6 := n2_; have HL270_0 := n3_; have BK262 := n4_; have HR270_0 := n5_; have HB := n6_; clear n0_ n1_ n2_ n3_ n4_ n5_ n6_; (try clear hb); (try clear hb2); (try clear hk); (try clear hi); (try clear A39)))
                 go_roundg k2
                 case measure => have := HK1.out; have := HK2.out; omega
                 case rel => exact ⟨(x6_2), (t280), (false), (wrap64 (x9_2 + 1)), (by first | rfl | (simp; done) | (simp [*]; done)), (by first | rfl | (simp; done) | (simp [*]; done)), (by first | rfl | (simp; done) | (simp [*]; done)), H', ⟨by have := HK1.out; have := HK2.out; omega⟩, ⟨by (with_reducible repeat (first | apply Kd.R_alloc | apply Kd.R_drewN | apply Kd.R_drew)); exact HO_3.out⟩, ⟨by (with_reducible repeat (first | apply Kd.N_alloc | apply Kd.N_drewN | apply Kd.N_drew)); exact HO_4.out⟩, ⟨by (with_reducible repeat (first | apply Kd.R_alloc | apply Kd.R_drewN | apply Kd.R_drew)); exact HO_6.out⟩, ⟨by (with_reducible repeat (first | refine blk_drewN ?_ _ | refine blk_drew ?_ | refine blk_alloc ?_ _)); exact BK262.out⟩, ⟨by repeat (first | (with_reducible first | exact HB.out | apply below_alloc | apply pw_below_drewN | apply below_drew1 | refine below_set ?_ GE262.out) | exact HB.out)⟩⟩
               ·rw [if_neg c38] at H
                have c38b0 : ((rdOf ByteArray.empty (rd_L7 t266 x5_1) x9_2).toList == ([64] : List UInt8)) = false := beq_eq_false_iff_ne.mpr c38
                have c38b1 : ((rdOf ByteArray.empty (rd_L7 t266 x5_1) x9_2).toList != ([64] : List UInt8)) = true := bne_iff_ne.mpr c38
                by_cases c43 : x8_2 = true
                ·subst c43
                 have H1 : (weirgateref22_Line.l1 k2 t263 t266 x5_1 x6_2 x7_2 ((rdOf ByteArray.empty t263 x9_2).toList == (rdOf ByteArray.empty (rd_L7 t266 x5_1) x9_2).toList) (wrap64 (x9_2 + 1))) = some (r1, r2, r3, r4, r5, r6, r7, r8, r9) := by rw [if_pos rfl] at H; exact H
                 clear H
                 have H := H1
                 clear H1
                 have H' := Aside0.mk H
                 clear H
                 have p270 : 0 ≤ (x5_1 : Int) := of_decide_eq_true (by first | (with_reducible assumption) | assumption)
                 have q270 : x5_1 < (t266.length : Int) := of_decide_eq_true (by first | (with_reducible assumption) | assumption)
                 obtain ⟨ad270, A270_0, c270_0, e270, hx270_0, hl270_0, hi270_0⟩ := at_L7 (Kd.N_reads' HO_4.out).2.2 x5_1 p270 q270
                 obtain rfl : ad269 = ad270 := (by injection e270)
                 obtain ⟨ce270, hce270, hMe270, hcc270⟩ := Kd.N_get HO_4.out [] x5_1 p270 (by first | exact q270 | exact of_decide_eq_true (by first | (with_reducible assumption) | assumption) | (have e_ := (Kd.N_reads' HO_4.out).1; omega))
                 obtain ⟨ua270_0, uc270_0, rfl, ul270_0, ge270_0⟩ := Kd.FK_slice_open hMe270
                 have hv270_0 := hcc270 0 _ rfl
                 rw [Nat.add_zero, show ((Kd.slice 9 Kd.string)).sz = 1 from rfl, Nat.mul_one] at hv270_0
                 replace hv270_0 := Option.some.inj (hv270_0.symm.trans hx270_0)
                 injection hv270_0 with hva_ hvn_ hvc_
                 rw [hva_] at ge270_0
                 rw [hvc_] at ul270_0
                 have HL270_0 := Aside0.mk (show Kd.V Kd.string 9 _ w.heap.size _ _ (rd_L7 t266 x5_1) from Kd.V_mk ul270_0 ge270_0)
                 clear hva_ hvn_ hvc_ ge270_0 ul270_0
                 clear hcc270 hce270
                 have HR270_0 := Aside0.mk hi270_0
                 have HC270_0 := Aside0.mk hl270_0
                 clear hi270_0 hl270_0
                 replace p270 := eq_true p270
                 replace q270 := eq_true q270
                 have p271 : 0 ≤ (x9_2 : Int) := of_decide_eq_true (by first | (with_reducible assumption) | assumption)
                 have q271 : x9_2 < ((rd_L7 t266 x5_1).length : Int) := of_decide_eq_true (by first | (with_reducible assumption) | assumption)
                 obtain ⟨ad271, e271, hx271_0⟩ := Kd.at_string (by repeat (first | (with_reducible exact HR270_0.out) | (with_reducible refine Kd.C_alloc ?_ _) | (with_reducible refine Kd.C_drewN ?_ _) | (with_reducible refine Kd.C_drew ?_) | exact HR270_0.out)) x9_2 p271 q271
                 cases e271
                 replace p271 := eq_true p271
                 replace q271 := eq_true q271
                 try go_wp2
                 have n0_ := Aside0.mk (Kd.R_drew HO_3.out)
                 have n1_ := Aside0.mk (Kd.N_drew HO_4.out)
                 have n2_ := Aside0.mk (Kd.R_drew HO_6.out)
                 have n3_ := Aside0.mk (Kd.V_drew HL270_0.out)
                 have n4_ := Aside0.mk (blk_drew BK262.out)
                 have n5_ := Aside0.mk (Kd.C_drew HR270_0.out)
                 have n6_ := Aside0.mk (below_drew1 HB.out)
                 clear HO_3
                 clear HO_4
                 clear HO_6
                 clear HL270_0
                 clear BK262
                 clear HR270_0
                 clear HB
                 have HO_3 := n0_
                 have HO_4 := n1_
                 have HO_6 := n2_
                 have HL270_0 := n3_
                 have BK262 := n4_
                 have HR270_0 := n5_
                 have HB := n6_
                 clear n0_ n1_ n2_ n3_ n4_ n5_ n6_
                 have p282 : 0 ≤ (x9_2 : Int) := of_decide_eq_true (by first | (with_reducible assumption) | assumption)
                 have q282 : x9_2 < (t263.length : Int) := of_decide_eq_true (by first | (with_reducible assumption) | assumption)
                 obtain ⟨ad282, e282, hx282_0⟩ := Kd.at_string (Kd.R_reads' HO_3.out).2.2 x9_2 p282 q282
                 cases e282
                 replace p282 := eq_true p282
                 replace q282 := eq_true q282
                 have p283 : 0 ≤ (x5_1 : Int) := of_decide_eq_true (by first | (with_reducible assumption) | assumption)
                 have q283 : x5_1 < (t266.length : Int) := of_decide_eq_true (by first | (with_reducible assumption) | assumption)
                 obtain ⟨ad283, A283_0, c283_0, e283, hx283_0, hl283_0, hi283_0⟩ := at_L7 (Kd.N_reads' HO_4.out).2.2 x5_1 p283 q283
                 obtain rfl : ad269 = ad283 := (by injection e283)
                 obtain ⟨ce283, hce283, hMe283, hcc283⟩ := Kd.N_get HO_4.out [] x5_1 p283 (by first | exact q283 | exact of_decide_eq_true (by first | (with_reducible assumption) | assumption) | (have e_ := (Kd.N_reads' HO_4.out).1; omega))
                 obtain ⟨ua283_0, uc283_0, rfl, ul283_0, ge283_0⟩ := Kd.FK_slice_open hMe283
                 have hv283_0 := hcc283 0 _ rfl
                 rw [Nat.add_zero, show ((Kd.slice 9 Kd.string)).sz = 1 from rfl, Nat.mul_one] at hv283_0
                 replace hv283_0 := Option.some.inj (hv283_0.symm.trans hx283_0)
                 injection hv283_0 with hva_ hvn_ hvc_
                 rw [hva_] at ge283_0
                 rw [hvc_] at ul283_0
                 have HL283_0 := Aside0.mk (show Kd.V Kd.string 9 _ w.heap.size _ _ (rd_L7 t266 x5_1) from Kd.V_mk ul283_0 ge283_0)
                 clear hva_ hvn_ hvc_ ge283_0 ul283_0
                 clear hcc283 hce283
                 have HR283_0 := Aside0.mk hi283_0
                 have HC283_0 := Aside0.mk hl283_0
                 clear hi283_0 hl283_0
                 replace p283 := eq_true p283
                 replace q283 := eq_true q283
                 have p284 : 0 ≤ (x9_2 : Int) := of_decide_eq_true (by first | (with_reducible assumption) | assumption)
                 have q284 : x9_2 < ((rd_L7 t266 x5_1).length : Int) := of_decide_eq_true (by first | (with_reducible assumption) | assumption)
                 obtain ⟨ad284, e284, hx284_0⟩ := Kd.at_string (by repeat (first | (with_reducible exact HR283_0.out) | (with_reducible refine Kd.C_alloc ?_ _) | (with_reducible refine Kd.C_drewN ?_ _) | (with_reducible refine Kd.C_drew ?_) | exact HR283_0.out)) x9_2 p284 q284
                 cases e284
                 replace p284 := eq_true p284
                 replace q284 := eq_true q284
                 refine start_ (n := 16) (S := fun w' => w'.cell? (ad282.add (x9_2).toNat) = some (.string (rdOf ByteArray.empty t263 x9_2)) ∧ w'.cell? (ad269.add (x5_1).toNat) = some (.slice (some ad284) (rd_L7 t266 x5_1).length c283_0) ∧ w'.cell? (ad284.add (x9_2).toNat) = some (.string (rdOf ByteArray.empty (rd_L7 t266 x5_1) x9_2))) (ds := []) #[false, false, false, false, false, false, false, false, false, false, false, false, false, false, false, false] (by kernel_rfl) rfl rfl ⟨hx282_0, hx283_0, hx284_0⟩ (fun hHeld => ?_); refine with_tabW weirgateref22_Line.tab15 weirgateref22_Line.bits15 (fun HT_ HW_ => ?_)
                 generalize wr.drew = w44 at HO_3 HO_4 HO_6 HL270_0 BK262 HR270_0 HB HL283_0 HR283_0 hx282_0 hx283_0 hx284_0 hHeld ⊢
                 refine pure_ (i := 0) (N := some 49) (v := ?_) (a' := ?_) #[true, false, false, false, false, false, false, false, false, false, false, false, false, false, false, false] rfl rfl (any_of HT_.out (by kernel_rfl)) (fun _ _ _ h => h) (Or.inl ⟨by rfl, ?_⟩) ?_ ?_
                 rotate_left
                 ·intro w'
                  go_simp
                  with_reducible rfl
                 rotate_left
                 ·simp only [Act.put, List.setIfInBounds_toArray, List.set_cons_zero, List.set_cons_succ, i64_w, i32_w]
                  rfl
                 refine pure_ (i := 1) (N := some 50) (v := ?_) (a' := ?_) #[true, true, false, false, false, false, false, false, false, false, false, false, false, false, false, false] rfl rfl (any_of HT_.out (by kernel_rfl)) (fun _ _ _ h => h) (Or.inl ⟨by rfl, ?_⟩) ?_ ?_
                 rotate_left
                 ·intro w'
                  go_simp
                  with_reducible rfl
                 rotate_left
                 ·simp only [Act.put, List.setIfInBounds_toArray, List.set_cons_zero, List.set_cons_succ, i64_w, i32_w]
                  rfl
                 refine pure_ (i := 2) (N := some 51) (v := ?_) (a' := ?_) #[true, true, true, false, false, false, false, false, false, false, false, false, false, false, false, false] rfl rfl (any_of HT_.out (by kernel_rfl)) (fun _ _ _ h => h) (Or.inl ⟨by rfl, ?_⟩) ?_ ?_
                 rotate_left
                 ·intro w'
                  go_simp
                  with_reducible rfl
                 rotate_left
                 ·simp only [Act.put, List.setIfInBounds_toArray, List.set_cons_zero, List.set_cons_succ, i64_w, i32_w]
                  rfl
                 refine pure_ (i := 3) (N := some 52) (v := ?_) (a' := ?_) #[true, true, true, true, false, false, false, false, false, false, false, false, false, false, false, false] rfl rfl (any_of HT_.out (by kernel_rfl)) (fun _ _ _ h => h) (Or.inl ⟨by rfl, ?_⟩) ?_ ?_
                 rotate_left
                 ·intro w'
                  go_simp
                  with_reducible rfl
                 rotate_left
                 ·simp only [Act.put, List.setIfInBounds_toArray, List.set_cons_zero, List.set_cons_succ, i64_w, i32_w]
                  rfl
                 refine pure_ (i := 4) (N := some 53) (v := ?_) (a' := ?_) #[true, true, true, true, true, false, false, false, false, false, false, false, false, false, false, false] rfl rfl (any_of HT_.out (by kernel_rfl)) (fun _ _ _ h => h) (Or.inl ⟨by rfl, ?_⟩) ?_ ?_
                 rotate_left
                 ·intro w'
                  go_simp
                  with_reducible rfl
                 rotate_left
                 ·simp only [Act.put, List.setIfInBounds_toArray, List.set_cons_zero, List.set_cons_succ, i64_w, i32_w]
                  rfl
                 refine pure_ (i := 6) (N := some 55) (v := ?_) (a' := ?_) #[true, true, true, true, true, false, true, false, false, false, false, false, false, false, false, false] rfl rfl (any_of HT_.out (by kernel_rfl)) (fun _ _ _ h => h) (Or.inl ⟨by rfl, ?_⟩) ?_ ?_
                 rotate_left
                 ·intro w'
                  go_simp
                  with_reducible rfl
                 rotate_left
                 ·simp only [Act.put, List.setIfInBounds_toArray, List.set_cons_zero, List.set_cons_succ, i64_w, i32_w]
                  rfl
                 refine pure_ (i := 7) (N := some 56) (v := ?_) (a' := ?_) #[true, true, true, true, true, false, true, true, false, false, false, false, false, false, false, false] rfl rfl (any_of HT_.out (by kernel_rfl)) (fun _ _ _ h => h) (Or.inl ⟨by rfl, ?_⟩) ?_ ?_
                 rotate_left
                 ·intro w'
                  go_simp
                  with_reducible rfl
                 rotate_left
                 ·simp only [Act.put, List.setIfInBounds_toArray, List.set_cons_zero, List.set_cons_succ, i64_w, i32_w]
                  rfl
                 refine pure_ (i := 8) (N := some 57) (v := ?_) (a' := ?_) #[true, true, true, true, true, false, true, true, true, false, false, false, false, false, false, false] rfl rfl (any_of HT_.out (by kernel_rfl)) (fun _ _ _ h => h) (Or.inl ⟨by rfl, ?_⟩) ?_ ?_
                 rotate_left
                 ·intro w'
                  go_simp
                  with_reducible rfl
                 rotate_left
                 ·simp only [Act.put, List.setIfInBounds_toArray, List.set_cons_zero, List.set_cons_succ, i64_w, i32_w]
                  rfl
                 refine pure_ (i := 10) (N := some 59) (v := ?_) (a' := ?_) #[true, true, true, true, true, false, true, true, true, false, true, false, false, false, false, false] rfl rfl (any_of HT_.out (by kernel_rfl)) (fun _ _ _ h => h) (Or.inl ⟨by rfl, ?_⟩) ?_ ?_
                 rotate_left
                 ·intro w'
                  go_simp
                  with_reducible rfl
                 rotate_left
                 ·simp only [Act.put, List.setIfInBounds_toArray, List.set_cons_zero, List.set_cons_succ, i64_w, i32_w]
                  rfl
                 refine take_ (i := 5) (N := some 54) (v := ?_) (a' := ?_) #[true, true, true, true, true, true, true, true, true, false, true, false, false, false, false, false] rfl rfl (take_ofW HT_.out HW_.out (by kernel_rfl)) (fun _ _ _ h => h) (Or.inl ⟨by rfl, ?_⟩) hHeld ?_ ?_
                 rotate_left
                 ·rintro w' ⟨s0, s1, s2⟩
                  go_simp
                  with_reducible rfl
                 rotate_left
                 ·simp only [Act.put, List.setIfInBounds_toArray, List.set_cons_zero, List.set_cons_succ, i64_w, i32_w]
                  rfl
                 refine take_ (i := 9) (N := some 58) (v := ?_) (a' := ?_) #[true, true, true, true, true, true, true, true, true, true, true, false, false, false, false, false] rfl rfl (take_ofW HT_.out HW_.out (by kernel_rfl)) (fun _ _ _ h => h) (Or.inl ⟨by rfl, ?_⟩) hHeld ?_ ?_
                 rotate_left
                 ·rintro w' ⟨s0, s1, s2⟩
                  go_simp
                  with_reducible rfl
                 rotate_left
                 ·simp only [Act.put, List.setIfInBounds_toArray, List.set_cons_zero, List.set_cons_succ, i64_w, i32_w]
                  rfl
                 refine pure_ (i := 11) (N := some 60) (v := ?_) (a' := ?_) #[true, true, true, true, true, true, true, true, true, true, true, true, false, false, false, false] rfl rfl (any_of HT_.out (by kernel_rfl)) (fun _ _ _ h => h) (Or.inl ⟨by rfl, ?_⟩) ?_ ?_
                 rotate_left
                 ·intro w'
                  go_simp
                  with_reducible rfl
                 rotate_left
                 ·simp only [Act.put, List.setIfInBounds_toArray, List.set_cons_zero, List.set_cons_succ, i64_w, i32_w]
                  rfl
                 refine take_ (i := 12) (N := some 61) (v := ?_) (a' := ?_) #[true, true, true, true, true, true, true, true, true, true, true, true, true, false, false, false] rfl rfl (take_ofW HT_.out HW_.out (by kernel_rfl)) (fun _ _ _ h => h) (Or.inl ⟨by rfl, ?_⟩) hHeld ?_ ?_
                 rotate_left
                 ·rintro w' ⟨s0, s1, s2⟩
                  go_simp
                  with_reducible rfl
                 rotate_left
                 ·simp only [Act.put, List.setIfInBounds_toArray, List.set_cons_zero, List.set_cons_succ, i64_w, i32_w]
                  rfl
                 refine pure_ (i := 13) (N := some 62) (v := ?_) (a' := ?_) #[true, true, true, true, true, true, true, true, true, true, true, true, true, true, false, false] rfl rfl (any_of HT_.out (by kernel_rfl)) (fun _ _ _ h => h) (Or.inl ⟨by rfl, ?_⟩) ?_ ?_
                 rotate_left
                 ·intro w'
                  go_simp
                  with_reducible rfl
                 rotate_left
                 ·simp only [Act.put, List.setIfInBounds_toArray, List.set_cons_zero, List.set_cons_succ, i64_w, i32_w]
                  rfl
                 refine pure_ (i := 14) (N := some 63) (v := ?_) (a' := ?_) #[true, true, true, true, true, true, true, true, true, true, true, true, true, true, true, false] rfl rfl (any_of HT_.out (by kernel_rfl)) (fun _ _ _ h => h) (Or.inl ⟨by rfl, ?_⟩) ?_ ?_
                 rotate_left
                 ·intro w'
                  go_simp
                  with_reducible rfl
                 rotate_left
                 ·simp only [Act.put, List.setIfInBounds_toArray, List.set_cons_zero, List.set_cons_succ, i64_w, i32_w]
                  rfl
                 refine pure_ (i := 15) (N := some 8) (v := ?_) (a' := ?_) #[true, true, true, true, true, true, true, true, true, true, true, true, true, true, true, true] rfl rfl (any_of HT_.out (by kernel_rfl)) (fun _ _ _ h => h) (Or.inl ⟨by rfl, ?_⟩) ?_ ?_
                 rotate_left
                 ·intro w'
                  go_simp
                  with_reducible rfl
                 rotate_left
                 ·simp only [Act.put, List.setIfInBounds_toArray, List.set_cons_zero, List.set_cons_succ, i64_w, i32_w]
                  rfl
                 refine done_ (done_of HT_.out (by kernel_rfl)) ?_
                 try go_wp2
                 go_roundg k2
                 case measure => have := HK1.out; have := HK2.out; omega
                 case rel => exact ⟨(x6_2), (x7_2), (((rdOf ByteArray.empty t263 x9_2).toList == (rdOf ByteArray.empty (rd_L7 t266 x5_1) x9_2).toList)), (wrap64 (x9_2 + 1)), (by first | rfl | (simp; done) | (simp [*]; done)), (by first | rfl | (simp; done) | (simp [*]; done)), (by first | rfl | (simp; done) | (simp [*]; done)), H', ⟨by have := HK1.out; have := HK2.out; omega⟩, ⟨by (with_reducible repeat (first | apply Kd.R_alloc | apply Kd.R_drewN | apply Kd.R_drew)); exact HO_3.out⟩, ⟨by (with_reducible repeat (first | apply Kd.N_alloc | apply Kd.N_drewN | apply Kd.N_drew)); exact HO_4.out⟩, ⟨by (with_reducible repeat (first | apply Kd.R_alloc | apply Kd.R_drewN | apply Kd.R_drew)); exact HO_6.out⟩, ⟨by (with_reducible repeat (first | refine blk_drewN ?_ _ | refine blk_drew ?_ | refine blk_alloc ?_ _)); exact BK262.out⟩, ⟨by repeat (first | (with_reducible first | exact HB.out | apply below_alloc | apply pw_below_drewN | apply below_drew1 | refine below_set ?_ GE262.out) | exact HB.out)⟩⟩
                ·replace c43 := Bool.eq_false_iff.mpr c43
                 subst c43
                 have H1 : (weirgateref22_Line.l1 k2 t263 t266 x5_1 x6_2 x7_2 false (wrap64 (x9_2 + 1))) = some (r1, r2, r3, r4, r5, r6, r7, r8, r9) := by rw [if_neg (show ¬ (false = true) by decide)] at H; exact H
                 clear H
                 have H := H1
                 clear H1
                 have H' := Aside0.mk H
                 clear H
                 have p270 : 0 ≤ (x5_1 : Int) := of_decide_eq_true (by first | (with_reducible assumption) | assumption)
                 have q270 : x5_1 < (t266.length : Int) := of_decide_eq_true (by first | (with_reducible assumption) | assumption)
                 obtain ⟨ad270, A270_0, c270_0, e270, hx270_0, hl270_0, hi270_0⟩ := at_L7 (Kd.N_reads' HO_4.out).2.2 x5_1 p270 q270
                 obtain rfl : ad269 = ad270 := (by injection e270)
                 obtain ⟨ce270, hce270, hMe270, hcc270⟩ := Kd.N_get HO_4.out [] x5_1 p270 (by first | exact q270 | exact of_decide_eq_true (by first | (with_reducible assumption) | assumption) | (have e_ := (Kd.N_reads' HO_4.out).1; omega))
                 obtain ⟨ua270_0, uc270_0, rfl, ul270_0, ge270_0⟩ := Kd.FK_slice_open hMe270
                 have hv270_0 := hcc270 0 _ rfl
                 rw [Nat.add_zero, show ((Kd.slice 9 Kd.string)).sz = 1 from rfl, Nat.mul_one] at hv270_0
                 replace hv270_0 := Option.some.inj (hv270_0.symm.trans hx270_0)
                 injection hv270_0 with hva_ hvn_ hvc_
                 rw [hva_] at ge270_0
                 rw [hvc_] at ul270_0
                 have HL270_0 := Aside0.mk (show Kd.V Kd.string 9 _ w.heap.size _ _ (rd_L7 t266 x5_1) from Kd.V_mk ul270_0 ge270_0)
                 clear hva_ hvn_ hvc_ ge270_0 ul270_0
                 clear hcc270 hce270
                 have HR270_0 := Aside0.mk hi270_0
                 have HC270_0 := Aside0.mk hl270_0
                 clear hi270_0 hl270_0
                 replace p270 := eq_true p270
                 replace q270 := eq_true q270
                 have p271 : 0 ≤ (x9_2 : Int) := of_decide_eq_true (by first | (with_reducible assumption) | assumption)
                 have q271 : x9_2 < ((rd_L7 t266 x5_1).length : Int) := of_decide_eq_true (by first | (with_reducible assumption) | assumption)
                 obtain ⟨ad271, e271, hx271_0⟩ := Kd.at_string (by repeat (first | (with_reducible exact HR270_0.out) | (with_reducible refine Kd.C_alloc ?_ _) | (with_reducible refine Kd.C_drewN ?_ _) | (with_reducible refine Kd.C_drew ?_) | exact HR270_0.out)) x9_2 p271 q271
                 cases e271
                 replace p271 := eq_true p271
                 replace q271 := eq_true q271
                 try go_wp2
                 have n0_ := Aside0.mk (Kd.R_drew HO_3.out)
                 have n1_ := Aside0.mk (Kd.N_drew HO_4.out)
                 have n2_ := Aside0.mk (Kd.R_drew HO_6.out)
                 have n3_ := Aside0.mk (Kd.V_drew HL270_0.out)
                 have n4_ := Aside0.mk (blk_drew BK262.out)
                 have n5_ := Aside0.mk (Kd.C_drew HR270_0.out)
                 have n6_ := Aside0.mk (below_drew1 HB.out)
                 clear HO_3
                 clear HO_4
                 clear HO_6
                 clear HL270_0
                 clear BK262
                 clear HR270_0
                 clear HB
                 have HO_3 := n0_
                 have HO_4 := n1_
                 have HO_6 := n2_
                 have HL270_0 := n3_
                 have BK262 := n4_
                 have HR270_0 := n5_
                 have HB := n6_
                 clear n0_ n1_ n2_ n3_ n4_ n5_ n6_
                 refine start_ (n := 16) (S := fun w' => True) (ds := []) #[false, false, false, false, false, false, false, false, false, false, false, false, false, false, false, false] (by kernel_rfl) rfl rfl trivial (fun hHeld => ?_); refine with_tabW weirgateref22_Line.tab15 weirgateref22_Line.bits15 (fun HT_ HW_ => ?_)
                 generalize wr.drew = w45 at HO_3 HO_4 HO_6 HL270_0 BK262 HR270_0 HB hHeld ⊢
                 refine pure_ (i := 0) (N := some 49) (v := ?_) (a' := ?_) #[true, false, false, false, false, false, false, false, false, false, false, false, false, false, false, false] rfl rfl (any_of HT_.out (by kernel_rfl)) (fun _ _ _ h => h) (Or.inl ⟨by rfl, ?_⟩) ?_ ?_
                 rotate_left
                 ·intro w'
                  go_simp
                  with_reducible rfl
                 rotate_left
                 ·simp only [Act.put, List.setIfInBounds_toArray, List.set_cons_zero, List.set_cons_succ, i64_w, i32_w]
                  rfl
                 refine pure_ (i := 1) (N := some 50) (v := ?_) (a' := ?_) #[true, true, false, false, false, false, false, false, false, false, false, false, false, false, false, false] rfl rfl (any_of HT_.out (by kernel_rfl)) (fun _ _ _ h => h) (Or.inl ⟨by rfl, ?_⟩) ?_ ?_
                 rotate_left
                 ·intro w'
                  go_simp
                  with_reducible rfl
                 rotate_left
                 ·simp only [Act.put, List.setIfInBounds_toArray, List.set_cons_zero, List.set_cons_succ, i64_w, i32_w]
                  rfl
                 refine pure_ (i := 2) (N := some 51) (v := undef) (a' := ?_) #[true, true, true, false, false, false, false, false, false, false, false, false, false, false, false, false] rfl rfl (any_of HT_.out (by kernel_rfl)) (fun _ _ _ h => h) (Or.inr ⟨by rfl, rfl⟩) ?_ ?_
                 rotate_left
                 ·simp only [Act.put, List.setIfInBounds_toArray, List.set_cons_zero, List.set_cons_succ, i64_w, i32_w]
                  rfl
                 refine pure_ (i := 3) (N := some 52) (v := undef) (a' := ?_) #[true, true, true, true, false, false, false, false, false, false, false, false, false, false, false, false] rfl rfl (any_of HT_.out (by kernel_rfl)) (fun _ _ _ h => h) (Or.inr ⟨by rfl, rfl⟩) ?_ ?_
                 rotate_left
                 ·simp only [Act.put, List.setIfInBounds_toArray, List.set_cons_zero, List.set_cons_succ, i64_w, i32_w]
                  rfl
                 refine pure_ (i := 4) (N := some 53) (v := undef) (a' := ?_) #[true, true, true, true, true, false, false, false, false, false, false, false, false, false, false, false] rfl rfl (any_of HT_.out (by kernel_rfl)) (fun _ _ _ h => h) (Or.inr ⟨by rfl, rfl⟩) ?_ ?_
                 rotate_left
                 ·simp only [Act.put, List.setIfInBounds_toArray, List.set_cons_zero, List.set_cons_succ, i64_w, i32_w]
                  rfl
                 refine pure_ (i := 5) (N := some 54) (v := undef) (a' := ?_) #[true, true, true, true, true, true, false, false, false, false, false, false, false, false, false, false] rfl rfl (any_of HT_.out (by kernel_rfl)) (fun _ _ _ h => h) (Or.inr ⟨by rfl, rfl⟩) ?_ ?_
                 rotate_left
                 ·simp only [Act.put, List.setIfInBounds_toArray, List.set_cons_zero, List.set_cons_succ, i64_w, i32_w]
                  rfl
                 refine pure_ (i := 6) (N := some 55) (v := undef) (a' := ?_) #[true, true, true, true, true, true, true, false, false, false, false, false, false, false, false, false] rfl rfl (any_of HT_.out (by kernel_rfl)) (fun _ _ _ h => h) (Or.inr ⟨by rfl, rfl⟩) ?_ ?_
                 rotate_left
                 ·simp only [Act.put, List.setIfInBounds_toArray, List.set_cons_zero, List.set_cons_succ, i64_w, i32_w]
                  rfl
                 refine pure_ (i := 7) (N := some 56) (v := undef) (a' := ?_) #[true, true, true, true, true, true, true, true, false, false, false, false, false, false, false, false] rfl rfl (any_of HT_.out (by kernel_rfl)) (fun _ _ _ h => h) (Or.inr ⟨by rfl, rfl⟩) ?_ ?_
                 rotate_left
                 ·simp only [Act.put, List.setIfInBounds_toArray, List.set_cons_zero, List.set_cons_succ, i64_w, i32_w]
                  rfl
                 refine pure_ (i := 8) (N := some 57) (v := undef) (a' := ?_) #[true, true, true, true, true, true, true, true, true, false, false, false, false, false, false, false] rfl rfl (any_of HT_.out (by kernel_rfl)) (fun _ _ _ h => h) (Or.inr ⟨by rfl, rfl⟩) ?_ ?_
                 rotate_left
                 ·simp only [Act.put, List.setIfInBounds_toArray, List.set_cons_zero, List.set_cons_succ, i64_w, i32_w]
                  rfl
                 refine pure_ (i := 9) (N := some 58) (v := undef) (a' := ?_) #[true, true, true, true, true, true, true, true, true, true, false, false, false, false, false, false] rfl rfl (any_of HT_.out (by kernel_rfl)) (fun _ _ _ h => h) (Or.inr ⟨by rfl, rfl⟩) ?_ ?_
                 rotate_left
                 ·simp only [Act.put, List.setIfInBounds_toArray, List.set_cons_zero, List.set_cons_succ, i64_w, i32_w]
                  rfl
                 refine pure_ (i := 10) (N := some 59) (v := undef) (a' := ?_) #[true, true, true, true, true, true, true, true, true, true, true, false, false, false, false, false] rfl rfl (any_of HT_.out (by kernel_rfl)) (fun _ _ _ h => h) (Or.inr ⟨by rfl, rfl⟩) ?_ ?_
                 rotate_left
                 ·simp only [Act.put, List.setIfInBounds_toArray, List.set_cons_zero, List.set_cons_succ, i64_w, i32_w]
                  rfl
                 refine pure_ (i := 11) (N := some 60) (v := undef) (a' := ?_) #[true, true, true, true, true, true, true, true, true, true, true, true, false, false, false, false] rfl rfl (any_of HT_.out (by kernel_rfl)) (fun _ _ _ h => h) (Or.inr ⟨by rfl, rfl⟩) ?_ ?_
                 rotate_left
                 ·simp only [Act.put, List.setIfInBounds_toArray, List.set_cons_zero, List.set_cons_succ, i64_w, i32_w]
                  rfl
                 refine pure_ (i := 12) (N := some 61) (v := undef) (a' := ?_) #[true, true, true, true, true, true, true, true, true, true, true, true, true, false, false, false] rfl rfl (any_of HT_.out (by kernel_rfl)) (fun _ _ _ h => h) (Or.inr ⟨by rfl, rfl⟩) ?_ ?_
                 rotate_left
                 ·simp only [Act.put, List.setIfInBounds_toArray, List.set_cons_zero, List.set_cons_succ, i64_w, i32_w]
                  rfl
                 refine pure_ (i := 13) (N := some 62) (v := undef) (a' := ?_) #[true, true, true, true, true, true, true, true, true, true, true, true, true, true, false, false] rfl rfl (any_of HT_.out (by kernel_rfl)) (fun _ _ _ h => h) (Or.inr ⟨by rfl, rfl⟩) ?_ ?_
                 rotate_left
                 ·simp only [Act.put, List.setIfInBounds_toArray, List.set_cons_zero, List.set_cons_succ, i64_w, i32_w]
                  rfl
                 refine pure_ (i := 14) (N := some 63) (v := ?_) (a' := ?_) #[true, true, true, true, true, true, true, true, true, true, true, true, true, true, true, false] rfl rfl (any_of HT_.out (by kernel_rfl)) (fun _ _ _ h => h) (Or.inl ⟨by rfl, ?_⟩) ?_ ?_
                 rotate_left
                 ·intro w'
                  go_simp
                  with_reducible rfl
                 rotate_left
                 ·simp only [Act.put, List.setIfInBounds_toArray, List.set_cons_zero, List.set_cons_succ, i64_w, i32_w]
                  rfl
                 refine pure_ (i := 15) (N := some 8) (v := ?_) (a' := ?_) #[true, true, true, true, true, true, true, true, true, true, true, true, true, true, true, true] rfl rfl (any_of HT_.out (by kernel_rfl)) (fun _ _ _ h => h) (Or.inl ⟨by rfl, ?_⟩) ?_ ?_
                 rotate_left
                 ·intro w'
                  go_simp
                  with_reducible rfl
                 rotate_left
                 ·simp only [Act.put, List.setIfInBounds_toArray, List.set_cons_zero, List.set_cons_succ, i64_w, i32_w]
                  rfl
                 refine done_ (done_of HT_.out (by kernel_rfl)) ?_
                 try go_wp2
                 go_roundg k2
                 case measure => have := HK1.out; have := HK2.out; omega
                 case rel => exact ⟨(x6_2), (x7_2), (false), (wrap64 (x9_2 + 1)), (by first | rfl | (simp; done) | (simp [*]; done)), (by first | rfl | (simp; done) | (simp [*]; done)), (by first | rfl | (simp; done) | (simp [*]; done)), H', ⟨by have := HK1.out; have := HK2.out; omega⟩, ⟨by (with_reducible repeat (first | apply Kd.R_alloc | apply Kd.R_drewN | apply Kd.R_drew)); exact HO_3.out⟩, ⟨by (with_reducible repeat (first | apply Kd.N_alloc | apply Kd.N_drewN | apply Kd.N_drew)); exact HO_4.out⟩, ⟨by (with_reducible repeat (first | apply Kd.R_alloc | apply Kd.R_drewN | apply Kd.R_drew)); exact HO_6.out⟩, ⟨by (with_reducible repeat (first | refine blk_drewN ?_ _ | refine blk_drew ?_ | refine blk_alloc ?_ _)); exact BK262.out⟩, ⟨by repeat (first | (with_reducible first | exact HB.out | apply below_alloc | apply pw_below_drewN | apply below_drew1 | refine below_set ?_ GE262.out) | exact HB.out)⟩⟩
             ·rw [if_neg c19] at H
              exact absurd H (by simp)
            ·rw [if_neg c18] at H
             exact absurd H (by simp)
           ·rw [if_neg c17] at H
            exact absurd H (by simp)
          ·rw [if_neg c16] at H
           exact absurd H (by simp)
         ·rw [if_neg c15] at H
          have c15b0 : decide (x9_2 < (t263.length : Int)) = false := decide_eq_false c15
          clear c15
          by_cases c46 : x8_2 = true
          ·subst c46
           have H1 : ((weirgateref22_made.f x5_1 x6_2 x7_2).bind fun bt285 => (if bt285.2.2.2.2.2.2.2.2 = true then (some (bt285.1, bt285.2.1, bt285.2.2.1, bt285.2.2.2.1, bt285.2.2.2.2.1, bt285.2.2.2.2.2.1, bt285.2.2.2.2.2.2.1, bt285.2.2.2.2.2.2.2.1, 0)) else (weirgateref22_Line.l0 k2 t263 t266 (wrap64 (x5_1 + 1))))) = some (r1, r2, r3, r4, r5, r6, r7, r8, r9) := by rw [if_pos rfl] at H; exact H
           clear H
           have H := H1
           clear H1
           replace H := Option.bind_eq_some_iff.mp H
           obtain ⟨⟨t285, t286, t287, t288, t289, t290, t291, t292, t293⟩, A470, H⟩ := H
           replace H : (if t293 = true then (some (t285, t286, t287, t288, t289, t290, t291, t292, 0)) else (weirgateref22_Line.l0 k2 t263 t266 (wrap64 (x5_1 + 1)))) = some (r1, r2, r3, r4, r5, r6, r7, r8, r9) := H
           have A47 := Aside0.mk A470
           clear A470
           by_cases c48 : t293 = true
           ·subst c48
            have H1 : (some (t285, t286, t287, t288, t289, t290, t291, t292, 0)) = some (r1, r2, r3, r4, r5, r6, r7, r8, r9) := by rw [if_pos rfl] at H; exact H
            clear H
            have H := H1
            clear H1
            simp only [Option.some.injEq, Prod.mk.injEq] at H
            obtain ⟨rfl, rfl, rfl, rfl, rfl, rfl, rfl, rfl, rfl⟩ := H
            obtain ⟨Ao49, co49, eo49⟩ := Kd.R_slice HO_6.out
            subst eo49
            go_wp2_with (first | ((with_reducible refine gate_callee (f := 20) rfl ?_); refine goesL_ (some 103) rfl rfl Tryd.func20 (by kernel_rfl) rfl #[.int .i64 x5_1, .slice Ao49 x6_2.length co49, .int .u64 x7_2] rfl (by (try simp only [List.map_toArray, List.map_cons, List.map_nil]); first | done | rfl | (simp only [List.length_drop, List.length_take]; rfl)) ?_; (with_reducible refine (weirgateref22_made.calls x5_1 _ _ x6_2 x7_2 t285 t286 t287 t288 t289 t290 t291 t292 true _ ?side1 ?side2 ?side3 A47.out).mono ?_); (case side1 => repeat (first | exact (Kd.R_reads' HO_6.out).2.2 | (with_reducible refine Kd.C_alloc ?_ _) | (with_reducible refine Kd.C_drewN ?_ _) | (with_reducible refine Kd.C_drew ?_))); (case side2 => exact (Kd.R_reads' HO_6.out).2.1); (case side3 => exact Laid.below hL (by repeat (first | (with_reducible first | exact HB.out | apply below_alloc | apply pw_below_drewN | apply below_drew1 | refine below_set ?_ GE262.out) | exact HB.out))); rintro e w50 ⟨rfl, hb⟩; refine ⟨_, rfl, ?_⟩; have n0_ := Aside0.mk (Kd.R_below (by (with_reducible repeat (first | apply Kd.R_alloc | apply Kd.R_drewN | apply Kd.R_drew)); exact HO_3.out) hb); have n1_ := Aside0.mk (Kd.N_below (by (with_reducible repeat (first | apply Kd.N_alloc | apply Kd.N_drewN | apply Kd.N_drew)); exact HO_4.out) hb); have n2_ := Aside0.mk (Kd.R_below (by (with_reducible repeat (first | apply Kd.R_alloc | apply Kd.R_drewN | apply Kd.R_drew)); exact HO_6.out) hb); have n3_ := Aside0.mk (blk_below (g := gb262) (o := .cells #[.int .i64 x263000_1, .int .i64 x263001_1, .int .i64 x263002_1, .int .i64 x263003_1, .int .i64 x263004_1, .int .u8 x263005_1, .int .u8 x263006_1, .int .u64 x263007_1, .int .i64 x263008_1] 34 (0, 0)) (by (with_reducible repeat (first | refine blk_drewN ?_ _ | refine blk_drew ?_ | refine blk_alloc ?_ _)); exact BK262.out) hb); have n4_ := Aside0.mk (below_step (by repeat (first | (with_reducible first | exact HB.out | apply below_alloc | apply pw_below_drewN | apply below_drew1 | refine below_set ?_ GE262.out) | exact HB.out)) hb); clear HO_3; clear HO_4; clear HO_6; clear BK262; clear HB; have HO_3 := n0_; have HO_4 := n1_; have HO_6 := n2_; have BK262 := n3_; have HB := n4_; clear n0_ n1_ n2_ n3_ n4_; (try clear hb); (try clear hb2); (try clear hk); (try clear hi); (try clear A47)) | ((with_reducible refine gate_dst (N := 13) rfl ?_); refine box_event ?hg (N := 13) ?hd (cs := #[.int .i64 0, .int .i64 0, .int .i64 0, .int .i64 0, .int .i64 0, .int .u8 0, .int .u8 0, .int .u64 0]) (t := 32) ?hr ?_; (case hd => rfl); (case hg => rfl); (case hr => first | (go_simp; done) | (go_simp; rfl)); intro gb294 hg w51 hbox hb; have n0_ := Aside0.mk (Kd.R_below (by (with_reducible repeat (first | apply Kd.R_alloc | apply Kd.R_drewN | apply Kd.R_drew)); exact HO_3.out) hb); have n1_ := Aside0.mk (Kd.N_below (Kd.N_elderB (by (with_reducible repeat (first | apply Kd.N_alloc | apply Kd.N_drewN | apply Kd.N_drew)); exact HO_4.out) gb294 (Nat.le_of_eq hg.symm)) hb); have n2_ := Aside0.mk (Kd.R_below (by (with_reducible repeat (first | apply Kd.R_alloc | apply Kd.R_drewN | apply Kd.R_drew)); exact HO_6.out) hb); have n3_ := Aside0.mk (blk_below (g := gb262) (o := .cells #[.int .i64 x263000_1, .int .i64 x263001_1, .int .i64 x263002_1, .int .i64 x263003_1, .int .i64 x263004_1, .int .u8 x263005_1, .int .u8 x263006_1, .int .u64 x263007_1, .int .i64 x263008_1] 34 (0, 0)) (by (with_reducible repeat (first | refine blk_drewN ?_ _ | refine blk_drew ?_ | refine blk_alloc ?_ _)); exact BK262.out) hb); have n4_ := Aside0.mk (below_step (by repeat (first | (with_reducible first | exact HB.out | apply below_alloc | apply pw_below_drewN | apply below_drew1 | refine below_set ?_ GE262.out) | exact HB.out)) hb); have n5_ := Aside0.mk (hbox); have n6_ := Aside0.mk ((by rw [hg]; exact (below_size (by repeat (first | (with_reducible first | exact HB.out | apply below_alloc | apply pw_below_drewN | apply below_drew1 | refine below_set ?_ GE262.out) | exact HB.out))) : w.heap.size ≤ gb294)); have n7_ := Aside0.mk ((by rw [hg]; exact (below_size (by repeat (first | (with_reducible first | exact HB.out | apply below_alloc | apply pw_below_drewN | apply below_drew1 | refine below_set ?_ GE262.out) | exact HB.out))) : w.heap.size ≤ gb294)); have n8_ := Aside0.mk ((by rw [hg]; exact Nat.ne_of_lt (blk_lt (g := gb262) (o := .cells #[.int .i64 x263000_1, .int .i64 x263001_1, .int .i64 x263002_1, .int .i64 x263003_1, .int .i64 x263004_1, .int .u8 x263005_1, .int .u8 x263006_1, .int .u64 x263007_1, .int .i64 x263008_1] 34 (0, 0)) (by (with_reducible repeat (first | refine blk_drewN ?_ _ | refine blk_drew ?_ | refine blk_alloc ?_ _)); exact BK262.out)) : gb262 ≠ gb294)); have n9_ := Aside0.mk ((by rw [hg]; exact Nat.ne_of_gt (blk_lt (g := gb262) (o := .cells #[.int .i64 x263000_1, .int .i64 x263001_1, .int .i64 x263002_1, .int .i64 x263003_1, .int .i64 x263004_1, .int .u8 x263005_1, .int .u8 x263006_1, .int .u64 x263007_1, .int .i64 x263008_1] 34 (0, 0)) (by (with_reducible repeat (first | refine blk_drewN ?_ _ | refine blk_drew ?_ | refine blk_alloc ?_ _)); exact BK262.out)) : gb294 ≠ gb262)); clear HO_3; clear HO_4; clear HO_6; clear BK262; clear HB; have HO_3 := n0_; have HO_4 := n1_; have HO_6 := n2_; have BK262 := n3_; have HB := n4_; have BK294 := n5_; have GW294 := n6_; have GE294 := n7_; have NB262_294 := n8_; have NB294_262 := n9_; clear n0_ n1_ n2_ n3_ n4_ n5_ n6_ n7_ n8_ n9_; clear hb hbox hg; have hnb52 := NB294_262.out; have hnc52 := NB262_294.out; have hcz53_0 : w51.cell? ⟨gb294, 0, none⟩ = some (.int .i64 0) := (blk_cell BK294.out 0).trans rfl; have hcz53_1 : w51.cell? ⟨gb294, 1, none⟩ = some (.int .i64 0) := (blk_cell BK294.out 1).trans rfl; have hcz53_2 : w51.cell? ⟨gb294, 2, none⟩ = some (.int .i64 0) := (blk_cell BK294.out 2).trans rfl; have hcz53_3 : w51.cell? ⟨gb294, 3, none⟩ = some (.int .i64 0) := (blk_cell BK294.out 3).trans rfl; have hcz53_4 : w51.cell? ⟨gb294, 4, none⟩ = some (.int .i64 0) := (blk_cell BK294.out 4).trans rfl; have hcz53_5 : w51.cell? ⟨gb294, 5, none⟩ = some (.int .u8 0) := (blk_cell BK294.out 5).trans rfl; have hcz53_6 : w51.cell? ⟨gb294, 6, none⟩ = some (.int .u8 0) := (blk_cell BK294.out 6).trans rfl; have hcz53_7 : w51.cell? ⟨gb294, 7, none⟩ = some (.int .u64 0) := (blk_cell BK294.out 7).trans rfl; have hfz53_0 := blk_frozen BK294.out 0; have hfz53_1 := blk_frozen BK294.out 1; have hfz53_2 := blk_frozen BK294.out 2; have hfz53_3 := blk_frozen BK294.out 3; have hfz53_4 := blk_frozen BK294.out 4; have hfz53_5 := blk_frozen BK294.out 5; have hfz53_6 := blk_frozen BK294.out 6; have hfz53_7 := blk_frozen BK294.out 7; have hcz54_0 : w51.cell? ⟨gb262, 0, none⟩ = some (.int .i64 x263000_1) := (blk_cell BK262.out 0).trans rfl; have hcz54_1 : w51.cell? ⟨gb262, 1, none⟩ = some (.int .i64 x263001_1) := (blk_cell BK262.out 1).trans rfl; have hcz54_2 : w51.cell? ⟨gb262, 2, none⟩ = some (.int .i64 x263002_1) := (blk_cell BK262.out 2).trans rfl; have hcz54_3 : w51.cell? ⟨gb262, 3, none⟩ = some (.int .i64 x263003_1) := (blk_cell BK262.out 3).trans rfl; have hcz54_4 : w51.cell? ⟨gb262, 4, none⟩ = some (.int .i64 x263004_1) := (blk_cell BK262.out 4).trans rfl; have hcz54_5 : w51.cell? ⟨gb262, 5, none⟩ = some (.int .u8 x263005_1) := (blk_cell BK262.out 5).trans rfl; have hcz54_6 : w51.cell? ⟨gb262, 6, none⟩ = some (.int .u8 x263006_1) := (blk_cell BK262.out 6).trans rfl; have hcz54_7 : w51.cell? ⟨gb262, 7, none⟩ = some (.int .u64 x263007_1) := (blk_cell BK262.out 7).trans rfl; have hcz54_8 : w51.cell? ⟨gb262, 8, none⟩ = some (.int .i64 x263008_1) := (blk_cell BK262.out 8).trans rfl; have hfz54_0 := blk_frozen BK262.out 0; have hfz54_1 := blk_frozen BK262.out 1; have hfz54_2 := blk_frozen BK262.out 2; have hfz54_3 := blk_frozen BK262.out 3; have hfz54_4 := blk_frozen BK262.out 4; have hfz54_5 := blk_frozen BK262.out 5; have hfz54_6 := blk_frozen BK262.out 6; have hfz54_7 := blk_frozen BK262.out 7; have hfz54_8 := blk_frozen BK262.out 8))
            refine bodyPost_ret (results_cell_row rfl _ _ gb262 34 #[.int .i64 t285, .int .i64 t286, .int .i64 t287, .int .i64 t288, .int .i64 t289, .int .u8 t290, .int .u8 t291, .int .u64 t292, .int .i64 0] (0, 0) _ rfl (by (with_reducible repeat (first | refine blk_drewN ?_ _ | refine blk_drew ?_ | refine blk_alloc ?_ _)); refine blk_put (cs := #[.int .i64 t285, .int .i64 t286, .int .i64 t287, .int .i64 t288, .int .i64 t289, .int .u8 t290, .int .u8 t291, .int .u64 t292, .int .i64 x263008_1]) ?_ 8 _ rfl; (with_reducible repeat (first | refine blk_drewN ?_ _ | refine blk_drew ?_ | refine blk_alloc ?_ _)); refine blk_put (cs := #[.int .i64 t285, .int .i64 t286, .int .i64 t287, .int .i64 t288, .int .i64 t289, .int .u8 t290, .int .u8 t291, .int .u64 x263007_1, .int .i64 x263008_1]) ?_ 7 _ rfl; (with_reducible repeat (first | refine blk_drewN ?_ _ | refine blk_drew ?_ | refine blk_alloc ?_ _)); refine blk_put (cs := #[.int .i64 t285, .int .i64 t286, .int .i64 t287, .int .i64 t288, .int .i64 t289, .int .u8 t290, .int .u8 x263006_1, .int .u64 x263007_1, .int .i64 x263008_1]) ?_ 6 _ rfl; (with_reducible repeat (first | refine blk_drewN ?_ _ | refine blk_drew ?_ | refine blk_alloc ?_ _)); refine blk_put (cs := #[.int .i64 t285, .int .i64 t286, .int .i64 t287, .int .i64 t288, .int .i64 t289, .int .u8 x263005_1, .int .u8 x263006_1, .int .u64 x263007_1, .int .i64 x263008_1]) ?_ 5 _ rfl; (with_reducible repeat (first | refine blk_drewN ?_ _ | refine blk_drew ?_ | refine blk_alloc ?_ _)); refine blk_put (cs := #[.int .i64 t285, .int .i64 t286, .int .i64 t287, .int .i64 t288, .int .i64 x263004_1, .int .u8 x263005_1, .int .u8 x263006_1, .int .u64 x263007_1, .int .i64 x263008_1]) ?_ 4 _ rfl; (with_reducible repeat (first | refine blk_drewN ?_ _ | refine blk_drew ?_ | refine blk_alloc ?_ _)); refine blk_put (cs := #[.int .i64 t285, .int .i64 t286, .int .i64 t287, .int .i64 x263003_1, .int .i64 x263004_1, .int .u8 x263005_1, .int .u8 x263006_1, .int .u64 x263007_1, .int .i64 x263008_1]) ?_ 3 _ rfl; (with_reducible repeat (first | refine blk_drewN ?_ _ | refine blk_drew ?_ | refine blk_alloc ?_ _)); refine blk_put (cs := #[.int .i64 t285, .int .i64 t286, .int .i64 x263002_1, .int .i64 x263003_1, .int .i64 x263004_1, .int .u8 x263005_1, .int .u8 x263006_1, .int .u64 x263007_1, .int .i64 x263008_1]) ?_ 2 _ rfl; (with_reducible repeat (first | refine blk_drewN ?_ _ | refine blk_drew ?_ | refine blk_alloc ?_ _)); refine blk_put (cs := #[.int .i64 t285, .int .i64 x263001_1, .int .i64 x263002_1, .int .i64 x263003_1, .int .i64 x263004_1, .int .u8 x263005_1, .int .u8 x263006_1, .int .u64 x263007_1, .int .i64 x263008_1]) ?_ 1 _ rfl; (with_reducible repeat (first | refine blk_drewN ?_ _ | refine blk_drew ?_ | refine blk_alloc ?_ _)); refine blk_put (cs := #[.int .i64 x263000_1, .int .i64 x263001_1, .int .i64 x263002_1, .int .i64 x263003_1, .int .i64 x263004_1, .int .u8 x263005_1, .int .u8 x263006_1, .int .u64 x263007_1, .int .i64 x263008_1]) ?_ 0 _ rfl; (with_reducible repeat (first | refine blk_drewN ?_ _ | refine blk_drew ?_ | refine blk_alloc ?_ _)); refine blk_far ?_ NB262_294.out _; (with_reducible repeat (first | refine blk_drewN ?_ _ | refine blk_drew ?_ | refine blk_alloc ?_ _)); refine blk_far ?_ NB262_294.out _; (with_reducible repeat (first | refine blk_drewN ?_ _ | refine blk_drew ?_ | refine blk_alloc ?_ _)); refine blk_far ?_ NB262_294.out _; (with_reducible repeat (first | refine blk_drewN ?_ _ | refine blk_drew ?_ | refine blk_alloc ?_ _)); refine blk_far ?_ NB262_294.out _; (with_reducible repeat (first | refine blk_drewN ?_ _ | refine blk_drew ?_ | refine blk_alloc ?_ _)); refine blk_far ?_ NB262_294.out _; (with_reducible repeat (first | refine blk_drewN ?_ _ | refine blk_drew ?_ | refine blk_alloc ?_ _)); refine blk_far ?_ NB262_294.out _; (with_reducible repeat (first | refine blk_drewN ?_ _ | refine blk_drew ?_ | refine blk_alloc ?_ _)); refine blk_far ?_ NB262_294.out _; (with_reducible repeat (first | refine blk_drewN ?_ _ | refine blk_drew ?_ | refine blk_alloc ?_ _)); refine blk_far ?_ NB262_294.out _; (with_reducible repeat (first | refine blk_drewN ?_ _ | refine blk_drew ?_ | refine blk_alloc ?_ _)); exact BK262.out) Tryd.underlying34 rfl (by kernel_rfl)) rfl ?_
            exact ⟨by first | rfl | (simp [errW_none, errW_some] <;> rfl) | (simp [*, errW_none, errW_some] <;> rfl), by repeat (first | (with_reducible first | exact HB.out | apply below_alloc | apply pw_below_drewN | apply below_drew1 | refine below_set ?_ GE262.out | refine below_set ?_ GE294.out) | exact HB.out)⟩
           ·replace c48 := Bool.eq_false_iff.mpr c48
            subst c48
            have H1 : (weirgateref22_Line.l0 k2 t263 t266 (wrap64 (x5_1 + 1))) = some (r1, r2, r3, r4, r5, r6, r7, r8, r9) := by rw [if_neg (show ¬ (false = true) by decide)] at H; exact H
            clear H
            have H := H1
            clear H1
            have H' := Aside0.mk H
            clear H
            obtain ⟨Ao55, co55, eo55⟩ := Kd.R_slice HO_6.out
            subst eo55
            go_wp2_with (first | ((with_reducible refine gate_callee (f := 20) rfl ?_); refine goesL_ (some 103) rfl rfl Tryd.func20 (by kernel_rfl) rfl #[.int .i64 x5_1, .slice Ao55 x6_2.length co55, .int .u64 x7_2] rfl (by (try simp only [List.map_toArray, List.map_cons, List.map_nil]); first | done | rfl | (simp only [List.length_drop, List.length_take]; rfl)) ?_; (with_reducible refine (weirgateref22_made.calls x5_1 _ _ x6_2 x7_2 t285 t286 t287 t288 t289 t290 t291 t292 false _ ?side1 ?side2 ?side3 A47.out).mono ?_); (case side1 => repeat (first | exact (Kd.R_reads' HO_6.out).2.2 | (with_reducible refine Kd.C_alloc ?_ _) | (with_reducible refine Kd.C_drewN ?_ _) | (with_reducible refine Kd.C_drew ?_))); (case side2 => exact (Kd.R_reads' HO_6.out).2.1); (case side3 => exact Laid.below hL (by repeat (first | (with_reducible first | exact HB.out | apply below_alloc | apply pw_below_drewN | apply below_drew1 | refine below_set ?_ GE262.out) | exact HB.out))); rintro e w56 ⟨rfl, hb⟩; refine ⟨_, rfl, ?_⟩; have n0_ := Aside0.mk (Kd.R_below (by (with_reducible repeat (first | apply Kd.R_alloc | apply Kd.R_drewN | apply Kd.R_drew)); exact HO_3.out) hb); have n1_ := Aside0.mk (Kd.N_below (by (with_reducible repeat (first | apply Kd.N_alloc | apply Kd.N_drewN | apply Kd.N_drew)); exact HO_4.out) hb); have n2_ := Aside0.mk (Kd.R_below (by (with_reducible repeat (first | apply Kd.R_alloc | apply Kd.R_drewN | apply Kd.R_drew)); exact HO_6.out) hb); have n3_ := Aside0.mk (blk_below (g := gb262) (o := .cells #[.int .i64 x263000_1, .int .i64 x263001_1, .int .i64 x263002_1, .int .i64 x263003_1, .int .i64 x263004_1, .int .u8 x263005_1, .int .u8 x263006_1, .int .u64 x263007_1, .int .i64 x263008_1] 34 (0, 0)) (by (with_reducible repeat (first | refine blk_drewN ?_ _ | refine blk_drew ?_ | refine blk_alloc ?_ _)); exact BK262.out) hb); have n4_ := Aside0.mk (below_step (by repeat (first | (with_reducible first | exact HB.out | apply below_alloc | apply pw_below_drewN | apply below_drew1 | refine below_set ?_ GE262.out) | exact HB.out)) hb); clear HO_3; clear HO_4; clear HO_6; clear BK262; clear HB; have HO_3 := n0_; have HO_4 := n1_; have HO_6 := n2_; have BK262 := n3_; have HB := n4_; clear n0_ n1_ n2_ n3_ n4_; (try clear hb); (try clear hb2); (try clear hk); (try clear hi); (try clear A47)) | ((with_reducible refine gate_dst (N := 13) rfl ?_); refine box_event ?hg (N := 13) ?hd (cs := #[.int .i64 0, .int .i64 0, .int .i64 0, .int .i64 0, .int .i64 0, .int .u8 0, .int .u8 0, .int .u64 0]) (t := 32) ?hr ?_; (case hd => rfl); (case hg => rfl); (case hr => first | (go_simp; done) | (go_simp; rfl)); intro gb294 hg w57 hbox hb; have n0_ := Aside0.mk (Kd.R_below (by (with_reducible repeat (first | apply Kd.R_alloc | apply Kd.R_drewN | apply Kd.R_drew)); exact HO_3.out) hb); have n1_ := Aside0.mk (Kd.N_below (Kd.N_elderB (by (with_reducible repeat (first | apply Kd.N_alloc | apply Kd.N_drewN | apply Kd.N_drew)); exact HO_4.out) gb294 (Nat.le_of_eq hg.symm)) hb); have n2_ := Aside0.mk (Kd.R_below (by (with_reducible repeat (first | apply Kd.R_alloc | apply Kd.R_drewN | apply Kd.R_drew)); exact HO_6.out) hb); have n3_ := Aside0.mk (blk_below (g := gb262) (o := .cells #[.int .i64 x263000_1, .int .i64 x263001_1, .int .i64 x263002_1, .int .i64 x263003_1, .int .i64 x263004_1, .int .u8 x263005_1, .int .u8 x263006_1, .int .u64 x263007_1, .int .i64 x263008_1] 34 (0, 0)) (by (with_reducible repeat (first | refine blk_drewN ?_ _ | refine blk_drew ?_ | refine blk_alloc ?_ _)); exact BK262.out) hb); have n4_ := Aside0.mk (below_step (by repeat (first | (with_reducible first | exact HB.out | apply below_alloc | apply pw_below_drewN | apply below_drew1 | refine below_set ?_ GE262.out) | exact HB.out)) hb); have n5_ := Aside0.mk (hbox); have n6_ := Aside0.mk ((by rw [hg]; exact (below_size (by repeat (first | (with_reducible first | exact HB.out | apply below_alloc | apply pw_below_drewN | apply below_drew1 | refine below_set ?_ GE262.out) | exact HB.out))) : w.heap.size ≤ gb294)); have n7_ := Aside0.mk ((by rw [hg]; exact (below_size (by repeat (first | (with_reducible first | exact HB.out | apply below_alloc | apply pw_below_drewN | apply below_drew1 | refine below_set ?_ GE262.out) | exact HB.out))) : w.heap.size ≤ gb294)); have n8_ := Aside0.mk ((by rw [hg]; exact Nat.ne_of_lt (blk_lt (g := gb262) (o := .cells #[.int .i64 x263000_1, .int .i64 x263001_1, .int .i64 x263002_1, .int .i64 x263003_1, .int .i64 x263004_1, .int .u8 x263005_1, .int .u8 x263006_1, .int .u64 x263007_1, .int .i64 x263008_1] 34 (0, 0)) (by (with_reducible repeat (first | refine blk_drewN ?_ _ | refine blk_drew ?_ | refine blk_alloc ?_ _)); exact BK262.out)) : gb262 ≠ gb294)); have n9_ := Aside0.mk ((by rw [hg]; exact Nat.ne_of_gt (blk_lt (g := gb262) (o := .cells #[.int .i64 x263000_1, .int .i64 x263001_1, .int .i64 x263002_1, .int .i64 x263003_1, .int .i64 x263004_1, .int .u8 x263005_1, .int .u8 x263006_1, .int .u64 x263007_1, .int .i64 x263008_1] 34 (0, 0)) (by (with_reducible repeat (first | refine blk_drewN ?_ _ | refine blk_drew ?_ | refine blk_alloc ?_ _)); exact BK262.out)) : gb294 ≠ gb262)); clear HO_3; clear HO_4; clear HO_6; clear BK262; clear HB; have HO_3 := n0_; have HO_4 := n1_; have HO_6 := n2_; have BK262 := n3_; have HB := n4_; have BK294 := n5_; have GW294 := n6_; have GE294 := n7_; have NB262_294 := n8_; have NB294_262 := n9_; clear n0_ n1_ n2_ n3_ n4_ n5_ n6_ n7_ n8_ n9_; clear hb hbox hg; have hnb58 := NB294_262.out; have hnc58 := NB262_294.out; have hcz59_0 : w57.cell? ⟨gb294, 0, none⟩ = some (.int .i64 0) := (blk_cell BK294.out 0).trans rfl; have hcz59_1 : w57.cell? ⟨gb294, 1, none⟩ = some (.int .i64 0) := (blk_cell BK294.out 1).trans rfl; have hcz59_2 : w57.cell? ⟨gb294, 2, none⟩ = some (.int .i64 0) := (blk_cell BK294.out 2).trans rfl; have hcz59_3 : w57.cell? ⟨gb294, 3, none⟩ = some (.int .i64 0) := (blk_cell BK294.out 3).trans rfl; have hcz59_4 : w57.cell? ⟨gb294, 4, none⟩ = some (.int .i64 0) := (blk_cell BK294.out 4).trans rfl; have hcz59_5 : w57.cell? ⟨gb294, 5, none⟩ = some (.int .u8 0) := (blk_cell BK294.out 5).trans rfl; have hcz59_6 : w57.cell? ⟨gb294, 6, none⟩ = some (.int .u8 0) := (blk_cell BK294.out 6).trans rfl; have hcz59_7 : w57.cell? ⟨gb294, 7, none⟩ = some (.int .u64 0) := (blk_cell BK294.out 7).trans rfl; have hfz59_0 := blk_frozen BK294.out 0; have hfz59_1 := blk_frozen BK294.out 1; have hfz59_2 := blk_frozen BK294.out 2; have hfz59_3 := blk_frozen BK294.out 3; have hfz59_4 := blk_frozen BK294.out 4; have hfz59_5 := blk_frozen BK294.out 5; have hfz59_6 := blk_frozen BK294.out 6; have hfz59_7 := blk_frozen BK294.out 7))
            go_roundg k2
            case measure => have := HK1.out; have := HK2.out; omega
            case rel => exact ⟨(wrap64 (x5_1 + 1)), (x263000_1), (x263001_1), (x263002_1), (x263003_1), (x263004_1), (x263005_1), (x263006_1), (x263007_1), (x263008_1), (by first | rfl | (simp; done) | (simp [*]; done)), H', ⟨by have := HK1.out; have := HK2.out; omega⟩, ⟨by (with_reducible repeat (first | apply Kd.R_alloc | apply Kd.R_drewN | apply Kd.R_drew)); exact Kd.R_mono (Kd.R_far (p := ⟨gb294, 7, none⟩) (Kd.R_far (p := ⟨gb294, 6, none⟩) (Kd.R_far (p := ⟨gb294, 5, none⟩) (Kd.R_far (p := ⟨gb294, 4, none⟩) (Kd.R_far (p := ⟨gb294, 3, none⟩) (Kd.R_far (p := ⟨gb294, 2, none⟩) (Kd.R_far (p := ⟨gb294, 1, none⟩) (Kd.R_far (p := ⟨gb294, 0, none⟩) (Kd.R_types HO_3.out BK294.out (by decide)) (fun _ hk => hk.2) (.int .i64 t285)) (fun _ hk => hk.2) (.int .i64 t286)) (fun _ hk => hk.2) (.int .i64 t287)) (fun _ hk => hk.2) (.int .i64 t288)) (fun _ hk => hk.2) (.int .i64 t289)) (fun _ hk => hk.2) (.int .u8 t290)) (fun _ hk => hk.2) (.int .u8 t291)) (fun _ hk => hk.2) (.int .u64 t292)) (fun _ hk => trivial)⟩, ⟨by (with_reducible repeat (first | apply Kd.N_alloc | apply Kd.N_drewN | apply Kd.N_drew)); exact Kd.N_mono (Kd.N_far (p := ⟨gb294, 7, none⟩) (Kd.N_far (p := ⟨gb294, 6, none⟩) (Kd.N_far (p := ⟨gb294, 5, none⟩) (Kd.N_far (p := ⟨gb294, 4, none⟩) (Kd.N_far (p := ⟨gb294, 3, none⟩) (Kd.N_far (p := ⟨gb294, 2, none⟩) (Kd.N_far (p := ⟨gb294, 1, none⟩) (Kd.N_far (p := ⟨gb294, 0, none⟩) (Kd.N_mono HO_4.out (fun k_ hk => (⟨hk, hk.2⟩ : _ ∧ k_ ≠ gb294))) (fun _ hk => hk.2) (.int .i64 t285)) (fun _ hk => hk.2) (.int .i64 t286)) (fun _ hk => hk.2) (.int .i64 t287)) (fun _ hk => hk.2) (.int .i64 t288)) (fun _ hk => hk.2) (.int .i64 t289)) (fun _ hk => hk.2) (.int .u8 t290)) (fun _ hk => hk.2) (.int .u8 t291)) (fun _ hk => hk.2) (.int .u64 t292)) (fun _ hk => ⟨hk.1.1.1, hk.1.1.2.2⟩)⟩, ⟨by (with_reducible repeat (first | refine blk_drewN ?_ _ | refine blk_drew ?_ | refine blk_alloc ?_ _)); refine blk_far ?_ NB262_294.out _; (with_reducible repeat (first | refine blk_drewN ?_ _ | refine blk_drew ?_ | refine blk_alloc ?_ _)); refine blk_far ?_ NB262_294.out _; (with_reducible repeat (first | refine blk_drewN ?_ _ | refine blk_drew ?_ | refine blk_alloc ?_ _)); refine blk_far ?_ NB262_294.out _; (with_reducible repeat (first | refine blk_drewN ?_ _ | refine blk_drew ?_ | refine blk_alloc ?_ _)); refine blk_far ?_ NB262_294.out _; (with_reducible repeat (first | refine blk_drewN ?_ _ | refine blk_drew ?_ | refine blk_alloc ?_ _)); refine blk_far ?_ NB262_294.out _; (with_reducible repeat (first | refine blk_drewN ?_ _ | refine blk_drew ?_ | refine blk_alloc ?_ _)); refine blk_far ?_ NB262_294.out _; (with_reducible repeat (first | refine blk_drewN ?_ _ | refine blk_drew ?_ | refine blk_alloc ?_ _)); refine blk_far ?_ NB262_294.out _; (with_reducible repeat (first | refine blk_drewN ?_ _ | refine blk_drew ?_ | refine blk_alloc ?_ _)); refine blk_far ?_ NB262_294.out _; (with_reducible repeat (first | refine blk_drewN ?_ _ | refine blk_drew ?_ | refine blk_alloc ?_ _)); exact BK262.out⟩, ⟨by repeat (first | (with_reducible first | exact HB.out | apply below_alloc | apply pw_below_drewN | apply below_drew1 | refine below_set ?_ GE262.out | refine below_set ?_ GE294.out) | exact HB.out)⟩⟩
          ·replace c46 := Bool.eq_false_iff.mpr c46
           subst c46
           have H1 : (weirgateref22_Line.l0 k2 t263 t266 (wrap64 (x5_1 + 1))) = some (r1, r2, r3, r4, r5, r6, r7, r8, r9) := by rw [if_neg (show ¬ (false = true) by decide)] at H; exact H
           clear H
           have H := H1
           clear H1
           have H' := Aside0.mk H
           clear H
           go_wp2
           go_roundg k2
           case measure => have := HK1.out; have := HK2.out; omega
           case rel => exact ⟨(wrap64 (x5_1 + 1)), (x263000_1), (x263001_1), (x263002_1), (x263003_1), (x263004_1), (x263005_1), (x263006_1), (x263007_1), (x263008_1), (by first | rfl | (simp; done) | (simp [*]; done)), H', ⟨by have := HK1.out; have := HK2.out; omega⟩, ⟨by (with_reducible repeat (first | apply Kd.R_alloc | apply Kd.R_drewN | apply Kd.R_drew)); exact HO_3.out⟩, ⟨by (with_reducible repeat (first | apply Kd.N_alloc | apply Kd.N_drewN | apply Kd.N_drew)); exact Kd.N_mono HO_4.out (fun _ hk => ⟨hk.1, hk.2.2⟩)⟩, ⟨by (with_reducible repeat (first | refine blk_drewN ?_ _ | refine blk_drew ?_ | refine blk_alloc ?_ _)); exact BK262.out⟩, ⟨by repeat (first | (with_reducible first | exact HB.out | apply below_alloc | apply pw_below_drewN | apply below_drew1 | refine below_set ?_ GE262.out) | exact HB.out)⟩⟩
      ·rw [if_neg c12] at H
       have c12b0 : (((rd_L7 t266 x5_1).length : Int) == (t263.length : Int)) = false := beq_eq_false_iff_ne.mpr c12
       have c12b1 : (((rd_L7 t266 x5_1).length : Int) != (t263.length : Int)) = true := bne_iff_ne.mpr c12
       have c12b2 : ((rd_L7 t266 x5_1).length == t263.length) = false := by first | simpa using c12 | (simp at c12 ⊢; omega)
       have H' := Aside0.mk H
       clear H
       obtain ⟨Ao60, co60, eo60⟩ := Kd.N_slice HO_4.out
       subst eo60
       have p269 : 0 ≤ (x5_1 : Int) := of_decide_eq_true (by first | (with_reducible assumption) | assumption)
       have q269 : x5_1 < (t266.length : Int) := of_decide_eq_true (by first | (with_reducible assumption) | assumption)
       obtain ⟨ad269, A269_0, c269_0, e269, hx269_0, hl269_0, hi269_0⟩ := at_L7 (Kd.N_reads' HO_4.out).2.2 x5_1 p269 q269
       cases e269
       obtain ⟨ce269, hce269, hMe269, hcc269⟩ := Kd.N_get HO_4.out [] x5_1 p269 (by first | exact q269 | exact of_decide_eq_true (by first | (with_reducible assumption) | assumption) | (have e_ := (Kd.N_reads' HO_4.out).1; omega))
       obtain ⟨ua269_0, uc269_0, rfl, ul269_0, ge269_0⟩ := Kd.FK_slice_open hMe269
       have hv269_0 := hcc269 0 _ rfl
       rw [Nat.add_zero, show ((Kd.slice 9 Kd.string)).sz = 1 from rfl, Nat.mul_one] at hv269_0
       replace hv269_0 := Option.some.inj (hv269_0.symm.trans hx269_0)
       injection hv269_0 with hva_ hvn_ hvc_
       rw [hva_] at ge269_0
       rw [hvc_] at ul269_0
       have HL269_0 := Aside0.mk (show Kd.V Kd.string 9 _ w.heap.size _ _ (rd_L7 t266 x5_1) from Kd.V_mk ul269_0 ge269_0)
       clear hva_ hvn_ hvc_ ge269_0 ul269_0
       clear hcc269 hce269
       have HR269_0 := Aside0.mk hi269_0
       have HC269_0 := Aside0.mk hl269_0
       clear hi269_0 hl269_0
       replace p269 := eq_true p269
       replace q269 := eq_true q269
       obtain ⟨Ao61, co61, eo61⟩ := Kd.R_slice HO_3.out
       subst eo61
       go_wp2
       go_roundg k1
       case measure => have := HK1.out; omega
       case rel => exact ⟨(wrap64 (x5_1 + 1)), (x263000_1), (x263001_1), (x263002_1), (x263003_1), (x263004_1), (x263005_1), (x263006_1), (x263007_1), (x263008_1), (by first | rfl | (simp; done) | (simp [*]; done)), H', ⟨by have := HK1.out; omega⟩, ⟨by (with_reducible repeat (first | apply Kd.R_alloc | apply Kd.R_drewN | apply Kd.R_drew)); exact HO_3.out⟩, ⟨by (with_reducible repeat (first | apply Kd.N_alloc | apply Kd.N_drewN | apply Kd.N_drew)); exact HO_4.out⟩, ⟨by (with_reducible repeat (first | refine blk_drewN ?_ _ | refine blk_drew ?_ | refine blk_alloc ?_ _)); exact BK262.out⟩, ⟨by repeat (first | (with_reducible first | exact HB.out | apply below_alloc | apply pw_below_drewN | apply below_drew1 | refine below_set ?_ GE262.out) | exact HB.out)⟩⟩
     ·rw [if_neg c11] at H
      exact absurd H (by simp)
    ·rw [if_neg c10] at H
     have c10b0 : decide (x5_1 < (t266.length : Int)) = false := decide_eq_false c10
     clear c10
     simp only [Option.some.injEq, Prod.mk.injEq] at H
     obtain ⟨rfl, rfl, rfl, rfl, rfl, rfl, rfl, rfl, rfl⟩ := H
     obtain ⟨Ao62, co62, eo62⟩ := Kd.N_slice HO_4.out
     subst eo62
     have hcz63_0 : wr.cell? ⟨gb262, 0, none⟩ = some (.int .i64 x263000_1) := (blk_cell BK262.out 0).trans rfl
     have hcz63_1 : wr.cell? ⟨gb262, 1, none⟩ = some (.int .i64 x263001_1) := (blk_cell BK262.out 1).trans rfl
     have hcz63_2 : wr.cell? ⟨gb262, 2, none⟩ = some (.int .i64 x263002_1) := (blk_cell BK262.out 2).trans rfl
     have hcz63_3 : wr.cell? ⟨gb262, 3, none⟩ = some (.int .i64 x263003_1) := (blk_cell BK262.out 3).trans rfl
     have hcz63_4 : wr.cell? ⟨gb262, 4, none⟩ = some (.int .i64 x263004_1) := (blk_cell BK262.out 4).trans rfl
     have hcz63_5 : wr.cell? ⟨gb262, 5, none⟩ = some (.int .u8 x263005_1) := (blk_cell BK262.out 5).trans rfl
     have hcz63_6 : wr.cell? ⟨gb262, 6, none⟩ = some (.int .u8 x263006_1) := (blk_cell BK262.out 6).trans rfl
     have hcz63_7 : wr.cell? ⟨gb262, 7, none⟩ = some (.int .u64 x263007_1) := (blk_cell BK262.out 7).trans rfl
     have hcz63_8 : wr.cell? ⟨gb262, 8, none⟩ = some (.int .i64 x263008_1) := (blk_cell BK262.out 8).trans rfl
     have hfz63_0 := blk_frozen BK262.out 0
     have hfz63_1 := blk_frozen BK262.out 1
     have hfz63_2 := blk_frozen BK262.out 2
     have hfz63_3 := blk_frozen BK262.out 3
     have hfz63_4 := blk_frozen BK262.out 4
     have hfz63_5 := blk_frozen BK262.out 5
     have hfz63_6 := blk_frozen BK262.out 6
     have hfz63_7 := blk_frozen BK262.out 7
     have hfz63_8 := blk_frozen BK262.out 8
     go_wp2
     refine bodyPost_ret (results_cell_row rfl _ _ gb262 34 #[.int .i64 0, .int .i64 0, .int .i64 0, .int .i64 0, .int .i64 0, .int .u8 0, .int .u8 0, .int .u64 0, .int .i64 15] (0, 0) _ rfl (by (with_reducible repeat (first | refine blk_drewN ?_ _ | refine blk_drew ?_ | refine blk_alloc ?_ _)); refine blk_put (cs := #[.int .i64 0, .int .i64 0, .int .i64 0, .int .i64 0, .int .i64 0, .int .u8 0, .int .u8 0, .int .u64 0, .int .i64 x263008_1]) ?_ 8 _ rfl; (with_reducible repeat (first | refine blk_drewN ?_ _ | refine blk_drew ?_ | refine blk_alloc ?_ _)); refine blk_put (cs := #[.int .i64 0, .int .i64 0, .int .i64 0, .int .i64 0, .int .i64 0, .int .u8 0, .int .u8 0, .int .u64 x263007_1, .int .i64 x263008_1]) ?_ 7 _ rfl; (with_reducible repeat (first | refine blk_drewN ?_ _ | refine blk_drew ?_ | refine blk_alloc ?_ _)); refine blk_put (cs := #[.int .i64 0, .int .i64 0, .int .i64 0, .int .i64 0, .int .i64 0, .int .u8 0, .int .u8 x263006_1, .int .u64 x263007_1, .int .i64 x263008_1]) ?_ 6 _ rfl; (with_reducible repeat (first | refine blk_drewN ?_ _ | refine blk_drew ?_ | refine blk_alloc ?_ _)); refine blk_put (cs := #[.int .i64 0, .int .i64 0, .int .i64 0, .int .i64 0, .int .i64 0, .int .u8 x263005_1, .int .u8 x263006_1, .int .u64 x263007_1, .int .i64 x263008_1]) ?_ 5 _ rfl; (with_reducible repeat (first | refine blk_drewN ?_ _ | refine blk_drew ?_ | refine blk_alloc ?_ _)); refine blk_put (cs := #[.int .i64 0, .int .i64 0, .int .i64 0, .int .i64 0, .int .i64 x263004_1, .int .u8 x263005_1, .int .u8 x263006_1, .int .u64 x263007_1, .int .i64 x263008_1]) ?_ 4 _ rfl; (with_reducible repeat (first | refine blk_drewN ?_ _ | refine blk_drew ?_ | refine blk_alloc ?_ _)); refine blk_put (cs := #[.int .i64 0, .int .i64 0, .int .i64 0, .int .i64 x263003_1, .int .i64 x263004_1, .int .u8 x263005_1, .int .u8 x263006_1, .int .u64 x263007_1, .int .i64 x263008_1]) ?_ 3 _ rfl; (with_reducible repeat (first | refine blk_drewN ?_ _ | refine blk_drew ?_ | refine blk_alloc ?_ _)); refine blk_put (cs := #[.int .i64 0, .int .i64 0, .int .i64 x263002_1, .int .i64 x263003_1, .int .i64 x263004_1, .int .u8 x263005_1, .int .u8 x263006_1, .int .u64 x263007_1, .int .i64 x263008_1]) ?_ 2 _ rfl; (with_reducible repeat (first | refine blk_drewN ?_ _ | refine blk_drew ?_ | refine blk_alloc ?_ _)); refine blk_put (cs := #[.int .i64 0, .int .i64 x263001_1, .int .i64 x263002_1, .int .i64 x263003_1, .int .i64 x263004_1, .int .u8 x263005_1, .int .u8 x263006_1, .int .u64 x263007_1, .int .i64 x263008_1]) ?_ 1 _ rfl; (with_reducible repeat (first | refine blk_drewN ?_ _ | refine blk_drew ?_ | refine blk_alloc ?_ _)); refine blk_put (cs := #[.int .i64 x263000_1, .int .i64 x263001_1, .int .i64 x263002_1, .int .i64 x263003_1, .int .i64 x263004_1, .int .u8 x263005_1, .int .u8 x263006_1, .int .u64 x263007_1, .int .i64 x263008_1]) ?_ 0 _ rfl; (with_reducible repeat (first | refine blk_drewN ?_ _ | refine blk_drew ?_ | refine blk_alloc ?_ _)); exact BK262.out) Tryd.underlying34 rfl (by kernel_rfl)) rfl ?_
     exact ⟨by first | rfl | (simp [errW_none, errW_some] <;> rfl) | (simp [*, errW_none, errW_some] <;> rfl), by repeat (first | (with_reducible first | exact HB.out | apply below_alloc | apply pw_below_drewN | apply below_drew1 | refine below_set ?_ GE262.out) | exact HB.out)⟩

end Go.Proofs.YtagnoecfdefmjaaDoor.X
