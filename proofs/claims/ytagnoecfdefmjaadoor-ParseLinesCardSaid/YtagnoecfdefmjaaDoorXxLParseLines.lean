-- WRITTEN BY A PROGRAM OF THIS CLAIM'S SESSION (xprint.py, over the kit's print): functions, contracts. Lean checks it.
-- INDENT: one space a step
import Derived.Test.YtagnoecfdefmjaaDoorXx0
import Derived.Test.YtagnoecfdefmjaaDoorWakes22
import Derived.Test.YtagnoecfdefmjaaDoorXx4
import Derived.Test.YtagnoecfdefmjaaDoorXx7
import Derived.Test.YtagnoecfdefmjaaDoorXx8
namespace Go.Proofs.YtagnoecfdefmjaaDoor.X
open Go.RowKit Go.Proofs.YtagnoecfdefmjaaDoorW.PrintWords Go.Proofs.YtagnoecfdefmjaaDoorW.PrintLast Go.Proofs.YtagnoecfdefmjaaDoorW.PrintMore
attribute [local go_sem] max2_int min2_int max_two min_two max_three min_three max_four min_four   -- for this text's walks alone
set_option linter.unusedVariables false
set_option linter.unusedSimpArgs false

attribute [local go_sem high] eqA32
/-! ### weirgatelaw22_ParseLines: function 3 -/
def weirgatelaw22_ParseLines.f (k : Nat) (a0 : ByteArray) : Option (Bool) := if (a0.size : Int) > 2000 then ((weirgatelaw22_wakes.f k).bind fun t297 => (some t297)) else ((parse_Line.f k a0).bind fun bt298 => ((weirgateref22_Line.f k a0).bind fun bt308 => ((weirgatelaw22_Own.f bt298.1 bt298.2.1 bt298.2.2.1 bt298.2.2.2.1 bt298.2.2.2.2.1 bt298.2.2.2.2.2.1 bt298.2.2.2.2.2.2.1 bt298.2.2.2.2.2.2.2.1).bind fun bt318 => (if (bt318.1 == bt308.1 && ((bt318.2.1 == bt308.2.1 && (bt318.2.2.1 == bt308.2.2.1 && (bt318.2.2.2.1 == bt308.2.2.2.1 && (bt318.2.2.2.2.1 == bt308.2.2.2.2.1 && (bt318.2.2.2.2.2.1 == bt308.2.2.2.2.2.1 && (bt318.2.2.2.2.2.2.1 == bt308.2.2.2.2.2.2.1 && (bt318.2.2.2.2.2.2.2 == bt308.2.2.2.2.2.2.2.1))))))))) = true then (if bt298.2.2.2.2.2.2.2.2 = bt308.2.2.2.2.2.2.2.2 then ((weirgatelaw22_wakes.f k).bind fun t326 => (some t326)) else (some false)) else (some false)))))
theorem weirgatelaw22_ParseLines.mono : ∀ a0 k, LeO (weirgatelaw22_ParseLines.f k a0) (weirgatelaw22_ParseLines.f (k + 1) a0) := by
 intro a0 k
 unfold weirgatelaw22_ParseLines.f
 repeat' first
   | (with_reducible exact parse_Line.mono _ _)
   | (with_reducible exact weirgatelaw22_wakes.mono _)
   | (with_reducible exact weirgateref22_Line.mono _ _)
   | (with_reducible exact LeO.refl _)
   | (with_reducible exact LeO.none _)
   | (with_reducible refine LeO.ite ?_ ?_)
   | (with_reducible refine LeO.bind ?_ (fun _ => ?_))
   | exact parse_Line.mono _ _
   | exact weirgatelaw22_wakes.mono _
   | exact weirgateref22_Line.mono _ _
   | exact LeO.none _
   | refine LeO.ite ?_ ?_
   | refine LeO.bind ?_ (fun _ => ?_)
def weirgatelaw22_ParseLines.T5 : Bool × List (List Nat × List Nat) := (true, [([], []), ([0], [0]), ([], []), ([2], [2]), ([1, 3], [1, 3]), ([4, 1], [4]), ([5], [5]), ([5], [5]), ([7, 5], [5, 7]), ([6, 8, 5], [5, 6, 8]), ([5, 9], [5, 9]), ([10, 5], [10]), ([11, 11], [11]), ([11, 12], [11, 12]), ([13, 12, 0, 1, 2, 3, 4, 5, 6, 7, 8, 9, 10, 11, 12, 13], [13])])
def weirgatelaw22_ParseLines.B5 : List Nat := [0, 1, 0, 4, 15, 31, 63, 63, 191, 511, 1023, 2047, 4095, 8191, 16383]
theorem weirgatelaw22_ParseLines.tab5 : rtab .any (opsOf Tryd.f3 5) = weirgatelaw22_ParseLines.T5 := by kernel_rfl
theorem weirgatelaw22_ParseLines.bits5 : waitsOk weirgatelaw22_ParseLines.T5.2 weirgatelaw22_ParseLines.B5 = true := by kernel_rfl
set_option maxHeartbeats 8000000 in
set_option maxRecDepth 100000 in
theorem weirgatelaw22_ParseLines.calls (k : Nat) (a0 : ByteArray) (r : Bool) (w : World) (hL : Laid w) (h : weirgatelaw22_ParseLines.f k a0 = some r) :
  Calls Tryd.prog 3 #[.string a0] w fun e w' => e = .returned (.bool r) ∧ Below w.heap.size w w' := by
 have hu27 := Tryd.underlying27
 have hu34 := Tryd.underlying34
 have hu32 := Tryd.underlying32
 have HB := Aside0.mk (Below.refl w.heap.size w)
 have H : (if (a0.size : Int) > 2000 then ((weirgatelaw22_wakes.f k).bind fun t297 => (some t297)) else ((parse_Line.f k a0).bind fun bt298 => ((weirgateref22_Line.f k a0).bind fun bt308 => ((weirgatelaw22_Own.f bt298.1 bt298.2.1 bt298.2.2.1 bt298.2.2.2.1 bt298.2.2.2.2.1 bt298.2.2.2.2.2.1 bt298.2.2.2.2.2.2.1 bt298.2.2.2.2.2.2.2.1).bind fun bt318 => (if (bt318.1 == bt308.1 && ((bt318.2.1 == bt308.2.1 && (bt318.2.2.1 == bt308.2.2.1 && (bt318.2.2.2.1 == bt308.2.2.2.1 && (bt318.2.2.2.2.1 == bt308.2.2.2.2.1 && (bt318.2.2.2.2.2.1 == bt308.2.2.2.2.2.1 && (bt318.2.2.2.2.2.2.1 == bt308.2.2.2.2.2.2.1 && (bt318.2.2.2.2.2.2.2 == bt308.2.2.2.2.2.2.2.1))))))))) = true then (if bt298.2.2.2.2.2.2.2.2 = bt308.2.2.2.2.2.2.2.2 then ((weirgatelaw22_wakes.f k).bind fun t326 => (some t326)) else (some false)) else (some false)))))) = some r := h
 clear h
 by_cases c2 : (a0.size : Int) > 2000
 ·rw [if_pos c2] at H
  have c2b0 : decide (2000 < (a0.size : Int)) = true := decide_eq_true c2
  have c2b1 : decide (2000 < a0.size) = true := decide_eq_true (by omega)
  clear c2
  replace H := Option.bind_eq_some_iff.mp H
  obtain ⟨t297, A30, H⟩ := H
  replace H : (some t297) = some r := H
  have A3 := Aside0.mk A30
  clear A30
  obtain rfl := Option.some.inj H
  go_enter Tryd.func3, Tryd.ntmps3
  go_wp2_with (first | ((with_reducible refine gate_callee (f := 7) rfl ?_); refine goesL_ (some 9) rfl rfl Tryd.func7 (by kernel_rfl) rfl #[] rfl (by (try simp only [List.map_toArray, List.map_cons, List.map_nil]); first | done | rfl | (simp only [List.length_drop, List.length_take]; rfl)) ?_; (with_reducible refine (weirgatelaw22_wakes.calls k  t297 _ ?side1 A3.out).mono ?_); (case side1 => exact Laid.below hL (by repeat (first | (with_reducible first | exact HB.out | apply below_alloc | apply pw_below_drewN | apply below_drew1) | exact HB.out))); rintro e w4 ⟨rfl, hb⟩; refine ⟨_, rfl, ?_⟩; have n0_ := Aside0.mk (below_step (by repeat (first | (with_reducible first | exact HB.out | apply below_alloc | apply pw_below_drewN | apply below_drew1) | exact HB.out)) hb); clear HB; have HB := n0_; clear n0_; (try clear hb); (try clear hb2); (try clear hk); (try clear hi); (try clear A3)))
  go_ret
  exact ⟨by first | rfl | (simp [errW_none, errW_some] <;> rfl) | (simp [*, errW_none, errW_some] <;> rfl), by repeat (first | (with_reducible first | exact HB.out | apply below_alloc | apply pw_below_drewN | apply below_drew1) | exact HB.out)⟩
 ·rw [if_neg c2] at H
  have c2b0 : decide (2000 < (a0.size : Int)) = false := decide_eq_false c2
  have c2b1 : decide (2000 < a0.size) = false := decide_eq_false (by omega)
  clear c2
  replace H := Option.bind_eq_some_iff.mp H
  obtain ⟨⟨t298, t299, t300, t301, t302, t303, t304, t305, t306⟩, A50, H⟩ := H
  replace H : ((weirgateref22_Line.f k a0).bind fun bt308 => ((weirgatelaw22_Own.f t298 t299 t300 t301 t302 t303 t304 t305).bind fun bt318 => (if (bt318.1 == bt308.1 && ((bt318.2.1 == bt308.2.1 && (bt318.2.2.1 == bt308.2.2.1 && (bt318.2.2.2.1 == bt308.2.2.2.1 && (bt318.2.2.2.2.1 == bt308.2.2.2.2.1 && (bt318.2.2.2.2.2.1 == bt308.2.2.2.2.2.1 && (bt318.2.2.2.2.2.2.1 == bt308.2.2.2.2.2.2.1 && (bt318.2.2.2.2.2.2.2 == bt308.2.2.2.2.2.2.2.1))))))))) = true then (if t306 = bt308.2.2.2.2.2.2.2.2 then ((weirgatelaw22_wakes.f k).bind fun t326 => (some t326)) else (some false)) else (some false)))) = some r := H
  have A5 := Aside0.mk A50
  clear A50
  replace H := Option.bind_eq_some_iff.mp H
  obtain ⟨⟨t308, t309, t310, t311, t312, t313, t314, t315, t316⟩, A60, H⟩ := H
  replace H : ((weirgatelaw22_Own.f t298 t299 t300 t301 t302 t303 t304 t305).bind fun bt318 => (if (bt318.1 == t308 && ((bt318.2.1 == t309 && (bt318.2.2.1 == t310 && (bt318.2.2.2.1 == t311 && (bt318.2.2.2.2.1 == t312 && (bt318.2.2.2.2.2.1 == t313 && (bt318.2.2.2.2.2.2.1 == t314 && (bt318.2.2.2.2.2.2.2 == t315))))))))) = true then (if t306 = t316 then ((weirgatelaw22_wakes.f k).bind fun t326 => (some t326)) else (some false)) else (some false))) = some r := H
  have A6 := Aside0.mk A60
  clear A60
  replace H := Option.bind_eq_some_iff.mp H
  obtain ⟨⟨t318, t319, t320, t321, t322, t323, t324, t325⟩, A70, H⟩ := H
  replace H : (if (t318 == t308 && ((t319 == t309 && (t320 == t310 && (t321 == t311 && (t322 == t312 && (t323 == t313 && (t324 == t314 && (t325 == t315))))))))) = true then (if t306 = t316 then ((weirgatelaw22_wakes.f k).bind fun t326 => (some t326)) else (some false)) else (some false)) = some r := H
  have A7 := Aside0.mk A70
  clear A70
  by_cases c8 : (t318 == t308 && ((t319 == t309 && (t320 == t310 && (t321 == t311 && (t322 == t312 && (t323 == t313 && (t324 == t314 && (t325 == t315))))))))) = true
  ·rw [if_pos c8] at H
   have c8b0 : (t318 == t308 && ((t319 == t309 && (t320 == t310 && (t321 == t311 && (t322 == t312 && (t323 == t313 && (t324 == t314 && (t325 == t315))))))))) = true := c8
   (try (have c8b1 : decide (t318 = t308 && ((t319 == t309 && (t320 == t310 && (t321 == t311 && (t322 == t312 && (t323 == t313 && (t324 == t314 && (t325 == t315))))))))) = true := by simpa using c8))
   (try (have c8b2 : (t318 == t308 && ((t319 == t309 && (t320 == t310 && (t321 == t311 && (t322 == t312 && (t323 == t313 && (t324 == t314 && (t325 == t315))))))))) = true := by simpa using c8))
   clear c8
   by_cases c9 : t306 = t316
   ·rw [if_pos c9] at H
    have c9b0 : (t306 == t316) = true := beq_iff_eq.mpr c9
    have c9b1 : (t306 != t316) = false := bne_eq_false_iff_eq.mpr c9
    clear c9
    replace H := Option.bind_eq_some_iff.mp H
    obtain ⟨t326, A100, H⟩ := H
    replace H : (some t326) = some r := H
    have A10 := Aside0.mk A100
    clear A100
    obtain rfl := Option.some.inj H
    go_enter Tryd.func3, Tryd.ntmps3
    try go_wp2_with (first | ((with_reducible refine gate_callee (f := 8) rfl ?_); refine goesL_ (some 12) rfl rfl Tryd.func8 (by kernel_rfl) rfl #[.string a0] rfl (by (try simp only [List.map_toArray, List.map_cons, List.map_nil]); first | done | rfl | (simp only [List.length_drop, List.length_take]; rfl)) ?_; (with_reducible refine (parse_Line.calls k a0 t298 t299 t300 t301 t302 t303 t304 t305 t306 _ ?side1 A5.out).mono ?_); (case side1 => exact Laid.below hL (by repeat (first | (with_reducible first | exact HB.out | apply below_alloc | apply pw_below_drewN | apply below_drew1) | exact HB.out))); rintro e w11 ⟨rfl, hb⟩; refine ⟨_, rfl, ?_⟩; have n0_ := Aside0.mk (below_step (by repeat (first | (with_reducible first | exact HB.out | apply below_alloc | apply pw_below_drewN | apply below_drew1) | exact HB.out)) hb); clear HB; have HB := n0_; clear n0_; (try clear hb); (try clear hb2); (try clear hk); (try clear hi); (try clear A5)) | ((with_reducible refine gate_dst (N := 3) rfl ?_); refine box_event ?hg (N := 3) ?hd (cs := #[.int .i64 0, .int .i64 0, .int .i64 0, .int .i64 0, .int .i64 0, .int .u8 0, .int .u8 0, .int .u64 0]) (t := 27) ?hr ?_; (case hd => rfl); (case hg => rfl); (case hr => first | (go_simp; done) | (go_simp; rfl)); intro gb307 hg w12 hbox hb; have n0_ := Aside0.mk (below_step (by repeat (first | (with_reducible first | exact HB.out | apply below_alloc | apply pw_below_drewN | apply below_drew1) | exact HB.out)) hb); have n1_ := Aside0.mk (hbox); have n2_ := Aside0.mk ((by rw [hg]; exact (below_size (by repeat (first | (with_reducible first | exact HB.out | apply below_alloc | apply pw_below_drewN | apply below_drew1) | exact HB.out))) : w.heap.size ≤ gb307)); have n3_ := Aside0.mk ((by rw [hg]; exact (below_size (by repeat (first | (with_reducible first | exact HB.out | apply below_alloc | apply pw_below_drewN | apply below_drew1) | exact HB.out))) : w.heap.size ≤ gb307)); clear HB; have HB := n0_; have BK307 := n1_; have GW307 := n2_; have GE307 := n3_; clear n0_ n1_ n2_ n3_; clear hb hbox hg; have hcz13_0 : w12.cell? ⟨gb307, 0, none⟩ = some (.int .i64 0) := (blk_cell BK307.out 0).trans rfl; have hcz13_1 : w12.cell? ⟨gb307, 1, none⟩ = some (.int .i64 0) := (blk_cell BK307.out 1).trans rfl; have hcz13_2 : w12.cell? ⟨gb307, 2, none⟩ = some (.int .i64 0) := (blk_cell BK307.out 2).trans rfl; have hcz13_3 : w12.cell? ⟨gb307, 3, none⟩ = some (.int .i64 0) := (blk_cell BK307.out 3).trans rfl; have hcz13_4 : w12.cell? ⟨gb307, 4, none⟩ = some (.int .i64 0) := (blk_cell BK307.out 4).trans rfl; have hcz13_5 : w12.cell? ⟨gb307, 5, none⟩ = some (.int .u8 0) := (blk_cell BK307.out 5).trans rfl; have hcz13_6 : w12.cell? ⟨gb307, 6, none⟩ = some (.int .u8 0) := (blk_cell BK307.out 6).trans rfl; have hcz13_7 : w12.cell? ⟨gb307, 7, none⟩ = some (.int .u64 0) := (blk_cell BK307.out 7).trans rfl; have hfz13_0 := blk_frozen BK307.out 0; have hfz13_1 := blk_frozen BK307.out 1; have hfz13_2 := blk_frozen BK307.out 2; have hfz13_3 := blk_frozen BK307.out 3; have hfz13_4 := blk_frozen BK307.out 4; have hfz13_5 := blk_frozen BK307.out 5; have hfz13_6 := blk_frozen BK307.out 6; have hfz13_7 := blk_frozen BK307.out 7) | ((with_reducible refine gate_callee (f := 9) rfl ?_); refine goesL_ (some 16) rfl rfl Tryd.func9 (by kernel_rfl) rfl #[.string a0] rfl (by (try simp only [List.map_toArray, List.map_cons, List.map_nil]); first | done | rfl | (simp only [List.length_drop, List.length_take]; rfl)) ?_; (with_reducible refine (weirgateref22_Line.calls k a0 t308 t309 t310 t311 t312 t313 t314 t315 t316 _ ?side1 A6.out).mono ?_); (case side1 => exact Laid.below hL (by repeat (first | (with_reducible first | exact HB.out | apply below_alloc | apply pw_below_drewN | apply below_drew1 | refine below_set ?_ GE307.out) | exact HB.out))); rintro e w14 ⟨rfl, hb⟩; refine ⟨_, rfl, ?_⟩; have n0_ := Aside0.mk (blk_below (g := gb307) (o := .cells #[.int .i64 t298, .int .i64 t299, .int .i64 t300, .int .i64 t301, .int .i64 t302, .int .u8 t303, .int .u8 t304, .int .u64 t305] 27 (0, 0)) (by (with_reducible repeat (first | refine blk_drewN ?_ _ | refine blk_drew ?_ | refine blk_alloc ?_ _)); refine blk_put (cs := #[.int .i64 t298, .int .i64 t299, .int .i64 t300, .int .i64 t301, .int .i64 t302, .int .u8 t303, .int .u8 t304, .int .u64 0]) ?_ 7 _ rfl; (with_reducible repeat (first | refine blk_drewN ?_ _ | refine blk_drew ?_ | refine blk_alloc ?_ _)); refine blk_put (cs := #[.int .i64 t298, .int .i64 t299, .int .i64 t300, .int .i64 t301, .int .i64 t302, .int .u8 t303, .int .u8 0, .int .u64 0]) ?_ 6 _ rfl; (with_reducible repeat (first | refine blk_drewN ?_ _ | refine blk_drew ?_ | refine blk_alloc ?_ _)); refine blk_put (cs := #[.int .i64 t298, .int .i64 t299, .int .i64 t300, .int .i64 t301, .int .i64 t302, .int .u8 0, .int .u8 0, .int .u64 0]) ?_ 5 _ rfl; (with_reducible repeat (first | refine blk_drewN ?_ _ | refine blk_drew ?_ | refine blk_alloc ?_ _)); refine blk_put (cs := #[.int .i64 t298, .int .i64 t299, .int .i64 t300, .int .i64 t301, .int .i64 0, .int .u8 0, .int .u8 0, .int .u64 0]) ?_ 4 _ rfl; (with_reducible repeat (first | refine blk_drewN ?_ _ | refine blk_drew ?_ | refine blk_alloc ?_ _)); refine blk_put (cs := #[.int .i64 t298, .int .i64 t299, .int .i64 t300, .int .i64 0, .int .i64 0, .int .u8 0, .int .u8 0, .int .u64 0]) ?_ 3 _ rfl; (with_reducible repeat (first | refine blk_drewN ?_ _ | refine blk_drew ?_ | refine blk_alloc ?_ _)); refine blk_put (cs := #[.int .i64 t298, .int .i64 t299, .int .i64 0, .int .i64 0, .int .i64 0, .int .u8 0, .int .u8 0, .int .u64 0]) ?_ 2 _ rfl; (with_reducible repeat (first | refine blk_drewN ?_ _ | refine blk_drew ?_ | refine blk_alloc ?_ _)); refine blk_put (cs := #[.int .i64 t298, .int .i64 0, .int .i64 0, .int .i64 0, .int .i64 0, .int .u8 0, .int .u8 0, .int .u64 0]) ?_ 1 _ rfl; (with_reducible repeat (first | refine blk_drewN ?_ _ | refine blk_drew ?_ | refine blk_alloc ?_ _)); refine blk_put (cs := #[.int .i64 0, .int .i64 0, .int .i64 0, .int .i64 0, .int .i64 0, .int .u8 0, .int .u8 0, .int .u64 0]) ?_ 0 _ rfl; (with_reducible repeat (first | refine blk_drewN ?_ _ | refine blk_drew ?_ | refine blk_alloc ?_ _)); exact BK307.out) hb); have n1_ := Aside0.mk (below_step (by repeat (first | (with_reducible first | exact HB.out | apply below_alloc | apply pw_below_drewN | apply below_drew1 | refine below_set ?_ GE307.out) | exact HB.out)) hb); clear BK307; clear HB; have BK307 := n0_; have HB := n1_; clear n0_ n1_; (try clear hb); (try clear hb2); (try clear hk); (try clear hi); (try clear A6)) | ((with_reducible refine gate_dst (N := 5) rfl ?_); refine box_event ?hg (N := 5) ?hd (cs := #[.int .i64 0, .int .i64 0, .int .i64 0, .int .i64 0, .int .i64 0, .int .u8 0, .int .u8 0, .int .u64 0, .int .i64 0]) (t := 34) ?hr ?_; (case hd => rfl); (case hg => rfl); (case hr => first | (go_simp; done) | (go_simp; rfl)); intro gb317 hg w15 hbox hb; have n0_ := Aside0.mk (blk_below (g := gb307) (o := .cells #[.int .i64 t298, .int .i64 t299, .int .i64 t300, .int .i64 t301, .int .i64 t302, .int .u8 t303, .int .u8 t304, .int .u64 t305] 27 (0, 0)) (by (with_reducible repeat (first | refine blk_drewN ?_ _ | refine blk_drew ?_ | refine blk_alloc ?_ _)); exact BK307.out) hb); have n1_ := Aside0.mk (below_step (by repeat (first | (with_reducible first | exact HB.out | apply below_alloc | apply pw_below_drewN | apply below_drew1 | refine below_set ?_ GE307.out) | exact HB.out)) hb); have n2_ := Aside0.mk (hbox); have n3_ := Aside0.mk ((by rw [hg]; exact (below_size (by repeat (first | (with_reducible first | exact HB.out | apply below_alloc | apply pw_below_drewN | apply below_drew1 | refine below_set ?_ GE307.out) | exact HB.out))) : w.heap.size ≤ gb317)); have n4_ := Aside0.mk ((by rw [hg]; exact (below_size (by repeat (first | (with_reducible first | exact HB.out | apply below_alloc | apply pw_below_drewN | apply below_drew1 | refine below_set ?_ GE307.out) | exact HB.out))) : w.heap.size ≤ gb317)); have n5_ := Aside0.mk ((by rw [hg]; exact Nat.ne_of_lt (blk_lt (g := gb307) (o := .cells #[.int .i64 t298, .int .i64 t299, .int .i64 t300, .int .i64 t301, .int .i64 t302, .int .u8 t303, .int .u8 t304, .int .u64 t305] 27 (0, 0)) (by (with_reducible repeat (first | refine blk_drewN ?_ _ | refine blk_drew ?_ | refine blk_alloc ?_ _)); exact BK307.out)) : gb307 ≠ gb317)); have n6_ := Aside0.mk ((by rw [hg]; exact Nat.ne_of_gt (blk_lt (g := gb307) (o := .cells #[.int .i64 t298, .int .i64 t299, .int .i64 t300, .int .i64 t301, .int .i64 t302, .int .u8 t303, .int .u8 t304, .int .u64 t305] 27 (0, 0)) (by (with_reducible repeat (first | refine blk_drewN ?_ _ | refine blk_drew ?_ | refine blk_alloc ?_ _)); exact BK307.out)) : gb317 ≠ gb307)); clear BK307; clear HB; have BK307 := n0_; have HB := n1_; have BK317 := n2_; have GW317 := n3_; have GE317 := n4_; have NB307_317 := n5_; have NB317_307 := n6_; clear n0_ n1_ n2_ n3_ n4_ n5_ n6_; clear hb hbox hg; have hnb16 := NB317_307.out; have hnc16 := NB307_317.out; have hcz17_0 : w15.cell? ⟨gb317, 0, none⟩ = some (.int .i64 0) := (blk_cell BK317.out 0).trans rfl; have hcz17_1 : w15.cell? ⟨gb317, 1, none⟩ = some (.int .i64 0) := (blk_cell BK317.out 1).trans rfl; have hcz17_2 : w15.cell? ⟨gb317, 2, none⟩ = some (.int .i64 0) := (blk_cell BK317.out 2).trans rfl; have hcz17_3 : w15.cell? ⟨gb317, 3, none⟩ = some (.int .i64 0) := (blk_cell BK317.out 3).trans rfl; have hcz17_4 : w15.cell? ⟨gb317, 4, none⟩ = some (.int .i64 0) := (blk_cell BK317.out 4).trans rfl; have hcz17_5 : w15.cell? ⟨gb317, 5, none⟩ = some (.int .u8 0) := (blk_cell BK317.out 5).trans rfl; have hcz17_6 : w15.cell? ⟨gb317, 6, none⟩ = some (.int .u8 0) := (blk_cell BK317.out 6).trans rfl; have hcz17_7 : w15.cell? ⟨gb317, 7, none⟩ = some (.int .u64 0) := (blk_cell BK317.out 7).trans rfl; have hcz17_8 : w15.cell? ⟨gb317, 8, none⟩ = some (.int .i64 0) := (blk_cell BK317.out 8).trans rfl; have hfz17_0 := blk_frozen BK317.out 0; have hfz17_1 := blk_frozen BK317.out 1; have hfz17_2 := blk_frozen BK317.out 2; have hfz17_3 := blk_frozen BK317.out 3; have hfz17_4 := blk_frozen BK317.out 4; have hfz17_5 := blk_frozen BK317.out 5; have hfz17_6 := blk_frozen BK317.out 6; have hfz17_7 := blk_frozen BK317.out 7; have hfz17_8 := blk_frozen BK317.out 8))
    have n0_ : Aside0 ((((((((((w15.setCell ⟨gb317, 0, none⟩ (.int .i64 t308)).setCell ⟨gb317, 1, none⟩ (.int .i64 t309)).setCell ⟨gb317, 2, none⟩ (.int .i64 t310)).setCell ⟨gb317, 3, none⟩ (.int .i64 t311)).setCell ⟨gb317, 4, none⟩ (.int .i64 t312)).setCell ⟨gb317, 5, none⟩ (.int .u8 t313)).setCell ⟨gb317, 6, none⟩ (.int .u8 t314)).setCell ⟨gb317, 7, none⟩ (.int .u64 t315)).setCell ⟨gb317, 8, none⟩ (.int .i64 t316)).heap[gb307]? = some (.cells #[.int .i64 t298, .int .i64 t299, .int .i64 t300, .int .i64 t301, .int .i64 t302, .int .u8 t303, .int .u8 t304, .int .u64 t305] 27 (0, 0))) := ⟨by (with_reducible repeat (first | refine blk_drewN ?_ _ | refine blk_drew ?_ | refine blk_alloc ?_ _)); refine blk_far ?_ NB307_317.out _; (with_reducible repeat (first | refine blk_drewN ?_ _ | refine blk_drew ?_ | refine blk_alloc ?_ _)); refine blk_far ?_ NB307_317.out _; (with_reducible repeat (first | refine blk_drewN ?_ _ | refine blk_drew ?_ | refine blk_alloc ?_ _)); refine blk_far ?_ NB307_317.out _; (with_reducible repeat (first | refine blk_drewN ?_ _ | refine blk_drew ?_ | refine blk_alloc ?_ _)); refine blk_far ?_ NB307_317.out _; (with_reducible repeat (first | refine blk_drewN ?_ _ | refine blk_drew ?_ | refine blk_alloc ?_ _)); refine blk_far ?_ NB307_317.out _; (with_reducible repeat (first | refine blk_drewN ?_ _ | refine blk_drew ?_ | refine blk_alloc ?_ _)); refine blk_far ?_ NB307_317.out _; (with_reducible repeat (first | refine blk_drewN ?_ _ | refine blk_drew ?_ | refine blk_alloc ?_ _)); refine blk_far ?_ NB307_317.out _; (with_reducible repeat (first | refine blk_drewN ?_ _ | refine blk_drew ?_ | refine blk_alloc ?_ _)); refine blk_far ?_ NB307_317.out _; (with_reducible repeat (first | refine blk_drewN ?_ _ | refine blk_drew ?_ | refine blk_alloc ?_ _)); refine blk_far ?_ NB307_317.out _; (with_reducible repeat (first | refine blk_drewN ?_ _ | refine blk_drew ?_ | refine blk_alloc ?_ _)); exact BK307.out⟩
    have n1_ : Aside0 ((((((((((w15.setCell ⟨gb317, 0, none⟩ (.int .i64 t308)).setCell ⟨gb317, 1, none⟩ (.int .i64 t309)).setCell ⟨gb317, 2, none⟩ (.int .i64 t310)).setCell ⟨gb317, 3, none⟩ (.int .i64 t311)).setCell ⟨gb317, 4, none⟩ (.int .i64 t312)).setCell ⟨gb317, 5, none⟩ (.int .u8 t313)).setCell ⟨gb317, 6, none⟩ (.int .u8 t314)).setCell ⟨gb317, 7, none⟩ (.int .u64 t315)).setCell ⟨gb317, 8, none⟩ (.int .i64 t316)).heap[gb317]? = some (.cells #[.int .i64 t308, .int .i64 t309, .int .i64 t310, .int .i64 t311, .int .i64 t312, .int .u8 t313, .int .u8 t314, .int .u64 t315, .int .i64 t316] 34 (0, 0))) := ⟨by (with_reducible repeat (first | refine blk_drewN ?_ _ | refine blk_drew ?_ | refine blk_alloc ?_ _)); refine blk_put (cs := #[.int .i64 t308, .int .i64 t309, .int .i64 t310, .int .i64 t311, .int .i64 t312, .int .u8 t313, .int .u8 t314, .int .u64 t315, .int .i64 0]) ?_ 8 _ rfl; (with_reducible repeat (first | refine blk_drewN ?_ _ | refine blk_drew ?_ | refine blk_alloc ?_ _)); refine blk_put (cs := #[.int .i64 t308, .int .i64 t309, .int .i64 t310, .int .i64 t311, .int .i64 t312, .int .u8 t313, .int .u8 t314, .int .u64 0, .int .i64 0]) ?_ 7 _ rfl; (with_reducible repeat (first | refine blk_drewN ?_ _ | refine blk_drew ?_ | refine blk_alloc ?_ _)); refine blk_put (cs := #[.int .i64 t308, .int .i64 t309, .int .i64 t310, .int .i64 t311, .int .i64 t312, .int .u8 t313, .int .u8 0, .int .u64 0, .int .i64 0]) ?_ 6 _ rfl; (with_reducible repeat (first | refine blk_drewN ?_ _ | refine blk_drew ?_ | refine blk_alloc ?_ _)); refine blk_put (cs := #[.int .i64 t308, .int .i64 t309, .int .i64 t310, .int .i64 t311, .int .i64 t312, .int .u8 0, .int .u8 0, .int .u64 0, .int .i64 0]) ?_ 5 _ rfl; (with_reducible repeat (first | refine blk_drewN ?_ _ | refine blk_drew ?_ | refine blk_alloc ?_ _)); refine blk_put (cs := #[.int .i64 t308, .int .i64 t309, .int .i64 t310, .int .i64 t311, .int .i64 0, .int .u8 0, .int .u8 0, .int .u64 0, .int .i64 0]) ?_ 4 _ rfl; (with_reducible repeat (first | refine blk_drewN ?_ _ | refine blk_drew ?_ | refine blk_alloc ?_ _)); refine blk_put (cs := #[.int .i64 t308, .int .i64 t309, .int .i64 t310, .int .i64 0, .int .i64 0, .int .u8 0, .int .u8 0, .int .u64 0, .int .i64 0]) ?_ 3 _ rfl; (with_reducible repeat (first | refine blk_drewN ?_ _ | refine blk_drew ?_ | refine blk_alloc ?_ _)); refine blk_put (cs := #[.int .i64 t308, .int .i64 t309, .int .i64 0, .int .i64 0, .int .i64 0, .int .u8 0, .int .u8 0, .int .u64 0, .int .i64 0]) ?_ 2 _ rfl; (with_reducible repeat (first | refine blk_drewN ?_ _ | refine blk_drew ?_ | refine blk_alloc ?_ _)); refine blk_put (cs := #[.int .i64 t308, .int .i64 0, .int .i64 0, .int .i64 0, .int .i64 0, .int .u8 0, .int .u8 0, .int .u64 0, .int .i64 0]) ?_ 1 _ rfl; (with_reducible repeat (first | refine blk_drewN ?_ _ | refine blk_drew ?_ | refine blk_alloc ?_ _)); refine blk_put (cs := #[.int .i64 0, .int .i64 0, .int .i64 0, .int .i64 0, .int .i64 0, .int .u8 0, .int .u8 0, .int .u64 0, .int .i64 0]) ?_ 0 _ rfl; (with_reducible repeat (first | refine blk_drewN ?_ _ | refine blk_drew ?_ | refine blk_alloc ?_ _)); exact BK317.out⟩
    have n2_ : Aside0 (Below w.heap.size w (((((((((w15.setCell ⟨gb317, 0, none⟩ (.int .i64 t308)).setCell ⟨gb317, 1, none⟩ (.int .i64 t309)).setCell ⟨gb317, 2, none⟩ (.int .i64 t310)).setCell ⟨gb317, 3, none⟩ (.int .i64 t311)).setCell ⟨gb317, 4, none⟩ (.int .i64 t312)).setCell ⟨gb317, 5, none⟩ (.int .u8 t313)).setCell ⟨gb317, 6, none⟩ (.int .u8 t314)).setCell ⟨gb317, 7, none⟩ (.int .u64 t315)).setCell ⟨gb317, 8, none⟩ (.int .i64 t316))) := ⟨by repeat (first | (with_reducible first | exact HB.out | apply below_alloc | apply pw_below_drewN | apply below_drew1 | refine below_set ?_ GE307.out | refine below_set ?_ GE317.out) | exact HB.out)⟩
    (try clear BK307)
    (try clear BK317)
    (try clear HB)
    generalize (((((((((w15.setCell ⟨gb317, 0, none⟩ (.int .i64 t308)).setCell ⟨gb317, 1, none⟩ (.int .i64 t309)).setCell ⟨gb317, 2, none⟩ (.int .i64 t310)).setCell ⟨gb317, 3, none⟩ (.int .i64 t311)).setCell ⟨gb317, 4, none⟩ (.int .i64 t312)).setCell ⟨gb317, 5, none⟩ (.int .u8 t313)).setCell ⟨gb317, 6, none⟩ (.int .u8 t314)).setCell ⟨gb317, 7, none⟩ (.int .u64 t315)).setCell ⟨gb317, 8, none⟩ (.int .i64 t316)) = w18 at n0_ n1_ n2_ ⊢
    have BK307 := n0_
    have BK317 := n1_
    have HB := n2_
    clear n0_ n1_ n2_
    have n0_ := Aside0.mk (blk_drew BK307.out)
    have n1_ := Aside0.mk (blk_drew BK317.out)
    have n2_ := Aside0.mk (below_drew1 HB.out)
    clear BK307
    clear BK317
    clear HB
    have BK307 := n0_
    have BK317 := n1_
    have HB := n2_
    clear n0_ n1_ n2_
    refine start_ (n := 15) (S := fun w' => w'.cell? ⟨gb307, 0, none⟩ = some (.int .i64 t298) ∧ w'.cell? ⟨gb307, 1, none⟩ = some (.int .i64 t299) ∧ w'.cell? ⟨gb307, 2, none⟩ = some (.int .i64 t300) ∧ w'.cell? ⟨gb307, 3, none⟩ = some (.int .i64 t301) ∧ w'.cell? ⟨gb307, 4, none⟩ = some (.int .i64 t302) ∧ w'.cell? ⟨gb307, 5, none⟩ = some (.int .u8 t303) ∧ w'.cell? ⟨gb307, 6, none⟩ = some (.int .u8 t304) ∧ w'.cell? ⟨gb307, 7, none⟩ = some (.int .u64 t305) ∧ w'.cell? ⟨gb317, 0, none⟩ = some (.int .i64 t308) ∧ w'.cell? ⟨gb317, 1, none⟩ = some (.int .i64 t309) ∧ w'.cell? ⟨gb317, 2, none⟩ = some (.int .i64 t310) ∧ w'.cell? ⟨gb317, 3, none⟩ = some (.int .i64 t311) ∧ w'.cell? ⟨gb317, 4, none⟩ = some (.int .i64 t312) ∧ w'.cell? ⟨gb317, 5, none⟩ = some (.int .u8 t313) ∧ w'.cell? ⟨gb317, 6, none⟩ = some (.int .u8 t314) ∧ w'.cell? ⟨gb317, 7, none⟩ = some (.int .u64 t315) ∧ w'.cell? ⟨gb317, 8, none⟩ = some (.int .i64 t316)) (ds := []) #[false, false, false, false, false, false, false, false, false, false, false, false, false, false, false] (by kernel_rfl) rfl rfl ⟨(blk_cell BK307.out 0).trans rfl, (blk_cell BK307.out 1).trans rfl, (blk_cell BK307.out 2).trans rfl, (blk_cell BK307.out 3).trans rfl, (blk_cell BK307.out 4).trans rfl, (blk_cell BK307.out 5).trans rfl, (blk_cell BK307.out 6).trans rfl, (blk_cell BK307.out 7).trans rfl, (blk_cell BK317.out 0).trans rfl, (blk_cell BK317.out 1).trans rfl, (blk_cell BK317.out 2).trans rfl, (blk_cell BK317.out 3).trans rfl, (blk_cell BK317.out 4).trans rfl, (blk_cell BK317.out 5).trans rfl, (blk_cell BK317.out 6).trans rfl, (blk_cell BK317.out 7).trans rfl, (blk_cell BK317.out 8).trans rfl⟩ (fun hHeld => ?_); refine with_tabW weirgatelaw22_ParseLines.tab5 weirgatelaw22_ParseLines.bits5 (fun HT_ HW_ => ?_)
    generalize w18.drew = w19 at BK307 BK317 HB hHeld ⊢
    refine pure_ (i := 2) (N := some 19) (v := ?_) (a' := ?_) #[false, false, true, false, false, false, false, false, false, false, false, false, false, false, false] rfl rfl (any_of HT_.out (by kernel_rfl)) (fun _ _ _ h => h) (Or.inl ⟨by rfl, ?_⟩) ?_ ?_
    rotate_left
    ·intro w'
     go_simp
     with_reducible rfl
    rotate_left
    ·simp only [Act.put, List.setIfInBounds_toArray, List.set_cons_zero, List.set_cons_succ, i64_w, i32_w]
     rfl
    refine take_ (i := 0) (N := some 17) (v := ?_) (a' := ?_) #[true, false, true, false, false, false, false, false, false, false, false, false, false, false, false] rfl rfl (take_ofW HT_.out HW_.out (by kernel_rfl)) (fun _ _ _ h => h) (Or.inl ⟨by rfl, ?_⟩) hHeld ?_ ?_
    rotate_left
    ·rintro w' ⟨s0, s1, s2, s3, s4, s5, s6, s7, s8, s9, s10, s11, s12, s13, s14, s15, s16⟩
     go_simp
     with_reducible rfl
    rotate_left
    ·simp only [Act.put, List.setIfInBounds_toArray, List.set_cons_zero, List.set_cons_succ, i64_w, i32_w]
     rfl
    refine take_ (i := 3) (N := some 20) (v := ?_) (a' := ?_) #[true, false, true, true, false, false, false, false, false, false, false, false, false, false, false] rfl rfl (take_ofW HT_.out HW_.out (by kernel_rfl)) (fun _ _ _ h => h) (Or.inl ⟨by rfl, ?_⟩) hHeld ?_ ?_
    rotate_left
    ·rintro w' ⟨s0, s1, s2, s3, s4, s5, s6, s7, s8, s9, s10, s11, s12, s13, s14, s15, s16⟩
     go_simp
     with_reducible rfl
    rotate_left
    ·simp only [Act.put, List.setIfInBounds_toArray, List.set_cons_zero, List.set_cons_succ, i64_w, i32_w]
     rfl
    refine one_ (i := 1) (N := some 18) #[true, true, true, true, false, false, false, false, false, false, false, false, false, false, false] rfl rfl (one_of HT_.out (by kernel_rfl)) (by decide) (fun K hK => ?_)
    refine goes_ Tryd.func10 (by kernel_rfl) rfl #[.agg #[.int .i64 t298, .int .i64 t299, .int .i64 t300, .int .i64 t301, .int .i64 t302, .int .u8 t303, .int .u8 t304, .int .u64 t305]] (by rfl) rfl rfl (by (try simp only [List.map_toArray, List.map_cons, List.map_nil]); first | done | rfl | (simp only [List.length_drop, List.length_take]; rfl)) ?_
    with_reducible refine (weirgatelaw22_Own.calls t298 t299 t300 t301 t302 t303 t304 t305 t318 t319 t320 t321 t322 t323 t324 t325 _ ?side1 A7.out).mono ?_
    (case side1 => exact Laid.below hL (by repeat (first | (with_reducible first | exact HB.out | apply below_alloc | apply pw_below_drewN | apply below_drew1 | refine below_set ?_ GE307.out | refine below_set ?_ GE317.out) | exact HB.out)))
    rintro e w20 ⟨rfl, hb⟩
    refine ⟨_, rfl, ?_⟩
    have n0_ := Aside0.mk (blk_below (g := gb307) (o := .cells #[.int .i64 t298, .int .i64 t299, .int .i64 t300, .int .i64 t301, .int .i64 t302, .int .u8 t303, .int .u8 t304, .int .u64 t305] 27 (0, 0)) (by (with_reducible repeat (first | refine blk_drewN ?_ _ | refine blk_drew ?_ | refine blk_alloc ?_ _)); exact BK307.out) hb)
    have n1_ := Aside0.mk (blk_below (g := gb317) (o := .cells #[.int .i64 t308, .int .i64 t309, .int .i64 t310, .int .i64 t311, .int .i64 t312, .int .u8 t313, .int .u8 t314, .int .u64 t315, .int .i64 t316] 34 (0, 0)) (by (with_reducible repeat (first | refine blk_drewN ?_ _ | refine blk_drew ?_ | refine blk_alloc ?_ _)); exact BK317.out) hb)
    have n2_ := Aside0.mk (below_step (by repeat (first | (with_reducible first | exact HB.out | apply below_alloc | apply pw_below_drewN | apply below_drew1 | refine below_set ?_ GE307.out | refine below_set ?_ GE317.out) | exact HB.out)) hb)
    clear BK307
    clear BK317
    clear HB
    have BK307 := n0_
    have BK317 := n1_
    have HB := n2_
    clear n0_ n1_ n2_
    (try clear hb)
    (try clear hb2)
    (try clear hk)
    (try clear hi)
    (try clear A7)
    refine hK.out _ _ ⟨(blk_cell BK307.out 0).trans rfl, (blk_cell BK307.out 1).trans rfl, (blk_cell BK307.out 2).trans rfl, (blk_cell BK307.out 3).trans rfl, (blk_cell BK307.out 4).trans rfl, (blk_cell BK307.out 5).trans rfl, (blk_cell BK307.out 6).trans rfl, (blk_cell BK307.out 7).trans rfl, (blk_cell BK317.out 0).trans rfl, (blk_cell BK317.out 1).trans rfl, (blk_cell BK317.out 2).trans rfl, (blk_cell BK317.out 3).trans rfl, (blk_cell BK317.out 4).trans rfl, (blk_cell BK317.out 5).trans rfl, (blk_cell BK317.out 6).trans rfl, (blk_cell BK317.out 7).trans rfl, (blk_cell BK317.out 8).trans rfl⟩ (fun hHeld => ?_)
    clear hK K
    refine norm_ (a' := ?_) ?_ ?_
    rotate_left
    ·show Act.put _ (some 18) _ = _
     simp only [Act.put, List.setIfInBounds_toArray, List.set_cons_zero, List.set_cons_succ, i64_w, i32_w]
     rfl
    refine pure_ (i := 4) (N := some 21) (v := ?_) (a' := ?_) #[true, true, true, true, true, false, false, false, false, false, false, false, false, false, false] rfl rfl (any_of HT_.out (by kernel_rfl)) (fun _ _ _ h => h) (Or.inl ⟨by rfl, ?_⟩) ?_ ?_
    rotate_left
    ·intro w'
     go_simp
     with_reducible rfl
    rotate_left
    ·simp only [Act.put, List.setIfInBounds_toArray, List.set_cons_zero, List.set_cons_succ, i64_w, i32_w]
     rfl
    refine pure_ (i := 5) (N := some 22) (v := ?_) (a' := ?_) #[true, true, true, true, true, true, false, false, false, false, false, false, false, false, false] rfl rfl (any_of HT_.out (by kernel_rfl)) (fun _ _ _ h => h) (Or.inl ⟨by rfl, ?_⟩) ?_ ?_
    rotate_left
    ·intro w'
     go_simp
     with_reducible rfl
    rotate_left
    ·simp only [Act.put, List.setIfInBounds_toArray, List.set_cons_zero, List.set_cons_succ, i64_w, i32_w]
     rfl
    refine pure_ (i := 6) (N := some 23) (v := ?_) (a' := ?_) #[true, true, true, true, true, true, true, false, false, false, false, false, false, false, false] rfl rfl (any_of HT_.out (by kernel_rfl)) (fun _ _ _ h => h) (Or.inl ⟨by rfl, ?_⟩) ?_ ?_
    rotate_left
    ·intro w'
     go_simp
     with_reducible rfl
    rotate_left
    ·simp only [Act.put, List.setIfInBounds_toArray, List.set_cons_zero, List.set_cons_succ, i64_w, i32_w]
     rfl
    refine pure_ (i := 7) (N := some 24) (v := ?_) (a' := ?_) #[true, true, true, true, true, true, true, true, false, false, false, false, false, false, false] rfl rfl (any_of HT_.out (by kernel_rfl)) (fun _ _ _ h => h) (Or.inl ⟨by rfl, ?_⟩) ?_ ?_
    rotate_left
    ·intro w'
     go_simp
     with_reducible rfl
    rotate_left
    ·simp only [Act.put, List.setIfInBounds_toArray, List.set_cons_zero, List.set_cons_succ, i64_w, i32_w]
     rfl
    refine take_ (i := 8) (N := some 25) (v := ?_) (a' := ?_) #[true, true, true, true, true, true, true, true, true, false, false, false, false, false, false] rfl rfl (take_ofW HT_.out HW_.out (by kernel_rfl)) (fun _ _ _ h => h) (Or.inl ⟨by rfl, ?_⟩) hHeld ?_ ?_
    rotate_left
    ·rintro w' ⟨s0, s1, s2, s3, s4, s5, s6, s7, s8, s9, s10, s11, s12, s13, s14, s15, s16⟩
     go_simp
     with_reducible rfl
    rotate_left
    ·simp only [Act.put, List.setIfInBounds_toArray, List.set_cons_zero, List.set_cons_succ, i64_w, i32_w]
     rfl
    refine pure_ (i := 9) (N := some 26) (v := ?_) (a' := ?_) #[true, true, true, true, true, true, true, true, true, true, false, false, false, false, false] rfl rfl (any_of HT_.out (by kernel_rfl)) (fun _ _ _ h => h) (Or.inl ⟨by rfl, ?_⟩) ?_ ?_
    rotate_left
    ·intro w'
     go_simp
     with_reducible rfl
    rotate_left
    ·simp only [Act.put, List.setIfInBounds_toArray, List.set_cons_zero, List.set_cons_succ, i64_w, i32_w]
     rfl
    refine pure_ (i := 10) (N := some 27) (v := ?_) (a' := ?_) #[true, true, true, true, true, true, true, true, true, true, true, false, false, false, false] rfl rfl (any_of HT_.out (by kernel_rfl)) (fun _ _ _ h => h) (Or.inl ⟨by rfl, ?_⟩) ?_ ?_
    rotate_left
    ·intro w'
     go_simp
     with_reducible rfl
    rotate_left
    ·simp only [Act.put, List.setIfInBounds_toArray, List.set_cons_zero, List.set_cons_succ, i64_w, i32_w]
     rfl
    refine pure_ (i := 11) (N := some 28) (v := ?_) (a' := ?_) #[true, true, true, true, true, true, true, true, true, true, true, true, false, false, false] rfl rfl (any_of HT_.out (by kernel_rfl)) (fun _ _ _ h => h) (Or.inl ⟨by rfl, ?_⟩) ?_ ?_
    rotate_left
    ·intro w'
     go_simp
     with_reducible rfl
    rotate_left
    ·simp only [Act.put, List.setIfInBounds_toArray, List.set_cons_zero, List.set_cons_succ, i64_w, i32_w]
     rfl
    refine one_ (i := 12) (N := some 29) #[true, true, true, true, true, true, true, true, true, true, true, true, true, false, false] rfl rfl (one_of HT_.out (by kernel_rfl)) (by decide) (fun K hK => ?_)
    refine goes_ Tryd.func7 (by kernel_rfl) rfl #[] (by rfl) rfl rfl (by (try simp only [List.map_toArray, List.map_cons, List.map_nil]); first | done | rfl | (simp only [List.length_drop, List.length_take]; rfl)) ?_
    with_reducible refine (weirgatelaw22_wakes.calls k  t326 _ ?side1 A10.out).mono ?_
    (case side1 => exact Laid.below hL (by repeat (first | (with_reducible first | exact HB.out | apply below_alloc | apply pw_below_drewN | apply below_drew1 | refine below_set ?_ GE307.out | refine below_set ?_ GE317.out) | exact HB.out)))
    rintro e w21 ⟨rfl, hb⟩
    refine ⟨_, rfl, ?_⟩
    have n0_ := Aside0.mk (blk_below (g := gb307) (o := .cells #[.int .i64 t298, .int .i64 t299, .int .i64 t300, .int .i64 t301, .int .i64 t302, .int .u8 t303, .int .u8 t304, .int .u64 t305] 27 (0, 0)) (by (with_reducible repeat (first | refine blk_drewN ?_ _ | refine blk_drew ?_ | refine blk_alloc ?_ _)); exact BK307.out) hb)
    have n1_ := Aside0.mk (blk_below (g := gb317) (o := .cells #[.int .i64 t308, .int .i64 t309, .int .i64 t310, .int .i64 t311, .int .i64 t312, .int .u8 t313, .int .u8 t314, .int .u64 t315, .int .i64 t316] 34 (0, 0)) (by (with_reducible repeat (first | refine blk_drewN ?_ _ | refine blk_drew ?_ | refine blk_alloc ?_ _)); exact BK317.out) hb)
    have n2_ := Aside0.mk (below_step (by repeat (first | (with_reducible first | exact HB.out | apply below_alloc | apply pw_below_drewN | apply below_drew1 | refine below_set ?_ GE307.out | refine below_set ?_ GE317.out) | exact HB.out)) hb)
    clear BK307
    clear BK317
    clear HB
    have BK307 := n0_
    have BK317 := n1_
    have HB := n2_
    clear n0_ n1_ n2_
    (try clear hb)
    (try clear hb2)
    (try clear hk)
    (try clear hi)
    (try clear A10)
    refine hK.out _ _ ⟨(blk_cell BK307.out 0).trans rfl, (blk_cell BK307.out 1).trans rfl, (blk_cell BK307.out 2).trans rfl, (blk_cell BK307.out 3).trans rfl, (blk_cell BK307.out 4).trans rfl, (blk_cell BK307.out 5).trans rfl, (blk_cell BK307.out 6).trans rfl, (blk_cell BK307.out 7).trans rfl, (blk_cell BK317.out 0).trans rfl, (blk_cell BK317.out 1).trans rfl, (blk_cell BK317.out 2).trans rfl, (blk_cell BK317.out 3).trans rfl, (blk_cell BK317.out 4).trans rfl, (blk_cell BK317.out 5).trans rfl, (blk_cell BK317.out 6).trans rfl, (blk_cell BK317.out 7).trans rfl, (blk_cell BK317.out 8).trans rfl⟩ (fun hHeld => ?_)
    clear hK K
    refine norm_ (a' := ?_) ?_ ?_
    rotate_left
    ·show Act.put _ (some 29) _ = _
     simp only [Act.put, List.setIfInBounds_toArray, List.set_cons_zero, List.set_cons_succ, i64_w, i32_w]
     rfl
    refine pure_ (i := 13) (N := some 30) (v := ?_) (a' := ?_) #[true, true, true, true, true, true, true, true, true, true, true, true, true, true, false] rfl rfl (any_of HT_.out (by kernel_rfl)) (fun _ _ _ h => h) (Or.inl ⟨by rfl, ?_⟩) ?_ ?_
    rotate_left
    ·intro w'
     go_simp
     with_reducible rfl
    rotate_left
    ·simp only [Act.put, List.setIfInBounds_toArray, List.set_cons_zero, List.set_cons_succ, i64_w, i32_w]
     rfl
    refine pure_ (i := 14) (N := some 2) (v := ?_) (a' := ?_) #[true, true, true, true, true, true, true, true, true, true, true, true, true, true, true] rfl rfl (any_of HT_.out (by kernel_rfl)) (fun _ _ _ h => h) (Or.inl ⟨by rfl, ?_⟩) ?_ ?_
    rotate_left
    ·intro w'
     go_simp
     with_reducible rfl
    rotate_left
    ·simp only [Act.put, List.setIfInBounds_toArray, List.set_cons_zero, List.set_cons_succ, i64_w, i32_w]
     rfl
    refine done_ (done_of HT_.out (by kernel_rfl)) ?_
    try go_wp2
    go_ret
    exact ⟨by first | rfl | (simp [errW_none, errW_some] <;> rfl) | (simp [*, errW_none, errW_some] <;> rfl), by repeat (first | (with_reducible first | exact HB.out | apply below_alloc | apply pw_below_drewN | apply below_drew1 | refine below_set ?_ GE307.out | refine below_set ?_ GE317.out) | exact HB.out)⟩
   ·rw [if_neg c9] at H
    have c9b0 : (t306 == t316) = false := beq_eq_false_iff_ne.mpr c9
    have c9b1 : (t306 != t316) = true := bne_iff_ne.mpr c9
    obtain rfl := Option.some.inj H
    go_enter Tryd.func3, Tryd.ntmps3
    try go_wp2_with (first | ((with_reducible refine gate_callee (f := 8) rfl ?_); refine goesL_ (some 12) rfl rfl Tryd.func8 (by kernel_rfl) rfl #[.string a0] rfl (by (try simp only [List.map_toArray, List.map_cons, List.map_nil]); first | done | rfl | (simp only [List.length_drop, List.length_take]; rfl)) ?_; (with_reducible refine (parse_Line.calls k a0 t298 t299 t300 t301 t302 t303 t304 t305 t306 _ ?side1 A5.out).mono ?_); (case side1 => exact Laid.below hL (by repeat (first | (with_reducible first | exact HB.out | apply below_alloc | apply pw_below_drewN | apply below_drew1) | exact HB.out))); rintro e w22 ⟨rfl, hb⟩; refine ⟨_, rfl, ?_⟩; have n0_ := Aside0.mk (below_step (by repeat (first | (with_reducible first | exact HB.out | apply below_alloc | apply pw_below_drewN | apply below_drew1) | exact HB.out)) hb); clear HB; have HB := n0_; clear n0_; (try clear hb); (try clear hb2); (try clear hk); (try clear hi); (try clear A5)) | ((with_reducible refine gate_dst (N := 3) rfl ?_); refine box_event ?hg (N := 3) ?hd (cs := #[.int .i64 0, .int .i64 0, .int .i64 0, .int .i64 0, .int .i64 0, .int .u8 0, .int .u8 0, .int .u64 0]) (t := 27) ?hr ?_; (case hd => rfl); (case hg => rfl); (case hr => first | (go_simp; done) | (go_simp; rfl)); intro gb307 hg w23 hbox hb; have n0_ := Aside0.mk (below_step (by repeat (first | (with_reducible first | exact HB.out | apply below_alloc | apply pw_below_drewN | apply below_drew1) | exact HB.out)) hb); have n1_ := Aside0.mk (hbox); have n2_ := Aside0.mk ((by rw [hg]; exact (below_size (by repeat (first | (with_reducible first | exact HB.out | apply below_alloc | apply pw_below_drewN | apply below_drew1) | exact HB.out))) : w.heap.size ≤ gb307)); have n3_ := Aside0.mk ((by rw [hg]; exact (below_size (by repeat (first | (with_reducible first | exact HB.out | apply below_alloc | apply pw_below_drewN | apply below_drew1) | exact HB.out))) : w.heap.size ≤ gb307)); clear HB; have HB := n0_; have BK307 := n1_; have GW307 := n2_; have GE307 := n3_; clear n0_ n1_ n2_ n3_; clear hb hbox hg; have hcz24_0 : w23.cell? ⟨gb307, 0, none⟩ = some (.int .i64 0) := (blk_cell BK307.out 0).trans rfl; have hcz24_1 : w23.cell? ⟨gb307, 1, none⟩ = some (.int .i64 0) := (blk_cell BK307.out 1).trans rfl; have hcz24_2 : w23.cell? ⟨gb307, 2, none⟩ = some (.int .i64 0) := (blk_cell BK307.out 2).trans rfl; have hcz24_3 : w23.cell? ⟨gb307, 3, none⟩ = some (.int .i64 0) := (blk_cell BK307.out 3).trans rfl; have hcz24_4 : w23.cell? ⟨gb307, 4, none⟩ = some (.int .i64 0) := (blk_cell BK307.out 4).trans rfl; have hcz24_5 : w23.cell? ⟨gb307, 5, none⟩ = some (.int .u8 0) := (blk_cell BK307.out 5).trans rfl; have hcz24_6 : w23.cell? ⟨gb307, 6, none⟩ = some (.int .u8 0) := (blk_cell BK307.out 6).trans rfl; have hcz24_7 : w23.cell? ⟨gb307, 7, none⟩ = some (.int .u64 0) := (blk_cell BK307.out 7).trans rfl; have hfz24_0 := blk_frozen BK307.out 0; have hfz24_1 := blk_frozen BK307.out 1; have hfz24_2 := blk_frozen BK307.out 2; have hfz24_3 := blk_frozen BK307.out 3; have hfz24_4 := blk_frozen BK307.out 4; have hfz24_5 := blk_frozen BK307.out 5; have hfz24_6 := blk_frozen BK307.out 6; have hfz24_7 := blk_frozen BK307.out 7) | ((with_reducible refine gate_callee (f := 9) rfl ?_); refine goesL_ (some 16) rfl rfl Tryd.func9 (by kernel_rfl) rfl #[.string a0] rfl (by (try simp only [List.map_toArray, List.map_cons, List.map_nil]); first | done | rfl | (simp only [List.length_drop, List.length_take]; rfl)) ?_; (with_reducible refine (weirgateref22_Line.calls k a0 t308 t309 t310 t311 t312 t313 t314 t315 t316 _ ?side1 A6.out).mono ?_); (case side1 => exact Laid.below hL (by repeat (first | (with_reducible first | exact HB.out | apply below_alloc | apply pw_below_drewN | apply below_drew1 | refine below_set ?_ GE307.out) | exact HB.out))); rintro e w25 ⟨rfl, hb⟩; refine ⟨_, rfl, ?_⟩; have n0_ := Aside0.mk (blk_below (g := gb307) (o := .cells #[.int .i64 t298, .int .i64 t299, .int .i64 t300, .int .i64 t301, .int .i64 t302, .int .u8 t303, .int .u8 t304, .int .u64 t305] 27 (0, 0)) (by (with_reducible repeat (first | refine blk_drewN ?_ _ | refine blk_drew ?_ | refine blk_alloc ?_ _)); refine blk_put (cs := #[.int .i64 t298, .int .i64 t299, .int .i64 t300, .int .i64 t301, .int .i64 t302, .int .u8 t303, .int .u8 t304, .int .u64 0]) ?_ 7 _ rfl; (with_reducible repeat (first | refine blk_drewN ?_ _ | refine blk_drew ?_ | refine blk_alloc ?_ _)); refine blk_put (cs := #[.int .i64 t298, .int .i64 t299, .int .i64 t300, .int .i64 t301, .int .i64 t302, .int .u8 t303, .int .u8 0, .int .u64 0]) ?_ 6 _ rfl; (with_reducible repeat (first | refine blk_drewN ?_ _ | refine blk_drew ?_ | refine blk_alloc ?_ _)); refine blk_put (cs := #[.int .i64 t298, .int .i64 t299, .int .i64 t300, .int .i64 t301, .int .i64 t302, .int .u8 0, .int .u8 0, .int .u64 0]) ?_ 5 _ rfl; (with_reducible repeat (first | refine blk_drewN ?_ _ | refine blk_drew ?_ | refine blk_alloc ?_ _)); refine blk_put (cs := #[.int .i64 t298, .int .i64 t299, .int .i64 t300, .int .i64 t301, .int .i64 0, .int .u8 0, .int .u8 0, .int .u64 0]) ?_ 4 _ rfl; (with_reducible repeat (first | refine blk_drewN ?_ _ | refine blk_drew ?_ | refine blk_alloc ?_ _)); refine blk_put (cs := #[.int .i64 t298, .int .i64 t299, .int .i64 t300, .int .i64 0, .int .i64 0, .int .u8 0, .int .u8 0, .int .u64 0]) ?_ 3 _ rfl; (with_reducible repeat (first | refine blk_drewN ?_ _ | refine blk_drew ?_ | refine blk_alloc ?_ _)); refine blk_put (cs := #[.int .i64 t298, .int .i64 t299, .int .i64 0, .int .i64 0, .int .i64 0, .int .u8 0, .int .u8 0, .int .u64 0]) ?_ 2 _ rfl; (with_reducible repeat (first | refine blk_drewN ?_ _ | refine blk_drew ?_ | refine blk_alloc ?_ _)); refine blk_put (cs := #[.int .i64 t298, .int .i64 0, .int .i64 0, .int .i64 0, .int .i64 0, .int .u8 0, .int .u8 0, .int .u64 0]) ?_ 1 _ rfl; (with_reducible repeat (first | refine blk_drewN ?_ _ | refine blk_drew ?_ | refine blk_alloc ?_ _)); refine blk_put (cs := #[.int .i64 0, .int .i64 0, .int .i64 0, .int .i64 0, .int .i64 0, .int .u8 0, .int .u8 0, .int .u64 0]) ?_ 0 _ rfl; (with_reducible repeat (first | refine blk_drewN ?_ _ | refine blk_drew ?_ | refine blk_alloc ?_ _)); exact BK307.out) hb); have n1_ := Aside0.mk (below_step (by repeat (first | (with_reducible first | exact HB.out | apply below_alloc | apply pw_below_drewN | apply below_drew1 | refine below_set ?_ GE307.out) | exact HB.out)) hb); clear BK307; clear HB; have BK307 := n0_; have HB := n1_; clear n0_ n1_; (try clear hb); (try clear hb2); (try clear hk); (try clear hi); (try clear A6)) | ((with_reducible refine gate_dst (N := 5) rfl ?_); refine box_event ?hg (N := 5) ?hd (cs := #[.int .i64 0, .int .i64 0, .int .i64 0, .int .i64 0, .int .i64 0, .int .u8 0, .int .u8 0, .int .u64 0, .int .i64 0]) (t := 34) ?hr ?_; (case hd => rfl); (case hg => rfl); (case hr => first | (go_simp; done) | (go_simp; rfl)); intro gb317 hg w26 hbox hb; have n0_ := Aside0.mk (blk_below (g := gb307) (o := .cells #[.int .i64 t298, .int .i64 t299, .int .i64 t300, .int .i64 t301, .int .i64 t302, .int .u8 t303, .int .u8 t304, .int .u64 t305] 27 (0, 0)) (by (with_reducible repeat (first | refine blk_drewN ?_ _ | refine blk_drew ?_ | refine blk_alloc ?_ _)); exact BK307.out) hb); have n1_ := Aside0.mk (below_step (by repeat (first | (with_reducible first | exact HB.out | apply below_alloc | apply pw_below_drewN | apply below_drew1 | refine below_set ?_ GE307.out) | exact HB.out)) hb); have n2_ := Aside0.mk (hbox); have n3_ := Aside0.mk ((by rw [hg]; exact (below_size (by repeat (first | (with_reducible first | exact HB.out | apply below_alloc | apply pw_below_drewN | apply below_drew1 | refine below_set ?_ GE307.out) | exact HB.out))) : w.heap.size ≤ gb317)); have n4_ := Aside0.mk ((by rw [hg]; exact (below_size (by repeat (first | (with_reducible first | exact HB.out | apply below_alloc | apply pw_below_drewN | apply below_drew1 | refine below_set ?_ GE307.out) | exact HB.out))) : w.heap.size ≤ gb317)); have n5_ := Aside0.mk ((by rw [hg]; exact Nat.ne_of_lt (blk_lt (g := gb307) (o := .cells #[.int .i64 t298, .int .i64 t299, .int .i64 t300, .int .i64 t301, .int .i64 t302, .int .u8 t303, .int .u8 t304, .int .u64 t305] 27 (0, 0)) (by (with_reducible repeat (first | refine blk_drewN ?_ _ | refine blk_drew ?_ | refine blk_alloc ?_ _)); exact BK307.out)) : gb307 ≠ gb317)); have n6_ := Aside0.mk ((by rw [hg]; exact Nat.ne_of_gt (blk_lt (g := gb307) (o := .cells #[.int .i64 t298, .int .i64 t299, .int .i64 t300, .int .i64 t301, .int .i64 t302, .int .u8 t303, .int .u8 t304, .int .u64 t305] 27 (0, 0)) (by (with_reducible repeat (first | refine blk_drewN ?_ _ | refine blk_drew ?_ | refine blk_alloc ?_ _)); exact BK307.out)) : gb317 ≠ gb307)); clear BK307; clear HB; have BK307 := n0_; have HB := n1_; have BK317 := n2_; have GW317 := n3_; have GE317 := n4_; have NB307_317 := n5_; have NB317_307 := n6_; clear n0_ n1_ n2_ n3_ n4_ n5_ n6_; clear hb hbox hg; have hnb27 := NB317_307.out; have hnc27 := NB307_317.out; have hcz28_0 : w26.cell? ⟨gb317, 0, none⟩ = some (.int .i64 0) := (blk_cell BK317.out 0).trans rfl; have hcz28_1 : w26.cell? ⟨gb317, 1, none⟩ = some (.int .i64 0) := (blk_cell BK317.out 1).trans rfl; have hcz28_2 : w26.cell? ⟨gb317, 2, none⟩ = some (.int .i64 0) := (blk_cell BK317.out 2).trans rfl; have hcz28_3 : w26.cell? ⟨gb317, 3, none⟩ = some (.int .i64 0) := (blk_cell BK317.out 3).trans rfl; have hcz28_4 : w26.cell? ⟨gb317, 4, none⟩ = some (.int .i64 0) := (blk_cell BK317.out 4).trans rfl; have hcz28_5 : w26.cell? ⟨gb317, 5, none⟩ = some (.int .u8 0) := (blk_cell BK317.out 5).trans rfl; have hcz28_6 : w26.cell? ⟨gb317, 6, none⟩ = some (.int .u8 0) := (blk_cell BK317.out 6).trans rfl; have hcz28_7 : w26.cell? ⟨gb317, 7, none⟩ = some (.int .u64 0) := (blk_cell BK317.out 7).trans rfl; have hcz28_8 : w26.cell? ⟨gb317, 8, none⟩ = some (.int .i64 0) := (blk_cell BK317.out 8).trans rfl; have hfz28_0 := blk_frozen BK317.out 0; have hfz28_1 := blk_frozen BK317.out 1; have hfz28_2 := blk_frozen BK317.out 2; have hfz28_3 := blk_frozen BK317.out 3; have hfz28_4 := blk_frozen BK317.out 4; have hfz28_5 := blk_frozen BK317.out 5; have hfz28_6 := blk_frozen BK317.out 6; have hfz28_7 := blk_frozen BK317.out 7; have hfz28_8 := blk_frozen BK317.out 8))
    have n0_ : Aside0 ((((((((((w26.setCell ⟨gb317, 0, none⟩ (.int .i64 t308)).setCell ⟨gb317, 1, none⟩ (.int .i64 t309)).setCell ⟨gb317, 2, none⟩ (.int .i64 t310)).setCell ⟨gb317, 3, none⟩ (.int .i64 t311)).setCell ⟨gb317, 4, none⟩ (.int .i64 t312)).setCell ⟨gb317, 5, none⟩ (.int .u8 t313)).setCell ⟨gb317, 6, none⟩ (.int .u8 t314)).setCell ⟨gb317, 7, none⟩ (.int .u64 t315)).setCell ⟨gb317, 8, none⟩ (.int .i64 t316)).heap[gb307]? = some (.cells #[.int .i64 t298, .int .i64 t299, .int .i64 t300, .int .i64 t301, .int .i64 t302, .int .u8 t303, .int .u8 t304, .int .u64 t305] 27 (0, 0))) := ⟨by (with_reducible repeat (first | refine blk_drewN ?_ _ | refine blk_drew ?_ | refine blk_alloc ?_ _)); refine blk_far ?_ NB307_317.out _; (with_reducible repeat (first | refine blk_drewN ?_ _ | refine blk_drew ?_ | refine blk_alloc ?_ _)); refine blk_far ?_ NB307_317.out _; (with_reducible repeat (first | refine blk_drewN ?_ _ | refine blk_drew ?_ | refine blk_alloc ?_ _)); refine blk_far ?_ NB307_317.out _; (with_reducible repeat (first | refine blk_drewN ?_ _ | refine blk_drew ?_ | refine blk_alloc ?_ _)); refine blk_far ?_ NB307_317.out _; (with_reducible repeat (first | refine blk_drewN ?_ _ | refine blk_drew ?_ | refine blk_alloc ?_ _)); refine blk_far ?_ NB307_317.out _; (with_reducible repeat (first | refine blk_drewN ?_ _ | refine blk_drew ?_ | refine blk_alloc ?_ _)); refine blk_far ?_ NB307_317.out _; (with_reducible repeat (first | refine blk_drewN ?_ _ | refine blk_drew ?_ | refine blk_alloc ?_ _)); refine blk_far ?_ NB307_317.out _; (with_reducible repeat (first | refine blk_drewN ?_ _ | refine blk_drew ?_ | refine blk_alloc ?_ _)); refine blk_far ?_ NB307_317.out _; (with_reducible repeat (first | refine blk_drewN ?_ _ | refine blk_drew ?_ | refine blk_alloc ?_ _)); refine blk_far ?_ NB307_317.out _; (with_reducible repeat (first | refine blk_drewN ?_ _ | refine blk_drew ?_ | refine blk_alloc ?_ _)); exact BK307.out⟩
    have n1_ : Aside0 ((((((((((w26.setCell ⟨gb317, 0, none⟩ (.int .i64 t308)).setCell ⟨gb317, 1, none⟩ (.int .i64 t309)).setCell ⟨gb317, 2, none⟩ (.int .i64 t310)).setCell ⟨gb317, 3, none⟩ (.int .i64 t311)).setCell ⟨gb317, 4, none⟩ (.int .i64 t312)).setCell ⟨gb317, 5, none⟩ (.int .u8 t313)).setCell ⟨gb317, 6, none⟩ (.int .u8 t314)).setCell ⟨gb317, 7, none⟩ (.int .u64 t315)).setCell ⟨gb317, 8, none⟩ (.int .i64 t316)).heap[gb317]? = some (.cells #[.int .i64 t308, .int .i64 t309, .int .i64 t310, .int .i64 t311, .int .i64 t312, .int .u8 t313, .int .u8 t314, .int .u64 t315, .int .i64 t316] 34 (0, 0))) := ⟨by (with_reducible repeat (first | refine blk_drewN ?_ _ | refine blk_drew ?_ | refine blk_alloc ?_ _)); refine blk_put (cs := #[.int .i64 t308, .int .i64 t309, .int .i64 t310, .int .i64 t311, .int .i64 t312, .int .u8 t313, .int .u8 t314, .int .u64 t315, .int .i64 0]) ?_ 8 _ rfl; (with_reducible repeat (first | refine blk_drewN ?_ _ | refine blk_drew ?_ | refine blk_alloc ?_ _)); refine blk_put (cs := #[.int .i64 t308, .int .i64 t309, .int .i64 t310, .int .i64 t311, .int .i64 t312, .int .u8 t313, .int .u8 t314, .int .u64 0, .int .i64 0]) ?_ 7 _ rfl; (with_reducible repeat (first | refine blk_drewN ?_ _ | refine blk_drew ?_ | refine blk_alloc ?_ _)); refine blk_put (cs := #[.int .i64 t308, .int .i64 t309, .int .i64 t310, .int .i64 t311, .int .i64 t312, .int .u8 t313, .int .u8 0, .int .u64 0, .int .i64 0]) ?_ 6 _ rfl; (with_reducible repeat (first | refine blk_drewN ?_ _ | refine blk_drew ?_ | refine blk_alloc ?_ _)); refine blk_put (cs := #[.int .i64 t308, .int .i64 t309, .int .i64 t310, .int .i64 t311, .int .i64 t312, .int .u8 0, .int .u8 0, .int .u64 0, .int .i64 0]) ?_ 5 _ rfl; (with_reducible repeat (first | refine blk_drewN ?_ _ | refine blk_drew ?_ | refine blk_alloc ?_ _)); refine blk_put (cs := #[.int .i64 t308, .int .i64 t309, .int .i64 t310, .int .i64 t311, .int .i64 0, .int .u8 0, .int .u8 0, .int .u64 0, .int .i64 0]) ?_ 4 _ rfl; (with_reducible repeat (first | refine blk_drewN ?_ _ | refine blk_drew ?_ | refine blk_alloc ?_ _)); refine blk_put (cs := #[.int .i64 t308, .int .i64 t309, .int .i64 t310, .int .i64 0, .int .i64 0, .int .u8 0, .int .u8 0, .int .u64 0, .int .i64 0]) ?_ 3 _ rfl; (with_reducible repeat (first | refine blk_drewN ?_ _ | refine blk_drew ?_ | refine blk_alloc ?_ _)); refine blk_put (cs := #[.int .i64 t308, .int .i64 t309, .int .i64 0, .int .i64 0, .int .i64 0, .int .u8 0, .int .u8 0, .int .u64 0, .int .i64 0]) ?_ 2 _ rfl; (with_reducible repeat (first | refine blk_drewN ?_ _ | refine blk_drew ?_ | refine blk_alloc ?_ _)); refine blk_put (cs := #[.int .i64 t308, .int .i64 0, .int .i64 0, .int .i64 0, .int .i64 0, .int .u8 0, .int .u8 0, .int .u64 0, .int .i64 0]) ?_ 1 _ rfl; (with_reducible repeat (first | refine blk_drewN ?_ _ | refine blk_drew ?_ | refine blk_alloc ?_ _)); refine blk_put (cs := #[.int .i64 0, .int .i64 0, .int .i64 0, .int .i64 0, .int .i64 0, .int .u8 0, .int .u8 0, .int .u64 0, .int .i64 0]) ?_ 0 _ rfl; (with_reducible repeat (first | refine blk_drewN ?_ _ | refine blk_drew ?_ | refine blk_alloc ?_ _)); exact BK317.out⟩
    have n2_ : Aside0 (Below w.heap.size w (((((((((w26.setCell ⟨gb317, 0, none⟩ (.int .i64 t308)).setCell ⟨gb317, 1, none⟩ (.int .i64 t309)).setCell ⟨gb317, 2, none⟩ (.int .i64 t310)).setCell ⟨gb317, 3, none⟩ (.int .i64 t311)).setCell ⟨gb317, 4, none⟩ (.int .i64 t312)).setCell ⟨gb317, 5, none⟩ (.int .u8 t313)).setCell ⟨gb317, 6, none⟩ (.int .u8 t314)).setCell ⟨gb317, 7, none⟩ (.int .u64 t315)).setCell ⟨gb317, 8, none⟩ (.int .i64 t316))) := ⟨by repeat (first | (with_reducible first | exact HB.out | apply below_alloc | apply pw_below_drewN | apply below_drew1 | refine below_set ?_ GE307.out | refine below_set ?_ GE317.out) | exact HB.out)⟩
    (try clear BK307)
    (try clear BK317)
    (try clear HB)
    generalize (((((((((w26.setCell ⟨gb317, 0, none⟩ (.int .i64 t308)).setCell ⟨gb317, 1, none⟩ (.int .i64 t309)).setCell ⟨gb317, 2, none⟩ (.int .i64 t310)).setCell ⟨gb317, 3, none⟩ (.int .i64 t311)).setCell ⟨gb317, 4, none⟩ (.int .i64 t312)).setCell ⟨gb317, 5, none⟩ (.int .u8 t313)).setCell ⟨gb317, 6, none⟩ (.int .u8 t314)).setCell ⟨gb317, 7, none⟩ (.int .u64 t315)).setCell ⟨gb317, 8, none⟩ (.int .i64 t316)) = w29 at n0_ n1_ n2_ ⊢
    have BK307 := n0_
    have BK317 := n1_
    have HB := n2_
    clear n0_ n1_ n2_
    have n0_ := Aside0.mk (blk_drew BK307.out)
    have n1_ := Aside0.mk (blk_drew BK317.out)
    have n2_ := Aside0.mk (below_drew1 HB.out)
    clear BK307
    clear BK317
    clear HB
    have BK307 := n0_
    have BK317 := n1_
    have HB := n2_
    clear n0_ n1_ n2_
    refine start_ (n := 15) (S := fun w' => w'.cell? ⟨gb307, 0, none⟩ = some (.int .i64 t298) ∧ w'.cell? ⟨gb307, 1, none⟩ = some (.int .i64 t299) ∧ w'.cell? ⟨gb307, 2, none⟩ = some (.int .i64 t300) ∧ w'.cell? ⟨gb307, 3, none⟩ = some (.int .i64 t301) ∧ w'.cell? ⟨gb307, 4, none⟩ = some (.int .i64 t302) ∧ w'.cell? ⟨gb307, 5, none⟩ = some (.int .u8 t303) ∧ w'.cell? ⟨gb307, 6, none⟩ = some (.int .u8 t304) ∧ w'.cell? ⟨gb307, 7, none⟩ = some (.int .u64 t305) ∧ w'.cell? ⟨gb317, 0, none⟩ = some (.int .i64 t308) ∧ w'.cell? ⟨gb317, 1, none⟩ = some (.int .i64 t309) ∧ w'.cell? ⟨gb317, 2, none⟩ = some (.int .i64 t310) ∧ w'.cell? ⟨gb317, 3, none⟩ = some (.int .i64 t311) ∧ w'.cell? ⟨gb317, 4, none⟩ = some (.int .i64 t312) ∧ w'.cell? ⟨gb317, 5, none⟩ = some (.int .u8 t313) ∧ w'.cell? ⟨gb317, 6, none⟩ = some (.int .u8 t314) ∧ w'.cell? ⟨gb317, 7, none⟩ = some (.int .u64 t315) ∧ w'.cell? ⟨gb317, 8, none⟩ = some (.int .i64 t316)) (ds := []) #[false, false, false, false, false, false, false, false, false, false, false, false, false, false, false] (by kernel_rfl) rfl rfl ⟨(blk_cell BK307.out 0).trans rfl, (blk_cell BK307.out 1).trans rfl, (blk_cell BK307.out 2).trans rfl, (blk_cell BK307.out 3).trans rfl, (blk_cell BK307.out 4).trans rfl, (blk_cell BK307.out 5).trans rfl, (blk_cell BK307.out 6).trans rfl, (blk_cell BK307.out 7).trans rfl, (blk_cell BK317.out 0).trans rfl, (blk_cell BK317.out 1).trans rfl, (blk_cell BK317.out 2).trans rfl, (blk_cell BK317.out 3).trans rfl, (blk_cell BK317.out 4).trans rfl, (blk_cell BK317.out 5).trans rfl, (blk_cell BK317.out 6).trans rfl, (blk_cell BK317.out 7).trans rfl, (blk_cell BK317.out 8).trans rfl⟩ (fun hHeld => ?_); refine with_tabW weirgatelaw22_ParseLines.tab5 weirgatelaw22_ParseLines.bits5 (fun HT_ HW_ => ?_)
    generalize w29.drew = w30 at BK307 BK317 HB hHeld ⊢
    refine pure_ (i := 2) (N := some 19) (v := ?_) (a' := ?_) #[false, false, true, false, false, false, false, false, false, false, false, false, false, false, false] rfl rfl (any_of HT_.out (by kernel_rfl)) (fun _ _ _ h => h) (Or.inl ⟨by rfl, ?_⟩) ?_ ?_
    rotate_left
    ·intro w'
     go_simp
     with_reducible rfl
    rotate_left
    ·simp only [Act.put, List.setIfInBounds_toArray, List.set_cons_zero, List.set_cons_succ, i64_w, i32_w]
     rfl
    refine take_ (i := 0) (N := some 17) (v := ?_) (a' := ?_) #[true, false, true, false, false, false, false, false, false, false, false, false, false, false, false] rfl rfl (take_ofW HT_.out HW_.out (by kernel_rfl)) (fun _ _ _ h => h) (Or.inl ⟨by rfl, ?_⟩) hHeld ?_ ?_
    rotate_left
    ·rintro w' ⟨s0, s1, s2, s3, s4, s5, s6, s7, s8, s9, s10, s11, s12, s13, s14, s15, s16⟩
     go_simp
     with_reducible rfl
    rotate_left
    ·simp only [Act.put, List.setIfInBounds_toArray, List.set_cons_zero, List.set_cons_succ, i64_w, i32_w]
     rfl
    refine take_ (i := 3) (N := some 20) (v := ?_) (a' := ?_) #[true, false, true, true, false, false, false, false, false, false, false, false, false, false, false] rfl rfl (take_ofW HT_.out HW_.out (by kernel_rfl)) (fun _ _ _ h => h) (Or.inl ⟨by rfl, ?_⟩) hHeld ?_ ?_
    rotate_left
    ·rintro w' ⟨s0, s1, s2, s3, s4, s5, s6, s7, s8, s9, s10, s11, s12, s13, s14, s15, s16⟩
     go_simp
     with_reducible rfl
    rotate_left
    ·simp only [Act.put, List.setIfInBounds_toArray, List.set_cons_zero, List.set_cons_succ, i64_w, i32_w]
     rfl
    refine one_ (i := 1) (N := some 18) #[true, true, true, true, false, false, false, false, false, false, false, false, false, false, false] rfl rfl (one_of HT_.out (by kernel_rfl)) (by decide) (fun K hK => ?_)
    refine goes_ Tryd.func10 (by kernel_rfl) rfl #[.agg #[.int .i64 t298, .int .i64 t299, .int .i64 t300, .int .i64 t301, .int .i64 t302, .int .u8 t303, .int .u8 t304, .int .u64 t305]] (by rfl) rfl rfl (by (try simp only [List.map_toArray, List.map_cons, List.map_nil]); first | done | rfl | (simp only [List.length_drop, List.length_take]; rfl)) ?_
    with_reducible refine (weirgatelaw22_Own.calls t298 t299 t300 t301 t302 t303 t304 t305 t318 t319 t320 t321 t322 t323 t324 t325 _ ?side1 A7.out).mono ?_
    (case side1 => exact Laid.below hL (by repeat (first | (with_reducible first | exact HB.out | apply below_alloc | apply pw_below_drewN | apply below_drew1 | refine below_set ?_ GE307.out | refine below_set ?_ GE317.out) | exact HB.out)))
    rintro e w31 ⟨rfl, hb⟩
    refine ⟨_, rfl, ?_⟩
    have n0_ := Aside0.mk (blk_below (g := gb307) (o := .cells #[.int .i64 t298, .int .i64 t299, .int .i64 t300, .int .i64 t301, .int .i64 t302, .int .u8 t303, .int .u8 t304, .int .u64 t305] 27 (0, 0)) (by (with_reducible repeat (first | refine blk_drewN ?_ _ | refine blk_drew ?_ | refine blk_alloc ?_ _)); exact BK307.out) hb)
    have n1_ := Aside0.mk (blk_below (g := gb317) (o := .cells #[.int .i64 t308, .int .i64 t309, .int .i64 t310, .int .i64 t311, .int .i64 t312, .int .u8 t313, .int .u8 t314, .int .u64 t315, .int .i64 t316] 34 (0, 0)) (by (with_reducible repeat (first | refine blk_drewN ?_ _ | refine blk_drew ?_ | refine blk_alloc ?_ _)); exact BK317.out) hb)
    have n2_ := Aside0.mk (below_step (by repeat (first | (with_reducible first | exact HB.out | apply below_alloc | apply pw_below_drewN | apply below_drew1 | refine below_set ?_ GE307.out | refine below_set ?_ GE317.out) | exact HB.out)) hb)
    clear BK307
    clear BK317
    clear HB
    have BK307 := n0_
    have BK317 := n1_
    have HB := n2_
    clear n0_ n1_ n2_
    (try clear hb)
    (try clear hb2)
    (try clear hk)
    (try clear hi)
    (try clear A7)
    refine hK.out _ _ ⟨(blk_cell BK307.out 0).trans rfl, (blk_cell BK307.out 1).trans rfl, (blk_cell BK307.out 2).trans rfl, (blk_cell BK307.out 3).trans rfl, (blk_cell BK307.out 4).trans rfl, (blk_cell BK307.out 5).trans rfl, (blk_cell BK307.out 6).trans rfl, (blk_cell BK307.out 7).trans rfl, (blk_cell BK317.out 0).trans rfl, (blk_cell BK317.out 1).trans rfl, (blk_cell BK317.out 2).trans rfl, (blk_cell BK317.out 3).trans rfl, (blk_cell BK317.out 4).trans rfl, (blk_cell BK317.out 5).trans rfl, (blk_cell BK317.out 6).trans rfl, (blk_cell BK317.out 7).trans rfl, (blk_cell BK317.out 8).trans rfl⟩ (fun hHeld => ?_)
    clear hK K
    refine norm_ (a' := ?_) ?_ ?_
    rotate_left
    ·show Act.put _ (some 18) _ = _
     simp only [Act.put, List.setIfInBounds_toArray, List.set_cons_zero, List.set_cons_succ, i64_w, i32_w]
     rfl
    refine pure_ (i := 4) (N := some 21) (v := ?_) (a' := ?_) #[true, true, true, true, true, false, false, false, false, false, false, false, false, false, false] rfl rfl (any_of HT_.out (by kernel_rfl)) (fun _ _ _ h => h) (Or.inl ⟨by rfl, ?_⟩) ?_ ?_
    rotate_left
    ·intro w'
     go_simp
     with_reducible rfl
    rotate_left
    ·simp only [Act.put, List.setIfInBounds_toArray, List.set_cons_zero, List.set_cons_succ, i64_w, i32_w]
     rfl
    refine pure_ (i := 5) (N := some 22) (v := ?_) (a' := ?_) #[true, true, true, true, true, true, false, false, false, false, false, false, false, false, false] rfl rfl (any_of HT_.out (by kernel_rfl)) (fun _ _ _ h => h) (Or.inl ⟨by rfl, ?_⟩) ?_ ?_
    rotate_left
    ·intro w'
     go_simp
     with_reducible rfl
    rotate_left
    ·simp only [Act.put, List.setIfInBounds_toArray, List.set_cons_zero, List.set_cons_succ, i64_w, i32_w]
     rfl
    refine pure_ (i := 6) (N := some 23) (v := ?_) (a' := ?_) #[true, true, true, true, true, true, true, false, false, false, false, false, false, false, false] rfl rfl (any_of HT_.out (by kernel_rfl)) (fun _ _ _ h => h) (Or.inl ⟨by rfl, ?_⟩) ?_ ?_
    rotate_left
    ·intro w'
     go_simp
     with_reducible rfl
    rotate_left
    ·simp only [Act.put, List.setIfInBounds_toArray, List.set_cons_zero, List.set_cons_succ, i64_w, i32_w]
     rfl
    refine pure_ (i := 7) (N := some 24) (v := ?_) (a' := ?_) #[true, true, true, true, true, true, true, true, false, false, false, false, false, false, false] rfl rfl (any_of HT_.out (by kernel_rfl)) (fun _ _ _ h => h) (Or.inl ⟨by rfl, ?_⟩) ?_ ?_
    rotate_left
    ·intro w'
     go_simp
     with_reducible rfl
    rotate_left
    ·simp only [Act.put, List.setIfInBounds_toArray, List.set_cons_zero, List.set_cons_succ, i64_w, i32_w]
     rfl
    refine take_ (i := 8) (N := some 25) (v := ?_) (a' := ?_) #[true, true, true, true, true, true, true, true, true, false, false, false, false, false, false] rfl rfl (take_ofW HT_.out HW_.out (by kernel_rfl)) (fun _ _ _ h => h) (Or.inl ⟨by rfl, ?_⟩) hHeld ?_ ?_
    rotate_left
    ·rintro w' ⟨s0, s1, s2, s3, s4, s5, s6, s7, s8, s9, s10, s11, s12, s13, s14, s15, s16⟩
     go_simp
     with_reducible rfl
    rotate_left
    ·simp only [Act.put, List.setIfInBounds_toArray, List.set_cons_zero, List.set_cons_succ, i64_w, i32_w]
     rfl
    refine pure_ (i := 9) (N := some 26) (v := ?_) (a' := ?_) #[true, true, true, true, true, true, true, true, true, true, false, false, false, false, false] rfl rfl (any_of HT_.out (by kernel_rfl)) (fun _ _ _ h => h) (Or.inl ⟨by rfl, ?_⟩) ?_ ?_
    rotate_left
    ·intro w'
     go_simp
     with_reducible rfl
    rotate_left
    ·simp only [Act.put, List.setIfInBounds_toArray, List.set_cons_zero, List.set_cons_succ, i64_w, i32_w]
     rfl
    refine pure_ (i := 10) (N := some 27) (v := ?_) (a' := ?_) #[true, true, true, true, true, true, true, true, true, true, true, false, false, false, false] rfl rfl (any_of HT_.out (by kernel_rfl)) (fun _ _ _ h => h) (Or.inl ⟨by rfl, ?_⟩) ?_ ?_
    rotate_left
    ·intro w'
     go_simp
     with_reducible rfl
    rotate_left
    ·simp only [Act.put, List.setIfInBounds_toArray, List.set_cons_zero, List.set_cons_succ, i64_w, i32_w]
     rfl
    refine pure_ (i := 11) (N := some 28) (v := ?_) (a' := ?_) #[true, true, true, true, true, true, true, true, true, true, true, true, false, false, false] rfl rfl (any_of HT_.out (by kernel_rfl)) (fun _ _ _ h => h) (Or.inl ⟨by rfl, ?_⟩) ?_ ?_
    rotate_left
    ·intro w'
     go_simp
     with_reducible rfl
    rotate_left
    ·simp only [Act.put, List.setIfInBounds_toArray, List.set_cons_zero, List.set_cons_succ, i64_w, i32_w]
     rfl
    refine pure_ (i := 12) (N := some 29) (v := undef) (a' := ?_) #[true, true, true, true, true, true, true, true, true, true, true, true, true, false, false] rfl rfl (any_of HT_.out (by kernel_rfl)) (fun _ _ _ h => h) (Or.inr ⟨by rfl, rfl⟩) ?_ ?_
    rotate_left
    ·simp only [Act.put, List.setIfInBounds_toArray, List.set_cons_zero, List.set_cons_succ, i64_w, i32_w]
     rfl
    refine pure_ (i := 13) (N := some 30) (v := ?_) (a' := ?_) #[true, true, true, true, true, true, true, true, true, true, true, true, true, true, false] rfl rfl (any_of HT_.out (by kernel_rfl)) (fun _ _ _ h => h) (Or.inl ⟨by rfl, ?_⟩) ?_ ?_
    rotate_left
    ·intro w'
     go_simp
     with_reducible rfl
    rotate_left
    ·simp only [Act.put, List.setIfInBounds_toArray, List.set_cons_zero, List.set_cons_succ, i64_w, i32_w]
     rfl
    refine pure_ (i := 14) (N := some 2) (v := ?_) (a' := ?_) #[true, true, true, true, true, true, true, true, true, true, true, true, true, true, true] rfl rfl (any_of HT_.out (by kernel_rfl)) (fun _ _ _ h => h) (Or.inl ⟨by rfl, ?_⟩) ?_ ?_
    rotate_left
    ·intro w'
     go_simp
     with_reducible rfl
    rotate_left
    ·simp only [Act.put, List.setIfInBounds_toArray, List.set_cons_zero, List.set_cons_succ, i64_w, i32_w]
     rfl
    refine done_ (done_of HT_.out (by kernel_rfl)) ?_
    try go_wp2
    go_ret
    exact ⟨by first | rfl | (simp [errW_none, errW_some] <;> rfl) | (simp [*, errW_none, errW_some] <;> rfl), by repeat (first | (with_reducible first | exact HB.out | apply below_alloc | apply pw_below_drewN | apply below_drew1 | refine below_set ?_ GE307.out | refine below_set ?_ GE317.out) | exact HB.out)⟩
  ·rw [if_neg c8] at H
   have c8b0 : (t318 == t308 && ((t319 == t309 && (t320 == t310 && (t321 == t311 && (t322 == t312 && (t323 == t313 && (t324 == t314 && (t325 == t315))))))))) = false := by simpa using c8
   (try (have c8b1 : decide (t318 = t308 && ((t319 == t309 && (t320 == t310 && (t321 == t311 && (t322 == t312 && (t323 == t313 && (t324 == t314 && (t325 == t315))))))))) = false := by simpa using c8))
   (try (have c8b2 : (t318 == t308 && ((t319 == t309 && (t320 == t310 && (t321 == t311 && (t322 == t312 && (t323 == t313 && (t324 == t314 && (t325 == t315))))))))) = false := by simpa using c8))
   (try (have c8b3 : ¬ (t318 = t308 && ((t319 == t309 && (t320 == t310 && (t321 == t311 && (t322 == t312 && (t323 == t313 && (t324 == t314 && (t325 == t315))))))))) := by simpa using c8))
   clear c8
   obtain rfl := Option.some.inj H
   go_enter Tryd.func3, Tryd.ntmps3
   try go_wp2_with (first | ((with_reducible refine gate_callee (f := 8) rfl ?_); refine goesL_ (some 12) rfl rfl Tryd.func8 (by kernel_rfl) rfl #[.string a0] rfl (by (try simp only [List.map_toArray, List.map_cons, List.map_nil]); first | done | rfl | (simp only [List.length_drop, List.length_take]; rfl)) ?_; (with_reducible refine (parse_Line.calls k a0 t298 t299 t300 t301 t302 t303 t304 t305 t306 _ ?side1 A5.out).mono ?_); (case side1 => exact Laid.below hL (by repeat (first | (with_reducible first | exact HB.out | apply below_alloc | apply pw_below_drewN | apply below_drew1) | exact HB.out))); rintro e w32 ⟨rfl, hb⟩; refine ⟨_, rfl, ?_⟩; have n0_ := Aside0.mk (below_step (by repeat (first | (with_reducible first | exact HB.out | apply below_alloc | apply pw_below_drewN | apply below_drew1) | exact HB.out)) hb); clear HB; have HB := n0_; clear n0_; (try clear hb); (try clear hb2); (try clear hk); (try clear hi); (try clear A5)) | ((with_reducible refine gate_dst (N := 3) rfl ?_); refine box_event ?hg (N := 3) ?hd (cs := #[.int .i64 0, .int .i64 0, .int .i64 0, .int .i64 0, .int .i64 0, .int .u8 0, .int .u8 0, .int .u64 0]) (t := 27) ?hr ?_; (case hd => rfl); (case hg => rfl); (case hr => first | (go_simp; done) | (go_simp; rfl)); intro gb307 hg w33 hbox hb; have n0_ := Aside0.mk (below_step (by repeat (first | (with_reducible first | exact HB.out | apply below_alloc | apply pw_below_drewN | apply below_drew1) | exact HB.out)) hb); have n1_ := Aside0.mk (hbox); have n2_ := Aside0.mk ((by rw [hg]; exact (below_size (by repeat (first | (with_reducible first | exact HB.out | apply below_alloc | apply pw_below_drewN | apply below_drew1) | exact HB.out))) : w.heap.size ≤ gb307)); have n3_ := Aside0.mk ((by rw [hg]; exact (below_size (by repeat (first | (with_reducible first | exact HB.out | apply below_alloc | apply pw_below_drewN | apply below_drew1) | exact HB.out))) : w.heap.size ≤ gb307)); clear HB; have HB := n0_; have BK307 := n1_; have GW307 := n2_; have GE307 := n3_; clear n0_ n1_ n2_ n3_; clear hb hbox hg; have hcz34_0 : w33.cell? ⟨gb307, 0, none⟩ = some (.int .i64 0) := (blk_cell BK307.out 0).trans rfl; have hcz34_1 : w33.cell? ⟨gb307, 1, none⟩ = some (.int .i64 0) := (blk_cell BK307.out 1).trans rfl; have hcz34_2 : w33.cell? ⟨gb307, 2, none⟩ = some (.int .i64 0) := (blk_cell BK307.out 2).trans rfl; have hcz34_3 : w33.cell? ⟨gb307, 3, none⟩ = some (.int .i64 0) := (blk_cell BK307.out 3).trans rfl; have hcz34_4 : w33.cell? ⟨gb307, 4, none⟩ = some (.int .i64 0) := (blk_cell BK307.out 4).trans rfl; have hcz34_5 : w33.cell? ⟨gb307, 5, none⟩ = some (.int .u8 0) := (blk_cell BK307.out 5).trans rfl; have hcz34_6 : w33.cell? ⟨gb307, 6, none⟩ = some (.int .u8 0) := (blk_cell BK307.out 6).trans rfl; have hcz34_7 : w33.cell? ⟨gb307, 7, none⟩ = some (.int .u64 0) := (blk_cell BK307.out 7).trans rfl; have hfz34_0 := blk_frozen BK307.out 0; have hfz34_1 := blk_frozen BK307.out 1; have hfz34_2 := blk_frozen BK307.out 2; have hfz34_3 := blk_frozen BK307.out 3; have hfz34_4 := blk_frozen BK307.out 4; have hfz34_5 := blk_frozen BK307.out 5; have hfz34_6 := blk_frozen BK307.out 6; have hfz34_7 := blk_frozen BK307.out 7) | ((with_reducible refine gate_callee (f := 9) rfl ?_); refine goesL_ (some 16) rfl rfl Tryd.func9 (by kernel_rfl) rfl #[.string a0] rfl (by (try simp only [List.map_toArray, List.map_cons, List.map_nil]); first | done | rfl | (simp only [List.length_drop, List.length_take]; rfl)) ?_; (with_reducible refine (weirgateref22_Line.calls k a0 t308 t309 t310 t311 t312 t313 t314 t315 t316 _ ?side1 A6.out).mono ?_); (case side1 => exact Laid.below hL (by repeat (first | (with_reducible first | exact HB.out | apply below_alloc | apply pw_below_drewN | apply below_drew1 | refine below_set ?_ GE307.out) | exact HB.out))); rintro e w35 ⟨rfl, hb⟩; refine ⟨_, rfl, ?_⟩; have n0_ := Aside0.mk (blk_below (g := gb307) (o := .cells #[.int .i64 t298, .int .i64 t299, .int .i64 t300, .int .i64 t301, .int .i64 t302, .int .u8 t303, .int .u8 t304, .int .u64 t305] 27 (0, 0)) (by (with_reducible repeat (first | refine blk_drewN ?_ _ | refine blk_drew ?_ | refine blk_alloc ?_ _)); refine blk_put (cs := #[.int .i64 t298, .int .i64 t299, .int .i64 t300, .int .i64 t301, .int .i64 t302, .int .u8 t303, .int .u8 t304, .int .u64 0]) ?_ 7 _ rfl; (with_reducible repeat (first | refine blk_drewN ?_ _ | refine blk_drew ?_ | refine blk_alloc ?_ _)); refine blk_put (cs := #[.int .i64 t298, .int .i64 t299, .int .i64 t300, .int .i64 t301, .int .i64 t302, .int .u8 t303, .int .u8 0, .int .u64 0]) ?_ 6 _ rfl; (with_reducible repeat (first | refine blk_drewN ?_ _ | refine blk_drew ?_ | refine blk_alloc ?_ _)); refine blk_put (cs := #[.int .i64 t298, .int .i64 t299, .int .i64 t300, .int .i64 t301, .int .i64 t302, .int .u8 0, .int .u8 0, .int .u64 0]) ?_ 5 _ rfl; (with_reducible repeat (first | refine blk_drewN ?_ _ | refine blk_drew ?_ | refine blk_alloc ?_ _)); refine blk_put (cs := #[.int .i64 t298, .int .i64 t299, .int .i64 t300, .int .i64 t301, .int .i64 0, .int .u8 0, .int .u8 0, .int .u64 0]) ?_ 4 _ rfl; (with_reducible repeat (first | refine blk_drewN ?_ _ | refine blk_drew ?_ | refine blk_alloc ?_ _)); refine blk_put (cs := #[.int .i64 t298, .int .i64 t299, .int .i64 t300, .int .i64 0, .int .i64 0, .int .u8 0, .int .u8 0, .int .u64 0]) ?_ 3 _ rfl; (with_reducible repeat (first | refine blk_drewN ?_ _ | refine blk_drew ?_ | refine blk_alloc ?_ _)); refine blk_put (cs := #[.int .i64 t298, .int .i64 t299, .int .i64 0, .int .i64 0, .int .i64 0, .int .u8 0, .int .u8 0, .int .u64 0]) ?_ 2 _ rfl; (with_reducible repeat (first | refine blk_drewN ?_ _ | refine blk_drew ?_ | refine blk_alloc ?_ _)); refine blk_put (cs := #[.int .i64 t298, .int .i64 0, .int .i64 0, .int .i64 0, .int .i64 0, .int .u8 0, .int .u8 0, .int .u64 0]) ?_ 1 _ rfl; (with_reducible repeat (first | refine blk_drewN ?_ _ | refine blk_drew ?_ | refine blk_alloc ?_ _)); refine blk_put (cs := #[.int .i64 0, .int .i64 0, .int .i64 0, .int .i64 0, .int .i64 0, .int .u8 0, .int .u8 0, .int .u64 0]) ?_ 0 _ rfl; (with_reducible repeat (first | refine blk_drewN ?_ _ | refine blk_drew ?_ | refine blk_alloc ?_ _)); exact BK307.out) hb); have n1_ := Aside0.mk (below_step (by repeat (first | (with_reducible first | exact HB.out | apply below_alloc | apply pw_below_drewN | apply below_drew1 | refine below_set ?_ GE307.out) | exact HB.out)) hb); clear BK307; clear HB; have BK307 := n0_; have HB := n1_; clear n0_ n1_; (try clear hb); (try clear hb2); (try clear hk); (try clear hi); (try clear A6)) | ((with_reducible refine gate_dst (N := 5) rfl ?_); refine box_event ?hg (N := 5) ?hd (cs := #[.int .i64 0, .int .i64 0, .int .i64 0, .int .i64 0, .int .i64 0, .int .u8 0, .int .u8 0, .int .u64 0, .int .i64 0]) (t := 34) ?hr ?_; (case hd => rfl); (case hg => rfl); (case hr => first | (go_simp; done) | (go_simp; rfl)); intro gb317 hg w36 hbox hb; have n0_ := Aside0.mk (blk_below (g := gb307) (o := .cells #[.int .i64 t298, .int .i64 t299, .int .i64 t300, .int .i64 t301, .int .i64 t302, .int .u8 t303, .int .u8 t304, .int .u64 t305] 27 (0, 0)) (by (with_reducible repeat (first | refine blk_drewN ?_ _ | refine blk_drew ?_ | refine blk_alloc ?_ _)); exact BK307.out) hb); have n1_ := Aside0.mk (below_step (by repeat (first | (with_reducible first | exact HB.out | apply below_alloc | apply pw_below_drewN | apply below_drew1 | refine below_set ?_ GE307.out) | exact HB.out)) hb); have n2_ := Aside0.mk (hbox); have n3_ := Aside0.mk ((by rw [hg]; exact (below_size (by repeat (first | (with_reducible first | exact HB.out | apply below_alloc | apply pw_below_drewN | apply below_drew1 | refine below_set ?_ GE307.out) | exact HB.out))) : w.heap.size ≤ gb317)); have n4_ := Aside0.mk ((by rw [hg]; exact (below_size (by repeat (first | (with_reducible first | exact HB.out | apply below_alloc | apply pw_below_drewN | apply below_drew1 | refine below_set ?_ GE307.out) | exact HB.out))) : w.heap.size ≤ gb317)); have n5_ := Aside0.mk ((by rw [hg]; exact Nat.ne_of_lt (blk_lt (g := gb307) (o := .cells #[.int .i64 t298, .int .i64 t299, .int .i64 t300, .int .i64 t301, .int .i64 t302, .int .u8 t303, .int .u8 t304, .int .u64 t305] 27 (0, 0)) (by (with_reducible repeat (first | refine blk_drewN ?_ _ | refine blk_drew ?_ | refine blk_alloc ?_ _)); exact BK307.out)) : gb307 ≠ gb317)); have n6_ := Aside0.mk ((by rw [hg]; exact Nat.ne_of_gt (blk_lt (g := gb307) (o := .cells #[.int .i64 t298, .int .i64 t299, .int .i64 t300, .int .i64 t301, .int .i64 t302, .int .u8 t303, .int .u8 t304, .int .u64 t305] 27 (0, 0)) (by (with_reducible repeat (first | refine blk_drewN ?_ _ | refine blk_drew ?_ | refine blk_alloc ?_ _)); exact BK307.out)) : gb317 ≠ gb307)); clear BK307; clear HB; have BK307 := n0_; have HB := n1_; have BK317 := n2_; have GW317 := n3_; have GE317 := n4_; have NB307_317 := n5_; have NB317_307 := n6_; clear n0_ n1_ n2_ n3_ n4_ n5_ n6_; clear hb hbox hg; have hnb37 := NB317_307.out; have hnc37 := NB307_317.out; have hcz38_0 : w36.cell? ⟨gb317, 0, none⟩ = some (.int .i64 0) := (blk_cell BK317.out 0).trans rfl; have hcz38_1 : w36.cell? ⟨gb317, 1, none⟩ = some (.int .i64 0) := (blk_cell BK317.out 1).trans rfl; have hcz38_2 : w36.cell? ⟨gb317, 2, none⟩ = some (.int .i64 0) := (blk_cell BK317.out 2).trans rfl; have hcz38_3 : w36.cell? ⟨gb317, 3, none⟩ = some (.int .i64 0) := (blk_cell BK317.out 3).trans rfl; have hcz38_4 : w36.cell? ⟨gb317, 4, none⟩ = some (.int .i64 0) := (blk_cell BK317.out 4).trans rfl; have hcz38_5 : w36.cell? ⟨gb317, 5, none⟩ = some (.int .u8 0) := (blk_cell BK317.out 5).trans rfl; have hcz38_6 : w36.cell? ⟨gb317, 6, none⟩ = some (.int .u8 0) := (blk_cell BK317.out 6).trans rfl; have hcz38_7 : w36.cell? ⟨gb317, 7, none⟩ = some (.int .u64 0) := (blk_cell BK317.out 7).trans rfl; have hcz38_8 : w36.cell? ⟨gb317, 8, none⟩ = some (.int .i64 0) := (blk_cell BK317.out 8).trans rfl; have hfz38_0 := blk_frozen BK317.out 0; have hfz38_1 := blk_frozen BK317.out 1; have hfz38_2 := blk_frozen BK317.out 2; have hfz38_3 := blk_frozen BK317.out 3; have hfz38_4 := blk_frozen BK317.out 4; have hfz38_5 := blk_frozen BK317.out 5; have hfz38_6 := blk_frozen BK317.out 6; have hfz38_7 := blk_frozen BK317.out 7; have hfz38_8 := blk_frozen BK317.out 8))
   have n0_ : Aside0 ((((((((((w36.setCell ⟨gb317, 0, none⟩ (.int .i64 t308)).setCell ⟨gb317, 1, none⟩ (.int .i64 t309)).setCell ⟨gb317, 2, none⟩ (.int .i64 t310)).setCell ⟨gb317, 3, none⟩ (.int .i64 t311)).setCell ⟨gb317, 4, none⟩ (.int .i64 t312)).setCell ⟨gb317, 5, none⟩ (.int .u8 t313)).setCell ⟨gb317, 6, none⟩ (.int .u8 t314)).setCell ⟨gb317, 7, none⟩ (.int .u64 t315)).setCell ⟨gb317, 8, none⟩ (.int .i64 t316)).heap[gb307]? = some (.cells #[.int .i64 t298, .int .i64 t299, .int .i64 t300, .int .i64 t301, .int .i64 t302, .int .u8 t303, .int .u8 t304, .int .u64 t305] 27 (0, 0))) := ⟨by (with_reducible repeat (first | refine blk_drewN ?_ _ | refine blk_drew ?_ | refine blk_alloc ?_ _)); refine blk_far ?_ NB307_317.out _; (with_reducible repeat (first | refine blk_drewN ?_ _ | refine blk_drew ?_ | refine blk_alloc ?_ _)); refine blk_far ?_ NB307_317.out _; (with_reducible repeat (first | refine blk_drewN ?_ _ | refine blk_drew ?_ | refine blk_alloc ?_ _)); refine blk_far ?_ NB307_317.out _; (with_reducible repeat (first | refine blk_drewN ?_ _ | refine blk_drew ?_ | refine blk_alloc ?_ _)); refine blk_far ?_ NB307_317.out _; (with_reducible repeat (first | refine blk_drewN ?_ _ | refine blk_drew ?_ | refine blk_alloc ?_ _)); refine blk_far ?_ NB307_317.out _; (with_reducible repeat (first | refine blk_drewN ?_ _ | refine blk_drew ?_ | refine blk_alloc ?_ _)); refine blk_far ?_ NB307_317.out _; (with_reducible repeat (first | refine blk_drewN ?_ _ | refine blk_drew ?_ | refine blk_alloc ?_ _)); refine blk_far ?_ NB307_317.out _; (with_reducible repeat (first | refine blk_drewN ?_ _ | refine blk_drew ?_ | refine blk_alloc ?_ _)); refine blk_far ?_ NB307_317.out _; (with_reducible repeat (first | refine blk_drewN ?_ _ | refine blk_drew ?_ | refine blk_alloc ?_ _)); refine blk_far ?_ NB307_317.out _; (with_reducible repeat (first | refine blk_drewN ?_ _ | refine blk_drew ?_ | refine blk_alloc ?_ _)); exact BK307.out⟩
   have n1_ : Aside0 ((((((((((w36.setCell ⟨gb317, 0, none⟩ (.int .i64 t308)).setCell ⟨gb317, 1, none⟩ (.int .i64 t309)).setCell ⟨gb317, 2, none⟩ (.int .i64 t310)).setCell ⟨gb317, 3, none⟩ (.int .i64 t311)).setCell ⟨gb317, 4, none⟩ (.int .i64 t312)).setCell ⟨gb317, 5, none⟩ (.int .u8 t313)).setCell ⟨gb317, 6, none⟩ (.int .u8 t314)).setCell ⟨gb317, 7, none⟩ (.int .u64 t315)).setCell ⟨gb317, 8, none⟩ (.int .i64 t316)).heap[gb317]? = some (.cells #[.int .i64 t308, .int .i64 t309, .int .i64 t310, .int .i64 t311, .int .i64 t312, .int .u8 t313, .int .u8 t314, .int .u64 t315, .int .i64 t316] 34 (0, 0))) := ⟨by (with_reducible repeat (first | refine blk_drewN ?_ _ | refine blk_drew ?_ | refine blk_alloc ?_ _)); refine blk_put (cs := #[.int .i64 t308, .int .i64 t309, .int .i64 t310, .int .i64 t311, .int .i64 t312, .int .u8 t313, .int .u8 t314, .int .u64 t315, .int .i64 0]) ?_ 8 _ rfl; (with_reducible repeat (first | refine blk_drewN ?_ _ | refine blk_drew ?_ | refine blk_alloc ?_ _)); refine blk_put (cs := #[.int .i64 t308, .int .i64 t309, .int .i64 t310, .int .i64 t311, .int .i64 t312, .int .u8 t313, .int .u8 t314, .int .u64 0, .int .i64 0]) ?_ 7 _ rfl; (with_reducible repeat (first | refine blk_drewN ?_ _ | refine blk_drew ?_ | refine blk_alloc ?_ _)); refine blk_put (cs := #[.int .i64 t308, .int .i64 t309, .int .i64 t310, .int .i64 t311, .int .i64 t312, .int .u8 t313, .int .u8 0, .int .u64 0, .int .i64 0]) ?_ 6 _ rfl; (with_reducible repeat (first | refine blk_drewN ?_ _ | refine blk_drew ?_ | refine blk_alloc ?_ _)); refine blk_put (cs := #[.int .i64 t308, .int .i64 t309, .int .i64 t310, .int .i64 t311, .int .i64 t312, .int .u8 0, .int .u8 0, .int .u64 0, .int .i64 0]) ?_ 5 _ rfl; (with_reducible repeat (first | refine blk_drewN ?_ _ | refine blk_drew ?_ | refine blk_alloc ?_ _)); refine blk_put (cs := #[.int .i64 t308, .int .i64 t309, .int .i64 t310, .int .i64 t311, .int .i64 0, .int .u8 0, .int .u8 0, .int .u64 0, .int .i64 0]) ?_ 4 _ rfl; (with_reducible repeat (first | refine blk_drewN ?_ _ | refine blk_drew ?_ | refine blk_alloc ?_ _)); refine blk_put (cs := #[.int .i64 t308, .int .i64 t309, .int .i64 t310, .int .i64 0, .int .i64 0, .int .u8 0, .int .u8 0, .int .u64 0, .int .i64 0]) ?_ 3 _ rfl; (with_reducible repeat (first | refine blk_drewN ?_ _ | refine blk_drew ?_ | refine blk_alloc ?_ _)); refine blk_put (cs := #[.int .i64 t308, .int .i64 t309, .int .i64 0, .int .i64 0, .int .i64 0, .int .u8 0, .int .u8 0, .int .u64 0, .int .i64 0]) ?_ 2 _ rfl; (with_reducible repeat (first | refine blk_drewN ?_ _ | refine blk_drew ?_ | refine blk_alloc ?_ _)); refine blk_put (cs := #[.int .i64 t308, .int .i64 0, .int .i64 0, .int .i64 0, .int .i64 0, .int .u8 0, .int .u8 0, .int .u64 0, .int .i64 0]) ?_ 1 _ rfl; (with_reducible repeat (first | refine blk_drewN ?_ _ | refine blk_drew ?_ | refine blk_alloc ?_ _)); refine blk_put (cs := #[.int .i64 0, .int .i64 0, .int .i64 0, .int .i64 0, .int .i64 0, .int .u8 0, .int .u8 0, .int .u64 0, .int .i64 0]) ?_ 0 _ rfl; (with_reducible repeat (first | refine blk_drewN ?_ _ | refine blk_drew ?_ | refine blk_alloc ?_ _)); exact BK317.out⟩
   have n2_ : Aside0 (Below w.heap.size w (((((((((w36.setCell ⟨gb317, 0, none⟩ (.int .i64 t308)).setCell ⟨gb317, 1, none⟩ (.int .i64 t309)).setCell ⟨gb317, 2, none⟩ (.int .i64 t310)).setCell ⟨gb317, 3, none⟩ (.int .i64 t311)).setCell ⟨gb317, 4, none⟩ (.int .i64 t312)).setCell ⟨gb317, 5, none⟩ (.int .u8 t313)).setCell ⟨gb317, 6, none⟩ (.int .u8 t314)).setCell ⟨gb317, 7, none⟩ (.int .u64 t315)).setCell ⟨gb317, 8, none⟩ (.int .i64 t316))) := ⟨by repeat (first | (with_reducible first | exact HB.out | apply below_alloc | apply pw_below_drewN | apply below_drew1 | refine below_set ?_ GE307.out | refine below_set ?_ GE317.out) | exact HB.out)⟩
   (try clear BK307)
   (try clear BK317)
   (try clear HB)
   generalize (((((((((w36.setCell ⟨gb317, 0, none⟩ (.int .i64 t308)).setCell ⟨gb317, 1, none⟩ (.int .i64 t309)).setCell ⟨gb317, 2, none⟩ (.int .i64 t310)).setCell ⟨gb317, 3, none⟩ (.int .i64 t311)).setCell ⟨gb317, 4, none⟩ (.int .i64 t312)).setCell ⟨gb317, 5, none⟩ (.int .u8 t313)).setCell ⟨gb317, 6, none⟩ (.int .u8 t314)).setCell ⟨gb317, 7, none⟩ (.int .u64 t315)).setCell ⟨gb317, 8, none⟩ (.int .i64 t316)) = w39 at n0_ n1_ n2_ ⊢
   have BK307 := n0_
   have BK317 := n1_
   have HB := n2_
   clear n0_ n1_ n2_
   have n0_ := Aside0.mk (blk_drew BK307.out)
   have n1_ := Aside0.mk (blk_drew BK317.out)
   have n2_ := Aside0.mk (below_drew1 HB.out)
   clear BK307
   clear BK317
   clear HB
   have BK307 := n0_
   have BK317 := n1_
   have HB := n2_
   clear n0_ n1_ n2_
   refine start_ (n := 15) (S := fun w' => w'.cell? ⟨gb307, 0, none⟩ = some (.int .i64 t298) ∧ w'.cell? ⟨gb307, 1, none⟩ = some (.int .i64 t299) ∧ w'.cell? ⟨gb307, 2, none⟩ = some (.int .i64 t300) ∧ w'.cell? ⟨gb307, 3, none⟩ = some (.int .i64 t301) ∧ w'.cell? ⟨gb307, 4, none⟩ = some (.int .i64 t302) ∧ w'.cell? ⟨gb307, 5, none⟩ = some (.int .u8 t303) ∧ w'.cell? ⟨gb307, 6, none⟩ = some (.int .u8 t304) ∧ w'.cell? ⟨gb307, 7, none⟩ = some (.int .u64 t305) ∧ w'.cell? ⟨gb317, 0, none⟩ = some (.int .i64 t308) ∧ w'.cell? ⟨gb317, 1, none⟩ = some (.int .i64 t309) ∧ w'.cell? ⟨gb317, 2, none⟩ = some (.int .i64 t310) ∧ w'.cell? ⟨gb317, 3, none⟩ = some (.int .i64 t311) ∧ w'.cell? ⟨gb317, 4, none⟩ = some (.int .i64 t312) ∧ w'.cell? ⟨gb317, 5, none⟩ = some (.int .u8 t313) ∧ w'.cell? ⟨gb317, 6, none⟩ = some (.int .u8 t314) ∧ w'.cell? ⟨gb317, 7, none⟩ = some (.int .u64 t315) ∧ w'.cell? ⟨gb317, 8, none⟩ = some (.int .i64 t316)) (ds := []) #[false, false, false, false, false, false, false, false, false, false, false, false, false, false, false] (by kernel_rfl) rfl rfl ⟨(blk_cell BK307.out 0).trans rfl, (blk_cell BK307.out 1).trans rfl, (blk_cell BK307.out 2).trans rfl, (blk_cell BK307.out 3).trans rfl, (blk_cell BK307.out 4).trans rfl, (blk_cell BK307.out 5).trans rfl, (blk_cell BK307.out 6).trans rfl, (blk_cell BK307.out 7).trans rfl, (blk_cell BK317.out 0).trans rfl, (blk_cell BK317.out 1).trans rfl, (blk_cell BK317.out 2).trans rfl, (blk_cell BK317.out 3).trans rfl, (blk_cell BK317.out 4).trans rfl, (blk_cell BK317.out 5).trans rfl, (blk_cell BK317.out 6).trans rfl, (blk_cell BK317.out 7).trans rfl, (blk_cell BK317.out 8).trans rfl⟩ (fun hHeld => ?_); refine with_tabW weirgatelaw22_ParseLines.tab5 weirgatelaw22_ParseLines.bits5 (fun HT_ HW_ => ?_)
   generalize w39.drew = w40 at BK307 BK317 HB hHeld ⊢
   refine pure_ (i := 2) (N := some 19) (v := ?_) (a' := ?_) #[false, false, true, false, false, false, false, false, false, false, false, false, false, false, false] rfl rfl (any_of HT_.out (by kernel_rfl)) (fun _ _ _ h => h) (Or.inl ⟨by rfl, ?_⟩) ?_ ?_
   rotate_left
   ·intro w'
    go_simp
    with_reducible rfl
   rotate_left
   ·simp only [Act.put, List.setIfInBounds_toArray, List.set_cons_zero, List.set_cons_succ, i64_w, i32_w]
    rfl
   refine take_ (i := 0) (N := some 17) (v := ?_) (a' := ?_) #[true, false, true, false, false, false, false, false, false, false, false, false, false, false, false] rfl rfl (take_ofW HT_.out HW_.out (by kernel_rfl)) (fun _ _ _ h => h) (Or.inl ⟨by rfl, ?_⟩) hHeld ?_ ?_
   rotate_left
   ·rintro w' ⟨s0, s1, s2, s3, s4, s5, s6, s7, s8, s9, s10, s11, s12, s13, s14, s15, s16⟩
    go_simp
    with_reducible rfl
   rotate_left
   ·simp only [Act.put, List.setIfInBounds_toArray, List.set_cons_zero, List.set_cons_succ, i64_w, i32_w]
    rfl
   refine take_ (i := 3) (N := some 20) (v := ?_) (a' := ?_) #[true, false, true, true, false, false, false, false, false, false, false, false, false, false, false] rfl rfl (take_ofW HT_.out HW_.out (by kernel_rfl)) (fun _ _ _ h => h) (Or.inl ⟨by rfl, ?_⟩) hHeld ?_ ?_
   rotate_left
   ·rintro w' ⟨s0, s1, s2, s3, s4, s5, s6, s7, s8, s9, s10, s11, s12, s13, s14, s15, s16⟩
    go_simp
    with_reducible rfl
   rotate_left
   ·simp only [Act.put, List.setIfInBounds_toArray, List.set_cons_zero, List.set_cons_succ, i64_w, i32_w]
    rfl
   refine one_ (i := 1) (N := some 18) #[true, true, true, true, false, false, false, false, false, false, false, false, false, false, false] rfl rfl (one_of HT_.out (by kernel_rfl)) (by decide) (fun K hK => ?_)
   refine goes_ Tryd.func10 (by kernel_rfl) rfl #[.agg #[.int .i64 t298, .int .i64 t299, .int .i64 t300, .int .i64 t301, .int .i64 t302, .int .u8 t303, .int .u8 t304, .int .u64 t305]] (by rfl) rfl rfl (by (try simp only [List.map_toArray, List.map_cons, List.map_nil]); first | done | rfl | (simp only [List.length_drop, List.length_take]; rfl)) ?_
   with_reducible refine (weirgatelaw22_Own.calls t298 t299 t300 t301 t302 t303 t304 t305 t318 t319 t320 t321 t322 t323 t324 t325 _ ?side1 A7.out).mono ?_
   (case side1 => exact Laid.below hL (by repeat (first | (with_reducible first | exact HB.out | apply below_alloc | apply pw_below_drewN | apply below_drew1 | refine below_set ?_ GE307.out | refine below_set ?_ GE317.out) | exact HB.out)))
   rintro e w41 ⟨rfl, hb⟩
   refine ⟨_, rfl, ?_⟩
   have n0_ := Aside0.mk (blk_below (g := gb307) (o := .cells #[.int .i64 t298, .int .i64 t299, .int .i64 t300, .int .i64 t301, .int .i64 t302, .int .u8 t303, .int .u8 t304, .int .u64 t305] 27 (0, 0)) (by (with_reducible repeat (first | refine blk_drewN ?_ _ | refine blk_drew ?_ | refine blk_alloc ?_ _)); exact BK307.out) hb)
   have n1_ := Aside0.mk (blk_below (g := gb317) (o := .cells #[.int .i64 t308, .int .i64 t309, .int .i64 t310, .int .i64 t311, .int .i64 t312, .int .u8 t313, .int .u8 t314, .int .u64 t315, .int .i64 t316] 34 (0, 0)) (by (with_reducible repeat (first | refine blk_drewN ?_ _ | refine blk_drew ?_ | refine blk_alloc ?_ _)); exact BK317.out) hb)
   have n2_ := Aside0.mk (below_step (by repeat (first | (with_reducible first | exact HB.out | apply below_alloc | apply pw_below_drewN | apply below_drew1 | refine below_set ?_ GE307.out | refine below_set ?_ GE317.out) | exact HB.out)) hb)
   clear BK307
   clear BK317
   clear HB
   have BK307 := n0_
   have BK317 := n1_
   have HB := n2_
   clear n0_ n1_ n2_
   (try clear hb)
   (try clear hb2)
   (try clear hk)
   (try clear hi)
   (try clear A7)
   refine hK.out _ _ ⟨(blk_cell BK307.out 0).trans rfl, (blk_cell BK307.out 1).trans rfl, (blk_cell BK307.out 2).trans rfl, (blk_cell BK307.out 3).trans rfl, (blk_cell BK307.out 4).trans rfl, (blk_cell BK307.out 5).trans rfl, (blk_cell BK307.out 6).trans rfl, (blk_cell BK307.out 7).trans rfl, (blk_cell BK317.out 0).trans rfl, (blk_cell BK317.out 1).trans rfl, (blk_cell BK317.out 2).trans rfl, (blk_cell BK317.out 3).trans rfl, (blk_cell BK317.out 4).trans rfl, (blk_cell BK317.out 5).trans rfl, (blk_cell BK317.out 6).trans rfl, (blk_cell BK317.out 7).trans rfl, (blk_cell BK317.out 8).trans rfl⟩ (fun hHeld => ?_)
   clear hK K
   refine norm_ (a' := ?_) ?_ ?_
   rotate_left
   ·show Act.put _ (some 18) _ = _
    simp only [Act.put, List.setIfInBounds_toArray, List.set_cons_zero, List.set_cons_succ, i64_w, i32_w]
    rfl
   refine pure_ (i := 4) (N := some 21) (v := ?_) (a' := ?_) #[true, true, true, true, true, false, false, false, false, false, false, false, false, false, false] rfl rfl (any_of HT_.out (by kernel_rfl)) (fun _ _ _ h => h) (Or.inl ⟨by rfl, ?_⟩) ?_ ?_
   rotate_left
   ·intro w'
    go_simp
    with_reducible rfl
   rotate_left
   ·simp only [Act.put, List.setIfInBounds_toArray, List.set_cons_zero, List.set_cons_succ, i64_w, i32_w]
    rfl
   refine pure_ (i := 5) (N := some 22) (v := ?_) (a' := ?_) #[true, true, true, true, true, true, false, false, false, false, false, false, false, false, false] rfl rfl (any_of HT_.out (by kernel_rfl)) (fun _ _ _ h => h) (Or.inl ⟨by rfl, ?_⟩) ?_ ?_
   rotate_left
   ·intro w'
    go_simp
    with_reducible rfl
   rotate_left
   ·simp only [Act.put, List.setIfInBounds_toArray, List.set_cons_zero, List.set_cons_succ, i64_w, i32_w]
    rfl
   refine pure_ (i := 6) (N := some 23) (v := undef) (a' := ?_) #[true, true, true, true, true, true, true, false, false, false, false, false, false, false, false] rfl rfl (any_of HT_.out (by kernel_rfl)) (fun _ _ _ h => h) (Or.inr ⟨by rfl, rfl⟩) ?_ ?_
   rotate_left
   ·simp only [Act.put, List.setIfInBounds_toArray, List.set_cons_zero, List.set_cons_succ, i64_w, i32_w]
    rfl
   refine pure_ (i := 7) (N := some 24) (v := undef) (a' := ?_) #[true, true, true, true, true, true, true, true, false, false, false, false, false, false, false] rfl rfl (any_of HT_.out (by kernel_rfl)) (fun _ _ _ h => h) (Or.inr ⟨by rfl, rfl⟩) ?_ ?_
   rotate_left
   ·simp only [Act.put, List.setIfInBounds_toArray, List.set_cons_zero, List.set_cons_succ, i64_w, i32_w]
    rfl
   refine pure_ (i := 8) (N := some 25) (v := undef) (a' := ?_) #[true, true, true, true, true, true, true, true, true, false, false, false, false, false, false] rfl rfl (any_of HT_.out (by kernel_rfl)) (fun _ _ _ h => h) (Or.inr ⟨by rfl, rfl⟩) ?_ ?_
   rotate_left
   ·simp only [Act.put, List.setIfInBounds_toArray, List.set_cons_zero, List.set_cons_succ, i64_w, i32_w]
    rfl
   refine pure_ (i := 9) (N := some 26) (v := undef) (a' := ?_) #[true, true, true, true, true, true, true, true, true, true, false, false, false, false, false] rfl rfl (any_of HT_.out (by kernel_rfl)) (fun _ _ _ h => h) (Or.inr ⟨by rfl, rfl⟩) ?_ ?_
   rotate_left
   ·simp only [Act.put, List.setIfInBounds_toArray, List.set_cons_zero, List.set_cons_succ, i64_w, i32_w]
    rfl
   refine pure_ (i := 10) (N := some 27) (v := ?_) (a' := ?_) #[true, true, true, true, true, true, true, true, true, true, true, false, false, false, false] rfl rfl (any_of HT_.out (by kernel_rfl)) (fun _ _ _ h => h) (Or.inl ⟨by rfl, ?_⟩) ?_ ?_
   rotate_left
   ·intro w'
    go_simp
    with_reducible rfl
   rotate_left
   ·simp only [Act.put, List.setIfInBounds_toArray, List.set_cons_zero, List.set_cons_succ, i64_w, i32_w]
    rfl
   refine pure_ (i := 11) (N := some 28) (v := ?_) (a' := ?_) #[true, true, true, true, true, true, true, true, true, true, true, true, false, false, false] rfl rfl (any_of HT_.out (by kernel_rfl)) (fun _ _ _ h => h) (Or.inl ⟨by rfl, ?_⟩) ?_ ?_
   rotate_left
   ·intro w'
    go_simp
    with_reducible rfl
   rotate_left
   ·simp only [Act.put, List.setIfInBounds_toArray, List.set_cons_zero, List.set_cons_succ, i64_w, i32_w]
    rfl
   refine pure_ (i := 12) (N := some 29) (v := undef) (a' := ?_) #[true, true, true, true, true, true, true, true, true, true, true, true, true, false, false] rfl rfl (any_of HT_.out (by kernel_rfl)) (fun _ _ _ h => h) (Or.inr ⟨by rfl, rfl⟩) ?_ ?_
   rotate_left
   ·simp only [Act.put, List.setIfInBounds_toArray, List.set_cons_zero, List.set_cons_succ, i64_w, i32_w]
    rfl
   refine pure_ (i := 13) (N := some 30) (v := ?_) (a' := ?_) #[true, true, true, true, true, true, true, true, true, true, true, true, true, true, false] rfl rfl (any_of HT_.out (by kernel_rfl)) (fun _ _ _ h => h) (Or.inl ⟨by rfl, ?_⟩) ?_ ?_
   rotate_left
   ·intro w'
    go_simp
    with_reducible rfl
   rotate_left
   ·simp only [Act.put, List.setIfInBounds_toArray, List.set_cons_zero, List.set_cons_succ, i64_w, i32_w]
    rfl
   refine pure_ (i := 14) (N := some 2) (v := ?_) (a' := ?_) #[true, true, true, true, true, true, true, true, true, true, true, true, true, true, true] rfl rfl (any_of HT_.out (by kernel_rfl)) (fun _ _ _ h => h) (Or.inl ⟨by rfl, ?_⟩) ?_ ?_
   rotate_left
   ·intro w'
    go_simp
    with_reducible rfl
   rotate_left
   ·simp only [Act.put, List.setIfInBounds_toArray, List.set_cons_zero, List.set_cons_succ, i64_w, i32_w]
    rfl
   refine done_ (done_of HT_.out (by kernel_rfl)) ?_
   try go_wp2
   go_ret
   exact ⟨by first | rfl | (simp [errW_none, errW_some] <;> rfl) | (simp [*, errW_none, errW_some] <;> rfl), by repeat (first | (with_reducible first | exact HB.out | apply below_alloc | apply pw_below_drewN | apply below_drew1 | refine below_set ?_ GE307.out | refine below_set ?_ GE317.out) | exact HB.out)⟩

end Go.Proofs.YtagnoecfdefmjaaDoor.X
