-- WRITTEN BY A PROGRAM OF THIS CLAIM'S SESSION (xprint.py, over the kit's print): functions, contracts. Lean checks it.
-- INDENT: one space a step
import Derived.Test.YtagnoecfdefmjaaDoorXx0
import Derived.Test.YtagnoecfdefmjaaDoorXx2
import Derived.Test.YtagnoecfdefmjaaDoorXx5
import Derived.Test.YtagnoecfdefmjaaDoorXx6
import Derived.Test.YtagnoecfdefmjaaDoorXx7
import Derived.Test.YtagnoecfdefmjaaDoorXx8
namespace Go.Proofs.YtagnoecfdefmjaaDoor.X
open Go.RowKit Go.Proofs.YtagnoecfdefmjaaDoorW.PrintWords Go.Proofs.YtagnoecfdefmjaaDoorW.PrintLast Go.Proofs.YtagnoecfdefmjaaDoorW.PrintMore
attribute [local go_sem] max2_int min2_int max_two min_two max_three min_three max_four min_four   -- for this text's walks alone
set_option linter.unusedVariables false
set_option linter.unusedSimpArgs false

attribute [local go_sem high] eqA32
/-! ### weirgateref22_Text: function 12 -/
mutual
def weirgateref22_Text.l0 : Nat → List (List ByteArray) → Int → Int → Int → Int → Int → Int → Int → Int → Int → Option (ByteArray × Int)
 | 0, _, _, _, _, _, _, _, _, _, _ => none
 | k + 1, x4, x5, x331000, x331001, x331002, x331003, x331004, x331005, x331006, x331007 => if x5 < (x4.length : Int) then (if x5 ≤ 2 then (weirgateref22_Text.j2 k x4 x5 (([x331003] : List Int)) x331000 x331001 x331002 x331003 x331004 x331005 x331006 x331007 x331001 x331002 x331003 x331004 x331005 x331006 x331007) else (if x5 ≤ 4 then (weirgateref22_Text.j2 k x4 x5 (([x331002] : List Int)) x331000 x331001 x331002 x331003 x331004 x331005 x331006 x331007 x331001 x331002 x331003 x331004 x331005 x331006 x331007) else (if x5 ≤ 6 then (weirgateref22_Text.j2 k x4 x5 (([x331002, x331003] : List Int)) x331000 x331001 x331002 x331003 x331004 x331005 x331006 x331007 x331001 x331002 x331003 x331004 x331005 x331006 x331007) else (if x5 = 7 then (weirgateref22_Text.j2 k x4 x5 (([x331004, wrap64 (x331005), wrap64 (x331006)] : List Int)) x331000 x331001 x331002 x331003 x331004 x331005 x331006 x331007 x331001 x331002 x331003 x331004 x331005 x331006 x331007) else (if x5 = 8 then (weirgateref22_Text.j1 k x4 x5 ([] : List Int) (x5 == 8) x331000 x331001 x331002 x331003 x331004 x331005 x331006 x331007 x331001 x331002 x331003 x331004 x331005 x331006 x331007) else (weirgateref22_Text.j1 k x4 x5 ([] : List Int) (x5 == 10) x331000 x331001 x331002 x331003 x331004 x331005 x331006 x331007 x331001 x331002 x331003 x331004 x331005 x331006 x331007)))))) else (some ((⟨#[]⟩ : ByteArray), 11))
def weirgateref22_Text.j2 : Nat → List (List ByteArray) → Int → List Int → Int → Int → Int → Int → Int → Int → Int → Int → Int → Int → Int → Int → Int → Int → Int → Option (ByteArray × Int)
 | 0, _, _, _, _, _, _, _, _, _, _, _, _, _, _, _, _, _, _ => none
 | k + 1, x4, x5, x6, x331000, x331001, x331002, x331003, x331004, x331005, x331006, x331007, x335000, x335001, x335002, x335003, x335004, x335005, x335006 => weirgateref22_Text.l1 k x4 x5 x6 (⟨#[]⟩ : ByteArray) 0 0 x331000 x331001 x331002 x331003 x331004 x331005 x331006 x331007 x335000 x335001 x335002 x335003 x335004 x335005 x335006
def weirgateref22_Text.l1 : Nat → List (List ByteArray) → Int → List Int → ByteArray → Int → Int → Int → Int → Int → Int → Int → Int → Int → Int → Int → Int → Int → Int → Int → Int → Int → Option (ByteArray × Int)
 | 0, _, _, _, _, _, _, _, _, _, _, _, _, _, _, _, _, _, _, _, _, _ => none
 | k + 1, x4, x5, x6, x8, x9, x10, x331000, x331001, x331002, x331003, x331004, x331005, x331006, x331007, x335000, x335001, x335002, x335003, x335004, x335005, x335006 => if 0 ≤ x5 then (if x5 < (x4.length : Int) then (if x10 < ((rd_L7 x4 x5).length : Int) then (if 0 ≤ x10 then (if (rdOf ByteArray.empty (rd_L7 x4 x5) x10).toList = ([35] : List UInt8) then (if 0 ≤ x9 then (if x9 < (x6.length : Int) then ((weirgateref21_Text.f k (rd x6 x9)).bind fun t367 => ((weirgateref21_Join.f k (([x8, t367] : List ByteArray))).bind fun t371 => (weirgateref22_Text.l1 k x4 x5 x6 t371 (wrap64 (x9 + 1)) (wrap64 (x10 + 1)) x331000 x331001 x331002 x331003 x331004 x331005 x331006 x331007 x335000 x335001 x335002 x335003 x335004 x335005 x335006))) else (none)) else (none)) else (if (rdOf ByteArray.empty (rd_L7 x4 x5) x10).toList = ([64] : List UInt8) then ((weirgateref09_Text.f k x335006).bind fun t372 => ((weirgateref21_Join.f k (([x8, t372] : List ByteArray))).bind fun t376 => (weirgateref22_Text.l1 k x4 x5 x6 t376 x9 (wrap64 (x10 + 1)) x331000 x331001 x331002 x331003 x331004 x331005 x331006 x331007 x335000 x335001 x335002 x335003 x335004 x335005 x335006))) else ((weirgateref21_Join.f k (([x8, rdOf ByteArray.empty (rd_L7 x4 x5) x10] : List ByteArray))).bind fun t380 => (weirgateref22_Text.l1 k x4 x5 x6 t380 x9 (wrap64 (x10 + 1)) x331000 x331001 x331002 x331003 x331004 x331005 x331006 x331007 x335000 x335001 x335002 x335003 x335004 x335005 x335006)))) else (none)) else ((weirgateref22_Line.f k x8).bind fun bt354 => (if bt354.2.2.2.2.2.2.2.2 = 0 then (if (bt354.1 == x331000 && ((bt354.2.1 == x331001 && (bt354.2.2.1 == x331002 && (bt354.2.2.2.1 == x331003 && (bt354.2.2.2.2.1 == x331004 && (bt354.2.2.2.2.2.1 == x331005 && (bt354.2.2.2.2.2.2.1 == x331006 && (bt354.2.2.2.2.2.2.2.1 == x331007))))))))) = true then (some (x8, 0)) else (weirgateref22_Text.l0 k x4 (wrap64 (x5 + 1)) x331000 x331001 x331002 x331003 x331004 x331005 x331006 x331007)) else (weirgateref22_Text.l0 k x4 (wrap64 (x5 + 1)) x331000 x331001 x331002 x331003 x331004 x331005 x331006 x331007)))) else (none)) else (none)
def weirgateref22_Text.j1 : Nat → List (List ByteArray) → Int → List Int → Bool → Int → Int → Int → Int → Int → Int → Int → Int → Int → Int → Int → Int → Int → Int → Int → Option (ByteArray × Int)
 | 0, _, _, _, _, _, _, _, _, _, _, _, _, _, _, _, _, _, _, _ => none
 | k + 1, x4, x5, x6, x54, x331000, x331001, x331002, x331003, x331004, x331005, x331006, x331007, x335000, x335001, x335002, x335003, x335004, x335005, x335006 => if x54 = true then (weirgateref22_Text.j2 k x4 x5 (([x335003] : List Int)) x331000 x331001 x331002 x331003 x331004 x331005 x331006 x331007 x335000 x335001 x335002 x335003 x335004 x335005 x335006) else (if x5 = 9 then (weirgateref22_Text.j2 k x4 x5 (([x335003, x335001] : List Int)) x331000 x331001 x331002 x331003 x331004 x331005 x331006 x331007 x335000 x335001 x335002 x335003 x335004 x335005 x335006) else (weirgateref22_Text.j2 k x4 x5 x6 x331000 x331001 x331002 x331003 x331004 x331005 x331006 x331007 x335000 x335001 x335002 x335003 x335004 x335005 x335006))
end
def weirgateref22_Text.f (k : Nat) (a0_0 : Int) (a0_1 : Int) (a0_2 : Int) (a0_3 : Int) (a0_4 : Int) (a0_5 : Int) (a0_6 : Int) (a0_7 : Int) : Option (ByteArray × Int) := (weirgateref22_shapes.f).bind fun t331 => (weirgateref22_Text.l0 k t331 0 a0_0 a0_1 a0_2 a0_3 a0_4 a0_5 a0_6 a0_7)
theorem weirgateref22_Text.mono_l : ∀ k, (∀ y0 y1 y2 y3 y4 y5 y6 y7 y8 y9, LeO (weirgateref22_Text.l0 k y0 y1 y2 y3 y4 y5 y6 y7 y8 y9) (weirgateref22_Text.l0 (k + 1) y0 y1 y2 y3 y4 y5 y6 y7 y8 y9)) ∧ (∀ y0 y1 y2 y3 y4 y5 y6 y7 y8 y9 y10 y11 y12 y13 y14 y15 y16 y17, LeO (weirgateref22_Text.j2 k y0 y1 y2 y3 y4 y5 y6 y7 y8 y9 y10 y11 y12 y13 y14 y15 y16 y17) (weirgateref22_Text.j2 (k + 1) y0 y1 y2 y3 y4 y5 y6 y7 y8 y9 y10 y11 y12 y13 y14 y15 y16 y17)) ∧ (∀ y0 y1 y2 y3 y4 y5 y6 y7 y8 y9 y10 y11 y12 y13 y14 y15 y16 y17 y18 y19 y20, LeO (weirgateref22_Text.l1 k y0 y1 y2 y3 y4 y5 y6 y7 y8 y9 y10 y11 y12 y13 y14 y15 y16 y17 y18 y19 y20) (weirgateref22_Text.l1 (k + 1) y0 y1 y2 y3 y4 y5 y6 y7 y8 y9 y10 y11 y12 y13 y14 y15 y16 y17 y18 y19 y20)) ∧ (∀ y0 y1 y2 y3 y4 y5 y6 y7 y8 y9 y10 y11 y12 y13 y14 y15 y16 y17 y18, LeO (weirgateref22_Text.j1 k y0 y1 y2 y3 y4 y5 y6 y7 y8 y9 y10 y11 y12 y13 y14 y15 y16 y17 y18) (weirgateref22_Text.j1 (k + 1) y0 y1 y2 y3 y4 y5 y6 y7 y8 y9 y10 y11 y12 y13 y14 y15 y16 y17 y18))
 | 0 => ⟨fun _ _ _ _ _ _ _ _ _ _ r h => by simp [weirgateref22_Text.l0] at h, fun _ _ _ _ _ _ _ _ _ _ _ _ _ _ _ _ _ _ r h => by simp [weirgateref22_Text.j2] at h, fun _ _ _ _ _ _ _ _ _ _ _ _ _ _ _ _ _ _ _ _ _ r h => by simp [weirgateref22_Text.l1] at h, fun _ _ _ _ _ _ _ _ _ _ _ _ _ _ _ _ _ _ _ r h => by simp [weirgateref22_Text.j1] at h⟩
 | k + 1 => by
  obtain ⟨ih0, ih1, ih2, ih3⟩ := weirgateref22_Text.mono_l k
  refine ⟨?_, ?_, ?_, ?_⟩
  ·intro y0 y1 y2 y3 y4 y5 y6 y7 y8 y9
   unfold weirgateref22_Text.l0
   repeat' first
   | (with_reducible exact ih0 _ _ _ _ _ _ _ _ _ _)
   | (with_reducible exact ih1 _ _ _ _ _ _ _ _ _ _ _ _ _ _ _ _ _ _)
   | (with_reducible exact ih2 _ _ _ _ _ _ _ _ _ _ _ _ _ _ _ _ _ _ _ _ _)
   | (with_reducible exact ih3 _ _ _ _ _ _ _ _ _ _ _ _ _ _ _ _ _ _ _)
   | (with_reducible exact weirgateref09_Text.mono _ _)
   | (with_reducible exact weirgateref21_Join.mono _ _)
   | (with_reducible exact weirgateref21_Text.mono _ _)
   | (with_reducible exact weirgateref22_Line.mono _ _)
   | (with_reducible exact LeO.refl _)
   | (with_reducible exact LeO.none _)
   | (with_reducible refine LeO.ite ?_ ?_)
   | (with_reducible refine LeO.bind ?_ (fun _ => ?_))
   | exact ih0 _ _ _ _ _ _ _ _ _ _
   | exact ih1 _ _ _ _ _ _ _ _ _ _ _ _ _ _ _ _ _ _
   | exact ih2 _ _ _ _ _ _ _ _ _ _ _ _ _ _ _ _ _ _ _ _ _
   | exact ih3 _ _ _ _ _ _ _ _ _ _ _ _ _ _ _ _ _ _ _
   | exact weirgateref09_Text.mono _ _
   | exact weirgateref21_Join.mono _ _
   | exact weirgateref21_Text.mono _ _
   | exact weirgateref22_Line.mono _ _
   | exact LeO.none _
   | refine LeO.ite ?_ ?_
   | refine LeO.bind ?_ (fun _ => ?_)
  ·intro y0 y1 y2 y3 y4 y5 y6 y7 y8 y9 y10 y11 y12 y13 y14 y15 y16 y17
   unfold weirgateref22_Text.j2
   repeat' first
   | (with_reducible exact ih0 _ _ _ _ _ _ _ _ _ _)
   | (with_reducible exact ih1 _ _ _ _ _ _ _ _ _ _ _ _ _ _ _ _ _ _)
   | (with_reducible exact ih2 _ _ _ _ _ _ _ _ _ _ _ _ _ _ _ _ _ _ _ _ _)
   | (with_reducible exact ih3 _ _ _ _ _ _ _ _ _ _ _ _ _ _ _ _ _ _ _)
   | (with_reducible exact weirgateref09_Text.mono _ _)
   | (with_reducible exact weirgateref21_Join.mono _ _)
   | (with_reducible exact weirgateref21_Text.mono _ _)
   | (with_reducible exact weirgateref22_Line.mono _ _)
   | (with_reducible exact LeO.refl _)
   | (with_reducible exact LeO.none _)
   | (with_reducible refine LeO.ite ?_ ?_)
   | (with_reducible refine LeO.bind ?_ (fun _ => ?_))
   | exact ih0 _ _ _ _ _ _ _ _ _ _
   | exact ih1 _ _ _ _ _ _ _ _ _ _ _ _ _ _ _ _ _ _
   | exact ih2 _ _ _ _ _ _ _ _ _ _ _ _ _ _ _ _ _ _ _ _ _
   | exact ih3 _ _ _ _ _ _ _ _ _ _ _ _ _ _ _ _ _ _ _
   | exact weirgateref09_Text.mono _ _
   | exact weirgateref21_Join.mono _ _
   | exact weirgateref21_Text.mono _ _
   | exact weirgateref22_Line.mono _ _
   | exact LeO.none _
   | refine LeO.ite ?_ ?_
   | refine LeO.bind ?_ (fun _ => ?_)
  ·intro y0 y1 y2 y3 y4 y5 y6 y7 y8 y9 y10 y11 y12 y13 y14 y15 y16 y17 y18 y19 y20
   unfold weirgateref22_Text.l1
   repeat' first
   | (with_reducible exact ih0 _ _ _ _ _ _ _ _ _ _)
   | (with_reducible exact ih1 _ _ _ _ _ _ _ _ _ _ _ _ _ _ _ _ _ _)
   | (with_reducible exact ih2 _ _ _ _ _ _ _ _ _ _ _ _ _ _ _ _ _ _ _ _ _)
   | (with_reducible exact ih3 _ _ _ _ _ _ _ _ _ _ _ _ _ _ _ _ _ _ _)
   | (with_reducible exact weirgateref09_Text.mono _ _)
   | (with_reducible exact weirgateref21_Join.mono _ _)
   | (with_reducible exact weirgateref21_Text.mono _ _)
   | (with_reducible exact weirgateref22_Line.mono _ _)
   | (with_reducible exact LeO.refl _)
   | (with_reducible exact LeO.none _)
   | (with_reducible refine LeO.ite ?_ ?_)
   | (with_reducible refine LeO.bind ?_ (fun _ => ?_))
   | exact ih0 _ _ _ _ _ _ _ _ _ _
   | exact ih1 _ _ _ _ _ _ _ _ _ _ _ _ _ _ _ _ _ _
   | exact ih2 _ _ _ _ _ _ _ _ _ _ _ _ _ _ _ _ _ _ _ _ _
   | exact ih3 _ _ _ _ _ _ _ _ _ _ _ _ _ _ _ _ _ _ _
   | exact weirgateref09_Text.mono _ _
   | exact weirgateref21_Join.mono _ _
   | exact weirgateref21_Text.mono _ _
   | exact weirgateref22_Line.mono _ _
   | exact LeO.none _
   | refine LeO.ite ?_ ?_
   | refine LeO.bind ?_ (fun _ => ?_)
  ·intro y0 y1 y2 y3 y4 y5 y6 y7 y8 y9 y10 y11 y12 y13 y14 y15 y16 y17 y18
   unfold weirgateref22_Text.j1
   repeat' first
   | (with_reducible exact ih0 _ _ _ _ _ _ _ _ _ _)
   | (with_reducible exact ih1 _ _ _ _ _ _ _ _ _ _ _ _ _ _ _ _ _ _)
   | (with_reducible exact ih2 _ _ _ _ _ _ _ _ _ _ _ _ _ _ _ _ _ _ _ _ _)
   | (with_reducible exact ih3 _ _ _ _ _ _ _ _ _ _ _ _ _ _ _ _ _ _ _)
   | (with_reducible exact weirgateref09_Text.mono _ _)
   | (with_reducible exact weirgateref21_Join.mono _ _)
   | (with_reducible exact weirgateref21_Text.mono _ _)
   | (with_reducible exact weirgateref22_Line.mono _ _)
   | (with_reducible exact LeO.refl _)
   | (with_reducible exact LeO.none _)
   | (with_reducible refine LeO.ite ?_ ?_)
   | (with_reducible refine LeO.bind ?_ (fun _ => ?_))
   | exact ih0 _ _ _ _ _ _ _ _ _ _
   | exact ih1 _ _ _ _ _ _ _ _ _ _ _ _ _ _ _ _ _ _
   | exact ih2 _ _ _ _ _ _ _ _ _ _ _ _ _ _ _ _ _ _ _ _ _
   | exact ih3 _ _ _ _ _ _ _ _ _ _ _ _ _ _ _ _ _ _ _
   | exact weirgateref09_Text.mono _ _
   | exact weirgateref21_Join.mono _ _
   | exact weirgateref21_Text.mono _ _
   | exact weirgateref22_Line.mono _ _
   | exact LeO.none _
   | refine LeO.ite ?_ ?_
   | refine LeO.bind ?_ (fun _ => ?_)
theorem weirgateref22_Text.mono : ∀ a0 a1 a2 a3 a4 a5 a6 a7 k, LeO (weirgateref22_Text.f k a0 a1 a2 a3 a4 a5 a6 a7) (weirgateref22_Text.f (k + 1) a0 a1 a2 a3 a4 a5 a6 a7) := by
 intro a0 a1 a2 a3 a4 a5 a6 a7 k
 obtain ⟨ih0, ih1, ih2, ih3⟩ := weirgateref22_Text.mono_l k
 unfold weirgateref22_Text.f
 repeat' first
   | (with_reducible exact ih0 _ _ _ _ _ _ _ _ _ _)
   | (with_reducible exact ih1 _ _ _ _ _ _ _ _ _ _ _ _ _ _ _ _ _ _)
   | (with_reducible exact ih2 _ _ _ _ _ _ _ _ _ _ _ _ _ _ _ _ _ _ _ _ _)
   | (with_reducible exact ih3 _ _ _ _ _ _ _ _ _ _ _ _ _ _ _ _ _ _ _)
   | (with_reducible exact weirgateref09_Text.mono _ _)
   | (with_reducible exact weirgateref21_Join.mono _ _)
   | (with_reducible exact weirgateref21_Text.mono _ _)
   | (with_reducible exact weirgateref22_Line.mono _ _)
   | (with_reducible exact LeO.refl _)
   | (with_reducible exact LeO.none _)
   | (with_reducible refine LeO.ite ?_ ?_)
   | (with_reducible refine LeO.bind ?_ (fun _ => ?_))
   | exact ih0 _ _ _ _ _ _ _ _ _ _
   | exact ih1 _ _ _ _ _ _ _ _ _ _ _ _ _ _ _ _ _ _
   | exact ih2 _ _ _ _ _ _ _ _ _ _ _ _ _ _ _ _ _ _ _ _ _
   | exact ih3 _ _ _ _ _ _ _ _ _ _ _ _ _ _ _ _ _ _ _
   | exact weirgateref09_Text.mono _ _
   | exact weirgateref21_Join.mono _ _
   | exact weirgateref21_Text.mono _ _
   | exact weirgateref22_Line.mono _ _
   | exact LeO.none _
   | refine LeO.ite ?_ ?_
   | refine LeO.bind ?_ (fun _ => ?_)
set_option maxHeartbeats 8000000 in
set_option maxRecDepth 100000 in
theorem weirgateref22_Text.calls (k : Nat) (a0_0 : Int) (a0_1 : Int) (a0_2 : Int) (a0_3 : Int) (a0_4 : Int) (a0_5 : Int) (a0_6 : Int) (a0_7 : Int) (r1 : ByteArray) (r2 : Int) (w : World) (hL : Laid w) (h : weirgateref22_Text.f k a0_0 a0_1 a0_2 a0_3 a0_4 a0_5 a0_6 a0_7 = some (r1, r2)) :
  Calls Tryd.prog 12 #[.agg #[.int .i64 a0_0, .int .i64 a0_1, .int .i64 a0_2, .int .i64 a0_3, .int .i64 a0_4, .int .u8 a0_5, .int .u8 a0_6, .int .u64 a0_7]] w fun e w' => e = .returned (.tuple #[.string r1, .int .i64 r2]) ∧ Below w.heap.size w w' := by
 have hu32 := Tryd.underlying32
 have hu25 := Tryd.underlying25
 have hu34 := Tryd.underlying34
 have HB := Aside0.mk (Below.refl w.heap.size w)
 have H : ((weirgateref22_shapes.f).bind fun t331 => (weirgateref22_Text.l0 k t331 0 a0_0 a0_1 a0_2 a0_3 a0_4 a0_5 a0_6 a0_7)) = some (r1, r2) := h
 clear h
 replace H := Option.bind_eq_some_iff.mp H
 obtain ⟨t331, A20, H⟩ := H
 replace H : (weirgateref22_Text.l0 k t331 0 a0_0 a0_1 a0_2 a0_3 a0_4 a0_5 a0_6 a0_7) = some (r1, r2) := H
 have A2 := Aside0.mk A20
 clear A20
 have H' := Aside0.mk H
 clear H
 go_enter Tryd.func12, Tryd.ntmps12
 go_wp2_with (first | ((with_reducible refine gate_dst (N := 1) rfl ?_); refine box_event ?hg (N := 1) ?hd (cs := #[.int .i64 a0_0, .int .i64 a0_1, .int .i64 a0_2, .int .i64 a0_3, .int .i64 a0_4, .int .u8 a0_5, .int .u8 a0_6, .int .u64 a0_7]) (t := 32) ?hr ?_; (case hd => rfl); (case hg => rfl); (case hr => first | (go_simp; done) | (go_simp; rfl)); intro gb330 hg w3 hbox hb; have n0_ := Aside0.mk (below_step (by repeat (first | (with_reducible first | exact HB.out | apply below_alloc | apply pw_below_drewN | apply below_drew1) | exact HB.out)) hb); have n1_ := Aside0.mk (hbox); have n2_ := Aside0.mk ((by rw [hg]; exact (below_size (by repeat (first | (with_reducible first | exact HB.out | apply below_alloc | apply pw_below_drewN | apply below_drew1) | exact HB.out))) : w.heap.size ≤ gb330)); have n3_ := Aside0.mk ((by rw [hg]; exact (below_size (by repeat (first | (with_reducible first | exact HB.out | apply below_alloc | apply pw_below_drewN | apply below_drew1) | exact HB.out))) : w.heap.size ≤ gb330)); clear HB; have HB := n0_; have BK330 := n1_; have GW330 := n2_; have GE330 := n3_; clear n0_ n1_ n2_ n3_; clear hb hbox hg) | ((with_reducible refine gate_callee (f := 17) rfl ?_); refine goesL_ (some 13) rfl rfl Tryd.func17 (by kernel_rfl) rfl #[] rfl (by (try simp only [List.map_toArray, List.map_cons, List.map_nil]); first | done | rfl | (simp only [List.length_drop, List.length_take]; rfl)) ?_; (with_reducible refine (weirgateref22_shapes.calls  t331 _ ?side1 A2.out).mono ?_); (case side1 => exact Laid.below hL (by repeat (first | (with_reducible first | exact HB.out | apply below_alloc | apply pw_below_drewN | apply below_drew1 | refine below_set ?_ GE330.out) | exact HB.out))); rintro e w4 ⟨v332, rfl, ho0, hb⟩; refine ⟨_, rfl, ?_⟩; have n0_ := Aside0.mk (Kd.N_lower (Kd.N_mono (ok' := fun k_ => k_ ≠ gb330) ho0 (fun k_ hk_ => (Kd.freshB (g := gb330) (o := .cells #[.int .i64 a0_0, .int .i64 a0_1, .int .i64 a0_2, .int .i64 a0_3, .int .i64 a0_4, .int .u8 a0_5, .int .u8 a0_6, .int .u64 a0_7] 32 (0, 0)) (by (with_reducible repeat (first | refine blk_drewN ?_ _ | refine blk_drew ?_ | refine blk_alloc ?_ _)); exact BK330.out) k_ hk_))) (below_size (by repeat (first | (with_reducible first | exact HB.out | apply below_alloc | apply pw_below_drewN | apply below_drew1 | refine below_set ?_ GE330.out) | exact HB.out)))); have n1_ := Aside0.mk (blk_below (g := gb330) (o := .cells #[.int .i64 a0_0, .int .i64 a0_1, .int .i64 a0_2, .int .i64 a0_3, .int .i64 a0_4, .int .u8 a0_5, .int .u8 a0_6, .int .u64 a0_7] 32 (0, 0)) (by (with_reducible repeat (first | refine blk_drewN ?_ _ | refine blk_drew ?_ | refine blk_alloc ?_ _)); exact BK330.out) hb); have n2_ := Aside0.mk (below_step (by repeat (first | (with_reducible first | exact HB.out | apply below_alloc | apply pw_below_drewN | apply below_drew1 | refine below_set ?_ GE330.out) | exact HB.out)) hb); clear BK330; clear HB; have HO333 := n0_; have BK330 := n1_; have HB := n2_; clear n0_ n1_ n2_; (try clear hb); (try clear hb2); (try clear hk); (try clear hi); (try clear ho0); (try clear A2)))
 go_loopg [5] k (fun kq v5 w' => ∃ (x5_1 : Int), v5 = .int .i64 x5_1 ∧ Aside0 (weirgateref22_Text.l0 kq t331 x5_1 a0_0 a0_1 a0_2 a0_3 a0_4 a0_5 a0_6 a0_7 = some (r1, r2)) ∧ Aside0 (kq ≤ k) ∧ Aside0 (Kd.N (Kd.slice 9 Kd.string) 45 w' w.heap.size (fun k_ => k_ ≠ gb330) v332 t331) ∧ Aside0 (w'.heap[gb330]? = some (.cells #[.int .i64 a0_0, .int .i64 a0_1, .int .i64 a0_2, .int .i64 a0_3, .int .i64 a0_4, .int .u8 a0_5, .int .u8 a0_6, .int .u64 a0_7] 32 (0, 0))) ∧ Aside0 (Below w.heap.size w w'))
 case atStart => exact ⟨(0), (by first | rfl | (simp; done) | (simp [*]; done)), H', ⟨Nat.le_refl _⟩, ⟨by (with_reducible repeat (first | apply Kd.N_alloc | apply Kd.N_drewN | apply Kd.N_drew)); exact HO333.out⟩, ⟨by (with_reducible repeat (first | refine blk_drewN ?_ _ | refine blk_drew ?_ | refine blk_alloc ?_ _)); exact BK330.out⟩, ⟨by repeat (first | (with_reducible first | exact HB.out | apply below_alloc | apply pw_below_drewN | apply below_drew1 | refine below_set ?_ GE330.out) | exact HB.out)⟩⟩
 case round =>
  clear H'
  try clear c1
  try clear p2
  obtain ⟨x5_1, rfl, HA, HK1, HO_4, BK330, HB⟩ := hrel
  cases gk with
  | zero => exact absurd HA.out (by simp [weirgateref22_Text.l0])
  | succ k1 =>
   have H := HA.out
   clear HA
   simp only [weirgateref22_Text.l0] at H
   by_cases c5 : x5_1 < (t331.length : Int)
   ·rw [if_pos c5] at H
    have c5b0 : decide (x5_1 < (t331.length : Int)) = true := decide_eq_true c5
    clear c5
    have HC6 := Aside0.mk H
    clear H
    obtain ⟨Ao7, co7, eo7⟩ := Kd.N_slice HO_4.out
    subst eo7
    have hcz8_0 : wr.cell? ⟨gb330, 0, none⟩ = some (.int .i64 a0_0) := (blk_cell BK330.out 0).trans rfl
    have hcz8_1 : wr.cell? ⟨gb330, 1, none⟩ = some (.int .i64 a0_1) := (blk_cell BK330.out 1).trans rfl
    have hcz8_2 : wr.cell? ⟨gb330, 2, none⟩ = some (.int .i64 a0_2) := (blk_cell BK330.out 2).trans rfl
    have hcz8_3 : wr.cell? ⟨gb330, 3, none⟩ = some (.int .i64 a0_3) := (blk_cell BK330.out 3).trans rfl
    have hcz8_4 : wr.cell? ⟨gb330, 4, none⟩ = some (.int .i64 a0_4) := (blk_cell BK330.out 4).trans rfl
    have hcz8_5 : wr.cell? ⟨gb330, 5, none⟩ = some (.int .u8 a0_5) := (blk_cell BK330.out 5).trans rfl
    have hcz8_6 : wr.cell? ⟨gb330, 6, none⟩ = some (.int .u8 a0_6) := (blk_cell BK330.out 6).trans rfl
    have hcz8_7 : wr.cell? ⟨gb330, 7, none⟩ = some (.int .u64 a0_7) := (blk_cell BK330.out 7).trans rfl
    have hfz8_0 := blk_frozen BK330.out 0
    have hfz8_1 := blk_frozen BK330.out 1
    have hfz8_2 := blk_frozen BK330.out 2
    have hfz8_3 := blk_frozen BK330.out 3
    have hfz8_4 := blk_frozen BK330.out 4
    have hfz8_5 := blk_frozen BK330.out 5
    have hfz8_6 := blk_frozen BK330.out 6
    have hfz8_7 := blk_frozen BK330.out 7
    go_upto_block 2 with (first | ((with_reducible refine gate_dst (N := 7) rfl ?_); refine box_event ?hg (N := 7) ?hd (cs := #[.int .i64 0, .int .i64 0, .int .i64 0, .int .i64 0, .int .u8 0, .int .u8 0, .int .u64 0]) (t := 25) ?hr ?_; (case hd => rfl); (case hg => rfl); (case hr => first | (go_simp; done) | (go_simp; rfl)); intro gb334 hg w9 hbox hb; have n0_ := Aside0.mk (Kd.N_below (Kd.N_elderB (by (with_reducible repeat (first | apply Kd.N_alloc | apply Kd.N_drewN | apply Kd.N_drew)); exact HO_4.out) gb334 (Nat.le_of_eq hg.symm)) hb); have n1_ := Aside0.mk (blk_below (g := gb330) (o := .cells #[.int .i64 a0_0, .int .i64 a0_1, .int .i64 a0_2, .int .i64 a0_3, .int .i64 a0_4, .int .u8 a0_5, .int .u8 a0_6, .int .u64 a0_7] 32 (0, 0)) (by (with_reducible repeat (first | refine blk_drewN ?_ _ | refine blk_drew ?_ | refine blk_alloc ?_ _)); exact BK330.out) hb); have n2_ := Aside0.mk (below_step (by repeat (first | (with_reducible first | exact HB.out | apply below_alloc | apply pw_below_drewN | apply below_drew1 | refine below_set ?_ GE330.out) | exact HB.out)) hb); have n3_ := Aside0.mk (hbox); have n4_ := Aside0.mk ((by rw [hg]; exact (below_size (by repeat (first | (with_reducible first | exact HB.out | apply below_alloc | apply pw_below_drewN | apply below_drew1 | refine below_set ?_ GE330.out) | exact HB.out))) : w.heap.size ≤ gb334)); have n5_ := Aside0.mk ((by rw [hg]; exact (below_size (by repeat (first | (with_reducible first | exact HB.out | apply below_alloc | apply pw_below_drewN | apply below_drew1 | refine below_set ?_ GE330.out) | exact HB.out))) : w.heap.size ≤ gb334)); have n6_ := Aside0.mk ((by rw [hg]; exact Nat.ne_of_lt (blk_lt (g := gb330) (o := .cells #[.int .i64 a0_0, .int .i64 a0_1, .int .i64 a0_2, .int .i64 a0_3, .int .i64 a0_4, .int .u8 a0_5, .int .u8 a0_6, .int .u64 a0_7] 32 (0, 0)) (by (with_reducible repeat (first | refine blk_drewN ?_ _ | refine blk_drew ?_ | refine blk_alloc ?_ _)); exact BK330.out)) : gb330 ≠ gb334)); have n7_ := Aside0.mk ((by rw [hg]; exact Nat.ne_of_gt (blk_lt (g := gb330) (o := .cells #[.int .i64 a0_0, .int .i64 a0_1, .int .i64 a0_2, .int .i64 a0_3, .int .i64 a0_4, .int .u8 a0_5, .int .u8 a0_6, .int .u64 a0_7] 32 (0, 0)) (by (with_reducible repeat (first | refine blk_drewN ?_ _ | refine blk_drew ?_ | refine blk_alloc ?_ _)); exact BK330.out)) : gb334 ≠ gb330)); clear HO_4; clear BK330; clear HB; have HO_4 := n0_; have BK330 := n1_; have HB := n2_; have BK334 := n3_; have GW334 := n4_; have GE334 := n5_; have NB330_334 := n6_; have NB334_330 := n7_; clear n0_ n1_ n2_ n3_ n4_ n5_ n6_ n7_; clear hb hbox hg; have hnb10 := NB334_330.out; have hnc10 := NB330_334.out; have hcz11_0 : w9.cell? ⟨gb334, 0, none⟩ = some (.int .i64 0) := (blk_cell BK334.out 0).trans rfl; have hcz11_1 : w9.cell? ⟨gb334, 1, none⟩ = some (.int .i64 0) := (blk_cell BK334.out 1).trans rfl; have hcz11_2 : w9.cell? ⟨gb334, 2, none⟩ = some (.int .i64 0) := (blk_cell BK334.out 2).trans rfl; have hcz11_3 : w9.cell? ⟨gb334, 3, none⟩ = some (.int .i64 0) := (blk_cell BK334.out 3).trans rfl; have hcz11_4 : w9.cell? ⟨gb334, 4, none⟩ = some (.int .u8 0) := (blk_cell BK334.out 4).trans rfl; have hcz11_5 : w9.cell? ⟨gb334, 5, none⟩ = some (.int .u8 0) := (blk_cell BK334.out 5).trans rfl; have hcz11_6 : w9.cell? ⟨gb334, 6, none⟩ = some (.int .u64 0) := (blk_cell BK334.out 6).trans rfl; have hfz11_0 := blk_frozen BK334.out 0; have hfz11_1 := blk_frozen BK334.out 1; have hfz11_2 := blk_frozen BK334.out 2; have hfz11_3 := blk_frozen BK334.out 3; have hfz11_4 := blk_frozen BK334.out 4; have hfz11_5 := blk_frozen BK334.out 5; have hfz11_6 := blk_frozen BK334.out 6))
    (try simp only [Act.put, List.setIfInBounds_toArray, List.set_cons_zero, List.set_cons_succ])
    go_cut [6] (fun v6 wc => ∃ (kq : Nat) (x6_5 : List Int), Aside0 (weirgateref22_Text.j2 kq t331 x5_1 x6_5 a0_0 a0_1 a0_2 a0_3 a0_4 a0_5 a0_6 a0_7 a0_1 a0_2 a0_3 a0_4 a0_5 a0_6 a0_7 = some (r1, r2)) ∧ Aside0 (kq ≤ k1) ∧ Aside0 (Kd.N (Kd.slice 9 Kd.string) 45 wc w.heap.size (fun k_ => some k_ ≠ (v6 : Value).ownBlock ∧ k_ ≠ gb330 ∧ k_ ≠ gb334) (.slice Ao7 t331.length co7) t331) ∧ Aside0 (Kd.R (Kd.int .i64) 3 wc w.heap.size (fun _ => True) v6 x6_5) ∧ Aside0 (wc.heap[gb330]? = some (.cells #[.int .i64 a0_0, .int .i64 a0_1, .int .i64 a0_2, .int .i64 a0_3, .int .i64 a0_4, .int .u8 a0_5, .int .u8 a0_6, .int .u64 a0_7] 32 (0, 0))) ∧ Aside0 (wc.heap[gb334]? = some (.cells #[.int .i64 a0_1, .int .i64 a0_2, .int .i64 a0_3, .int .i64 a0_4, .int .u8 a0_5, .int .u8 a0_6, .int .u64 a0_7] 25 (0, 0))) ∧ Aside0 (Below w.heap.size w wc))
    case first =>
     have H := HC6.out
     clear HC6
     by_cases c12 : x5_1 ≤ 2
     ·rw [if_pos c12] at H
      have c12b0 : decide (x5_1 ≤ 2) = true := decide_eq_true c12
      clear c12
      (first | rw [c12b0] | (simp only [i64_w, i32_w]; rw [c12b0]) | skip)
      obtain ⟨y335, hy335⟩ : ∃ y_ : List Int, y_ = (([a0_3] : List Int)) := ⟨_, rfl⟩
      replace H : (weirgateref22_Text.j2 k1 t331 x5_1 y335 a0_0 a0_1 a0_2 a0_3 a0_4 a0_5 a0_6 a0_7 a0_1 a0_2 a0_3 a0_4 a0_5 a0_6 a0_7) = some (r1, r2) := by first | (rw [hy335]; with_reducible exact H) | (have H2_ := (Option.bind_some _ _).symm.trans H; rw [hy335]; with_reducible exact H2_) | (have H2_ := (Option.bind_some _ _).symm.trans H; with_reducible exact H2_) | with_reducible exact H | (rw [hy335]; exact H) | exact H
      have Ny335 := Aside0.mk hy335
      clear hy335
      have H' := Aside0.mk H
      clear H
      have hnb13 := NB334_330.out
      have hnc13 := NB330_334.out
      have hcz14_0 : w9.cell? ⟨gb334, 0, none⟩ = some (.int .i64 0) := (blk_cell BK334.out 0).trans rfl
      have hcz14_1 : w9.cell? ⟨gb334, 1, none⟩ = some (.int .i64 0) := (blk_cell BK334.out 1).trans rfl
      have hcz14_2 : w9.cell? ⟨gb334, 2, none⟩ = some (.int .i64 0) := (blk_cell BK334.out 2).trans rfl
      have hcz14_3 : w9.cell? ⟨gb334, 3, none⟩ = some (.int .i64 0) := (blk_cell BK334.out 3).trans rfl
      have hcz14_4 : w9.cell? ⟨gb334, 4, none⟩ = some (.int .u8 0) := (blk_cell BK334.out 4).trans rfl
      have hcz14_5 : w9.cell? ⟨gb334, 5, none⟩ = some (.int .u8 0) := (blk_cell BK334.out 5).trans rfl
      have hcz14_6 : w9.cell? ⟨gb334, 6, none⟩ = some (.int .u64 0) := (blk_cell BK334.out 6).trans rfl
      have hfz14_0 := blk_frozen BK334.out 0
      have hfz14_1 := blk_frozen BK334.out 1
      have hfz14_2 := blk_frozen BK334.out 2
      have hfz14_3 := blk_frozen BK334.out 3
      have hfz14_4 := blk_frozen BK334.out 4
      have hfz14_5 := blk_frozen BK334.out 5
      have hfz14_6 := blk_frozen BK334.out 6
      go_wp2_with (first | ((with_reducible refine gate_dst (N := 27) rfl ?_); refine Kd.R_lit (Kd.int .i64) _ 3 ?hg (N := 27) ?hd (xs := ([a0_3] : List Int)) (inner := [.int .i64 a0_3]) (ok := fun _ => True) (okp := fun _ => True) ?hr ?hp (fun _ hk => hk) trivial (Below.refl _ _) (Nat.le_refl _) (by simp) ?_; (case hd => rfl); (case hg => rfl); (case hr => first | (go_simp; done) | (go_simp; rfl)); (case hp => exact (Reps.one (show Kd.M (Kd.int .i64) _ _ _ a0_3 [.int .i64 a0_3] from rfl) (Reps.none _ _))); intro v336 w15 ho16 hb hg_ hnew_; clear hg_ hnew_; (first | rw [← Ny335.out] at ho16 | (simp only [Int.reduceToNat] at ho16; rw [← Ny335.out] at ho16)); have n0_ := Aside0.mk (Kd.N_elder' (by (with_reducible repeat (first | apply Kd.N_alloc | apply Kd.N_drewN | apply Kd.N_drew)); exact (Kd.N_mono (Kd.N_far (p := ⟨gb334, 6, none⟩) (Kd.N_far (p := ⟨gb334, 5, none⟩) (Kd.N_far (p := ⟨gb334, 4, none⟩) (Kd.N_far (p := ⟨gb334, 3, none⟩) (Kd.N_far (p := ⟨gb334, 2, none⟩) (Kd.N_far (p := ⟨gb334, 1, none⟩) (Kd.N_far (p := ⟨gb334, 0, none⟩) (Kd.N_mono HO_4.out (fun k_ hk => (⟨hk, hk.2⟩ : _ ∧ k_ ≠ gb334))) (fun _ hk => hk.2) (.int .i64 a0_1)) (fun _ hk => hk.2) (.int .i64 a0_2)) (fun _ hk => hk.2) (.int .i64 a0_3)) (fun _ hk => hk.2) (.int .i64 a0_4)) (fun _ hk => hk.2) (.int .u8 a0_5)) (fun _ hk => hk.2) (.int .u8 a0_6)) (fun _ hk => hk.2) (.int .u64 a0_7)) (fun _ h_ => h_.1))) (Kd.R_base ho16) hb); have n1_ := Aside0.mk (Kd.R_lower ho16 (below_size (by repeat (first | (with_reducible first | exact HB.out | apply below_alloc | apply pw_below_drewN | apply below_drew1 | refine below_set ?_ GE330.out | refine below_set ?_ GE334.out) | exact HB.out)))); have n2_ := Aside0.mk (blk_below (g := gb330) (o := .cells #[.int .i64 a0_0, .int .i64 a0_1, .int .i64 a0_2, .int .i64 a0_3, .int .i64 a0_4, .int .u8 a0_5, .int .u8 a0_6, .int .u64 a0_7] 32 (0, 0)) (by (with_reducible repeat (first | refine blk_drewN ?_ _ | refine blk_drew ?_ | refine blk_alloc ?_ _)); refine blk_far ?_ NB330_334.out _; (with_reducible repeat (first | refine blk_drewN ?_ _ | refine blk_drew ?_ | refine blk_alloc ?_ _)); refine blk_far ?_ NB330_334.out _; (with_reducible repeat (first | refine blk_drewN ?_ _ | refine blk_drew ?_ | refine blk_alloc ?_ _)); refine blk_far ?_ NB330_334.out _; (with_reducible repeat (first | refine blk_drewN ?_ _ | refine blk_drew ?_ | refine blk_alloc ?_ _)); refine blk_far ?_ NB330_334.out _; (with_reducible repeat (first | refine blk_drewN ?_ _ | refine blk_drew ?_ | refine blk_alloc ?_ _)); refine blk_far ?_ NB330_334.out _; (with_reducible repeat (first | refine blk_drewN ?_ _ | refine blk_drew ?_ | refine blk_alloc ?_ _)); refine blk_far ?_ NB330_334.out _; (with_reducible repeat (first | refine blk_drewN ?_ _ | refine blk_drew ?_ | refine blk_alloc ?_ _)); refine blk_far ?_ NB330_334.out _; (with_reducible repeat (first | refine blk_drewN ?_ _ | refine blk_drew ?_ | refine blk_alloc ?_ _)); exact BK330.out) hb); have n3_ := Aside0.mk (blk_below (g := gb334) (o := .cells #[.int .i64 a0_1, .int .i64 a0_2, .int .i64 a0_3, .int .i64 a0_4, .int .u8 a0_5, .int .u8 a0_6, .int .u64 a0_7] 25 (0, 0)) (by (with_reducible repeat (first | refine blk_drewN ?_ _ | refine blk_drew ?_ | refine blk_alloc ?_ _)); refine blk_put (cs := #[.int .i64 a0_1, .int .i64 a0_2, .int .i64 a0_3, .int .i64 a0_4, .int .u8 a0_5, .int .u8 a0_6, .int .u64 0]) ?_ 6 _ rfl; (with_reducible repeat (first | refine blk_drewN ?_ _ | refine blk_drew ?_ | refine blk_alloc ?_ _)); refine blk_put (cs := #[.int .i64 a0_1, .int .i64 a0_2, .int .i64 a0_3, .int .i64 a0_4, .int .u8 a0_5, .int .u8 0, .int .u64 0]) ?_ 5 _ rfl; (with_reducible repeat (first | refine blk_drewN ?_ _ | refine blk_drew ?_ | refine blk_alloc ?_ _)); refine blk_put (cs := #[.int .i64 a0_1, .int .i64 a0_2, .int .i64 a0_3, .int .i64 a0_4, .int .u8 0, .int .u8 0, .int .u64 0]) ?_ 4 _ rfl; (with_reducible repeat (first | refine blk_drewN ?_ _ | refine blk_drew ?_ | refine blk_alloc ?_ _)); refine blk_put (cs := #[.int .i64 a0_1, .int .i64 a0_2, .int .i64 a0_3, .int .i64 0, .int .u8 0, .int .u8 0, .int .u64 0]) ?_ 3 _ rfl; (with_reducible repeat (first | refine blk_drewN ?_ _ | refine blk_drew ?_ | refine blk_alloc ?_ _)); refine blk_put (cs := #[.int .i64 a0_1, .int .i64 a0_2, .int .i64 0, .int .i64 0, .int .u8 0, .int .u8 0, .int .u64 0]) ?_ 2 _ rfl; (with_reducible repeat (first | refine blk_drewN ?_ _ | refine blk_drew ?_ | refine blk_alloc ?_ _)); refine blk_put (cs := #[.int .i64 a0_1, .int .i64 0, .int .i64 0, .int .i64 0, .int .u8 0, .int .u8 0, .int .u64 0]) ?_ 1 _ rfl; (with_reducible repeat (first | refine blk_drewN ?_ _ | refine blk_drew ?_ | refine blk_alloc ?_ _)); refine blk_put (cs := #[.int .i64 0, .int .i64 0, .int .i64 0, .int .i64 0, .int .u8 0, .int .u8 0, .int .u64 0]) ?_ 0 _ rfl; (with_reducible repeat (first | refine blk_drewN ?_ _ | refine blk_drew ?_ | refine blk_alloc ?_ _)); exact BK334.out) hb); have n4_ := Aside0.mk (below_step (by repeat (first | (with_reducible first | exact HB.out | apply below_alloc | apply pw_below_drewN | apply below_drew1 | refine below_set ?_ GE330.out | refine below_set ?_ GE334.out) | exact HB.out)) hb); clear HO_4; clear BK330; clear BK334; clear HB; have HO_4 := n0_; have HO337 := n1_; have BK330 := n2_; have BK334 := n3_; have HB := n4_; clear n0_ n1_ n2_ n3_ n4_; clear hb ho16))
      go_meet
      case rel => exact ⟨_, (y335), H', ⟨by have := HK1.out; first | omega | exact Nat.le_refl _⟩, ⟨by (with_reducible repeat (first | apply Kd.N_alloc | apply Kd.N_drewN | apply Kd.N_drew)); exact Kd.N_mono HO_4.out (fun _ hk => ⟨hk.2, ⟨hk.1.1, hk.1.2⟩⟩)⟩, ⟨by (with_reducible repeat (first | apply Kd.R_alloc | apply Kd.R_drewN | apply Kd.R_drew)); exact HO337.out⟩, ⟨by (with_reducible repeat (first | refine blk_drewN ?_ _ | refine blk_drew ?_ | refine blk_alloc ?_ _)); exact BK330.out⟩, ⟨by (with_reducible repeat (first | refine blk_drewN ?_ _ | refine blk_drew ?_ | refine blk_alloc ?_ _)); exact BK334.out⟩, ⟨by repeat (first | (with_reducible first | exact HB.out | apply below_alloc | apply pw_below_drewN | apply below_drew1 | refine below_set ?_ GE330.out | refine below_set ?_ GE334.out) | exact HB.out)⟩⟩
     ·rw [if_neg c12] at H
      have c12b0 : decide (x5_1 ≤ 2) = false := decide_eq_false c12
      clear c12
      (first | rw [c12b0] | (simp only [i64_w, i32_w]; rw [c12b0]) | skip)
      by_cases c17 : x5_1 ≤ 4
      ·rw [if_pos c17] at H
       have c17b0 : decide (x5_1 ≤ 4) = true := decide_eq_true c17
       clear c17
       obtain ⟨y338, hy338⟩ : ∃ y_ : List Int, y_ = (([a0_2] : List Int)) := ⟨_, rfl⟩
       replace H : (weirgateref22_Text.j2 k1 t331 x5_1 y338 a0_0 a0_1 a0_2 a0_3 a0_4 a0_5 a0_6 a0_7 a0_1 a0_2 a0_3 a0_4 a0_5 a0_6 a0_7) = some (r1, r2) := by first | (rw [hy338]; with_reducible exact H) | (have H2_ := (Option.bind_some _ _).symm.trans H; rw [hy338]; with_reducible exact H2_) | (have H2_ := (Option.bind_some _ _).symm.trans H; with_reducible exact H2_) | with_reducible exact H | (rw [hy338]; exact H) | exact H
       have Ny338 := Aside0.mk hy338
       clear hy338
       have H' := Aside0.mk H
       clear H
       have hnb18 := NB334_330.out
       have hnc18 := NB330_334.out
       have hcz19_0 : w9.cell? ⟨gb334, 0, none⟩ = some (.int .i64 0) := (blk_cell BK334.out 0).trans rfl
       have hcz19_1 : w9.cell? ⟨gb334, 1, none⟩ = some (.int .i64 0) := (blk_cell BK334.out 1).trans rfl
       have hcz19_2 : w9.cell? ⟨gb334, 2, none⟩ = some (.int .i64 0) := (blk_cell BK334.out 2).trans rfl
       have hcz19_3 : w9.cell? ⟨gb334, 3, none⟩ = some (.int .i64 0) := (blk_cell BK334.out 3).trans rfl
       have hcz19_4 : w9.cell? ⟨gb334, 4, none⟩ = some (.int .u8 0) := (blk_cell BK334.out 4).trans rfl
       have hcz19_5 : w9.cell? ⟨gb334, 5, none⟩ = some (.int .u8 0) := (blk_cell BK334.out 5).trans rfl
       have hcz19_6 : w9.cell? ⟨gb334, 6, none⟩ = some (.int .u64 0) := (blk_cell BK334.out 6).trans rfl
       have hfz19_0 := blk_frozen BK334.out 0
       have hfz19_1 := blk_frozen BK334.out 1
       have hfz19_2 := blk_frozen BK334.out 2
       have hfz19_3 := blk_frozen BK334.out 3
       have hfz19_4 := blk_frozen BK334.out 4
       have hfz19_5 := blk_frozen BK334.out 5
       have hfz19_6 := blk_frozen BK334.out 6
       go_wp2_with (first | ((with_reducible refine gate_dst (N := 33) rfl ?_); refine Kd.R_lit (Kd.int .i64) _ 3 ?hg (N := 33) ?hd (xs := ([a0_2] : List Int)) (inner := [.int .i64 a0_2]) (ok := fun _ => True) (okp := fun _ => True) ?hr ?hp (fun _ hk => hk) trivial (Below.refl _ _) (Nat.le_refl _) (by simp) ?_; (case hd => rfl); (case hg => rfl); (case hr => first | (go_simp; done) | (go_simp; rfl)); (case hp => exact (Reps.one (show Kd.M (Kd.int .i64) _ _ _ a0_2 [.int .i64 a0_2] from rfl) (Reps.none _ _))); intro v339 w20 ho21 hb hg_ hnew_; clear hg_ hnew_; (first | rw [← Ny338.out] at ho21 | (simp only [Int.reduceToNat] at ho21; rw [← Ny338.out] at ho21)); have n0_ := Aside0.mk (Kd.N_elder' (by (with_reducible repeat (first | apply Kd.N_alloc | apply Kd.N_drewN | apply Kd.N_drew)); exact (Kd.N_mono (Kd.N_far (p := ⟨gb334, 6, none⟩) (Kd.N_far (p := ⟨gb334, 5, none⟩) (Kd.N_far (p := ⟨gb334, 4, none⟩) (Kd.N_far (p := ⟨gb334, 3, none⟩) (Kd.N_far (p := ⟨gb334, 2, none⟩) (Kd.N_far (p := ⟨gb334, 1, none⟩) (Kd.N_far (p := ⟨gb334, 0, none⟩) (Kd.N_mono HO_4.out (fun k_ hk => (⟨hk, hk.2⟩ : _ ∧ k_ ≠ gb334))) (fun _ hk => hk.2) (.int .i64 a0_1)) (fun _ hk => hk.2) (.int .i64 a0_2)) (fun _ hk => hk.2) (.int .i64 a0_3)) (fun _ hk => hk.2) (.int .i64 a0_4)) (fun _ hk => hk.2) (.int .u8 a0_5)) (fun _ hk => hk.2) (.int .u8 a0_6)) (fun _ hk => hk.2) (.int .u64 a0_7)) (fun _ h_ => h_.1))) (Kd.R_base ho21) hb); have n1_ := Aside0.mk (Kd.R_lower ho21 (below_size (by repeat (first | (with_reducible first | exact HB.out | apply below_alloc | apply pw_below_drewN | apply below_drew1 | refine below_set ?_ GE330.out | refine below_set ?_ GE334.out) | exact HB.out)))); have n2_ := Aside0.mk (blk_below (g := gb330) (o := .cells #[.int .i64 a0_0, .int .i64 a0_1, .int .i64 a0_2, .int .i64 a0_3, .int .i64 a0_4, .int .u8 a0_5, .int .u8 a0_6, .int .u64 a0_7] 32 (0, 0)) (by (with_reducible repeat (first | refine blk_drewN ?_ _ | refine blk_drew ?_ | refine blk_alloc ?_ _)); refine blk_far ?_ NB330_334.out _; (with_reducible repeat (first | refine blk_drewN ?_ _ | refine blk_drew ?_ | refine blk_alloc ?_ _)); refine blk_far ?_ NB330_334.out _; (with_reducible repeat (first | refine blk_drewN ?_ _ | refine blk_drew ?_ | refine blk_alloc ?_ _)); refine blk_far ?_ NB330_334.out _; (with_reducible repeat (first | refine blk_drewN ?_ _ | refine blk_drew ?_ | refine blk_alloc ?_ _)); refine blk_far ?_ NB330_334.out _; (with_reducible repeat (first | refine blk_drewN ?_ _ | refine blk_drew ?_ | refine blk_alloc ?_ _)); refine blk_far ?_ NB330_334.out _; (with_reducible repeat (first | refine blk_drewN ?_ _ | refine blk_drew ?_ | refine blk_alloc ?_ _)); refine blk_far ?_ NB330_334.out _; (with_reducible repeat (first | refine blk_drewN ?_ _ | refine blk_drew ?_ | refine blk_alloc ?_ _)); refine blk_far ?_ NB330_334.out _; (with_reducible repeat (first | refine blk_drewN ?_ _ | refine blk_drew ?_ | refine blk_alloc ?_ _)); exact BK330.out) hb); have n3_ := Aside0.mk (blk_below (g := gb334) (o := .cells #[.int .i64 a0_1, .int .i64 a0_2, .int .i64 a0_3, .int .i64 a0_4, .int .u8 a0_5, .int .u8 a0_6, .int .u64 a0_7] 25 (0, 0)) (by (with_reducible repeat (first | refine blk_drewN ?_ _ | refine blk_drew ?_ | refine blk_alloc ?_ _)); refine blk_put (cs := #[.int .i64 a0_1, .int .i64 a0_2, .int .i64 a0_3, .int .i64 a0_4, .int .u8 a0_5, .int .u8 a0_6, .int .u64 0]) ?_ 6 _ rfl; (with_reducible repeat (first | refine blk_drewN ?_ _ | refine blk_drew ?_ | refine blk_alloc ?_ _)); refine blk_put (cs := #[.int .i64 a0_1, .int .i64 a0_2, .int .i64 a0_3, .int .i64 a0_4, .int .u8 a0_5, .int .u8 0, .int .u64 0]) ?_ 5 _ rfl; (with_reducible repeat (first | refine blk_drewN ?_ _ | refine blk_drew ?_ | refine blk_alloc ?_ _)); refine blk_put (cs := #[.int .i64 a0_1, .int .i64 a0_2, .int .i64 a0_3, .int .i64 a0_4, .int .u8 0, .int .u8 0, .int .u64 0]) ?_ 4 _ rfl; (with_reducible repeat (first | refine blk_drewN ?_ _ | refine blk_drew ?_ | refine blk_alloc ?_ _)); refine blk_put (cs := #[.int .i64 a0_1, .int .i64 a0_2, .int .i64 a0_3, .int .i64 0, .int .u8 0, .int .u8 0, .int .u64 0]) ?_ 3 _ rfl; (with_reducible repeat (first | refine blk_drewN ?_ _ | refine blk_drew ?_ | refine blk_alloc ?_ _)); refine blk_put (cs := #[.int .i64 a0_1, .int .i64 a0_2, .int .i64 0, .int .i64 0, .int .u8 0, .int .u8 0, .int .u64 0]) ?_ 2 _ rfl; (with_reducible repeat (first | refine blk_drewN ?_ _ | refine blk_drew ?_ | refine blk_alloc ?_ _)); refine blk_put (cs := #[.int .i64 a0_1, .int .i64 0, .int .i64 0, .int .i64 0, .int .u8 0, .int .u8 0, .int .u64 0]) ?_ 1 _ rfl; (with_reducible repeat (first | refine blk_drewN ?_ _ | refine blk_drew ?_ | refine blk_alloc ?_ _)); refine blk_put (cs := #[.int .i64 0, .int .i64 0, .int .i64 0, .int .i64 0, .int .u8 0, .int .u8 0, .int .u64 0]) ?_ 0 _ rfl; (with_reducible repeat (first | refine blk_drewN ?_ _ | refine blk_drew ?_ | refine blk_alloc ?_ _)); exact BK334.out) hb); have n4_ := Aside0.mk (below_step (by repeat (first | (with_reducible first | exact HB.out | apply below_alloc | apply pw_below_drewN | apply below_drew1 | refine below_set ?_ GE330.out | refine below_set ?_ GE334.out) | exact HB.out)) hb); clear HO_4; clear BK330; clear BK334; clear HB; have HO_4 := n0_; have HO340 := n1_; have BK330 := n2_; have BK334 := n3_; have HB := n4_; clear n0_ n1_ n2_ n3_ n4_; clear hb ho21))
       go_meet
       case rel => exact ⟨_, (y338), H', ⟨by have := HK1.out; first | omega | exact Nat.le_refl _⟩, ⟨by (with_reducible repeat (first | apply Kd.N_alloc | apply Kd.N_drewN | apply Kd.N_drew)); exact Kd.N_mono HO_4.out (fun _ hk => ⟨hk.2, ⟨hk.1.1, hk.1.2⟩⟩)⟩, ⟨by (with_reducible repeat (first | apply Kd.R_alloc | apply Kd.R_drewN | apply Kd.R_drew)); exact HO340.out⟩, ⟨by (with_reducible repeat (first | refine blk_drewN ?_ _ | refine blk_drew ?_ | refine blk_alloc ?_ _)); exact BK330.out⟩, ⟨by (with_reducible repeat (first | refine blk_drewN ?_ _ | refine blk_drew ?_ | refine blk_alloc ?_ _)); exact BK334.out⟩, ⟨by repeat (first | (with_reducible first | exact HB.out | apply below_alloc | apply pw_below_drewN | apply below_drew1 | refine below_set ?_ GE330.out | refine below_set ?_ GE334.out) | exact HB.out)⟩⟩
      ·rw [if_neg c17] at H
       have c17b0 : decide (x5_1 ≤ 4) = false := decide_eq_false c17
       clear c17
       by_cases c22 : x5_1 ≤ 6
       ·rw [if_pos c22] at H
        have c22b0 : decide (x5_1 ≤ 6) = true := decide_eq_true c22
        clear c22
        obtain ⟨y341, hy341⟩ : ∃ y_ : List Int, y_ = (([a0_2, a0_3] : List Int)) := ⟨_, rfl⟩
        replace H : (weirgateref22_Text.j2 k1 t331 x5_1 y341 a0_0 a0_1 a0_2 a0_3 a0_4 a0_5 a0_6 a0_7 a0_1 a0_2 a0_3 a0_4 a0_5 a0_6 a0_7) = some (r1, r2) := by first | (rw [hy341]; with_reducible exact H) | (have H2_ := (Option.bind_some _ _).symm.trans H; rw [hy341]; with_reducible exact H2_) | (have H2_ := (Option.bind_some _ _).symm.trans H; with_reducible exact H2_) | with_reducible exact H | (rw [hy341]; exact H) | exact H
        have Ny341 := Aside0.mk hy341
        clear hy341
        have H' := Aside0.mk H
        clear H
        have hnb23 := NB334_330.out
        have hnc23 := NB330_334.out
        have hcz24_0 : w9.cell? ⟨gb334, 0, none⟩ = some (.int .i64 0) := (blk_cell BK334.out 0).trans rfl
        have hcz24_1 : w9.cell? ⟨gb334, 1, none⟩ = some (.int .i64 0) := (blk_cell BK334.out 1).trans rfl
        have hcz24_2 : w9.cell? ⟨gb334, 2, none⟩ = some (.int .i64 0) := (blk_cell BK334.out 2).trans rfl
        have hcz24_3 : w9.cell? ⟨gb334, 3, none⟩ = some (.int .i64 0) := (blk_cell BK334.out 3).trans rfl
        have hcz24_4 : w9.cell? ⟨gb334, 4, none⟩ = some (.int .u8 0) := (blk_cell BK334.out 4).trans rfl
        have hcz24_5 : w9.cell? ⟨gb334, 5, none⟩ = some (.int .u8 0) := (blk_cell BK334.out 5).trans rfl
        have hcz24_6 : w9.cell? ⟨gb334, 6, none⟩ = some (.int .u64 0) := (blk_cell BK334.out 6).trans rfl
        have hfz24_0 := blk_frozen BK334.out 0
        have hfz24_1 := blk_frozen BK334.out 1
        have hfz24_2 := blk_frozen BK334.out 2
        have hfz24_3 := blk_frozen BK334.out 3
        have hfz24_4 := blk_frozen BK334.out 4
        have hfz24_5 := blk_frozen BK334.out 5
        have hfz24_6 := blk_frozen BK334.out 6
        go_wp2_with (first | ((with_reducible refine gate_dst (N := 41) rfl ?_); refine Kd.R_lit (Kd.int .i64) _ 3 ?hg (N := 41) ?hd (xs := ([a0_2, a0_3] : List Int)) (inner := [.int .i64 a0_2, .int .i64 a0_3]) (ok := fun _ => True) (okp := fun _ => True) ?hr ?hp (fun _ hk => hk) trivial (Below.refl _ _) (Nat.le_refl _) (by simp) ?_; (case hd => rfl); (case hg => rfl); (case hr => first | (go_simp; done) | (go_simp; rfl)); (case hp => exact (Reps.one (show Kd.M (Kd.int .i64) _ _ _ a0_2 [.int .i64 a0_2] from rfl) (Reps.one (show Kd.M (Kd.int .i64) _ _ _ a0_3 [.int .i64 a0_3] from rfl) (Reps.none _ _)))); intro v342 w25 ho26 hb hg_ hnew_; clear hg_ hnew_; (first | rw [← Ny341.out] at ho26 | (simp only [Int.reduceToNat] at ho26; rw [← Ny341.out] at ho26)); have n0_ := Aside0.mk (Kd.N_elder' (by (with_reducible repeat (first | apply Kd.N_alloc | apply Kd.N_drewN | apply Kd.N_drew)); exact (Kd.N_mono (Kd.N_far (p := ⟨gb334, 6, none⟩) (Kd.N_far (p := ⟨gb334, 5, none⟩) (Kd.N_far (p := ⟨gb334, 4, none⟩) (Kd.N_far (p := ⟨gb334, 3, none⟩) (Kd.N_far (p := ⟨gb334, 2, none⟩) (Kd.N_far (p := ⟨gb334, 1, none⟩) (Kd.N_far (p := ⟨gb334, 0, none⟩) (Kd.N_mono HO_4.out (fun k_ hk => (⟨hk, hk.2⟩ : _ ∧ k_ ≠ gb334))) (fun _ hk => hk.2) (.int .i64 a0_1)) (fun _ hk => hk.2) (.int .i64 a0_2)) (fun _ hk => hk.2) (.int .i64 a0_3)) (fun _ hk => hk.2) (.int .i64 a0_4)) (fun _ hk => hk.2) (.int .u8 a0_5)) (fun _ hk => hk.2) (.int .u8 a0_6)) (fun _ hk => hk.2) (.int .u64 a0_7)) (fun _ h_ => h_.1))) (Kd.R_base ho26) hb); have n1_ := Aside0.mk (Kd.R_lower ho26 (below_size (by repeat (first | (with_reducible first | exact HB.out | apply below_alloc | apply pw_below_drewN | apply below_drew1 | refine below_set ?_ GE330.out | refine below_set ?_ GE334.out) | exact HB.out)))); have n2_ := Aside0.mk (blk_below (g := gb330) (o := .cells #[.int .i64 a0_0, .int .i64 a0_1, .int .i64 a0_2, .int .i64 a0_3, .int .i64 a0_4, .int .u8 a0_5, .int .u8 a0_6, .int .u64 a0_7] 32 (0, 0)) (by (with_reducible repeat (first | refine blk_drewN ?_ _ | refine blk_drew ?_ | refine blk_alloc ?_ _)); refine blk_far ?_ NB330_334.out _; (with_reducible repeat (first | refine blk_drewN ?_ _ | refine blk_drew ?_ | refine blk_alloc ?_ _)); refine blk_far ?_ NB330_334.out _; (with_reducible repeat (first | refine blk_drewN ?_ _ | refine blk_drew ?_ | refine blk_alloc ?_ _)); refine blk_far ?_ NB330_334.out _; (with_reducible repeat (first | refine blk_drewN ?_ _ | refine blk_drew ?_ | refine blk_alloc ?_ _)); refine blk_far ?_ NB330_334.out _; (with_reducible repeat (first | refine blk_drewN ?_ _ | refine blk_drew ?_ | refine blk_alloc ?_ _)); refine blk_far ?_ NB330_334.out _; (with_reducible repeat (first | refine blk_drewN ?_ _ | refine blk_drew ?_ | refine blk_alloc ?_ _)); refine blk_far ?_ NB330_334.out _; (with_reducible repeat (first | refine blk_drewN ?_ _ | refine blk_drew ?_ | refine blk_alloc ?_ _)); refine blk_far ?_ NB330_334.out _; (with_reducible repeat (first | refine blk_drewN ?_ _ | refine blk_drew ?_ | refine blk_alloc ?_ _)); exact BK330.out) hb); have n3_ := Aside0.mk (blk_below (g := gb334) (o := .cells #[.int .i64 a0_1, .int .i64 a0_2, .int .i64 a0_3, .int .i64 a0_4, .int .u8 a0_5, .int .u8 a0_6, .int .u64 a0_7] 25 (0, 0)) (by (with_reducible repeat (first | refine blk_drewN ?_ _ | refine blk_drew ?_ | refine blk_alloc ?_ _)); refine blk_put (cs := #[.int .i64 a0_1, .int .i64 a0_2, .int .i64 a0_3, .int .i64 a0_4, .int .u8 a0_5, .int .u8 a0_6, .int .u64 0]) ?_ 6 _ rfl; (with_reducible repeat (first | refine blk_drewN ?_ _ | refine blk_drew ?_ | refine blk_alloc ?_ _)); refine blk_put (cs := #[.int .i64 a0_1, .int .i64 a0_2, .int .i64 a0_3, .int .i64 a0_4, .int .u8 a0_5, .int .u8 0, .int .u64 0]) ?_ 5 _ rfl; (with_reducible repeat (first | refine blk_drewN ?_ _ | refine blk_drew ?_ | refine blk_alloc ?_ _)); refine blk_put (cs := #[.int .i64 a0_1, .int .i64 a0_2, .int .i64 a0_3, .int .i64 a0_4, .int .u8 0, .int .u8 0, .int .u64 0]) ?_ 4 _ rfl; (with_reducible repeat (first | refine blk_drewN ?_ _ | refine blk_drew ?_ | refine blk_alloc ?_ _)); refine blk_put (cs := #[.int .i64 a0_1, .int .i64 a0_2, .int .i64 a0_3, .int .i64 0, .int .u8 0, .int .u8 0, .int .u64 0]) ?_ 3 _ rfl; (with_reducible repeat (first | refine blk_drewN ?_ _ | refine blk_drew ?_ | refine blk_alloc ?_ _)); refine blk_put (cs := #[.int .i64 a0_1, .int .i64 a0_2, .int .i64 0, .int .i64 0, .int .u8 0, .int .u8 0, .int .u64 0]) ?_ 2 _ rfl; (with_reducible repeat (first | refine blk_drewN ?_ _ | refine blk_drew ?_ | refine blk_alloc ?_ _)); refine blk_put (cs := #[.int .i64 a0_1, .int .i64 0, .int .i64 0, .int .i64 0, .int .u8 0, .int .u8 0, .int .u64 0]) ?_ 1 _ rfl; (with_reducible repeat (first | refine blk_drewN ?_ _ | refine blk_drew ?_ | refine blk_alloc ?_ _)); refine blk_put (cs := #[.int .i64 0, .int .i64 0, .int .i64 0, .int .i64 0, .int .u8 0, .int .u8 0, .int .u64 0]) ?_ 0 _ rfl; (with_reducible repeat (first | refine blk_drewN ?_ _ | refine blk_drew ?_ | refine blk_alloc ?_ _)); exact BK334.out) hb); have n4_ := Aside0.mk (below_step (by repeat (first | (with_reducible first | exact HB.out | apply below_alloc | apply pw_below_drewN | apply below_drew1 | refine below_set ?_ GE330.out | refine below_set ?_ GE334.out) | exact HB.out)) hb); clear HO_4; clear BK330; clear BK334; clear HB; have HO_4 := n0_; have HO343 := n1_; have BK330 := n2_; have BK334 := n3_; have HB := n4_; clear n0_ n1_ n2_ n3_ n4_; clear hb ho26))
        go_meet
        case rel => exact ⟨_, (y341), H', ⟨by have := HK1.out; first | omega | exact Nat.le_refl _⟩, ⟨by (with_reducible repeat (first | apply Kd.N_alloc | apply Kd.N_drewN | apply Kd.N_drew)); exact Kd.N_mono HO_4.out (fun _ hk => ⟨hk.2, ⟨hk.1.1, hk.1.2⟩⟩)⟩, ⟨by (with_reducible repeat (first | apply Kd.R_alloc | apply Kd.R_drewN | apply Kd.R_drew)); exact HO343.out⟩, ⟨by (with_reducible repeat (first | refine blk_drewN ?_ _ | refine blk_drew ?_ | refine blk_alloc ?_ _)); exact BK330.out⟩, ⟨by (with_reducible repeat (first | refine blk_drewN ?_ _ | refine blk_drew ?_ | refine blk_alloc ?_ _)); exact BK334.out⟩, ⟨by repeat (first | (with_reducible first | exact HB.out | apply below_alloc | apply pw_below_drewN | apply below_drew1 | refine below_set ?_ GE330.out | refine below_set ?_ GE334.out) | exact HB.out)⟩⟩
       ·rw [if_neg c22] at H
        have c22b0 : decide (x5_1 ≤ 6) = false := decide_eq_false c22
        clear c22
        by_cases c27 : x5_1 = 7
        ·rw [if_pos c27] at H
         have c27b0 : (x5_1 == 7) = true := beq_iff_eq.mpr c27
         have c27b1 : (x5_1 != 7) = false := bne_eq_false_iff_eq.mpr c27
         clear c27
         obtain ⟨y344, hy344⟩ : ∃ y_ : List Int, y_ = (([a0_4, wrap64 (a0_5), wrap64 (a0_6)] : List Int)) := ⟨_, rfl⟩
         replace H : (weirgateref22_Text.j2 k1 t331 x5_1 y344 a0_0 a0_1 a0_2 a0_3 a0_4 a0_5 a0_6 a0_7 a0_1 a0_2 a0_3 a0_4 a0_5 a0_6 a0_7) = some (r1, r2) := by first | (rw [hy344]; with_reducible exact H) | (have H2_ := (Option.bind_some _ _).symm.trans H; rw [hy344]; with_reducible exact H2_) | (have H2_ := (Option.bind_some _ _).symm.trans H; with_reducible exact H2_) | with_reducible exact H | (rw [hy344]; exact H) | exact H
         have Ny344 := Aside0.mk hy344
         clear hy344
         have H' := Aside0.mk H
         clear H
         have hnb28 := NB334_330.out
         have hnc28 := NB330_334.out
         have hcz29_0 : w9.cell? ⟨gb334, 0, none⟩ = some (.int .i64 0) := (blk_cell BK334.out 0).trans rfl
         have hcz29_1 : w9.cell? ⟨gb334, 1, none⟩ = some (.int .i64 0) := (blk_cell BK334.out 1).trans rfl
         have hcz29_2 : w9.cell? ⟨gb334, 2, none⟩ = some (.int .i64 0) := (blk_cell BK334.out 2).trans rfl
         have hcz29_3 : w9.cell? ⟨gb334, 3, none⟩ = some (.int .i64 0) := (blk_cell BK334.out 3).trans rfl
         have hcz29_4 : w9.cell? ⟨gb334, 4, none⟩ = some (.int .u8 0) := (blk_cell BK334.out 4).trans rfl
         have hcz29_5 : w9.cell? ⟨gb334, 5, none⟩ = some (.int .u8 0) := (blk_cell BK334.out 5).trans rfl
         have hcz29_6 : w9.cell? ⟨gb334, 6, none⟩ = some (.int .u64 0) := (blk_cell BK334.out 6).trans rfl
         have hfz29_0 := blk_frozen BK334.out 0
         have hfz29_1 := blk_frozen BK334.out 1
         have hfz29_2 := blk_frozen BK334.out 2
         have hfz29_3 := blk_frozen BK334.out 3
         have hfz29_4 := blk_frozen BK334.out 4
         have hfz29_5 := blk_frozen BK334.out 5
         have hfz29_6 := blk_frozen BK334.out 6
         go_wp2_with (first | ((with_reducible refine gate_dst (N := 53) rfl ?_); refine Kd.R_lit (Kd.int .i64) _ 3 ?hg (N := 53) ?hd (xs := ([a0_4, wrap64 (a0_5), wrap64 (a0_6)] : List Int)) (inner := [.int .i64 a0_4, .int .i64 (wrap64 (a0_5)), .int .i64 (wrap64 (a0_6))]) (ok := fun _ => True) (okp := fun _ => True) ?hr ?hp (fun _ hk => hk) trivial (Below.refl _ _) (Nat.le_refl _) (by simp) ?_; (case hd => rfl); (case hg => rfl); (case hr => first | (go_simp; done) | (go_simp; rfl)); (case hp => exact (Reps.one (show Kd.M (Kd.int .i64) _ _ _ a0_4 [.int .i64 a0_4] from rfl) (Reps.one (show Kd.M (Kd.int .i64) _ _ _ (wrap64 (a0_5)) [.int .i64 (wrap64 (a0_5))] from rfl) (Reps.one (show Kd.M (Kd.int .i64) _ _ _ (wrap64 (a0_6)) [.int .i64 (wrap64 (a0_6))] from rfl) (Reps.none _ _))))); intro v345 w30 ho31 hb hg_ hnew_; clear hg_ hnew_; (first | rw [← Ny344.out] at ho31 | (simp only [Int.reduceToNat] at ho31; rw [← Ny344.out] at ho31)); have n0_ := Aside0.mk (Kd.N_elder' (by (with_reducible repeat (first | apply Kd.N_alloc | apply Kd.N_drewN | apply Kd.N_drew)); exact (Kd.N_mono (Kd.N_far (p := ⟨gb334, 6, none⟩) (Kd.N_far (p := ⟨gb334, 5, none⟩) (Kd.N_far (p := ⟨gb334, 4, none⟩) (Kd.N_far (p := ⟨gb334, 3, none⟩) (Kd.N_far (p := ⟨gb334, 2, none⟩) (Kd.N_far (p := ⟨gb334, 1, none⟩) (Kd.N_far (p := ⟨gb334, 0, none⟩) (Kd.N_mono HO_4.out (fun k_ hk => (⟨hk, hk.2⟩ : _ ∧ k_ ≠ gb334))) (fun _ hk => hk.2) (.int .i64 a0_1)) (fun _ hk => hk.2) (.int .i64 a0_2)) (fun _ hk => hk.2) (.int .i64 a0_3)) (fun _ hk => hk.2) (.int .i64 a0_4)) (fun _ hk => hk.2) (.int .u8 a0_5)) (fun _ hk => hk.2) (.int .u8 a0_6)) (fun _ hk => hk.2) (.int .u64 a0_7)) (fun _ h_ => h_.1))) (Kd.R_base ho31) hb); have n1_ := Aside0.mk (Kd.R_lower ho31 (below_size (by repeat (first | (with_reducible first | exact HB.out | apply below_alloc | apply pw_below_drewN | apply below_drew1 | refine below_set ?_ GE330.out | refine below_set ?_ GE334.out) | exact HB.out)))); have n2_ := Aside0.mk (blk_below (g := gb330) (o := .cells #[.int .i64 a0_0, .int .i64 a0_1, .int .i64 a0_2, .int .i64 a0_3, .int .i64 a0_4, .int .u8 a0_5, .int .u8 a0_6, .int .u64 a0_7] 32 (0, 0)) (by (with_reducible repeat (first | refine blk_drewN ?_ _ | refine blk_drew ?_ | refine blk_alloc ?_ _)); refine blk_far ?_ NB330_334.out _; (with_reducible repeat (first | refine blk_drewN ?_ _ | refine blk_drew ?_ | refine blk_alloc ?_ _)); refine blk_far ?_ NB330_334.out _; (with_reducible repeat (first | refine blk_drewN ?_ _ | refine blk_drew ?_ | refine blk_alloc ?_ _)); refine blk_far ?_ NB330_334.out _; (with_reducible repeat (first | refine blk_drewN ?_ _ | refine blk_drew ?_ | refine blk_alloc ?_ _)); refine blk_far ?_ NB330_334.out _; (with_reducible repeat (first | refine blk_drewN ?_ _ | refine blk_drew ?_ | refine blk_alloc ?_ _)); refine blk_far ?_ NB330_334.out _; (with_reducible repeat (first | refine blk_drewN ?_ _ | refine blk_drew ?_ | refine blk_alloc ?_ _)); refine blk_far ?_ NB330_334.out _; (with_reducible repeat (first | refine blk_drewN ?_ _ | refine blk_drew ?_ | refine blk_alloc ?_ _)); refine blk_far ?_ NB330_334.out _; (with_reducible repeat (first | refine blk_drewN ?_ _ | refine blk_drew ?_ | refine blk_alloc ?_ _)); exact BK330.out) hb); have n3_ := Aside0.mk (blk_below (g := gb334) (o := .cells #[.int .i64 a0_1, .int .i64 a0_2, .int .i64 a0_3, .int .i64 a0_4, .int .u8 a0_5, .int .u8 a0_6, .int .u64 a0_7] 25 (0, 0)) (by (with_reducible repeat (first | refine blk_drewN ?_ _ | refine blk_drew ?_ | refine blk_alloc ?_ _)); refine blk_put (cs := #[.int .i64 a0_1, .int .i64 a0_2, .int .i64 a0_3, .int .i64 a0_4, .int .u8 a0_5, .int .u8 a0_6, .int .u64 0]) ?_ 6 _ rfl; (with_reducible repeat (first | refine blk_drewN ?_ _ | refine blk_drew ?_ | refine blk_alloc ?_ _)); refine blk_put (cs := #[.int .i64 a0_1, .int .i64 a0_2, .int .i64 a0_3, .int .i64 a0_4, .int .u8 a0_5, .int .u8 0, .int .u64 0]) ?_ 5 _ rfl; (with_reducible repeat (first | refine blk_drewN ?_ _ | refine blk_drew ?_ | refine blk_alloc ?_ _)); refine blk_put (cs := #[.int .i64 a0_1, .int .i64 a0_2, .int .i64 a0_3, .int .i64 a0_4, .int .u8 0, .int .u8 0, .int .u64 0]) ?_ 4 _ rfl; (with_reducible repeat (first | refine blk_drewN ?_ _ | refine blk_drew ?_ | refine blk_alloc ?_ _)); refine blk_put (cs := #[.int .i64 a0_1, .int .i64 a0_2, .int .i64 a0_3, .int .i64 0, .int .u8 0, .int .u8 0, .int .u64 0]) ?_ 3 _ rfl; (with_reducible repeat (first | refine blk_drewN ?_ _ | refine blk_drew ?_ | refine blk_alloc ?_ _)); refine blk_put (cs := #[.int .i64 a0_1, .int .i64 a0_2, .int .i64 0, .int .i64 0, .int .u8 0, .int .u8 0, .int .u64 0]) ?_ 2 _ rfl; (with_reducible repeat (first | refine blk_drewN ?_ _ | refine blk_drew ?_ | refine blk_alloc ?_ _)); refine blk_put (cs := #[.int .i64 a0_1, .int .i64 0, .int .i64 0, .int .i64 0, .int .u8 0, .int .u8 0, .int .u64 0]) ?_ 1 _ rfl; (with_reducible repeat (first | refine blk_drewN ?_ _ | refine blk_drew ?_ | refine blk_alloc ?_ _)); refine blk_put (cs := #[.int .i64 0, .int .i64 0, .int .i64 0, .int .i64 0, .int .u8 0, .int .u8 0, .int .u64 0]) ?_ 0 _ rfl; (with_reducible repeat (first | refine blk_drewN ?_ _ | refine blk_drew ?_ | refine blk_alloc ?_ _)); exact BK334.out) hb); have n4_ := Aside0.mk (below_step (by repeat (first | (with_reducible first | exact HB.out | apply below_alloc | apply pw_below_drewN | apply below_drew1 | refine below_set ?_ GE330.out | refine below_set ?_ GE334.out) | exact HB.out)) hb); clear HO_4; clear BK330; clear BK334; clear HB; have HO_4 := n0_; have HO346 := n1_; have BK330 := n2_; have BK334 := n3_; have HB := n4_; clear n0_ n1_ n2_ n3_ n4_; clear hb ho31))
         go_meet
         case rel => exact ⟨_, (y344), H', ⟨by have := HK1.out; first | omega | exact Nat.le_refl _⟩, ⟨by (with_reducible repeat (first | apply Kd.N_alloc | apply Kd.N_drewN | apply Kd.N_drew)); exact Kd.N_mono HO_4.out (fun _ hk => ⟨hk.2, ⟨hk.1.1, hk.1.2⟩⟩)⟩, ⟨by (with_reducible repeat (first | apply Kd.R_alloc | apply Kd.R_drewN | apply Kd.R_drew)); exact HO346.out⟩, ⟨by (with_reducible repeat (first | refine blk_drewN ?_ _ | refine blk_drew ?_ | refine blk_alloc ?_ _)); exact BK330.out⟩, ⟨by (with_reducible repeat (first | refine blk_drewN ?_ _ | refine blk_drew ?_ | refine blk_alloc ?_ _)); exact BK334.out⟩, ⟨by repeat (first | (with_reducible first | exact HB.out | apply below_alloc | apply pw_below_drewN | apply below_drew1 | refine below_set ?_ GE330.out | refine below_set ?_ GE334.out) | exact HB.out)⟩⟩
        ·rw [if_neg c27] at H
         have c27b0 : (x5_1 == 7) = false := beq_eq_false_iff_ne.mpr c27
         have c27b1 : (x5_1 != 7) = true := bne_iff_ne.mpr c27
         have HC32 := Aside0.mk H
         clear H
         go_upto_if 54 with (fail)
         go_cut [54] (fun v54 wc => ∃ (kq : Nat) (x54_31 : Bool), v54 = .bool x54_31 ∧ Aside0 (weirgateref22_Text.j1 kq t331 x5_1 ([] : List Int) x54_31 a0_0 a0_1 a0_2 a0_3 a0_4 a0_5 a0_6 a0_7 a0_1 a0_2 a0_3 a0_4 a0_5 a0_6 a0_7 = some (r1, r2)) ∧ Aside0 (kq ≤ k1) ∧ Aside0 (Kd.N (Kd.slice 9 Kd.string) 45 wc w.heap.size (fun k_ => some k_ ≠ ((.slice none 0 0) : Value).ownBlock ∧ k_ ≠ gb330 ∧ k_ ≠ gb334) (.slice Ao7 t331.length co7) t331) ∧ Aside0 (Kd.R (Kd.int .i64) 3 wc w.heap.size (fun _ => True) (.slice none 0 0) ([] : List Int)) ∧ Aside0 (wc.heap[gb330]? = some (.cells #[.int .i64 a0_0, .int .i64 a0_1, .int .i64 a0_2, .int .i64 a0_3, .int .i64 a0_4, .int .u8 a0_5, .int .u8 a0_6, .int .u64 a0_7] 32 (0, 0))) ∧ Aside0 (wc.heap[gb334]? = some (.cells #[.int .i64 a0_1, .int .i64 a0_2, .int .i64 a0_3, .int .i64 a0_4, .int .u8 a0_5, .int .u8 a0_6, .int .u64 a0_7] 25 (0, 0))) ∧ Aside0 (Below w.heap.size w wc))
         case first =>
          have H := HC32.out
          clear HC32
          by_cases c33 : x5_1 = 8
          ·rw [if_pos c33] at H
           have c33b0 : (x5_1 == 8) = true := beq_iff_eq.mpr c33
           have c33b1 : (x5_1 != 8) = false := bne_eq_false_iff_eq.mpr c33
           clear c33
           (first | rw [c33b0] | (simp only [i64_w, i32_w]; rw [c33b0]) | skip)
           have H' := Aside0.mk H
           clear H
           go_wp2
           go_meet
           case rel => exact ⟨_, ((x5_1 == 8)), (by first | rfl | (simp; done) | (simp [*]; done)), H', ⟨by have := HK1.out; first | omega | exact Nat.le_refl _⟩, ⟨by (with_reducible repeat (first | apply Kd.N_alloc | apply Kd.N_drewN | apply Kd.N_drew)); exact Kd.N_mono (Kd.N_far (p := ⟨gb334, 6, none⟩) (Kd.N_far (p := ⟨gb334, 5, none⟩) (Kd.N_far (p := ⟨gb334, 4, none⟩) (Kd.N_far (p := ⟨gb334, 3, none⟩) (Kd.N_far (p := ⟨gb334, 2, none⟩) (Kd.N_far (p := ⟨gb334, 1, none⟩) (Kd.N_far (p := ⟨gb334, 0, none⟩) (Kd.N_mono HO_4.out (fun k_ hk => (⟨hk, hk.2⟩ : _ ∧ k_ ≠ gb334))) (fun _ hk => hk.2) (.int .i64 a0_1)) (fun _ hk => hk.2) (.int .i64 a0_2)) (fun _ hk => hk.2) (.int .i64 a0_3)) (fun _ hk => hk.2) (.int .i64 a0_4)) (fun _ hk => hk.2) (.int .u8 a0_5)) (fun _ hk => hk.2) (.int .u8 a0_6)) (fun _ hk => hk.2) (.int .u64 a0_7)) (fun _ hk => ⟨(by simp [Value.ownBlock]), ⟨hk.1.1, hk.1.2⟩⟩)⟩, ⟨by first | exact Kd.R_nil _ _ _ _ _ | exact Kd.N_nil _ _ _ _ _ | exact Kd.V_nil _ _ _ _ _ | exact Kd.Q_nil _ _ _ _ _ | exact Kd.S_nil _ _ _ _ _⟩, ⟨by (with_reducible repeat (first | refine blk_drewN ?_ _ | refine blk_drew ?_ | refine blk_alloc ?_ _)); refine blk_far ?_ NB330_334.out _; (with_reducible repeat (first | refine blk_drewN ?_ _ | refine blk_drew ?_ | refine blk_alloc ?_ _)); refine blk_far ?_ NB330_334.out _; (with_reducible repeat (first | refine blk_drewN ?_ _ | refine blk_drew ?_ | refine blk_alloc ?_ _)); refine blk_far ?_ NB330_334.out _; (with_reducible repeat (first | refine blk_drewN ?_ _ | refine blk_drew ?_ | refine blk_alloc ?_ _)); refine blk_far ?_ NB330_334.out _; (with_reducible repeat (first | refine blk_drewN ?_ _ | refine blk_drew ?_ | refine blk_alloc ?_ _)); refine blk_far ?_ NB330_334.out _; (with_reducible repeat (first | refine blk_drewN ?_ _ | refine blk_drew ?_ | refine blk_alloc ?_ _)); refine blk_far ?_ NB330_334.out _; (with_reducible repeat (first | refine blk_drewN ?_ _ | refine blk_drew ?_ | refine blk_alloc ?_ _)); refine blk_far ?_ NB330_334.out _; (with_reducible repeat (first | refine blk_drewN ?_ _ | refine blk_drew ?_ | refine blk_alloc ?_ _)); exact BK330.out⟩, ⟨by (with_reducible repeat (first | refine blk_drewN ?_ _ | refine blk_drew ?_ | refine blk_alloc ?_ _)); refine blk_put (cs := #[.int .i64 a0_1, .int .i64 a0_2, .int .i64 a0_3, .int .i64 a0_4, .int .u8 a0_5, .int .u8 a0_6, .int .u64 0]) ?_ 6 _ rfl; (with_reducible repeat (first | refine blk_drewN ?_ _ | refine blk_drew ?_ | refine blk_alloc ?_ _)); refine blk_put (cs := #[.int .i64 a0_1, .int .i64 a0_2, .int .i64 a0_3, .int .i64 a0_4, .int .u8 a0_5, .int .u8 0, .int .u64 0]) ?_ 5 _ rfl; (with_reducible repeat (first | refine blk_drewN ?_ _ | refine blk_drew ?_ | refine blk_alloc ?_ _)); refine blk_put (cs := #[.int .i64 a0_1, .int .i64 a0_2, .int .i64 a0_3, .int .i64 a0_4, .int .u8 0, .int .u8 0, .int .u64 0]) ?_ 4 _ rfl; (with_reducible repeat (first | refine blk_drewN ?_ _ | refine blk_drew ?_ | refine blk_alloc ?_ _)); refine blk_put (cs := #[.int .i64 a0_1, .int .i64 a0_2, .int .i64 a0_3, .int .i64 0, .int .u8 0, .int .u8 0, .int .u64 0]) ?_ 3 _ rfl; (with_reducible repeat (first | refine blk_drewN ?_ _ | refine blk_drew ?_ | refine blk_alloc ?_ _)); refine blk_put (cs := #[.int .i64 a0_1, .int .i64 a0_2, .int .i64 0, .int .i64 0, .int .u8 0, .int .u8 0, .int .u64 0]) ?_ 2 _ rfl; (with_reducible repeat (first | refine blk_drewN ?_ _ | refine blk_drew ?_ | refine blk_alloc ?_ _)); refine blk_put (cs := #[.int .i64 a0_1, .int .i64 0, .int .i64 0, .int .i64 0, .int .u8 0, .int .u8 0, .int .u64 0]) ?_ 1 _ rfl; (with_reducible repeat (first | refine blk_drewN ?_ _ | refine blk_drew ?_ | refine blk_alloc ?_ _)); refine blk_put (cs := #[.int .i64 0, .int .i64 0, .int .i64 0, .int .i64 0, .int .u8 0, .int .u8 0, .int .u64 0]) ?_ 0 _ rfl; (with_reducible repeat (first | refine blk_drewN ?_ _ | refine blk_drew ?_ | refine blk_alloc ?_ _)); exact BK334.out⟩, ⟨by repeat (first | (with_reducible first | exact HB.out | apply below_alloc | apply pw_below_drewN | apply below_drew1 | refine below_set ?_ GE330.out | refine below_set ?_ GE334.out) | exact HB.out)⟩⟩
          ·rw [if_neg c33] at H
           have c33b0 : (x5_1 == 8) = false := beq_eq_false_iff_ne.mpr c33
           have c33b1 : (x5_1 != 8) = true := bne_iff_ne.mpr c33
           (first | rw [c33b0] | (simp only [i64_w, i32_w]; rw [c33b0]) | skip)
           have H' := Aside0.mk H
           clear H
           go_wp2
           go_meet
           case rel => exact ⟨_, ((x5_1 == 10)), (by first | rfl | (simp; done) | (simp [*]; done)), H', ⟨by have := HK1.out; first | omega | exact Nat.le_refl _⟩, ⟨by (with_reducible repeat (first | apply Kd.N_alloc | apply Kd.N_drewN | apply Kd.N_drew)); exact Kd.N_mono (Kd.N_far (p := ⟨gb334, 6, none⟩) (Kd.N_far (p := ⟨gb334, 5, none⟩) (Kd.N_far (p := ⟨gb334, 4, none⟩) (Kd.N_far (p := ⟨gb334, 3, none⟩) (Kd.N_far (p := ⟨gb334, 2, none⟩) (Kd.N_far (p := ⟨gb334, 1, none⟩) (Kd.N_far (p := ⟨gb334, 0, none⟩) (Kd.N_mono HO_4.out (fun k_ hk => (⟨hk, hk.2⟩ : _ ∧ k_ ≠ gb334))) (fun _ hk => hk.2) (.int .i64 a0_1)) (fun _ hk => hk.2) (.int .i64 a0_2)) (fun _ hk => hk.2) (.int .i64 a0_3)) (fun _ hk => hk.2) (.int .i64 a0_4)) (fun _ hk => hk.2) (.int .u8 a0_5)) (fun _ hk => hk.2) (.int .u8 a0_6)) (fun _ hk => hk.2) (.int .u64 a0_7)) (fun _ hk => ⟨(by simp [Value.ownBlock]), ⟨hk.1.1, hk.1.2⟩⟩)⟩, ⟨by first | exact Kd.R_nil _ _ _ _ _ | exact Kd.N_nil _ _ _ _ _ | exact Kd.V_nil _ _ _ _ _ | exact Kd.Q_nil _ _ _ _ _ | exact Kd.S_nil _ _ _ _ _⟩, ⟨by (with_reducible repeat (first | refine blk_drewN ?_ _ | refine blk_drew ?_ | refine blk_alloc ?_ _)); refine blk_far ?_ NB330_334.out _; (with_reducible repeat (first | refine blk_drewN ?_ _ | refine blk_drew ?_ | refine blk_alloc ?_ _)); refine blk_far ?_ NB330_334.out _; (with_reducible repeat (first | refine blk_drewN ?_ _ | refine blk_drew ?_ | refine blk_alloc ?_ _)); refine blk_far ?_ NB330_334.out _; (with_reducible repeat (first | refine blk_drewN ?_ _ | refine blk_drew ?_ | refine blk_alloc ?_ _)); refine blk_far ?_ NB330_334.out _; (with_reducible repeat (first | refine blk_drewN ?_ _ | refine blk_drew ?_ | refine blk_alloc ?_ _)); refine blk_far ?_ NB330_334.out _; (with_reducible repeat (first | refine blk_drewN ?_ _ | refine blk_drew ?_ | refine blk_alloc ?_ _)); refine blk_far ?_ NB330_334.out _; (with_reducible repeat (first | refine blk_drewN ?_ _ | refine blk_drew ?_ | refine blk_alloc ?_ _)); refine blk_far ?_ NB330_334.out _; (with_reducible repeat (first | refine blk_drewN ?_ _ | refine blk_drew ?_ | refine blk_alloc ?_ _)); exact BK330.out⟩, ⟨by (with_reducible repeat (first | refine blk_drewN ?_ _ | refine blk_drew ?_ | refine blk_alloc ?_ _)); refine blk_put (cs := #[.int .i64 a0_1, .int .i64 a0_2, .int .i64 a0_3, .int .i64 a0_4, .int .u8 a0_5, .int .u8 a0_6, .int .u64 0]) ?_ 6 _ rfl; (with_reducible repeat (first | refine blk_drewN ?_ _ | refine blk_drew ?_ | refine blk_alloc ?_ _)); refine blk_put (cs := #[.int .i64 a0_1, .int .i64 a0_2, .int .i64 a0_3, .int .i64 a0_4, .int .u8 a0_5, .int .u8 0, .int .u64 0]) ?_ 5 _ rfl; (with_reducible repeat (first | refine blk_drewN ?_ _ | refine blk_drew ?_ | refine blk_alloc ?_ _)); refine blk_put (cs := #[.int .i64 a0_1, .int .i64 a0_2, .int .i64 a0_3, .int .i64 a0_4, .int .u8 0, .int .u8 0, .int .u64 0]) ?_ 4 _ rfl; (with_reducible repeat (first | refine blk_drewN ?_ _ | refine blk_drew ?_ | refine blk_alloc ?_ _)); refine blk_put (cs := #[.int .i64 a0_1, .int .i64 a0_2, .int .i64 a0_3, .int .i64 0, .int .u8 0, .int .u8 0, .int .u64 0]) ?_ 3 _ rfl; (with_reducible repeat (first | refine blk_drewN ?_ _ | refine blk_drew ?_ | refine blk_alloc ?_ _)); refine blk_put (cs := #[.int .i64 a0_1, .int .i64 a0_2, .int .i64 0, .int .i64 0, .int .u8 0, .int .u8 0, .int .u64 0]) ?_ 2 _ rfl; (with_reducible repeat (first | refine blk_drewN ?_ _ | refine blk_drew ?_ | refine blk_alloc ?_ _)); refine blk_put (cs := #[.int .i64 a0_1, .int .i64 0, .int .i64 0, .int .i64 0, .int .u8 0, .int .u8 0, .int .u64 0]) ?_ 1 _ rfl; (with_reducible repeat (first | refine blk_drewN ?_ _ | refine blk_drew ?_ | refine blk_alloc ?_ _)); refine blk_put (cs := #[.int .i64 0, .int .i64 0, .int .i64 0, .int .i64 0, .int .u8 0, .int .u8 0, .int .u64 0]) ?_ 0 _ rfl; (with_reducible repeat (first | refine blk_drewN ?_ _ | refine blk_drew ?_ | refine blk_alloc ?_ _)); exact BK334.out⟩, ⟨by repeat (first | (with_reducible first | exact HB.out | apply below_alloc | apply pw_below_drewN | apply below_drew1 | refine below_set ?_ GE330.out | refine below_set ?_ GE334.out) | exact HB.out)⟩⟩
         case rest =>
          clear HC32
          try clear c1
          try clear c2
          try clear p2
          try clear c3
          try clear c5
          try clear c5b0
          try clear p6
          try clear c10
          try clear c12
          try clear c12b0
          try clear c13
          try clear c17
          try clear c17b0
          try clear c18
          try clear c22
          try clear c22b0
          try clear c23
          try clear c27
          try clear c27b0
          try clear c27b1
          try clear c28
          try clear c33
          try clear c33b0
          try clear c33b1
          try clear hcz11_0
          try clear hcz11_1
          try clear hcz11_2
          try clear hcz11_3
          try clear hcz11_4
          try clear hcz11_5
          try clear hcz11_6
          try clear hcz14_0
          try clear hcz14_1
          try clear hcz14_2
          try clear hcz14_3
          try clear hcz14_4
          try clear hcz14_5
          try clear hcz14_6
          try clear hcz19_0
          try clear hcz19_1
          try clear hcz19_2
          try clear hcz19_3
          try clear hcz19_4
          try clear hcz19_5
          try clear hcz19_6
          try clear hcz24_0
          try clear hcz24_1
          try clear hcz24_2
          try clear hcz24_3
          try clear hcz24_4
          try clear hcz24_5
          try clear hcz24_6
          try clear hcz29_0
          try clear hcz29_1
          try clear hcz29_2
          try clear hcz29_3
          try clear hcz29_4
          try clear hcz29_5
          try clear hcz29_6
          try clear hcz8_0
          try clear hcz8_1
          try clear hcz8_2
          try clear hcz8_3
          try clear hcz8_4
          try clear hcz8_5
          try clear hcz8_6
          try clear hcz8_7
          try clear hfz11_0
          try clear hfz11_1
          try clear hfz11_2
          try clear hfz11_3
          try clear hfz11_4
          try clear hfz11_5
          try clear hfz11_6
          try clear hfz14_0
          try clear hfz14_1
          try clear hfz14_2
          try clear hfz14_3
          try clear hfz14_4
          try clear hfz14_5
          try clear hfz14_6
          try clear hfz19_0
          try clear hfz19_1
          try clear hfz19_2
          try clear hfz19_3
          try clear hfz19_4
          try clear hfz19_5
          try clear hfz19_6
          try clear hfz24_0
          try clear hfz24_1
          try clear hfz24_2
          try clear hfz24_3
          try clear hfz24_4
          try clear hfz24_5
          try clear hfz24_6
          try clear hfz29_0
          try clear hfz29_1
          try clear hfz29_2
          try clear hfz29_3
          try clear hfz29_4
          try clear hfz29_5
          try clear hfz29_6
          try clear hfz8_0
          try clear hfz8_1
          try clear hfz8_2
          try clear hfz8_3
          try clear hfz8_4
          try clear hfz8_5
          try clear hfz8_6
          try clear hfz8_7
          try clear p2
          obtain ⟨kq, x54_31, rfl, HA, HJ31, HO_4, HO_6, BK330, BK334, HB⟩ := hcut
          cases kq with
          | zero => exact absurd HA.out (by simp [weirgateref22_Text.j1])
          | succ kj31 =>
           have H := HA.out
           clear HA
           simp only [weirgateref22_Text.j1] at H
           by_cases c34 : x54_31 = true
           ·subst c34
            have H1 : (weirgateref22_Text.j2 kj31 t331 x5_1 (([a0_4] : List Int)) a0_0 a0_1 a0_2 a0_3 a0_4 a0_5 a0_6 a0_7 a0_1 a0_2 a0_3 a0_4 a0_5 a0_6 a0_7) = some (r1, r2) := by rw [if_pos rfl] at H; exact H
            clear H
            have H := H1
            clear H1
            obtain ⟨y347, hy347⟩ : ∃ y_ : List Int, y_ = (([a0_4] : List Int)) := ⟨_, rfl⟩
            replace H : (weirgateref22_Text.j2 kj31 t331 x5_1 y347 a0_0 a0_1 a0_2 a0_3 a0_4 a0_5 a0_6 a0_7 a0_1 a0_2 a0_3 a0_4 a0_5 a0_6 a0_7) = some (r1, r2) := by first | (rw [hy347]; with_reducible exact H) | (have H2_ := (Option.bind_some _ _).symm.trans H; rw [hy347]; with_reducible exact H2_) | (have H2_ := (Option.bind_some _ _).symm.trans H; with_reducible exact H2_) | with_reducible exact H | (rw [hy347]; exact H) | exact H
            have Ny347 := Aside0.mk hy347
            clear hy347
            have H' := Aside0.mk H
            clear H
            have hnb35 := NB334_330.out
            have hnc35 := NB330_334.out
            have hcz36_0 : wc.cell? ⟨gb334, 0, none⟩ = some (.int .i64 a0_1) := (blk_cell BK334.out 0).trans rfl
            have hcz36_1 : wc.cell? ⟨gb334, 1, none⟩ = some (.int .i64 a0_2) := (blk_cell BK334.out 1).trans rfl
            have hcz36_2 : wc.cell? ⟨gb334, 2, none⟩ = some (.int .i64 a0_3) := (blk_cell BK334.out 2).trans rfl
            have hcz36_3 : wc.cell? ⟨gb334, 3, none⟩ = some (.int .i64 a0_4) := (blk_cell BK334.out 3).trans rfl
            have hcz36_4 : wc.cell? ⟨gb334, 4, none⟩ = some (.int .u8 a0_5) := (blk_cell BK334.out 4).trans rfl
            have hcz36_5 : wc.cell? ⟨gb334, 5, none⟩ = some (.int .u8 a0_6) := (blk_cell BK334.out 5).trans rfl
            have hcz36_6 : wc.cell? ⟨gb334, 6, none⟩ = some (.int .u64 a0_7) := (blk_cell BK334.out 6).trans rfl
            have hfz36_0 := blk_frozen BK334.out 0
            have hfz36_1 := blk_frozen BK334.out 1
            have hfz36_2 := blk_frozen BK334.out 2
            have hfz36_3 := blk_frozen BK334.out 3
            have hfz36_4 := blk_frozen BK334.out 4
            have hfz36_5 := blk_frozen BK334.out 5
            have hfz36_6 := blk_frozen BK334.out 6
            go_wp2_with (first | ((with_reducible refine gate_dst (N := 61) rfl ?_); refine Kd.R_lit (Kd.int .i64) _ 3 ?hg (N := 61) ?hd (xs := ([a0_4] : List Int)) (inner := [.int .i64 a0_4]) (ok := fun _ => True) (okp := fun _ => True) ?hr ?hp (fun _ hk => hk) trivial (Below.refl _ _) (Nat.le_refl _) (by simp) ?_; (case hd => rfl); (case hg => rfl); (case hr => first | (go_simp; done) | (go_simp; rfl)); (case hp => exact (Reps.one (show Kd.M (Kd.int .i64) _ _ _ a0_4 [.int .i64 a0_4] from rfl) (Reps.none _ _))); intro v348 w37 ho38 hb hg_ hnew_; clear hg_ hnew_; (first | rw [← Ny347.out] at ho38 | (simp only [Int.reduceToNat] at ho38; rw [← Ny347.out] at ho38)); have n0_ := Aside0.mk (Kd.N_elder' (by (with_reducible repeat (first | apply Kd.N_alloc | apply Kd.N_drewN | apply Kd.N_drew)); exact HO_4.out) (Kd.R_base ho38) hb); have n1_ := Aside0.mk (Kd.R_elder' (by (with_reducible repeat (first | apply Kd.R_alloc | apply Kd.R_drewN | apply Kd.R_drew)); exact HO_6.out) (Kd.R_base ho38) hb); have n2_ := Aside0.mk (Kd.R_lower (Kd.R_new' ho38 (Kd.R_lt (by (with_reducible repeat (first | apply Kd.R_alloc | apply Kd.R_drewN | apply Kd.R_drew)); exact HO_6.out))) (below_size (by repeat (first | (with_reducible first | exact HB.out | apply below_alloc | apply pw_below_drewN | apply below_drew1 | refine below_set ?_ GE330.out | refine below_set ?_ GE334.out) | exact HB.out)))); have n3_ := Aside0.mk (blk_below (g := gb330) (o := .cells #[.int .i64 a0_0, .int .i64 a0_1, .int .i64 a0_2, .int .i64 a0_3, .int .i64 a0_4, .int .u8 a0_5, .int .u8 a0_6, .int .u64 a0_7] 32 (0, 0)) (by (with_reducible repeat (first | refine blk_drewN ?_ _ | refine blk_drew ?_ | refine blk_alloc ?_ _)); exact BK330.out) hb); have n4_ := Aside0.mk (blk_below (g := gb334) (o := .cells #[.int .i64 a0_1, .int .i64 a0_2, .int .i64 a0_3, .int .i64 a0_4, .int .u8 a0_5, .int .u8 a0_6, .int .u64 a0_7] 25 (0, 0)) (by (with_reducible repeat (first | refine blk_drewN ?_ _ | refine blk_drew ?_ | refine blk_alloc ?_ _)); exact BK334.out) hb); have n5_ := Aside0.mk (below_step (by repeat (first | (with_reducible first | exact HB.out | apply below_alloc | apply pw_below_drewN | apply below_drew1 | refine below_set ?_ GE330.out | refine below_set ?_ GE334.out) | exact HB.out)) hb); clear HO_4; clear HO_6; clear BK330; clear BK334; clear HB; have HO_4 := n0_; have HO_6 := n1_; have HO349 := n2_; have BK330 := n3_; have BK334 := n4_; have HB := n5_; clear n0_ n1_ n2_ n3_ n4_ n5_; clear hb ho38))
            go_meet
            case rel => exact ⟨_, (y347), H', ⟨by have := HK1.out; have := HJ31.out; first | omega | exact Nat.le_refl _⟩, ⟨by (with_reducible repeat (first | apply Kd.N_alloc | apply Kd.N_drewN | apply Kd.N_drew)); exact Kd.N_mono HO_4.out (fun _ hk => ⟨hk.2, ⟨hk.1.2.1, hk.1.2.2⟩⟩)⟩, ⟨by (with_reducible repeat (first | apply Kd.R_alloc | apply Kd.R_drewN | apply Kd.R_drew)); exact Kd.R_mono HO349.out (fun _ hk => trivial)⟩, ⟨by (with_reducible repeat (first | refine blk_drewN ?_ _ | refine blk_drew ?_ | refine blk_alloc ?_ _)); exact BK330.out⟩, ⟨by (with_reducible repeat (first | refine blk_drewN ?_ _ | refine blk_drew ?_ | refine blk_alloc ?_ _)); exact BK334.out⟩, ⟨by repeat (first | (with_reducible first | exact HB.out | apply below_alloc | apply pw_below_drewN | apply below_drew1 | refine below_set ?_ GE330.out | refine below_set ?_ GE334.out) | exact HB.out)⟩⟩
           ·replace c34 := Bool.eq_false_iff.mpr c34
            subst c34
            have H1 : (if x5_1 = 9 then (weirgateref22_Text.j2 kj31 t331 x5_1 (([a0_4, a0_2] : List Int)) a0_0 a0_1 a0_2 a0_3 a0_4 a0_5 a0_6 a0_7 a0_1 a0_2 a0_3 a0_4 a0_5 a0_6 a0_7) else (weirgateref22_Text.j2 kj31 t331 x5_1 ([] : List Int) a0_0 a0_1 a0_2 a0_3 a0_4 a0_5 a0_6 a0_7 a0_1 a0_2 a0_3 a0_4 a0_5 a0_6 a0_7)) = some (r1, r2) := by rw [if_neg (show ¬ (false = true) by decide)] at H; exact H
            clear H
            have H := H1
            clear H1
            by_cases c39 : x5_1 = 9
            ·rw [if_pos c39] at H
             have c39b0 : (x5_1 == 9) = true := beq_iff_eq.mpr c39
             have c39b1 : (x5_1 != 9) = false := bne_eq_false_iff_eq.mpr c39
             clear c39
             obtain ⟨y350, hy350⟩ : ∃ y_ : List Int, y_ = (([a0_4, a0_2] : List Int)) := ⟨_, rfl⟩
             replace H : (weirgateref22_Text.j2 kj31 t331 x5_1 y350 a0_0 a0_1 a0_2 a0_3 a0_4 a0_5 a0_6 a0_7 a0_1 a0_2 a0_3 a0_4 a0_5 a0_6 a0_7) = some (r1, r2) := by first | (rw [hy350]; with_reducible exact H) | (have H2_ := (Option.bind_some _ _).symm.trans H; rw [hy350]; with_reducible exact H2_) | (have H2_ := (Option.bind_some _ _).symm.trans H; with_reducible exact H2_) | with_reducible exact H | (rw [hy350]; exact H) | exact H
             have Ny350 := Aside0.mk hy350
             clear hy350
             have H' := Aside0.mk H
             clear H
             have hnb40 := NB334_330.out
             have hnc40 := NB330_334.out
             have hcz41_0 : wc.cell? ⟨gb334, 0, none⟩ = some (.int .i64 a0_1) := (blk_cell BK334.out 0).trans rfl
             have hcz41_1 : wc.cell? ⟨gb334, 1, none⟩ = some (.int .i64 a0_2) := (blk_cell BK334.out 1).trans rfl
             have hcz41_2 : wc.cell? ⟨gb334, 2, none⟩ = some (.int .i64 a0_3) := (blk_cell BK334.out 2).trans rfl
             have hcz41_3 : wc.cell? ⟨gb334, 3, none⟩ = some (.int .i64 a0_4) := (blk_cell BK334.out 3).trans rfl
             have hcz41_4 : wc.cell? ⟨gb334, 4, none⟩ = some (.int .u8 a0_5) := (blk_cell BK334.out 4).trans rfl
             have hcz41_5 : wc.cell? ⟨gb334, 5, none⟩ = some (.int .u8 a0_6) := (blk_cell BK334.out 5).trans rfl
             have hcz41_6 : wc.cell? ⟨gb334, 6, none⟩ = some (.int .u64 a0_7) := (blk_cell BK334.out 6).trans rfl
             have hfz41_0 := blk_frozen BK334.out 0
             have hfz41_1 := blk_frozen BK334.out 1
             have hfz41_2 := blk_frozen BK334.out 2
             have hfz41_3 := blk_frozen BK334.out 3
             have hfz41_4 := blk_frozen BK334.out 4
             have hfz41_5 := blk_frozen BK334.out 5
             have hfz41_6 := blk_frozen BK334.out 6
             go_wp2_with (first | ((with_reducible refine gate_dst (N := 69) rfl ?_); refine Kd.R_lit (Kd.int .i64) _ 3 ?hg (N := 69) ?hd (xs := ([a0_4, a0_2] : List Int)) (inner := [.int .i64 a0_4, .int .i64 a0_2]) (ok := fun _ => True) (okp := fun _ => True) ?hr ?hp (fun _ hk => hk) trivial (Below.refl _ _) (Nat.le_refl _) (by simp) ?_; (case hd => rfl); (case hg => rfl); (case hr => first | (go_simp; done) | (go_simp; rfl)); (case hp => exact (Reps.one (show Kd.M (Kd.int .i64) _ _ _ a0_4 [.int .i64 a0_4] from rfl) (Reps.one (show Kd.M (Kd.int .i64) _ _ _ a0_2 [.int .i64 a0_2] from rfl) (Reps.none _ _)))); intro v351 w42 ho43 hb hg_ hnew_; clear hg_ hnew_; (first | rw [← Ny350.out] at ho43 | (simp only [Int.reduceToNat] at ho43; rw [← Ny350.out] at ho43)); have n0_ := Aside0.mk (Kd.N_elder' (by (with_reducible repeat (first | apply Kd.N_alloc | apply Kd.N_drewN | apply Kd.N_drew)); exact HO_4.out) (Kd.R_base ho43) hb); have n1_ := Aside0.mk (Kd.R_elder' (by (with_reducible repeat (first | apply Kd.R_alloc | apply Kd.R_drewN | apply Kd.R_drew)); exact HO_6.out) (Kd.R_base ho43) hb); have n2_ := Aside0.mk (Kd.R_lower (Kd.R_new' ho43 (Kd.R_lt (by (with_reducible repeat (first | apply Kd.R_alloc | apply Kd.R_drewN | apply Kd.R_drew)); exact HO_6.out))) (below_size (by repeat (first | (with_reducible first | exact HB.out | apply below_alloc | apply pw_below_drewN | apply below_drew1 | refine below_set ?_ GE330.out | refine below_set ?_ GE334.out) | exact HB.out)))); have n3_ := Aside0.mk (blk_below (g := gb330) (o := .cells #[.int .i64 a0_0, .int .i64 a0_1, .int .i64 a0_2, .int .i64 a0_3, .int .i64 a0_4, .int .u8 a0_5, .int .u8 a0_6, .int .u64 a0_7] 32 (0, 0)) (by (with_reducible repeat (first | refine blk_drewN ?_ _ | refine blk_drew ?_ | refine blk_alloc ?_ _)); exact BK330.out) hb); have n4_ := Aside0.mk (blk_below (g := gb334) (o := .cells #[.int .i64 a0_1, .int .i64 a0_2, .int .i64 a0_3, .int .i64 a0_4, .int .u8 a0_5, .int .u8 a0_6, .int .u64 a0_7] 25 (0, 0)) (by (with_reducible repeat (first | refine blk_drewN ?_ _ | refine blk_drew ?_ | refine blk_alloc ?_ _)); exact BK334.out) hb); have n5_ := Aside0.mk (below_step (by repeat (first | (with_reducible first | exact HB.out | apply below_alloc | apply pw_below_drewN | apply below_drew1 | refine below_set ?_ GE330.out | refine below_set ?_ GE334.out) | exact HB.out)) hb); clear HO_4; clear HO_6; clear BK330; clear BK334; clear HB; have HO_4 := n0_; have HO_6 := n1_; have HO352 := n2_; have BK330 := n3_; have BK334 := n4_; have HB := n5_; clear n0_ n1_ n2_ n3_ n4_ n5_; clear hb ho43))
             go_meet
             case rel => exact ⟨_, (y350), H', ⟨by have := HK1.out; have := HJ31.out; first | omega | exact Nat.le_refl _⟩, ⟨by (with_reducible repeat (first | apply Kd.N_alloc | apply Kd.N_drewN | apply Kd.N_drew)); exact Kd.N_mono HO_4.out (fun _ hk => ⟨hk.2, ⟨hk.1.2.1, hk.1.2.2⟩⟩)⟩, ⟨by (with_reducible repeat (first | apply Kd.R_alloc | apply Kd.R_drewN | apply Kd.R_drew)); exact Kd.R_mono HO352.out (fun _ hk => trivial)⟩, ⟨by (with_reducible repeat (first | refine blk_drewN ?_ _ | refine blk_drew ?_ | refine blk_alloc ?_ _)); exact BK330.out⟩, ⟨by (with_reducible repeat (first | refine blk_drewN ?_ _ | refine blk_drew ?_ | refine blk_alloc ?_ _)); exact BK334.out⟩, ⟨by repeat (first | (with_reducible first | exact HB.out | apply below_alloc | apply pw_below_drewN | apply below_drew1 | refine below_set ?_ GE330.out | refine below_set ?_ GE334.out) | exact HB.out)⟩⟩
            ·rw [if_neg c39] at H
             have c39b0 : (x5_1 == 9) = false := beq_eq_false_iff_ne.mpr c39
             have c39b1 : (x5_1 != 9) = true := bne_iff_ne.mpr c39
             have H' := Aside0.mk H
             clear H
             go_wp2
             go_meet
             case rel => exact ⟨_, (([] : List Int)), H', ⟨by have := HK1.out; have := HJ31.out; first | omega | exact Nat.le_refl _⟩, ⟨by (with_reducible repeat (first | apply Kd.N_alloc | apply Kd.N_drewN | apply Kd.N_drew)); exact HO_4.out⟩, ⟨by (with_reducible repeat (first | apply Kd.R_alloc | apply Kd.R_drewN | apply Kd.R_drew)); exact HO_6.out⟩, ⟨by (with_reducible repeat (first | refine blk_drewN ?_ _ | refine blk_drew ?_ | refine blk_alloc ?_ _)); exact BK330.out⟩, ⟨by (with_reducible repeat (first | refine blk_drewN ?_ _ | refine blk_drew ?_ | refine blk_alloc ?_ _)); exact BK334.out⟩, ⟨by repeat (first | (with_reducible first | exact HB.out | apply below_alloc | apply pw_below_drewN | apply below_drew1 | refine below_set ?_ GE330.out | refine below_set ?_ GE334.out) | exact HB.out)⟩⟩
    case rest =>
     clear HC6
     try clear c1
     try clear c2
     try clear p2
     try clear c3
     try clear c4
     try clear c5
     try clear c5b0
     try clear p6
     try clear c10
     try clear c12
     try clear c12b0
     try clear c13
     try clear c17
     try clear c17b0
     try clear c18
     try clear c22
     try clear c22b0
     try clear c23
     try clear c27
     try clear c27b0
     try clear c27b1
     try clear c28
     try clear c33
     try clear c33b0
     try clear c33b1
     try clear c34
     try clear c35
     try clear c39
     try clear c39b0
     try clear c39b1
     try clear c40
     try clear hcz11_0
     try clear hcz11_1
     try clear hcz11_2
     try clear hcz11_3
     try clear hcz11_4
     try clear hcz11_5
     try clear hcz11_6
     try clear hcz14_0
     try clear hcz14_1
     try clear hcz14_2
     try clear hcz14_3
     try clear hcz14_4
     try clear hcz14_5
     try clear hcz14_6
     try clear hcz19_0
     try clear hcz19_1
     try clear hcz19_2
     try clear hcz19_3
     try clear hcz19_4
     try clear hcz19_5
     try clear hcz19_6
     try clear hcz24_0
     try clear hcz24_1
     try clear hcz24_2
     try clear hcz24_3
     try clear hcz24_4
     try clear hcz24_5
     try clear hcz24_6
     try clear hcz29_0
     try clear hcz29_1
     try clear hcz29_2
     try clear hcz29_3
     try clear hcz29_4
     try clear hcz29_5
     try clear hcz29_6
     try clear hcz36_0
     try clear hcz36_1
     try clear hcz36_2
     try clear hcz36_3
     try clear hcz36_4
     try clear hcz36_5
     try clear hcz36_6
     try clear hcz41_0
     try clear hcz41_1
     try clear hcz41_2
     try clear hcz41_3
     try clear hcz41_4
     try clear hcz41_5
     try clear hcz41_6
     try clear hcz8_0
     try clear hcz8_1
     try clear hcz8_2
     try clear hcz8_3
     try clear hcz8_4
     try clear hcz8_5
     try clear hcz8_6
     try clear hcz8_7
     try clear hfz11_0
     try clear hfz11_1
     try clear hfz11_2
     try clear hfz11_3
     try clear hfz11_4
     try clear hfz11_5
     try clear hfz11_6
     try clear hfz14_0
     try clear hfz14_1
     try clear hfz14_2
     try clear hfz14_3
     try clear hfz14_4
     try clear hfz14_5
     try clear hfz14_6
     try clear hfz19_0
     try clear hfz19_1
     try clear hfz19_2
     try clear hfz19_3
     try clear hfz19_4
     try clear hfz19_5
     try clear hfz19_6
     try clear hfz24_0
     try clear hfz24_1
     try clear hfz24_2
     try clear hfz24_3
     try clear hfz24_4
     try clear hfz24_5
     try clear hfz24_6
     try clear hfz29_0
     try clear hfz29_1
     try clear hfz29_2
     try clear hfz29_3
     try clear hfz29_4
     try clear hfz29_5
     try clear hfz29_6
     try clear hfz36_0
     try clear hfz36_1
     try clear hfz36_2
     try clear hfz36_3
     try clear hfz36_4
     try clear hfz36_5
     try clear hfz36_6
     try clear hfz41_0
     try clear hfz41_1
     try clear hfz41_2
     try clear hfz41_3
     try clear hfz41_4
     try clear hfz41_5
     try clear hfz41_6
     try clear hfz8_0
     try clear hfz8_1
     try clear hfz8_2
     try clear hfz8_3
     try clear hfz8_4
     try clear hfz8_5
     try clear hfz8_6
     try clear hfz8_7
     try clear p2
     try clear p6
     obtain ⟨kq, x6_5, HA, HJ5, HO_4, HO_6, BK330, BK334, HB⟩ := hcut
     cases kq with
     | zero => exact absurd HA.out (by simp [weirgateref22_Text.j2])
     | succ kj5 =>
      have H := HA.out
      clear HA
      simp only [weirgateref22_Text.j2] at H
      have H' := Aside0.mk H
      clear H
      go_wp2
      go_loopg [8, 9, 10] kj5 (fun kq v8 v9 v10 w' => ∃ (x8_3 : ByteArray) (x9_3 : Int) (x10_3 : Int), v8 = .string x8_3 ∧ v9 = .int .i64 x9_3 ∧ v10 = .int .i64 x10_3 ∧ Aside0 (weirgateref22_Text.l1 kq t331 x5_1 x6_5 x8_3 x9_3 x10_3 a0_0 a0_1 a0_2 a0_3 a0_4 a0_5 a0_6 a0_7 a0_1 a0_2 a0_3 a0_4 a0_5 a0_6 a0_7 = some (r1, r2)) ∧ Aside0 (kq ≤ kj5) ∧ Aside0 (Kd.N (Kd.slice 9 Kd.string) 45 w' w.heap.size (fun k_ => some k_ ≠ (u6 : Value).ownBlock ∧ k_ ≠ gb330 ∧ k_ ≠ gb334) (.slice Ao7 t331.length co7) t331) ∧ Aside0 (Kd.R (Kd.int .i64) 3 w' w.heap.size (fun _ => True) u6 x6_5) ∧ Aside0 (w'.heap[gb330]? = some (.cells #[.int .i64 a0_0, .int .i64 a0_1, .int .i64 a0_2, .int .i64 a0_3, .int .i64 a0_4, .int .u8 a0_5, .int .u8 a0_6, .int .u64 a0_7] 32 (0, 0))) ∧ Aside0 (w'.heap[gb334]? = some (.cells #[.int .i64 a0_1, .int .i64 a0_2, .int .i64 a0_3, .int .i64 a0_4, .int .u8 a0_5, .int .u8 a0_6, .int .u64 a0_7] 25 (0, 0))) ∧ Aside0 (Below w.heap.size w w'))
      case atStart => exact ⟨((⟨#[]⟩ : ByteArray)), (0), (0), (by first | rfl | (simp; done) | (simp [*]; done)), (by first | rfl | (simp; done) | (simp [*]; done)), (by first | rfl | (simp; done) | (simp [*]; done)), H', ⟨Nat.le_refl _⟩, ⟨by (with_reducible repeat (first | apply Kd.N_alloc | apply Kd.N_drewN | apply Kd.N_drew)); exact HO_4.out⟩, ⟨by (with_reducible repeat (first | apply Kd.R_alloc | apply Kd.R_drewN | apply Kd.R_drew)); exact HO_6.out⟩, ⟨by (with_reducible repeat (first | refine blk_drewN ?_ _ | refine blk_drew ?_ | refine blk_alloc ?_ _)); exact BK330.out⟩, ⟨by (with_reducible repeat (first | refine blk_drewN ?_ _ | refine blk_drew ?_ | refine blk_alloc ?_ _)); exact BK334.out⟩, ⟨by repeat (first | (with_reducible first | exact HB.out | apply below_alloc | apply pw_below_drewN | apply below_drew1 | refine below_set ?_ GE330.out | refine below_set ?_ GE334.out) | exact HB.out)⟩⟩
      case round =>
       clear H'
       try clear c1
       try clear c2
       try clear p2
       try clear c3
       try clear c4
       try clear c5
       try clear c5b0
       try clear p6
       try clear c10
       try clear c12
       try clear c12b0
       try clear c13
       try clear c17
       try clear c17b0
       try clear c18
       try clear c22
       try clear c22b0
       try clear c23
       try clear c27
       try clear c27b0
       try clear c27b1
       try clear c28
       try clear c33
       try clear c33b0
       try clear c33b1
       try clear c34
       try clear c35
       try clear c39
       try clear c39b0
       try clear c39b1
       try clear c40
       try clear hcz11_0
       try clear hcz11_1
       try clear hcz11_2
       try clear hcz11_3
       try clear hcz11_4
       try clear hcz11_5
       try clear hcz11_6
       try clear hcz14_0
       try clear hcz14_1
       try clear hcz14_2
       try clear hcz14_3
       try clear hcz14_4
       try clear hcz14_5
       try clear hcz14_6
       try clear hcz19_0
       try clear hcz19_1
       try clear hcz19_2
       try clear hcz19_3
       try clear hcz19_4
       try clear hcz19_5
       try clear hcz19_6
       try clear hcz24_0
       try clear hcz24_1
       try clear hcz24_2
       try clear hcz24_3
       try clear hcz24_4
       try clear hcz24_5
       try clear hcz24_6
       try clear hcz29_0
       try clear hcz29_1
       try clear hcz29_2
       try clear hcz29_3
       try clear hcz29_4
       try clear hcz29_5
       try clear hcz29_6
       try clear hcz36_0
       try clear hcz36_1
       try clear hcz36_2
       try clear hcz36_3
       try clear hcz36_4
       try clear hcz36_5
       try clear hcz36_6
       try clear hcz41_0
       try clear hcz41_1
       try clear hcz41_2
       try clear hcz41_3
       try clear hcz41_4
       try clear hcz41_5
       try clear hcz41_6
       try clear hcz8_0
       try clear hcz8_1
       try clear hcz8_2
       try clear hcz8_3
       try clear hcz8_4
       try clear hcz8_5
       try clear hcz8_6
       try clear hcz8_7
       try clear hfz11_0
       try clear hfz11_1
       try clear hfz11_2
       try clear hfz11_3
       try clear hfz11_4
       try clear hfz11_5
       try clear hfz11_6
       try clear hfz14_0
       try clear hfz14_1
       try clear hfz14_2
       try clear hfz14_3
       try clear hfz14_4
       try clear hfz14_5
       try clear hfz14_6
       try clear hfz19_0
       try clear hfz19_1
       try clear hfz19_2
       try clear hfz19_3
       try clear hfz19_4
       try clear hfz19_5
       try clear hfz19_6
       try clear hfz24_0
       try clear hfz24_1
       try clear hfz24_2
       try clear hfz24_3
       try clear hfz24_4
       try clear hfz24_5
       try clear hfz24_6
       try clear hfz29_0
       try clear hfz29_1
       try clear hfz29_2
       try clear hfz29_3
       try clear hfz29_4
       try clear hfz29_5
       try clear hfz29_6
       try clear hfz36_0
       try clear hfz36_1
       try clear hfz36_2
       try clear hfz36_3
       try clear hfz36_4
       try clear hfz36_5
       try clear hfz36_6
       try clear hfz41_0
       try clear hfz41_1
       try clear hfz41_2
       try clear hfz41_3
       try clear hfz41_4
       try clear hfz41_5
       try clear hfz41_6
       try clear hfz8_0
       try clear hfz8_1
       try clear hfz8_2
       try clear hfz8_3
       try clear hfz8_4
       try clear hfz8_5
       try clear hfz8_6
       try clear hfz8_7
       try clear p2
       try clear p6
       obtain ⟨x8_3, x9_3, x10_3, rfl, rfl, rfl, HA, HK3, HO_4, HO_6, BK330, BK334, HB⟩ := hrel
       cases gk with
       | zero => exact absurd HA.out (by simp [weirgateref22_Text.l1])
       | succ k3 =>
        have H := HA.out
        clear HA
        simp only [weirgateref22_Text.l1] at H
        by_cases c44 : 0 ≤ x5_1
        ·rw [if_pos c44] at H
         have c44b0 : decide (0 ≤ x5_1) = true := decide_eq_true c44
         clear c44
         by_cases c45 : x5_1 < (t331.length : Int)
         ·rw [if_pos c45] at H
          have c45b0 : decide (x5_1 < (t331.length : Int)) = true := decide_eq_true c45
          clear c45
          by_cases c46 : x10_3 < ((rd_L7 t331 x5_1).length : Int)
          ·rw [if_pos c46] at H
           have c46b0 : decide (x10_3 < ((rd_L7 t331 x5_1).length : Int)) = true := decide_eq_true c46
           clear c46
           by_cases c47 : 0 ≤ x10_3
           ·rw [if_pos c47] at H
            have c47b0 : decide (0 ≤ x10_3) = true := decide_eq_true c47
            clear c47
            by_cases c48 : (rdOf ByteArray.empty (rd_L7 t331 x5_1) x10_3).toList = ([35] : List UInt8)
            ·rw [if_pos c48] at H
             have c48b0 : ((rdOf ByteArray.empty (rd_L7 t331 x5_1) x10_3).toList == ([35] : List UInt8)) = true := beq_iff_eq.mpr c48
             have c48b1 : ((rdOf ByteArray.empty (rd_L7 t331 x5_1) x10_3).toList != ([35] : List UInt8)) = false := bne_eq_false_iff_eq.mpr c48
             clear c48
             by_cases c49 : 0 ≤ x9_3
             ·rw [if_pos c49] at H
              have c49b0 : decide (0 ≤ x9_3) = true := decide_eq_true c49
              clear c49
              by_cases c50 : x9_3 < (x6_5.length : Int)
              ·rw [if_pos c50] at H
               have c50b0 : decide (x9_3 < (x6_5.length : Int)) = true := decide_eq_true c50
               clear c50
               replace H := Option.bind_eq_some_iff.mp H
               obtain ⟨t367, A510, H⟩ := H
               replace H : ((weirgateref21_Join.f k3 (([x8_3, t367] : List ByteArray))).bind fun t371 => (weirgateref22_Text.l1 k3 t331 x5_1 x6_5 t371 (wrap64 (x9_3 + 1)) (wrap64 (x10_3 + 1)) a0_0 a0_1 a0_2 a0_3 a0_4 a0_5 a0_6 a0_7 a0_1 a0_2 a0_3 a0_4 a0_5 a0_6 a0_7)) = some (r1, r2) := H
               have A51 := Aside0.mk A510
               clear A510
               obtain ⟨y368, hy368⟩ : ∃ y_ : List ByteArray, y_ = (([x8_3, t367] : List ByteArray)) := ⟨_, rfl⟩
               replace H : ((weirgateref21_Join.f k3 y368).bind fun t371 => (weirgateref22_Text.l1 k3 t331 x5_1 x6_5 t371 (wrap64 (x9_3 + 1)) (wrap64 (x10_3 + 1)) a0_0 a0_1 a0_2 a0_3 a0_4 a0_5 a0_6 a0_7 a0_1 a0_2 a0_3 a0_4 a0_5 a0_6 a0_7)) = some (r1, r2) := by first | (rw [hy368]; with_reducible exact H) | (have H2_ := (Option.bind_some _ _).symm.trans H; rw [hy368]; with_reducible exact H2_) | (have H2_ := (Option.bind_some _ _).symm.trans H; with_reducible exact H2_) | with_reducible exact H | (rw [hy368]; exact H) | exact H
               have Ny368 := Aside0.mk hy368
               clear hy368
               replace H := Option.bind_eq_some_iff.mp H
               obtain ⟨t371, A520, H⟩ := H
               replace H : (weirgateref22_Text.l1 k3 t331 x5_1 x6_5 t371 (wrap64 (x9_3 + 1)) (wrap64 (x10_3 + 1)) a0_0 a0_1 a0_2 a0_3 a0_4 a0_5 a0_6 a0_7 a0_1 a0_2 a0_3 a0_4 a0_5 a0_6 a0_7) = some (r1, r2) := H
               have A52 := Aside0.mk A520
               clear A520
               have H' := Aside0.mk H
               clear H
               have p353 : 0 ≤ (x5_1 : Int) := of_decide_eq_true (by first | (with_reducible assumption) | assumption)
               have q353 : x5_1 < (t331.length : Int) := of_decide_eq_true (by first | (with_reducible assumption) | assumption)
               obtain ⟨ad353, A353_0, c353_0, e353, hx353_0, hl353_0, hi353_0⟩ := at_L7 (Kd.N_reads' HO_4.out).2.2 x5_1 p353 q353
               cases e353
               obtain ⟨ce353, hce353, hMe353, hcc353⟩ := Kd.N_get HO_4.out [] x5_1 p353 (by first | exact q353 | exact of_decide_eq_true (by first | (with_reducible assumption) | assumption) | (have e_ := (Kd.N_reads' HO_4.out).1; omega))
               obtain ⟨ua353_0, uc353_0, rfl, ul353_0, ge353_0⟩ := Kd.FK_slice_open hMe353
               have hv353_0 := hcc353 0 _ rfl
               rw [Nat.add_zero, show ((Kd.slice 9 Kd.string)).sz = 1 from rfl, Nat.mul_one] at hv353_0
               replace hv353_0 := Option.some.inj (hv353_0.symm.trans hx353_0)
               injection hv353_0 with hva_ hvn_ hvc_
               rw [hva_] at ge353_0
               rw [hvc_] at ul353_0
               have HL353_0 := Aside0.mk (show Kd.V Kd.string 9 _ w.heap.size _ _ (rd_L7 t331 x5_1) from Kd.V_mk ul353_0 ge353_0)
               clear hva_ hvn_ hvc_ ge353_0 ul353_0
               clear hcc353 hce353
               have HR353_0 := Aside0.mk hi353_0
               have HC353_0 := Aside0.mk hl353_0
               clear hi353_0 hl353_0
               replace p353 := eq_true p353
               replace q353 := eq_true q353
               have p364 : 0 ≤ (x5_1 : Int) := of_decide_eq_true (by first | (with_reducible assumption) | assumption)
               have q364 : x5_1 < (t331.length : Int) := of_decide_eq_true (by first | (with_reducible assumption) | assumption)
               obtain ⟨ad364, A364_0, c364_0, e364, hx364_0, hl364_0, hi364_0⟩ := at_L7 (Kd.N_reads' HO_4.out).2.2 x5_1 p364 q364
               obtain rfl : ad353 = ad364 := (by injection e364)
               obtain ⟨ce364, hce364, hMe364, hcc364⟩ := Kd.N_get HO_4.out [] x5_1 p364 (by first | exact q364 | exact of_decide_eq_true (by first | (with_reducible assumption) | assumption) | (have e_ := (Kd.N_reads' HO_4.out).1; omega))
               obtain ⟨ua364_0, uc364_0, rfl, ul364_0, ge364_0⟩ := Kd.FK_slice_open hMe364
               have hv364_0 := hcc364 0 _ rfl
               rw [Nat.add_zero, show ((Kd.slice 9 Kd.string)).sz = 1 from rfl, Nat.mul_one] at hv364_0
               replace hv364_0 := Option.some.inj (hv364_0.symm.trans hx364_0)
               injection hv364_0 with hva_ hvn_ hvc_
               rw [hva_] at ge364_0
               rw [hvc_] at ul364_0
               have HL364_0 := Aside0.mk (show Kd.V Kd.string 9 _ w.heap.size _ _ (rd_L7 t331 x5_1) from Kd.V_mk ul364_0 ge364_0)
               clear hva_ hvn_ hvc_ ge364_0 ul364_0
               clear hcc364 hce364
               have HR364_0 := Aside0.mk hi364_0
               have HC364_0 := Aside0.mk hl364_0
               clear hi364_0 hl364_0
               replace p364 := eq_true p364
               replace q364 := eq_true q364
               have ea_ := Option.some.inj (hx353_0.symm.trans hx364_0)
               injection ea_ with ea_ en_ ec_
               subst ea_
               subst ec_
               clear en_
               have p365 : 0 ≤ (x10_3 : Int) := of_decide_eq_true (by first | (with_reducible assumption) | assumption)
               have q365 : x10_3 < ((rd_L7 t331 x5_1).length : Int) := of_decide_eq_true (by first | (with_reducible assumption) | assumption)
               obtain ⟨ad365, e365, hx365_0⟩ := Kd.at_string (by repeat (first | (with_reducible exact HR364_0.out) | (with_reducible refine Kd.C_alloc ?_ _) | (with_reducible refine Kd.C_drewN ?_ _) | (with_reducible refine Kd.C_drew ?_) | exact HR364_0.out)) x10_3 p365 q365
               cases e365
               replace p365 := eq_true p365
               replace q365 := eq_true q365
               obtain ⟨Ao53, co53, eo53⟩ := Kd.R_slice HO_6.out
               subst eo53
               have p366 : 0 ≤ (x9_3 : Int) := of_decide_eq_true (by first | (with_reducible assumption) | assumption)
               have q366 : x9_3 < (x6_5.length : Int) := of_decide_eq_true (by first | (with_reducible assumption) | assumption)
               obtain ⟨ad366, e366, hx366_0⟩ := Kd.at_int (Kd.R_reads' HO_6.out).2.2 x9_3 p366 q366
               cases e366
               replace p366 := eq_true p366
               replace q366 := eq_true q366
               go_wp2_with (first | ((with_reducible refine gate_callee (f := 24) rfl ?_); refine goesL_ (some 92) rfl rfl Tryd.func24 (by kernel_rfl) rfl #[.int .i64 (rd x6_5 x9_3)] rfl (by (try simp only [List.map_toArray, List.map_cons, List.map_nil]); first | done | rfl | (simp only [List.length_drop, List.length_take]; rfl)) ?_; (with_reducible refine (weirgateref21_Text.calls k3 (rd x6_5 x9_3) t367 _ ?side1 A51.out).mono ?_); (case side1 => exact Laid.below hL (by repeat (first | (with_reducible first | exact HB.out | apply below_alloc | apply pw_below_drewN | apply below_drew1 | refine below_set ?_ GE330.out | refine below_set ?_ GE334.out) | exact HB.out))); rintro e w54 ⟨rfl, hb⟩; refine ⟨_, rfl, ?_⟩; have n0_ := Aside0.mk (Kd.N_below (by (with_reducible repeat (first | apply Kd.N_alloc | apply Kd.N_drewN | apply Kd.N_drew)); exact HO_4.out) hb); have n1_ := Aside0.mk (Kd.R_below (by (with_reducible repeat (first | apply Kd.R_alloc | apply Kd.R_drewN | apply Kd.R_drew)); exact HO_6.out) hb); have n2_ := Aside0.mk (Kd.V_below (by (with_reducible repeat (first | apply Kd.V_alloc | apply Kd.V_drewN | apply Kd.V_drew)); exact HL353_0.out) hb); have n3_ := Aside0.mk (Kd.V_below (by (with_reducible repeat (first | apply Kd.V_alloc | apply Kd.V_drewN | apply Kd.V_drew)); exact HL364_0.out) hb); have n4_ := Aside0.mk (blk_below (g := gb330) (o := .cells #[.int .i64 a0_0, .int .i64 a0_1, .int .i64 a0_2, .int .i64 a0_3, .int .i64 a0_4, .int .u8 a0_5, .int .u8 a0_6, .int .u64 a0_7] 32 (0, 0)) (by (with_reducible repeat (first | refine blk_drewN ?_ _ | refine blk_drew ?_ | refine blk_alloc ?_ _)); exact BK330.out) hb); have n5_ := Aside0.mk (blk_below (g := gb334) (o := .cells #[.int .i64 a0_1, .int .i64 a0_2, .int .i64 a0_3, .int .i64 a0_4, .int .u8 a0_5, .int .u8 a0_6, .int .u64 a0_7] 25 (0, 0)) (by (with_reducible repeat (first | refine blk_drewN ?_ _ | refine blk_drew ?_ | refine blk_alloc ?_ _)); exact BK334.out) hb); have n6_ := Aside0.mk (Kd.C_below (by repeat (first | (with_reducible exact HR353_0.out) | (with_reducible refine Kd.C_alloc ?_ _) | (with_reducible refine Kd.C_drewN ?_ _) | (with_reducible refine Kd.C_drew ?_) | exact HR353_0.out)) hb); have n7_ := Aside0.mk (Kd.C_below (by repeat (first | (with_reducible exact HR364_0.out) | (with_reducible refine Kd.C_alloc ?_ _) | (with_reducible refine Kd.C_drewN ?_ _) | (with_reducible refine Kd.C_drew ?_) | exact HR364_0.out)) hb); have n8_ := Aside0.mk (below_step (by repeat (first | (with_reducible first | exact HB.out | apply below_alloc | apply pw_below_drewN | apply below_drew1 | refine below_set ?_ GE330.out | refine below_set ?_ GE334.out) | exact HB.out)) hb); clear HO_4; clear HO_6; clear HL353_0; clear HL364_0; clear BK330; clear BK334; clear HR353_0; clear HR364_0; clear HB; have HO_4 := n0_; have HO_6 := n1_; have HL353_0 := n2_; have HL364_0 := n3_; have BK330 := n4_; have BK334 := n5_; have HR353_0 := n6_; have HR364_0 := n7_; have HB := n8_; clear n0_ n1_ n2_ n3_ n4_ n5_ n6_ n7_ n8_; (try clear hb); (try clear hb2); (try clear hk); (try clear hi); (try clear A51)) | ((with_reducible refine gate_dst (N := 102) rfl ?_); refine Kd.R_lit Kd.string _ 9 ?hg (N := 102) ?hd (xs := ([x8_3, t367] : List ByteArray)) (inner := [.string x8_3, .string t367]) (ok := fun _ => True) (okp := fun _ => True) ?hr ?hp (fun _ hk => hk) trivial (Below.refl _ _) (Nat.le_refl _) (by simp) ?_; (case hd => rfl); (case hg => rfl); (case hr => first | (go_simp; done) | (go_simp; rfl)); (case hp => exact (Reps.one (show Kd.M Kd.string _ _ _ x8_3 [.string x8_3] from rfl) (Reps.one (show Kd.M Kd.string _ _ _ t367 [.string t367] from rfl) (Reps.none _ _)))); intro v369 w55 ho56 hb hg_ hnew_; clear hg_ hnew_; (first | rw [← Ny368.out] at ho56 | (simp only [Int.reduceToNat] at ho56; rw [← Ny368.out] at ho56)); have n0_ := Aside0.mk (Kd.N_elder' (by (with_reducible repeat (first | apply Kd.N_alloc | apply Kd.N_drewN | apply Kd.N_drew)); exact HO_4.out) (Kd.R_base ho56) hb); have n1_ := Aside0.mk (Kd.R_below (by (with_reducible repeat (first | apply Kd.R_alloc | apply Kd.R_drewN | apply Kd.R_drew)); exact HO_6.out) hb); have n2_ := Aside0.mk (Kd.V_elder' (by (with_reducible repeat (first | apply Kd.V_alloc | apply Kd.V_drewN | apply Kd.V_drew)); exact HL353_0.out) (Kd.R_base ho56) hb); have n3_ := Aside0.mk (Kd.V_elder' (by (with_reducible repeat (first | apply Kd.V_alloc | apply Kd.V_drewN | apply Kd.V_drew)); exact HL364_0.out) (Kd.R_base ho56) hb); have n4_ := Aside0.mk (Kd.R_lower ho56 (below_size (by repeat (first | (with_reducible first | exact HB.out | apply below_alloc | apply pw_below_drewN | apply below_drew1 | refine below_set ?_ GE330.out | refine below_set ?_ GE334.out) | exact HB.out)))); have n5_ := Aside0.mk (blk_below (g := gb330) (o := .cells #[.int .i64 a0_0, .int .i64 a0_1, .int .i64 a0_2, .int .i64 a0_3, .int .i64 a0_4, .int .u8 a0_5, .int .u8 a0_6, .int .u64 a0_7] 32 (0, 0)) (by (with_reducible repeat (first | refine blk_drewN ?_ _ | refine blk_drew ?_ | refine blk_alloc ?_ _)); exact BK330.out) hb); have n6_ := Aside0.mk (blk_below (g := gb334) (o := .cells #[.int .i64 a0_1, .int .i64 a0_2, .int .i64 a0_3, .int .i64 a0_4, .int .u8 a0_5, .int .u8 a0_6, .int .u64 a0_7] 25 (0, 0)) (by (with_reducible repeat (first | refine blk_drewN ?_ _ | refine blk_drew ?_ | refine blk_alloc ?_ _)); exact BK334.out) hb); have n7_ := Aside0.mk (Kd.C_below (by repeat (first | (with_reducible exact HR353_0.out) | (with_reducible refine Kd.C_alloc ?_ _) | (with_reducible refine Kd.C_drewN ?_ _) | (with_reducible refine Kd.C_drew ?_) | exact HR353_0.out)) hb); have n8_ := Aside0.mk (Kd.C_below (by repeat (first | (with_reducible exact HR364_0.out) | (with_reducible refine Kd.C_alloc ?_ _) | (with_reducible refine Kd.C_drewN ?_ _) | (with_reducible refine Kd.C_drew ?_) | exact HR364_0.out)) hb); have n9_ := Aside0.mk (below_step (by repeat (first | (with_reducible first | exact HB.out | apply below_alloc | apply pw_below_drewN | apply below_drew1 | refine below_set ?_ GE330.out | refine below_set ?_ GE334.out) | exact HB.out)) hb); clear HO_4; clear HO_6; clear HL353_0; clear HL364_0; clear BK330; clear BK334; clear HR353_0; clear HR364_0; clear HB; have HO_4 := n0_; have HO_6 := n1_; have HL353_0 := n2_; have HL364_0 := n3_; have HO370 := n4_; have BK330 := n5_; have BK334 := n6_; have HR353_0 := n7_; have HR364_0 := n8_; have HB := n9_; clear n0_ n1_ n2_ n3_ n4_ n5_ n6_ n7_ n8_ n9_; clear hb ho56; obtain ⟨Ao57, co57, eo57⟩ := Kd.R_slice HO370.out; subst eo57) | ((with_reducible refine gate_callee (f := 26) rfl ?_); refine goesL_ (some 103) rfl rfl Tryd.func26 (by kernel_rfl) rfl #[.slice Ao57 y368.length co57] rfl (by (try simp only [List.map_toArray, List.map_cons, List.map_nil]); first | done | rfl | (simp only [List.length_drop, List.length_take]; rfl)) ?_; (with_reducible refine (weirgateref21_Join.calls k3 _ _ y368 t371 _ ?side1 ?side2 ?side3 A52.out).mono ?_); (case side1 => repeat (first | exact (Kd.R_reads' HO370.out).2.2 | (with_reducible refine Kd.C_alloc ?_ _) | (with_reducible refine Kd.C_drewN ?_ _) | (with_reducible refine Kd.C_drew ?_))); (case side2 => exact (Kd.R_reads' HO370.out).2.1); (case side3 => exact Laid.below hL (by repeat (first | (with_reducible first | exact HB.out | apply below_alloc | apply pw_below_drewN | apply below_drew1 | refine below_set ?_ GE330.out | refine below_set ?_ GE334.out) | exact HB.out))); rintro e w' ⟨rfl, ⟨nd, rfl⟩⟩; refine ⟨_, rfl, ?_⟩; (try clear A52)))
               go_roundg k3
               case measure => have := HK1.out; have := HJ5.out; have := HK3.out; omega
               case rel => exact ⟨(t371), (wrap64 (x9_3 + 1)), (wrap64 (x10_3 + 1)), (by first | rfl | (simp; done) | (simp [*]; done)), (by first | rfl | (simp; done) | (simp [*]; done)), (by first | rfl | (simp; done) | (simp [*]; done)), H', ⟨by have := HK1.out; have := HJ5.out; have := HK3.out; omega⟩, ⟨by (with_reducible repeat (first | apply Kd.N_alloc | apply Kd.N_drewN | apply Kd.N_drew)); exact Kd.N_mono HO_4.out (fun _ hk => ⟨hk.1.1, ⟨hk.1.2.1, hk.1.2.2⟩⟩)⟩, ⟨by (with_reducible repeat (first | apply Kd.R_alloc | apply Kd.R_drewN | apply Kd.R_drew)); exact HO_6.out⟩, ⟨by (with_reducible repeat (first | refine blk_drewN ?_ _ | refine blk_drew ?_ | refine blk_alloc ?_ _)); exact BK330.out⟩, ⟨by (with_reducible repeat (first | refine blk_drewN ?_ _ | refine blk_drew ?_ | refine blk_alloc ?_ _)); exact BK334.out⟩, ⟨by repeat (first | (with_reducible first | exact HB.out | apply below_alloc | apply pw_below_drewN | apply below_drew1 | refine below_set ?_ GE330.out | refine below_set ?_ GE334.out) | exact HB.out)⟩⟩
              ·rw [if_neg c50] at H
               exact absurd H (by simp)
             ·rw [if_neg c49] at H
              exact absurd H (by simp)
            ·rw [if_neg c48] at H
             have c48b0 : ((rdOf ByteArray.empty (rd_L7 t331 x5_1) x10_3).toList == ([35] : List UInt8)) = false := beq_eq_false_iff_ne.mpr c48
             have c48b1 : ((rdOf ByteArray.empty (rd_L7 t331 x5_1) x10_3).toList != ([35] : List UInt8)) = true := bne_iff_ne.mpr c48
             by_cases c58 : (rdOf ByteArray.empty (rd_L7 t331 x5_1) x10_3).toList = ([64] : List UInt8)
             ·rw [if_pos c58] at H
              have c58b0 : ((rdOf ByteArray.empty (rd_L7 t331 x5_1) x10_3).toList == ([64] : List UInt8)) = true := beq_iff_eq.mpr c58
              have c58b1 : ((rdOf ByteArray.empty (rd_L7 t331 x5_1) x10_3).toList != ([64] : List UInt8)) = false := bne_eq_false_iff_eq.mpr c58
              clear c58
              replace H := Option.bind_eq_some_iff.mp H
              obtain ⟨t372, A590, H⟩ := H
              replace H : ((weirgateref21_Join.f k3 (([x8_3, t372] : List ByteArray))).bind fun t376 => (weirgateref22_Text.l1 k3 t331 x5_1 x6_5 t376 x9_3 (wrap64 (x10_3 + 1)) a0_0 a0_1 a0_2 a0_3 a0_4 a0_5 a0_6 a0_7 a0_1 a0_2 a0_3 a0_4 a0_5 a0_6 a0_7)) = some (r1, r2) := H
              have A59 := Aside0.mk A590
              clear A590
              obtain ⟨y373, hy373⟩ : ∃ y_ : List ByteArray, y_ = (([x8_3, t372] : List ByteArray)) := ⟨_, rfl⟩
              replace H : ((weirgateref21_Join.f k3 y373).bind fun t376 => (weirgateref22_Text.l1 k3 t331 x5_1 x6_5 t376 x9_3 (wrap64 (x10_3 + 1)) a0_0 a0_1 a0_2 a0_3 a0_4 a0_5 a0_6 a0_7 a0_1 a0_2 a0_3 a0_4 a0_5 a0_6 a0_7)) = some (r1, r2) := by first | (rw [hy373]; with_reducible exact H) | (have H2_ := (Option.bind_some _ _).symm.trans H; rw [hy373]; with_reducible exact H2_) | (have H2_ := (Option.bind_some _ _).symm.trans H; with_reducible exact H2_) | with_reducible exact H | (rw [hy373]; exact H) | exact H
              have Ny373 := Aside0.mk hy373
              clear hy373
              replace H := Option.bind_eq_some_iff.mp H
              obtain ⟨t376, A600, H⟩ := H
              replace H : (weirgateref22_Text.l1 k3 t331 x5_1 x6_5 t376 x9_3 (wrap64 (x10_3 + 1)) a0_0 a0_1 a0_2 a0_3 a0_4 a0_5 a0_6 a0_7 a0_1 a0_2 a0_3 a0_4 a0_5 a0_6 a0_7) = some (r1, r2) := H
              have A60 := Aside0.mk A600
              clear A600
              have H' := Aside0.mk H
              clear H
              have p353 : 0 ≤ (x5_1 : Int) := of_decide_eq_true (by first | (with_reducible assumption) | assumption)
              have q353 : x5_1 < (t331.length : Int) := of_decide_eq_true (by first | (with_reducible assumption) | assumption)
              obtain ⟨ad353, A353_0, c353_0, e353, hx353_0, hl353_0, hi353_0⟩ := at_L7 (Kd.N_reads' HO_4.out).2.2 x5_1 p353 q353
              cases e353
              obtain ⟨ce353, hce353, hMe353, hcc353⟩ := Kd.N_get HO_4.out [] x5_1 p353 (by first | exact q353 | exact of_decide_eq_true (by first | (with_reducible assumption) | assumption) | (have e_ := (Kd.N_reads' HO_4.out).1; omega))
              obtain ⟨ua353_0, uc353_0, rfl, ul353_0, ge353_0⟩ := Kd.FK_slice_open hMe353
              have hv353_0 := hcc353 0 _ rfl
              rw [Nat.add_zero, show ((Kd.slice 9 Kd.string)).sz = 1 from rfl, Nat.mul_one] at hv353_0
              replace hv353_0 := Option.some.inj (hv353_0.symm.trans hx353_0)
              injection hv353_0 with hva_ hvn_ hvc_
              rw [hva_] at ge353_0
              rw [hvc_] at ul353_0
              have HL353_0 := Aside0.mk (show Kd.V Kd.string 9 _ w.heap.size _ _ (rd_L7 t331 x5_1) from Kd.V_mk ul353_0 ge353_0)
              clear hva_ hvn_ hvc_ ge353_0 ul353_0
              clear hcc353 hce353
              have HR353_0 := Aside0.mk hi353_0
              have HC353_0 := Aside0.mk hl353_0
              clear hi353_0 hl353_0
              replace p353 := eq_true p353
              replace q353 := eq_true q353
              have p364 : 0 ≤ (x5_1 : Int) := of_decide_eq_true (by first | (with_reducible assumption) | assumption)
              have q364 : x5_1 < (t331.length : Int) := of_decide_eq_true (by first | (with_reducible assumption) | assumption)
              obtain ⟨ad364, A364_0, c364_0, e364, hx364_0, hl364_0, hi364_0⟩ := at_L7 (Kd.N_reads' HO_4.out).2.2 x5_1 p364 q364
              obtain rfl : ad353 = ad364 := (by injection e364)
              obtain ⟨ce364, hce364, hMe364, hcc364⟩ := Kd.N_get HO_4.out [] x5_1 p364 (by first | exact q364 | exact of_decide_eq_true (by first | (with_reducible assumption) | assumption) | (have e_ := (Kd.N_reads' HO_4.out).1; omega))
              obtain ⟨ua364_0, uc364_0, rfl, ul364_0, ge364_0⟩ := Kd.FK_slice_open hMe364
              have hv364_0 := hcc364 0 _ rfl
              rw [Nat.add_zero, show ((Kd.slice 9 Kd.string)).sz = 1 from rfl, Nat.mul_one] at hv364_0
              replace hv364_0 := Option.some.inj (hv364_0.symm.trans hx364_0)
              injection hv364_0 with hva_ hvn_ hvc_
              rw [hva_] at ge364_0
              rw [hvc_] at ul364_0
              have HL364_0 := Aside0.mk (show Kd.V Kd.string 9 _ w.heap.size _ _ (rd_L7 t331 x5_1) from Kd.V_mk ul364_0 ge364_0)
              clear hva_ hvn_ hvc_ ge364_0 ul364_0
              clear hcc364 hce364
              have HR364_0 := Aside0.mk hi364_0
              have HC364_0 := Aside0.mk hl364_0
              clear hi364_0 hl364_0
              replace p364 := eq_true p364
              replace q364 := eq_true q364
              have ea_ := Option.some.inj (hx353_0.symm.trans hx364_0)
              injection ea_ with ea_ en_ ec_
              subst ea_
              subst ec_
              clear en_
              have p365 : 0 ≤ (x10_3 : Int) := of_decide_eq_true (by first | (with_reducible assumption) | assumption)
              have q365 : x10_3 < ((rd_L7 t331 x5_1).length : Int) := of_decide_eq_true (by first | (with_reducible assumption) | assumption)
              obtain ⟨ad365, e365, hx365_0⟩ := Kd.at_string (by repeat (first | (with_reducible exact HR364_0.out) | (with_reducible refine Kd.C_alloc ?_ _) | (with_reducible refine Kd.C_drewN ?_ _) | (with_reducible refine Kd.C_drew ?_) | exact HR364_0.out)) x10_3 p365 q365
              cases e365
              replace p365 := eq_true p365
              replace q365 := eq_true q365
              have hnb61 := NB334_330.out
              have hnc61 := NB330_334.out
              have hcz62_0 : wr.cell? ⟨gb334, 0, none⟩ = some (.int .i64 a0_1) := (blk_cell BK334.out 0).trans rfl
              have hcz62_1 : wr.cell? ⟨gb334, 1, none⟩ = some (.int .i64 a0_2) := (blk_cell BK334.out 1).trans rfl
              have hcz62_2 : wr.cell? ⟨gb334, 2, none⟩ = some (.int .i64 a0_3) := (blk_cell BK334.out 2).trans rfl
              have hcz62_3 : wr.cell? ⟨gb334, 3, none⟩ = some (.int .i64 a0_4) := (blk_cell BK334.out 3).trans rfl
              have hcz62_4 : wr.cell? ⟨gb334, 4, none⟩ = some (.int .u8 a0_5) := (blk_cell BK334.out 4).trans rfl
              have hcz62_5 : wr.cell? ⟨gb334, 5, none⟩ = some (.int .u8 a0_6) := (blk_cell BK334.out 5).trans rfl
              have hcz62_6 : wr.cell? ⟨gb334, 6, none⟩ = some (.int .u64 a0_7) := (blk_cell BK334.out 6).trans rfl
              have hfz62_0 := blk_frozen BK334.out 0
              have hfz62_1 := blk_frozen BK334.out 1
              have hfz62_2 := blk_frozen BK334.out 2
              have hfz62_3 := blk_frozen BK334.out 3
              have hfz62_4 := blk_frozen BK334.out 4
              have hfz62_5 := blk_frozen BK334.out 5
              have hfz62_6 := blk_frozen BK334.out 6
              go_wp2_with (first | ((with_reducible refine gate_callee (f := 25) rfl ?_); refine goesL_ (some 99) rfl rfl Tryd.func25 (by kernel_rfl) rfl #[.int .u64 a0_7] rfl (by (try simp only [List.map_toArray, List.map_cons, List.map_nil]); first | done | rfl | (simp only [List.length_drop, List.length_take]; rfl)) ?_; (with_reducible refine (weirgateref09_Text.calls k3 a0_7 t372 _ ?side1 A59.out).mono ?_); (case side1 => exact Laid.below hL (by repeat (first | (with_reducible first | exact HB.out | apply below_alloc | apply pw_below_drewN | apply below_drew1 | refine below_set ?_ GE330.out | refine below_set ?_ GE334.out) | exact HB.out))); rintro e w63 ⟨rfl, hb⟩; refine ⟨_, rfl, ?_⟩; have n0_ := Aside0.mk (Kd.N_below (by (with_reducible repeat (first | apply Kd.N_alloc | apply Kd.N_drewN | apply Kd.N_drew)); exact HO_4.out) hb); have n1_ := Aside0.mk (Kd.R_below (by (with_reducible repeat (first | apply Kd.R_alloc | apply Kd.R_drewN | apply Kd.R_drew)); exact HO_6.out) hb); have n2_ := Aside0.mk (Kd.V_below (by (with_reducible repeat (first | apply Kd.V_alloc | apply Kd.V_drewN | apply Kd.V_drew)); exact HL353_0.out) hb); have n3_ := Aside0.mk (Kd.V_below (by (with_reducible repeat (first | apply Kd.V_alloc | apply Kd.V_drewN | apply Kd.V_drew)); exact HL364_0.out) hb); have n4_ := Aside0.mk (blk_below (g := gb330) (o := .cells #[.int .i64 a0_0, .int .i64 a0_1, .int .i64 a0_2, .int .i64 a0_3, .int .i64 a0_4, .int .u8 a0_5, .int .u8 a0_6, .int .u64 a0_7] 32 (0, 0)) (by (with_reducible repeat (first | refine blk_drewN ?_ _ | refine blk_drew ?_ | refine blk_alloc ?_ _)); exact BK330.out) hb); have n5_ := Aside0.mk (blk_below (g := gb334) (o := .cells #[.int .i64 a0_1, .int .i64 a0_2, .int .i64 a0_3, .int .i64 a0_4, .int .u8 a0_5, .int .u8 a0_6, .int .u64 a0_7] 25 (0, 0)) (by (with_reducible repeat (first | refine blk_drewN ?_ _ | refine blk_drew ?_ | refine blk_alloc ?_ _)); exact BK334.out) hb); have n6_ := Aside0.mk (Kd.C_below (by repeat (first | (with_reducible exact HR353_0.out) | (with_reducible refine Kd.C_alloc ?_ _) | (with_reducible refine Kd.C_drewN ?_ _) | (with_reducible refine Kd.C_drew ?_) | exact HR353_0.out)) hb); have n7_ := Aside0.mk (Kd.C_below (by repeat (first | (with_reducible exact HR364_0.out) | (with_reducible refine Kd.C_alloc ?_ _) | (with_reducible refine Kd.C_drewN ?_ _) | (with_reducible refine Kd.C_drew ?_) | exact HR364_0.out)) hb); have n8_ := Aside0.mk (below_step (by repeat (first | (with_reducible first | exact HB.out | apply below_alloc | apply pw_below_drewN | apply below_drew1 | refine below_set ?_ GE330.out | refine below_set ?_ GE334.out) | exact HB.out)) hb); clear HO_4; clear HO_6; clear HL353_0; clear HL364_0; clear BK330; clear BK334; clear HR353_0; clear HR364_0; clear HB; have HO_4 := n0_; have HO_6 := n1_; have HL353_0 := n2_; have HL364_0 := n3_; have BK330 := n4_; have BK334 := n5_; have HR353_0 := n6_; have HR364_0 := n7_; have HB := n8_; clear n0_ n1_ n2_ n3_ n4_ n5_ n6_ n7_ n8_; (try clear hb); (try clear hb2); (try clear hk); (try clear hi); (try clear A59)) | ((with_reducible refine gate_dst (N := 102) rfl ?_); refine Kd.R_lit Kd.string _ 9 ?hg (N := 102) ?hd (xs := ([x8_3, t372] : List ByteArray)) (inner := [.string x8_3, .string t372]) (ok := fun _ => True) (okp := fun _ => True) ?hr ?hp (fun _ hk => hk) trivial (Below.refl _ _) (Nat.le_refl _) (by simp) ?_; (case hd => rfl); (case hg => rfl); (case hr => first | (go_simp; done) | (go_simp; rfl)); (case hp => exact (Reps.one (show Kd.M Kd.string _ _ _ x8_3 [.string x8_3] from rfl) (Reps.one (show Kd.M Kd.string _ _ _ t372 [.string t372] from rfl) (Reps.none _ _)))); intro v374 w64 ho65 hb hg_ hnew_; clear hg_ hnew_; (first | rw [← Ny373.out] at ho65 | (simp only [Int.reduceToNat] at ho65; rw [← Ny373.out] at ho65)); have n0_ := Aside0.mk (Kd.N_elder' (by (with_reducible repeat (first | apply Kd.N_alloc | apply Kd.N_drewN | apply Kd.N_drew)); exact HO_4.out) (Kd.R_base ho65) hb); have n1_ := Aside0.mk (Kd.R_below (by (with_reducible repeat (first | apply Kd.R_alloc | apply Kd.R_drewN | apply Kd.R_drew)); exact HO_6.out) hb); have n2_ := Aside0.mk (Kd.V_elder' (by (with_reducible repeat (first | apply Kd.V_alloc | apply Kd.V_drewN | apply Kd.V_drew)); exact HL353_0.out) (Kd.R_base ho65) hb); have n3_ := Aside0.mk (Kd.V_elder' (by (with_reducible repeat (first | apply Kd.V_alloc | apply Kd.V_drewN | apply Kd.V_drew)); exact HL364_0.out) (Kd.R_base ho65) hb); have n4_ := Aside0.mk (Kd.R_lower ho65 (below_size (by repeat (first | (with_reducible first | exact HB.out | apply below_alloc | apply pw_below_drewN | apply below_drew1 | refine below_set ?_ GE330.out | refine below_set ?_ GE334.out) | exact HB.out)))); have n5_ := Aside0.mk (blk_below (g := gb330) (o := .cells #[.int .i64 a0_0, .int .i64 a0_1, .int .i64 a0_2, .int .i64 a0_3, .int .i64 a0_4, .int .u8 a0_5, .int .u8 a0_6, .int .u64 a0_7] 32 (0, 0)) (by (with_reducible repeat (first | refine blk_drewN ?_ _ | refine blk_drew ?_ | refine blk_alloc ?_ _)); exact BK330.out) hb); have n6_ := Aside0.mk (blk_below (g := gb334) (o := .cells #[.int .i64 a0_1, .int .i64 a0_2, .int .i64 a0_3, .int .i64 a0_4, .int .u8 a0_5, .int .u8 a0_6, .int .u64 a0_7] 25 (0, 0)) (by (with_reducible repeat (first | refine blk_drewN ?_ _ | refine blk_drew ?_ | refine blk_alloc ?_ _)); exact BK334.out) hb); have n7_ := Aside0.mk (Kd.C_below (by repeat (first | (with_reducible exact HR353_0.out) | (with_reducible refine Kd.C_alloc ?_ _) | (with_reducible refine Kd.C_drewN ?_ _) | (with_reducible refine Kd.C_drew ?_) | exact HR353_0.out)) hb); have n8_ := Aside0.mk (Kd.C_below (by repeat (first | (with_reducible exact HR364_0.out) | (with_reducible refine Kd.C_alloc ?_ _) | (with_reducible refine Kd.C_drewN ?_ _) | (with_reducible refine Kd.C_drew ?_) | exact HR364_0.out)) hb); have n9_ := Aside0.mk (below_step (by repeat (first | (with_reducible first | exact HB.out | apply below_alloc | apply pw_below_drewN | apply below_drew1 | refine below_set ?_ GE330.out | refine below_set ?_ GE334.out) | exact HB.out)) hb); clear HO_4; clear HO_6; clear HL353_0; clear HL364_0; clear BK330; clear BK334; clear HR353_0; clear HR364_0; clear HB; have HO_4 := n0_; have HO_6 := n1_; have HL353_0 := n2_; have HL364_0 := n3_; have HO375 := n4_; have BK330 := n5_; have BK334 := n6_; have HR353_0 := n7_; have HR364_0 := n8_; have HB := n9_; clear n0_ n1_ n2_ n3_ n4_ n5_ n6_ n7_ n8_ n9_; clear hb ho65; obtain ⟨Ao66, co66, eo66⟩ := Kd.R_slice HO375.out; subst eo66) | ((with_reducible refine gate_callee (f := 26) rfl ?_); refine goesL_ (some 103) rfl rfl Tryd.func26 (by kernel_rfl) rfl #[.slice Ao66 y373.length co66] rfl (by (try simp only [List.map_toArray, List.map_cons, List.map_nil]); first | done | rfl | (simp only [List.length_drop, List.length_take]; rfl)) ?_; (with_reducible refine (weirgateref21_Join.calls k3 _ _ y373 t376 _ ?side1 ?side2 ?side3 A60.out).mono ?_); (case side1 => repeat (first | exact (Kd.R_reads' HO375.out).2.2 | (with_reducible refine Kd.C_alloc ?_ _) | (with_reducible refine Kd.C_drewN ?_ _) | (with_reducible refine Kd.C_drew ?_))); (case side2 => exact (Kd.R_reads' HO375.out).2.1); (case side3 => exact Laid.below hL (by repeat (first | (with_reducible first | exact HB.out | apply below_alloc | apply pw_below_drewN | apply below_drew1 | refine below_set ?_ GE330.out | refine below_set ?_ GE334.out) | exact HB.out))); rintro e w' ⟨rfl, ⟨nd, rfl⟩⟩; refine ⟨_, rfl, ?_⟩; (try clear A60)))
              go_roundg k3
              case measure => have := HK1.out; have := HJ5.out; have := HK3.out; omega
              case rel => exact ⟨(t376), (x9_3), (wrap64 (x10_3 + 1)), (by first | rfl | (simp; done) | (simp [*]; done)), (by first | rfl | (simp; done) | (simp [*]; done)), (by first | rfl | (simp; done) | (simp [*]; done)), H', ⟨by have := HK1.out; have := HJ5.out; have := HK3.out; omega⟩, ⟨by (with_reducible repeat (first | apply Kd.N_alloc | apply Kd.N_drewN | apply Kd.N_drew)); exact Kd.N_mono HO_4.out (fun _ hk => ⟨hk.1.1, ⟨hk.1.2.1, hk.1.2.2⟩⟩)⟩, ⟨by (with_reducible repeat (first | apply Kd.R_alloc | apply Kd.R_drewN | apply Kd.R_drew)); exact HO_6.out⟩, ⟨by (with_reducible repeat (first | refine blk_drewN ?_ _ | refine blk_drew ?_ | refine blk_alloc ?_ _)); exact BK330.out⟩, ⟨by (with_reducible repeat (first | refine blk_drewN ?_ _ | refine blk_drew ?_ | refine blk_alloc ?_ _)); exact BK334.out⟩, ⟨by repeat (first | (with_reducible first | exact HB.out | apply below_alloc | apply pw_below_drewN | apply below_drew1 | refine below_set ?_ GE330.out | refine below_set ?_ GE334.out) | exact HB.out)⟩⟩
             ·rw [if_neg c58] at H
              have c58b0 : ((rdOf ByteArray.empty (rd_L7 t331 x5_1) x10_3).toList == ([64] : List UInt8)) = false := beq_eq_false_iff_ne.mpr c58
              have c58b1 : ((rdOf ByteArray.empty (rd_L7 t331 x5_1) x10_3).toList != ([64] : List UInt8)) = true := bne_iff_ne.mpr c58
              obtain ⟨y377, hy377⟩ : ∃ y_ : List ByteArray, y_ = (([x8_3, rdOf ByteArray.empty (rd_L7 t331 x5_1) x10_3] : List ByteArray)) := ⟨_, rfl⟩
              replace H : ((weirgateref21_Join.f k3 y377).bind fun t380 => (weirgateref22_Text.l1 k3 t331 x5_1 x6_5 t380 x9_3 (wrap64 (x10_3 + 1)) a0_0 a0_1 a0_2 a0_3 a0_4 a0_5 a0_6 a0_7 a0_1 a0_2 a0_3 a0_4 a0_5 a0_6 a0_7)) = some (r1, r2) := by first | (rw [hy377]; with_reducible exact H) | (have H2_ := (Option.bind_some _ _).symm.trans H; rw [hy377]; with_reducible exact H2_) | (have H2_ := (Option.bind_some _ _).symm.trans H; with_reducible exact H2_) | with_reducible exact H | (rw [hy377]; exact H) | exact H
              have Ny377 := Aside0.mk hy377
              clear hy377
              replace H := Option.bind_eq_some_iff.mp H
              obtain ⟨t380, A670, H⟩ := H
              replace H : (weirgateref22_Text.l1 k3 t331 x5_1 x6_5 t380 x9_3 (wrap64 (x10_3 + 1)) a0_0 a0_1 a0_2 a0_3 a0_4 a0_5 a0_6 a0_7 a0_1 a0_2 a0_3 a0_4 a0_5 a0_6 a0_7) = some (r1, r2) := H
              have A67 := Aside0.mk A670
              clear A670
              have H' := Aside0.mk H
              clear H
              have p353 : 0 ≤ (x5_1 : Int) := of_decide_eq_true (by first | (with_reducible assumption) | assumption)
              have q353 : x5_1 < (t331.length : Int) := of_decide_eq_true (by first | (with_reducible assumption) | assumption)
              obtain ⟨ad353, A353_0, c353_0, e353, hx353_0, hl353_0, hi353_0⟩ := at_L7 (Kd.N_reads' HO_4.out).2.2 x5_1 p353 q353
              cases e353
              obtain ⟨ce353, hce353, hMe353, hcc353⟩ := Kd.N_get HO_4.out [] x5_1 p353 (by first | exact q353 | exact of_decide_eq_true (by first | (with_reducible assumption) | assumption) | (have e_ := (Kd.N_reads' HO_4.out).1; omega))
              obtain ⟨ua353_0, uc353_0, rfl, ul353_0, ge353_0⟩ := Kd.FK_slice_open hMe353
              have hv353_0 := hcc353 0 _ rfl
              rw [Nat.add_zero, show ((Kd.slice 9 Kd.string)).sz = 1 from rfl, Nat.mul_one] at hv353_0
              replace hv353_0 := Option.some.inj (hv353_0.symm.trans hx353_0)
              injection hv353_0 with hva_ hvn_ hvc_
              rw [hva_] at ge353_0
              rw [hvc_] at ul353_0
              have HL353_0 := Aside0.mk (show Kd.V Kd.string 9 _ w.heap.size _ _ (rd_L7 t331 x5_1) from Kd.V_mk ul353_0 ge353_0)
              clear hva_ hvn_ hvc_ ge353_0 ul353_0
              clear hcc353 hce353
              have HR353_0 := Aside0.mk hi353_0
              have HC353_0 := Aside0.mk hl353_0
              clear hi353_0 hl353_0
              replace p353 := eq_true p353
              replace q353 := eq_true q353
              have p364 : 0 ≤ (x5_1 : Int) := of_decide_eq_true (by first | (with_reducible assumption) | assumption)
              have q364 : x5_1 < (t331.length : Int) := of_decide_eq_true (by first | (with_reducible assumption) | assumption)
              obtain ⟨ad364, A364_0, c364_0, e364, hx364_0, hl364_0, hi364_0⟩ := at_L7 (Kd.N_reads' HO_4.out).2.2 x5_1 p364 q364
              obtain rfl : ad353 = ad364 := (by injection e364)
              obtain ⟨ce364, hce364, hMe364, hcc364⟩ := Kd.N_get HO_4.out [] x5_1 p364 (by first | exact q364 | exact of_decide_eq_true (by first | (with_reducible assumption) | assumption) | (have e_ := (Kd.N_reads' HO_4.out).1; omega))
              obtain ⟨ua364_0, uc364_0, rfl, ul364_0, ge364_0⟩ := Kd.FK_slice_open hMe364
              have hv364_0 := hcc364 0 _ rfl
              rw [Nat.add_zero, show ((Kd.slice 9 Kd.string)).sz = 1 from rfl, Nat.mul_one] at hv364_0
              replace hv364_0 := Option.some.inj (hv364_0.symm.trans hx364_0)
              injection hv364_0 with hva_ hvn_ hvc_
              rw [hva_] at ge364_0
              rw [hvc_] at ul364_0
              have HL364_0 := Aside0.mk (show Kd.V Kd.string 9 _ w.heap.size _ _ (rd_L7 t331 x5_1) from Kd.V_mk ul364_0 ge364_0)
              clear hva_ hvn_ hvc_ ge364_0 ul364_0
              clear hcc364 hce364
              have HR364_0 := Aside0.mk hi364_0
              have HC364_0 := Aside0.mk hl364_0
              clear hi364_0 hl364_0
              replace p364 := eq_true p364
              replace q364 := eq_true q364
              have ea_ := Option.some.inj (hx353_0.symm.trans hx364_0)
              injection ea_ with ea_ en_ ec_
              subst ea_
              subst ec_
              clear en_
              have p365 : 0 ≤ (x10_3 : Int) := of_decide_eq_true (by first | (with_reducible assumption) | assumption)
              have q365 : x10_3 < ((rd_L7 t331 x5_1).length : Int) := of_decide_eq_true (by first | (with_reducible assumption) | assumption)
              obtain ⟨ad365, e365, hx365_0⟩ := Kd.at_string (by repeat (first | (with_reducible exact HR364_0.out) | (with_reducible refine Kd.C_alloc ?_ _) | (with_reducible refine Kd.C_drewN ?_ _) | (with_reducible refine Kd.C_drew ?_) | exact HR364_0.out)) x10_3 p365 q365
              cases e365
              replace p365 := eq_true p365
              replace q365 := eq_true q365
              go_wp2_with (first | ((with_reducible refine gate_dst (N := 102) rfl ?_); refine Kd.R_lit Kd.string _ 9 ?hg (N := 102) ?hd (xs := ([x8_3, rdOf ByteArray.empty (rd_L7 t331 x5_1) x10_3] : List ByteArray)) (inner := [.string x8_3, .string (rdOf ByteArray.empty (rd_L7 t331 x5_1) x10_3)]) (ok := fun _ => True) (okp := fun _ => True) ?hr ?hp (fun _ hk => hk) trivial (Below.refl _ _) (Nat.le_refl _) (by simp) ?_; (case hd => rfl); (case hg => rfl); (case hr => first | (go_simp; done) | (go_simp; rfl)); (case hp => exact (Reps.one (show Kd.M Kd.string _ _ _ x8_3 [.string x8_3] from rfl) (Reps.one (show Kd.M Kd.string _ _ _ (rdOf ByteArray.empty (rd_L7 t331 x5_1) x10_3) [.string (rdOf ByteArray.empty (rd_L7 t331 x5_1) x10_3)] from rfl) (Reps.none _ _)))); intro v378 w68 ho69 hb hg_ hnew_; clear hg_ hnew_; (first | rw [← Ny377.out] at ho69 | (simp only [Int.reduceToNat] at ho69; rw [← Ny377.out] at ho69)); have n0_ := Aside0.mk (Kd.N_elder' (by (with_reducible repeat (first | apply Kd.N_alloc | apply Kd.N_drewN | apply Kd.N_drew)); exact HO_4.out) (Kd.R_base ho69) hb); have n1_ := Aside0.mk (Kd.R_below (by (with_reducible repeat (first | apply Kd.R_alloc | apply Kd.R_drewN | apply Kd.R_drew)); exact HO_6.out) hb); have n2_ := Aside0.mk (Kd.V_elder' (by (with_reducible repeat (first | apply Kd.V_alloc | apply Kd.V_drewN | apply Kd.V_drew)); exact HL353_0.out) (Kd.R_base ho69) hb); have n3_ := Aside0.mk (Kd.V_elder' (by (with_reducible repeat (first | apply Kd.V_alloc | apply Kd.V_drewN | apply Kd.V_drew)); exact HL364_0.out) (Kd.R_base ho69) hb); have n4_ := Aside0.mk (Kd.R_lower ho69 (below_size (by repeat (first | (with_reducible first | exact HB.out | apply below_alloc | apply pw_below_drewN | apply below_drew1 | refine below_set ?_ GE330.out | refine below_set ?_ GE334.out) | exact HB.out)))); have n5_ := Aside0.mk (blk_below (g := gb330) (o := .cells #[.int .i64 a0_0, .int .i64 a0_1, .int .i64 a0_2, .int .i64 a0_3, .int .i64 a0_4, .int .u8 a0_5, .int .u8 a0_6, .int .u64 a0_7] 32 (0, 0)) (by (with_reducible repeat (first | refine blk_drewN ?_ _ | refine blk_drew ?_ | refine blk_alloc ?_ _)); exact BK330.out) hb); have n6_ := Aside0.mk (blk_below (g := gb334) (o := .cells #[.int .i64 a0_1, .int .i64 a0_2, .int .i64 a0_3, .int .i64 a0_4, .int .u8 a0_5, .int .u8 a0_6, .int .u64 a0_7] 25 (0, 0)) (by (with_reducible repeat (first | refine blk_drewN ?_ _ | refine blk_drew ?_ | refine blk_alloc ?_ _)); exact BK334.out) hb); have n7_ := Aside0.mk (Kd.C_below (by repeat (first | (with_reducible exact HR353_0.out) | (with_reducible refine Kd.C_alloc ?_ _) | (with_reducible refine Kd.C_drewN ?_ _) | (with_reducible refine Kd.C_drew ?_) | exact HR353_0.out)) hb); have n8_ := Aside0.mk (Kd.C_below (by repeat (first | (with_reducible exact HR364_0.out) | (with_reducible refine Kd.C_alloc ?_ _) | (with_reducible refine Kd.C_drewN ?_ _) | (with_reducible refine Kd.C_drew ?_) | exact HR364_0.out)) hb); have n9_ := Aside0.mk (below_step (by repeat (first | (with_reducible first | exact HB.out | apply below_alloc | apply pw_below_drewN | apply below_drew1 | refine below_set ?_ GE330.out | refine below_set ?_ GE334.out) | exact HB.out)) hb); clear HO_4; clear HO_6; clear HL353_0; clear HL364_0; clear BK330; clear BK334; clear HR353_0; clear HR364_0; clear HB; have HO_4 := n0_; have HO_6 := n1_; have HL353_0 := n2_; have HL364_0 := n3_; have HO379 := n4_; have BK330 := n5_; have BK334 := n6_; have HR353_0 := n7_; have HR364_0 := n8_; have HB := n9_; clear n0_ n1_ n2_ n3_ n4_ n5_ n6_ n7_ n8_ n9_; clear hb ho69; obtain ⟨Ao70, co70, eo70⟩ := Kd.R_slice HO379.out; subst eo70) | ((with_reducible refine gate_callee (f := 26) rfl ?_); refine goesL_ (some 103) rfl rfl Tryd.func26 (by kernel_rfl) rfl #[.slice Ao70 y377.length co70] rfl (by (try simp only [List.map_toArray, List.map_cons, List.map_nil]); first | done | rfl | (simp only [List.length_drop, List.length_take]; rfl)) ?_; (with_reducible refine (weirgateref21_Join.calls k3 _ _ y377 t380 _ ?side1 ?side2 ?side3 A67.out).mono ?_); (case side1 => repeat (first | exact (Kd.R_reads' HO379.out).2.2 | (with_reducible refine Kd.C_alloc ?_ _) | (with_reducible refine Kd.C_drewN ?_ _) | (with_reducible refine Kd.C_drew ?_))); (case side2 => exact (Kd.R_reads' HO379.out).2.1); (case side3 => exact Laid.below hL (by repeat (first | (with_reducible first | exact HB.out | apply below_alloc | apply pw_below_drewN | apply below_drew1 | refine below_set ?_ GE330.out | refine below_set ?_ GE334.out) | exact HB.out))); rintro e w' ⟨rfl, ⟨nd, rfl⟩⟩; refine ⟨_, rfl, ?_⟩; (try clear A67)))
              go_roundg k3
              case measure => have := HK1.out; have := HJ5.out; have := HK3.out; omega
              case rel => exact ⟨(t380), (x9_3), (wrap64 (x10_3 + 1)), (by first | rfl | (simp; done) | (simp [*]; done)), (by first | rfl | (simp; done) | (simp [*]; done)), (by first | rfl | (simp; done) | (simp [*]; done)), H', ⟨by have := HK1.out; have := HJ5.out; have := HK3.out; omega⟩, ⟨by (with_reducible repeat (first | apply Kd.N_alloc | apply Kd.N_drewN | apply Kd.N_drew)); exact Kd.N_mono HO_4.out (fun _ hk => ⟨hk.1.1, ⟨hk.1.2.1, hk.1.2.2⟩⟩)⟩, ⟨by (with_reducible repeat (first | apply Kd.R_alloc | apply Kd.R_drewN | apply Kd.R_drew)); exact HO_6.out⟩, ⟨by (with_reducible repeat (first | refine blk_drewN ?_ _ | refine blk_drew ?_ | refine blk_alloc ?_ _)); exact BK330.out⟩, ⟨by (with_reducible repeat (first | refine blk_drewN ?_ _ | refine blk_drew ?_ | refine blk_alloc ?_ _)); exact BK334.out⟩, ⟨by repeat (first | (with_reducible first | exact HB.out | apply below_alloc | apply pw_below_drewN | apply below_drew1 | refine below_set ?_ GE330.out | refine below_set ?_ GE334.out) | exact HB.out)⟩⟩
           ·rw [if_neg c47] at H
            exact absurd H (by simp)
          ·rw [if_neg c46] at H
           have c46b0 : decide (x10_3 < ((rd_L7 t331 x5_1).length : Int)) = false := decide_eq_false c46
           clear c46
           replace H := Option.bind_eq_some_iff.mp H
           obtain ⟨⟨t354, t355, t356, t357, t358, t359, t360, t361, t362⟩, A710, H⟩ := H
           replace H : (if t362 = 0 then (if (t354 == a0_0 && ((t355 == a0_1 && (t356 == a0_2 && (t357 == a0_3 && (t358 == a0_4 && (t359 == a0_5 && (t360 == a0_6 && (t361 == a0_7))))))))) = true then (some (x8_3, 0)) else (weirgateref22_Text.l0 k3 t331 (wrap64 (x5_1 + 1)) a0_0 a0_1 a0_2 a0_3 a0_4 a0_5 a0_6 a0_7)) else (weirgateref22_Text.l0 k3 t331 (wrap64 (x5_1 + 1)) a0_0 a0_1 a0_2 a0_3 a0_4 a0_5 a0_6 a0_7)) = some (r1, r2) := H
           have A71 := Aside0.mk A710
           clear A710
           by_cases c72 : t362 = 0
           ·rw [if_pos c72] at H
            have c72b0 : (t362 == 0) = true := beq_iff_eq.mpr c72
            have c72b1 : (t362 != 0) = false := bne_eq_false_iff_eq.mpr c72
            clear c72
            by_cases c73 : (t354 == a0_0 && ((t355 == a0_1 && (t356 == a0_2 && (t357 == a0_3 && (t358 == a0_4 && (t359 == a0_5 && (t360 == a0_6 && (t361 == a0_7))))))))) = true
            ·rw [if_pos c73] at H
             have c73b0 : (t354 == a0_0 && ((t355 == a0_1 && (t356 == a0_2 && (t357 == a0_3 && (t358 == a0_4 && (t359 == a0_5 && (t360 == a0_6 && (t361 == a0_7))))))))) = true := c73
             (try (have c73b1 : decide (t354 = a0_0 && ((t355 == a0_1 && (t356 == a0_2 && (t357 == a0_3 && (t358 == a0_4 && (t359 == a0_5 && (t360 == a0_6 && (t361 == a0_7))))))))) = true := by simpa using c73))
             (try (have c73b2 : (t354 == a0_0 && ((t355 == a0_1 && (t356 == a0_2 && (t357 == a0_3 && (t358 == a0_4 && (t359 == a0_5 && (t360 == a0_6 && (t361 == a0_7))))))))) = true := by simpa using c73))
             clear c73
             simp only [Option.some.injEq, Prod.mk.injEq] at H
             obtain ⟨rfl, rfl⟩ := H
             have p353 : 0 ≤ (x5_1 : Int) := of_decide_eq_true (by first | (with_reducible assumption) | assumption)
             have q353 : x5_1 < (t331.length : Int) := of_decide_eq_true (by first | (with_reducible assumption) | assumption)
             obtain ⟨ad353, A353_0, c353_0, e353, hx353_0, hl353_0, hi353_0⟩ := at_L7 (Kd.N_reads' HO_4.out).2.2 x5_1 p353 q353
             cases e353
             obtain ⟨ce353, hce353, hMe353, hcc353⟩ := Kd.N_get HO_4.out [] x5_1 p353 (by first | exact q353 | exact of_decide_eq_true (by first | (with_reducible assumption) | assumption) | (have e_ := (Kd.N_reads' HO_4.out).1; omega))
             obtain ⟨ua353_0, uc353_0, rfl, ul353_0, ge353_0⟩ := Kd.FK_slice_open hMe353
             have hv353_0 := hcc353 0 _ rfl
             rw [Nat.add_zero, show ((Kd.slice 9 Kd.string)).sz = 1 from rfl, Nat.mul_one] at hv353_0
             replace hv353_0 := Option.some.inj (hv353_0.symm.trans hx353_0)
             injection hv353_0 with hva_ hvn_ hvc_
             rw [hva_] at ge353_0
             rw [hvc_] at ul353_0
             have HL353_0 := Aside0.mk (show Kd.V Kd.string 9 _ w.heap.size _ _ (rd_L7 t331 x5_1) from Kd.V_mk ul353_0 ge353_0)
             clear hva_ hvn_ hvc_ ge353_0 ul353_0
             clear hcc353 hce353
             have HR353_0 := Aside0.mk hi353_0
             have HC353_0 := Aside0.mk hl353_0
             clear hi353_0 hl353_0
             replace p353 := eq_true p353
             replace q353 := eq_true q353
             go_wp2_with (first | ((with_reducible refine gate_callee (f := 9) rfl ?_); refine goesL_ (some 105) rfl rfl Tryd.func9 (by kernel_rfl) rfl #[.string x8_3] rfl (by (try simp only [List.map_toArray, List.map_cons, List.map_nil]); first | done | rfl | (simp only [List.length_drop, List.length_take]; rfl)) ?_; (with_reducible refine (weirgateref22_Line.calls k3 x8_3 t354 t355 t356 t357 t358 t359 t360 t361 t362 _ ?side1 A71.out).mono ?_); (case side1 => exact Laid.below hL (by repeat (first | (with_reducible first | exact HB.out | apply below_alloc | apply pw_below_drewN | apply below_drew1 | refine below_set ?_ GE330.out | refine below_set ?_ GE334.out) | exact HB.out))); rintro e w74 ⟨rfl, hb⟩; refine ⟨_, rfl, ?_⟩; have n0_ := Aside0.mk (Kd.N_below (by (with_reducible repeat (first | apply Kd.N_alloc | apply Kd.N_drewN | apply Kd.N_drew)); exact HO_4.out) hb); have n1_ := Aside0.mk (Kd.R_below (by (with_reducible repeat (first | apply Kd.R_alloc | apply Kd.R_drewN | apply Kd.R_drew)); exact HO_6.out) hb); have n2_ := Aside0.mk (Kd.V_below (by (with_reducible repeat (first | apply Kd.V_alloc | apply Kd.V_drewN | apply Kd.V_drew)); exact HL353_0.out) hb); have n3_ := Aside0.mk (blk_below (g := gb330) (o := .cells #[.int .i64 a0_0, .int .i64 a0_1, .int .i64 a0_2, .int .i64 a0_3, .int .i64 a0_4, .int .u8 a0_5, .int .u8 a0_6, .int .u64 a0_7] 32 (0, 0)) (by (with_reducible repeat (first | refine blk_drewN ?_ _ | refine blk_drew ?_ | refine blk_alloc ?_ _)); exact BK330.out) hb); have n4_ := Aside0.mk (blk_below (g := gb334) (o := .cells #[.int .i64 a0_1, .int .i64 a0_2, .int .i64 a0_3, .int .i64 a0_4, .int .u8 a0_5, .int .u8 a0_6, .int .u64 a0_7] 25 (0, 0)) (by (with_reducible repeat (first | refine blk_drewN ?_ _ | refine blk_drew ?_ | refine blk_alloc ?_ _)); exact BK334.out) hb); have n5_ := Aside0.mk (Kd.C_below (by repeat (first | (with_reducible exact HR353_0.out) | (with_reducible refine Kd.C_alloc ?_ _) | (with_reducible refine Kd.C_drewN ?_ _) | (with_reducible refine Kd.C_drew ?_) | exact HR353_0.out)) hb); have n6_ := Aside0.mk (below_step (by repeat (first | (with_reducible first | exact HB.out | apply below_alloc | apply pw_below_drewN | apply below_drew1 | refine below_set ?_ GE330.out | refine below_set ?_ GE334.out) | exact HB.out)) hb); clear HO_4; clear HO_6; clear HL353_0; clear BK330; clear BK334; clear HR353_0; clear HB; have HO_4 := n0_; have HO_6 := n1_; have HL353_0 := n2_; have BK330 := n3_; have BK334 := n4_; have HR353_0 := n5_; have HB := n6_; clear n0_ n1_ n2_ n3_ n4_ n5_ n6_; (try clear hb); (try clear hb2); (try clear hk); (try clear hi); (try clear A71)) | ((with_reducible refine gate_dst (N := 12) rfl ?_); refine box_event ?hg (N := 12) ?hd (cs := #[.int .i64 0, .int .i64 0, .int .i64 0, .int .i64 0, .int .i64 0, .int .u8 0, .int .u8 0, .int .u64 0, .int .i64 0]) (t := 34) ?hr ?_; (case hd => rfl); (case hg => rfl); (case hr => first | (go_simp; done) | (go_simp; rfl)); intro gb363 hg w75 hbox hb; have n0_ := Aside0.mk (Kd.N_below (Kd.N_elderB (by (with_reducible repeat (first | apply Kd.N_alloc | apply Kd.N_drewN | apply Kd.N_drew)); exact HO_4.out) gb363 (Nat.le_of_eq hg.symm)) hb); have n1_ := Aside0.mk (Kd.R_below (by (with_reducible repeat (first | apply Kd.R_alloc | apply Kd.R_drewN | apply Kd.R_drew)); exact HO_6.out) hb); have n2_ := Aside0.mk (Kd.V_below (Kd.V_elderB (by (with_reducible repeat (first | apply Kd.V_alloc | apply Kd.V_drewN | apply Kd.V_drew)); exact HL353_0.out) gb363 (Nat.le_of_eq hg.symm)) hb); have n3_ := Aside0.mk (blk_below (g := gb330) (o := .cells #[.int .i64 a0_0, .int .i64 a0_1, .int .i64 a0_2, .int .i64 a0_3, .int .i64 a0_4, .int .u8 a0_5, .int .u8 a0_6, .int .u64 a0_7] 32 (0, 0)) (by (with_reducible repeat (first | refine blk_drewN ?_ _ | refine blk_drew ?_ | refine blk_alloc ?_ _)); exact BK330.out) hb); have n4_ := Aside0.mk (blk_below (g := gb334) (o := .cells #[.int .i64 a0_1, .int .i64 a0_2, .int .i64 a0_3, .int .i64 a0_4, .int .u8 a0_5, .int .u8 a0_6, .int .u64 a0_7] 25 (0, 0)) (by (with_reducible repeat (first | refine blk_drewN ?_ _ | refine blk_drew ?_ | refine blk_alloc ?_ _)); exact BK334.out) hb); have n5_ := Aside0.mk (Kd.C_below (by repeat (first | (with_reducible exact HR353_0.out) | (with_reducible refine Kd.C_alloc ?_ _) | (with_reducible refine Kd.C_drewN ?_ _) | (with_reducible refine Kd.C_drew ?_) | exact HR353_0.out)) hb); have n6_ := Aside0.mk (below_step (by repeat (first | (with_reducible first | exact HB.out | apply below_alloc | apply pw_below_drewN | apply below_drew1 | refine below_set ?_ GE330.out | refine below_set ?_ GE334.out) | exact HB.out)) hb); have n7_ := Aside0.mk (hbox); have n8_ := Aside0.mk ((by rw [hg]; exact (below_size (by repeat (first | (with_reducible first | exact HB.out | apply below_alloc | apply pw_below_drewN | apply below_drew1 | refine below_set ?_ GE330.out | refine below_set ?_ GE334.out) | exact HB.out))) : w.heap.size ≤ gb363)); have n9_ := Aside0.mk ((by rw [hg]; exact (below_size (by repeat (first | (with_reducible first | exact HB.out | apply below_alloc | apply pw_below_drewN | apply below_drew1 | refine below_set ?_ GE330.out | refine below_set ?_ GE334.out) | exact HB.out))) : w.heap.size ≤ gb363)); have n10_ := Aside0.mk ((by rw [hg]; exact Nat.ne_of_lt (blk_lt (g := gb330) (o := .cells #[.int .i64 a0_0, .int .i64 a0_1, .int .i64 a0_2, .int .i64 a0_3, .int .i64 a0_4, .int .u8 a0_5, .int .u8 a0_6, .int .u64 a0_7] 32 (0, 0)) (by (with_reducible repeat (first | refine blk_drewN ?_ _ | refine blk_drew ?_ | refine blk_alloc ?_ _)); exact BK330.out)) : gb330 ≠ gb363)); have n11_ := Aside0.mk ((by rw [hg]; exact Nat.ne_of_gt (blk_lt (g := gb330) (o := .cells #[.int .i64 a0_0, .int .i64 a0_1, .int .i64 a0_2, .int .i64 a0_3, .int .i64 a0_4, .int .u8 a0_5, .int .u8 a0_6, .int .u64 a0_7] 32 (0, 0)) (by (with_reducible repeat (first | refine blk_drewN ?_ _ | refine blk_drew ?_ | refine blk_alloc ?_ _)); exact BK330.out)) : gb363 ≠ gb330)); have n12_ := Aside0.mk ((by rw [hg]; exact Nat.ne_of_lt (blk_lt (g := gb334) (o := .cells #[.int .i64 a0_1, .int .i64 a0_2, .int .i64 a0_3, .int .i64 a0_4, .int .u8 a0_5, .int .u8 a0_6, .int .u64 a0_7] 25 (0, 0)) (by (with_reducible repeat (first | refine blk_drewN ?_ _ | refine blk_drew ?_ | refine blk_alloc ?_ _)); exact BK334.out)) : gb334 ≠ gb363)); have n13_ := Aside0.mk ((by rw [hg]; exact Nat.ne_of_gt (blk_lt (g := gb334) (o := .cells #[.int .i64 a0_1, .int .i64 a0_2, .int .i64 a0_3, .int .i64 a0_4, .int .u8 a0_5, .int .u8 a0_6, .int .u64 a0_7] 25 (0, 0)) (by (with_reducible repeat (first | refine blk_drewN ?_ _ | refine blk_drew ?_ | refine blk_alloc ?_ _)); exact BK334.out)) : gb363 ≠ gb334)); clear HO_4; clear HO_6; clear HL353_0; clear BK330; clear BK334; clear HR353_0; clear HB; have HO_4 := n0_; have HO_6 := n1_; have HL353_0 := n2_; have BK330 := n3_; have BK334 := n4_; have HR353_0 := n5_; have HB := n6_; have BK363 := n7_; have GW363 := n8_; have GE363 := n9_; have NB330_363 := n10_; have NB363_330 := n11_; have NB334_363 := n12_; have NB363_334 := n13_; clear n0_ n1_ n2_ n3_ n4_ n5_ n6_ n7_ n8_ n9_ n10_ n11_ n12_ n13_; clear hb hbox hg; have hnb76 := NB363_330.out; have hnc76 := NB330_363.out; have hnb77 := NB363_334.out; have hnc77 := NB334_363.out; have hcz78_0 : w75.cell? ⟨gb363, 0, none⟩ = some (.int .i64 0) := (blk_cell BK363.out 0).trans rfl; have hcz78_1 : w75.cell? ⟨gb363, 1, none⟩ = some (.int .i64 0) := (blk_cell BK363.out 1).trans rfl; have hcz78_2 : w75.cell? ⟨gb363, 2, none⟩ = some (.int .i64 0) := (blk_cell BK363.out 2).trans rfl; have hcz78_3 : w75.cell? ⟨gb363, 3, none⟩ = some (.int .i64 0) := (blk_cell BK363.out 3).trans rfl; have hcz78_4 : w75.cell? ⟨gb363, 4, none⟩ = some (.int .i64 0) := (blk_cell BK363.out 4).trans rfl; have hcz78_5 : w75.cell? ⟨gb363, 5, none⟩ = some (.int .u8 0) := (blk_cell BK363.out 5).trans rfl; have hcz78_6 : w75.cell? ⟨gb363, 6, none⟩ = some (.int .u8 0) := (blk_cell BK363.out 6).trans rfl; have hcz78_7 : w75.cell? ⟨gb363, 7, none⟩ = some (.int .u64 0) := (blk_cell BK363.out 7).trans rfl; have hcz78_8 : w75.cell? ⟨gb363, 8, none⟩ = some (.int .i64 0) := (blk_cell BK363.out 8).trans rfl; have hfz78_0 := blk_frozen BK363.out 0; have hfz78_1 := blk_frozen BK363.out 1; have hfz78_2 := blk_frozen BK363.out 2; have hfz78_3 := blk_frozen BK363.out 3; have hfz78_4 := blk_frozen BK363.out 4; have hfz78_5 := blk_frozen BK363.out 5; have hfz78_6 := blk_frozen BK363.out 6; have hfz78_7 := blk_frozen BK363.out 7; have hfz78_8 := blk_frozen BK363.out 8; have hnb79 := NB330_334.out; have hnc79 := NB334_330.out; have hcz80_0 : w75.cell? ⟨gb330, 0, none⟩ = some (.int .i64 a0_0) := (blk_cell BK330.out 0).trans rfl; have hcz80_1 : w75.cell? ⟨gb330, 1, none⟩ = some (.int .i64 a0_1) := (blk_cell BK330.out 1).trans rfl; have hcz80_2 : w75.cell? ⟨gb330, 2, none⟩ = some (.int .i64 a0_2) := (blk_cell BK330.out 2).trans rfl; have hcz80_3 : w75.cell? ⟨gb330, 3, none⟩ = some (.int .i64 a0_3) := (blk_cell BK330.out 3).trans rfl; have hcz80_4 : w75.cell? ⟨gb330, 4, none⟩ = some (.int .i64 a0_4) := (blk_cell BK330.out 4).trans rfl; have hcz80_5 : w75.cell? ⟨gb330, 5, none⟩ = some (.int .u8 a0_5) := (blk_cell BK330.out 5).trans rfl; have hcz80_6 : w75.cell? ⟨gb330, 6, none⟩ = some (.int .u8 a0_6) := (blk_cell BK330.out 6).trans rfl; have hcz80_7 : w75.cell? ⟨gb330, 7, none⟩ = some (.int .u64 a0_7) := (blk_cell BK330.out 7).trans rfl; have hfz80_0 := blk_frozen BK330.out 0; have hfz80_1 := blk_frozen BK330.out 1; have hfz80_2 := blk_frozen BK330.out 2; have hfz80_3 := blk_frozen BK330.out 3; have hfz80_4 := blk_frozen BK330.out 4; have hfz80_5 := blk_frozen BK330.out 5; have hfz80_6 := blk_frozen BK330.out 6; have hfz80_7 := blk_frozen BK330.out 7))
             go_ret2
             exact ⟨by first | rfl | (simp [errW_none, errW_some] <;> rfl) | (simp [*, errW_none, errW_some] <;> rfl), by repeat (first | (with_reducible first | exact HB.out | apply below_alloc | apply pw_below_drewN | apply below_drew1 | refine below_set ?_ GE330.out | refine below_set ?_ GE334.out | refine below_set ?_ GE363.out) | exact HB.out)⟩
            ·rw [if_neg c73] at H
             have c73b0 : (t354 == a0_0 && ((t355 == a0_1 && (t356 == a0_2 && (t357 == a0_3 && (t358 == a0_4 && (t359 == a0_5 && (t360 == a0_6 && (t361 == a0_7))))))))) = false := by simpa using c73
             (try (have c73b1 : decide (t354 = a0_0 && ((t355 == a0_1 && (t356 == a0_2 && (t357 == a0_3 && (t358 == a0_4 && (t359 == a0_5 && (t360 == a0_6 && (t361 == a0_7))))))))) = false := by simpa using c73))
             (try (have c73b2 : (t354 == a0_0 && ((t355 == a0_1 && (t356 == a0_2 && (t357 == a0_3 && (t358 == a0_4 && (t359 == a0_5 && (t360 == a0_6 && (t361 == a0_7))))))))) = false := by simpa using c73))
             (try (have c73b3 : ¬ (t354 = a0_0 && ((t355 == a0_1 && (t356 == a0_2 && (t357 == a0_3 && (t358 == a0_4 && (t359 == a0_5 && (t360 == a0_6 && (t361 == a0_7))))))))) := by simpa using c73))
             clear c73
             have H' := Aside0.mk H
             clear H
             have p353 : 0 ≤ (x5_1 : Int) := of_decide_eq_true (by first | (with_reducible assumption) | assumption)
             have q353 : x5_1 < (t331.length : Int) := of_decide_eq_true (by first | (with_reducible assumption) | assumption)
             obtain ⟨ad353, A353_0, c353_0, e353, hx353_0, hl353_0, hi353_0⟩ := at_L7 (Kd.N_reads' HO_4.out).2.2 x5_1 p353 q353
             cases e353
             obtain ⟨ce353, hce353, hMe353, hcc353⟩ := Kd.N_get HO_4.out [] x5_1 p353 (by first | exact q353 | exact of_decide_eq_true (by first | (with_reducible assumption) | assumption) | (have e_ := (Kd.N_reads' HO_4.out).1; omega))
             obtain ⟨ua353_0, uc353_0, rfl, ul353_0, ge353_0⟩ := Kd.FK_slice_open hMe353
             have hv353_0 := hcc353 0 _ rfl
             rw [Nat.add_zero, show ((Kd.slice 9 Kd.string)).sz = 1 from rfl, Nat.mul_one] at hv353_0
             replace hv353_0 := Option.some.inj (hv353_0.symm.trans hx353_0)
             injection hv353_0 with hva_ hvn_ hvc_
             rw [hva_] at ge353_0
             rw [hvc_] at ul353_0
             have HL353_0 := Aside0.mk (show Kd.V Kd.string 9 _ w.heap.size _ _ (rd_L7 t331 x5_1) from Kd.V_mk ul353_0 ge353_0)
             clear hva_ hvn_ hvc_ ge353_0 ul353_0
             clear hcc353 hce353
             have HR353_0 := Aside0.mk hi353_0
             have HC353_0 := Aside0.mk hl353_0
             clear hi353_0 hl353_0
             replace p353 := eq_true p353
             replace q353 := eq_true q353
             go_wp2_with (first | ((with_reducible refine gate_callee (f := 9) rfl ?_); refine goesL_ (some 105) rfl rfl Tryd.func9 (by kernel_rfl) rfl #[.string x8_3] rfl (by (try simp only [List.map_toArray, List.map_cons, List.map_nil]); first | done | rfl | (simp only [List.length_drop, List.length_take]; rfl)) ?_; (with_reducible refine (weirgateref22_Line.calls k3 x8_3 t354 t355 t356 t357 t358 t359 t360 t361 t362 _ ?side1 A71.out).mono ?_); (case side1 => exact Laid.below hL (by repeat (first | (with_reducible first | exact HB.out | apply below_alloc | apply pw_below_drewN | apply below_drew1 | refine below_set ?_ GE330.out | refine below_set ?_ GE334.out) | exact HB.out))); rintro e w81 ⟨rfl, hb⟩; refine ⟨_, rfl, ?_⟩; have n0_ := Aside0.mk (Kd.N_below (by (with_reducible repeat (first | apply Kd.N_alloc | apply Kd.N_drewN | apply Kd.N_drew)); exact HO_4.out) hb); have n1_ := Aside0.mk (Kd.R_below (by (with_reducible repeat (first | apply Kd.R_alloc | apply Kd.R_drewN | apply Kd.R_drew)); exact HO_6.out) hb); have n2_ := Aside0.mk (Kd.V_below (by (with_reducible repeat (first | apply Kd.V_alloc | apply Kd.V_drewN | apply Kd.V_drew)); exact HL353_0.out) hb); have n3_ := Aside0.mk (blk_below (g := gb330) (o := .cells #[.int .i64 a0_0, .int .i64 a0_1, .int .i64 a0_2, .int .i64 a0_3, .int .i64 a0_4, .int .u8 a0_5, .int .u8 a0_6, .int .u64 a0_7] 32 (0, 0)) (by (with_reducible repeat (first | refine blk_drewN ?_ _ | refine blk_drew ?_ | refine blk_alloc ?_ _)); exact BK330.out) hb); have n4_ := Aside0.mk (blk_below (g := gb334) (o := .cells #[.int .i64 a0_1, .int .i64 a0_2, .int .i64 a0_3, .int .i64 a0_4, .int .u8 a0_5, .int .u8 a0_6, .int .u64 a0_7] 25 (0, 0)) (by (with_reducible repeat (first | refine blk_drewN ?_ _ | refine blk_drew ?_ | refine blk_alloc ?_ _)); exact BK334.out) hb); have n5_ := Aside0.mk (Kd.C_below (by repeat (first | (with_reducible exact HR353_0.out) | (with_reducible refine Kd.C_alloc ?_ _) | (with_reducible refine Kd.C_drewN ?_ _) | (with_reducible refine Kd.C_drew ?_) | exact HR353_0.out)) hb); have n6_ := Aside0.mk (below_step (by repeat (first | (with_reducible first | exact HB.out | apply below_alloc | apply pw_below_drewN | apply below_drew1 | refine below_set ?_ GE330.out | refine below_set ?_ GE334.out) | exact HB.out)) hb); clear HO_4; clear HO_6; clear HL353_0; clear BK330; clear BK334; clear HR353_0; clear HB; have HO_4 := n0_; have HO_6 := n1_; have HL353_0 := n2_; have BK330 := n3_; have BK334 := n4_; have HR353_0 := n5_; have HB := n6_; clear n0_ n1_ n2_ n3_ n4_ n5_ n6_; (try clear hb); (try clear hb2); (try clear hk); (try clear hi); (try clear A71)) | ((with_reducible refine gate_dst (N := 12) rfl ?_); refine box_event ?hg (N := 12) ?hd (cs := #[.int .i64 0, .int .i64 0, .int .i64 0, .int .i64 0, .int .i64 0, .int .u8 0, .int .u8 0, .int .u64 0, .int .i64 0]) (t := 34) ?hr ?_; (case hd => rfl); (case hg => rfl); (case hr => first | (go_simp; done) | (go_simp; rfl)); intro gb363 hg w82 hbox hb; have n0_ := Aside0.mk (Kd.N_below (Kd.N_elderB (by (with_reducible repeat (first | apply Kd.N_alloc | apply Kd.N_drewN | apply Kd.N_drew)); exact HO_4.out) gb363 (Nat.le_of_eq hg.symm)) hb); have n1_ := Aside0.mk (Kd.R_below (by (with_reducible repeat (first | apply Kd.R_alloc | apply Kd.R_drewN | apply Kd.R_drew)); exact HO_6.out) hb); have n2_ := Aside0.mk (Kd.V_below (Kd.V_elderB (by (with_reducible repeat (first | apply Kd.V_alloc | apply Kd.V_drewN | apply Kd.V_drew)); exact HL353_0.out) gb363 (Nat.le_of_eq hg.symm)) hb); have n3_ := Aside0.mk (blk_below (g := gb330) (o := .cells #[.int .i64 a0_0, .int .i64 a0_1, .int .i64 a0_2, .int .i64 a0_3, .int .i64 a0_4, .int .u8 a0_5, .int .u8 a0_6, .int .u64 a0_7] 32 (0, 0)) (by (with_reducible repeat (first | refine blk_drewN ?_ _ | refine blk_drew ?_ | refine blk_alloc ?_ _)); exact BK330.out) hb); have n4_ := Aside0.mk (blk_below (g := gb334) (o := .cells #[.int .i64 a0_1, .int .i64 a0_2, .int .i64 a0_3, .int .i64 a0_4, .int .u8 a0_5, .int .u8 a0_6, .int .u64 a0_7] 25 (0, 0)) (by (with_reducible repeat (first | refine blk_drewN ?_ _ | refine blk_drew ?_ | refine blk_alloc ?_ _)); exact BK334.out) hb); have n5_ := Aside0.mk (Kd.C_below (by repeat (first | (with_reducible exact HR353_0.out) | (with_reducible refine Kd.C_alloc ?_ _) | (with_reducible refine Kd.C_drewN ?_ _) | (with_reducible refine Kd.C_drew ?_) | exact HR353_0.out)) hb); have n6_ := Aside0.mk (below_step (by repeat (first | (with_reducible first | exact HB.out | apply below_alloc | apply pw_below_drewN | apply below_drew1 | refine below_set ?_ GE330.out | refine below_set ?_ GE334.out) | exact HB.out)) hb); have n7_ := Aside0.mk (hbox); have n8_ := Aside0.mk ((by rw [hg]; exact (below_size (by repeat (first | (with_reducible first | exact HB.out | apply below_alloc | apply pw_below_drewN | apply below_drew1 | refine below_set ?_ GE330.out | refine below_set ?_ GE334.out) | exact HB.out))) : w.heap.size ≤ gb363)); have n9_ := Aside0.mk ((by rw [hg]; exact (below_size (by repeat (first | (with_reducible first | exact HB.out | apply below_alloc | apply pw_below_drewN | apply below_drew1 | refine below_set ?_ GE330.out | refine below_set ?_ GE334.out) | exact HB.out))) : w.heap.size ≤ gb363)); have n10_ := Aside0.mk ((by rw [hg]; exact Nat.ne_of_lt (blk_lt (g := gb330) (o := .cells #[.int .i64 a0_0, .int .i64 a0_1, .int .i64 a0_2, .int .i64 a0_3, .int .i64 a0_4, .int .u8 a0_5, .int .u8 a0_6, .int .u64 a0_7] 32 (0, 0)) (by (with_reducible repeat (first | refine blk_drewN ?_ _ | refine blk_drew ?_ | refine blk_alloc ?_ _)); exact BK330.out)) : gb330 ≠ gb363)); have n11_ := Aside0.mk ((by rw [hg]; exact Nat.ne_of_gt (blk_lt (g := gb330) (o := .cells #[.int .i64 a0_0, .int .i64 a0_1, .int .i64 a0_2, .int .i64 a0_3, .int .i64 a0_4, .int .u8 a0_5, .int .u8 a0_6, .int .u64 a0_7] 32 (0, 0)) (by (with_reducible repeat (first | refine blk_drewN ?_ _ | refine blk_drew ?_ | refine blk_alloc ?_ _)); exact BK330.out)) : gb363 ≠ gb330)); have n12_ := Aside0.mk ((by rw [hg]; exact Nat.ne_of_lt (blk_lt (g := gb334) (o := .cells #[.int .i64 a0_1, .int .i64 a0_2, .int .i64 a0_3, .int .i64 a0_4, .int .u8 a0_5, .int .u8 a0_6, .int .u64 a0_7] 25 (0, 0)) (by (with_reducible repeat (first | refine blk_drewN ?_ _ | refine blk_drew ?_ | refine blk_alloc ?_ _)); exact BK334.out)) : gb334 ≠ gb363)); have n13_ := Aside0.mk ((by rw [hg]; exact Nat.ne_of_gt (blk_lt (g := gb334) (o := .cells #[.int .i64 a0_1, .int .i64 a0_2, .int .i64 a0_3, .int .i64 a0_4, .int .u8 a0_5, .int .u8 a0_6, .int .u64 a0_7] 25 (0, 0)) (by (with_reducible repeat (first | refine blk_drewN ?_ _ | refine blk_drew ?_ | refine blk_alloc ?_ _)); exact BK334.out)) : gb363 ≠ gb334)); clear HO_4; clear HO_6; clear HL353_0; clear BK330; clear BK334; clear HR353_0; clear HB; have HO_4 := n0_; have HO_6 := n1_; have HL353_0 := n2_; have BK330 := n3_; have BK334 := n4_; have HR353_0 := n5_; have HB := n6_; have BK363 := n7_; have GW363 := n8_; have GE363 := n9_; have NB330_363 := n10_; have NB363_330 := n11_; have NB334_363 := n12_; have NB363_334 := n13_; clear n0_ n1_ n2_ n3_ n4_ n5_ n6_ n7_ n8_ n9_ n10_ n11_ n12_ n13_; clear hb hbox hg; have hnb83 := NB363_330.out; have hnc83 := NB330_363.out; have hnb84 := NB363_334.out; have hnc84 := NB334_363.out; have hcz85_0 : w82.cell? ⟨gb363, 0, none⟩ = some (.int .i64 0) := (blk_cell BK363.out 0).trans rfl; have hcz85_1 : w82.cell? ⟨gb363, 1, none⟩ = some (.int .i64 0) := (blk_cell BK363.out 1).trans rfl; have hcz85_2 : w82.cell? ⟨gb363, 2, none⟩ = some (.int .i64 0) := (blk_cell BK363.out 2).trans rfl; have hcz85_3 : w82.cell? ⟨gb363, 3, none⟩ = some (.int .i64 0) := (blk_cell BK363.out 3).trans rfl; have hcz85_4 : w82.cell? ⟨gb363, 4, none⟩ = some (.int .i64 0) := (blk_cell BK363.out 4).trans rfl; have hcz85_5 : w82.cell? ⟨gb363, 5, none⟩ = some (.int .u8 0) := (blk_cell BK363.out 5).trans rfl; have hcz85_6 : w82.cell? ⟨gb363, 6, none⟩ = some (.int .u8 0) := (blk_cell BK363.out 6).trans rfl; have hcz85_7 : w82.cell? ⟨gb363, 7, none⟩ = some (.int .u64 0) := (blk_cell BK363.out 7).trans rfl; have hcz85_8 : w82.cell? ⟨gb363, 8, none⟩ = some (.int .i64 0) := (blk_cell BK363.out 8).trans rfl; have hfz85_0 := blk_frozen BK363.out 0; have hfz85_1 := blk_frozen BK363.out 1; have hfz85_2 := blk_frozen BK363.out 2; have hfz85_3 := blk_frozen BK363.out 3; have hfz85_4 := blk_frozen BK363.out 4; have hfz85_5 := blk_frozen BK363.out 5; have hfz85_6 := blk_frozen BK363.out 6; have hfz85_7 := blk_frozen BK363.out 7; have hfz85_8 := blk_frozen BK363.out 8; have hnb86 := NB330_334.out; have hnc86 := NB334_330.out; have hcz87_0 : w82.cell? ⟨gb330, 0, none⟩ = some (.int .i64 a0_0) := (blk_cell BK330.out 0).trans rfl; have hcz87_1 : w82.cell? ⟨gb330, 1, none⟩ = some (.int .i64 a0_1) := (blk_cell BK330.out 1).trans rfl; have hcz87_2 : w82.cell? ⟨gb330, 2, none⟩ = some (.int .i64 a0_2) := (blk_cell BK330.out 2).trans rfl; have hcz87_3 : w82.cell? ⟨gb330, 3, none⟩ = some (.int .i64 a0_3) := (blk_cell BK330.out 3).trans rfl; have hcz87_4 : w82.cell? ⟨gb330, 4, none⟩ = some (.int .i64 a0_4) := (blk_cell BK330.out 4).trans rfl; have hcz87_5 : w82.cell? ⟨gb330, 5, none⟩ = some (.int .u8 a0_5) := (blk_cell BK330.out 5).trans rfl; have hcz87_6 : w82.cell? ⟨gb330, 6, none⟩ = some (.int .u8 a0_6) := (blk_cell BK330.out 6).trans rfl; have hcz87_7 : w82.cell? ⟨gb330, 7, none⟩ = some (.int .u64 a0_7) := (blk_cell BK330.out 7).trans rfl; have hfz87_0 := blk_frozen BK330.out 0; have hfz87_1 := blk_frozen BK330.out 1; have hfz87_2 := blk_frozen BK330.out 2; have hfz87_3 := blk_frozen BK330.out 3; have hfz87_4 := blk_frozen BK330.out 4; have hfz87_5 := blk_frozen BK330.out 5; have hfz87_6 := blk_frozen BK330.out 6; have hfz87_7 := blk_frozen BK330.out 7))
             go_roundg k3
             case measure => have := HK1.out; have := HJ5.out; have := HK3.out; omega
             case rel => exact ⟨(wrap64 (x5_1 + 1)), (by first | rfl | (simp; done) | (simp [*]; done)), H', ⟨by have := HK1.out; have := HJ5.out; have := HK3.out; omega⟩, ⟨by (with_reducible repeat (first | apply Kd.N_alloc | apply Kd.N_drewN | apply Kd.N_drew)); exact Kd.N_mono (Kd.N_far (p := ⟨gb363, 8, none⟩) (Kd.N_far (p := ⟨gb363, 7, none⟩) (Kd.N_far (p := ⟨gb363, 6, none⟩) (Kd.N_far (p := ⟨gb363, 5, none⟩) (Kd.N_far (p := ⟨gb363, 4, none⟩) (Kd.N_far (p := ⟨gb363, 3, none⟩) (Kd.N_far (p := ⟨gb363, 2, none⟩) (Kd.N_far (p := ⟨gb363, 1, none⟩) (Kd.N_far (p := ⟨gb363, 0, none⟩) (Kd.N_mono HO_4.out (fun k_ hk => (⟨hk, hk.2⟩ : _ ∧ k_ ≠ gb363))) (fun _ hk => hk.2) (.int .i64 t354)) (fun _ hk => hk.2) (.int .i64 t355)) (fun _ hk => hk.2) (.int .i64 t356)) (fun _ hk => hk.2) (.int .i64 t357)) (fun _ hk => hk.2) (.int .i64 t358)) (fun _ hk => hk.2) (.int .u8 t359)) (fun _ hk => hk.2) (.int .u8 t360)) (fun _ hk => hk.2) (.int .u64 t361)) (fun _ hk => hk.2) (.int .i64 t362)) (fun _ hk => hk.1.1.2.1)⟩, ⟨by (with_reducible repeat (first | refine blk_drewN ?_ _ | refine blk_drew ?_ | refine blk_alloc ?_ _)); refine blk_far ?_ NB330_363.out _; (with_reducible repeat (first | refine blk_drewN ?_ _ | refine blk_drew ?_ | refine blk_alloc ?_ _)); refine blk_far ?_ NB330_363.out _; (with_reducible repeat (first | refine blk_drewN ?_ _ | refine blk_drew ?_ | refine blk_alloc ?_ _)); refine blk_far ?_ NB330_363.out _; (with_reducible repeat (first | refine blk_drewN ?_ _ | refine blk_drew ?_ | refine blk_alloc ?_ _)); refine blk_far ?_ NB330_363.out _; (with_reducible repeat (first | refine blk_drewN ?_ _ | refine blk_drew ?_ | refine blk_alloc ?_ _)); refine blk_far ?_ NB330_363.out _; (with_reducible repeat (first | refine blk_drewN ?_ _ | refine blk_drew ?_ | refine blk_alloc ?_ _)); refine blk_far ?_ NB330_363.out _; (with_reducible repeat (first | refine blk_drewN ?_ _ | refine blk_drew ?_ | refine blk_alloc ?_ _)); refine blk_far ?_ NB330_363.out _; (with_reducible repeat (first | refine blk_drewN ?_ _ | refine blk_drew ?_ | refine blk_alloc ?_ _)); refine blk_far ?_ NB330_363.out _; (with_reducible repeat (first | refine blk_drewN ?_ _ | refine blk_drew ?_ | refine blk_alloc ?_ _)); refine blk_far ?_ NB330_363.out _; (with_reducible repeat (first | refine blk_drewN ?_ _ | refine blk_drew ?_ | refine blk_alloc ?_ _)); exact BK330.out⟩, ⟨by repeat (first | (with_reducible first | exact HB.out | apply below_alloc | apply pw_below_drewN | apply below_drew1 | refine below_set ?_ GE330.out | refine below_set ?_ GE334.out | refine below_set ?_ GE363.out) | exact HB.out)⟩⟩
           ·rw [if_neg c72] at H
            have c72b0 : (t362 == 0) = false := beq_eq_false_iff_ne.mpr c72
            have c72b1 : (t362 != 0) = true := bne_iff_ne.mpr c72
            have H' := Aside0.mk H
            clear H
            have p353 : 0 ≤ (x5_1 : Int) := of_decide_eq_true (by first | (with_reducible assumption) | assumption)
            have q353 : x5_1 < (t331.length : Int) := of_decide_eq_true (by first | (with_reducible assumption) | assumption)
            obtain ⟨ad353, A353_0, c353_0, e353, hx353_0, hl353_0, hi353_0⟩ := at_L7 (Kd.N_reads' HO_4.out).2.2 x5_1 p353 q353
            cases e353
            obtain ⟨ce353, hce353, hMe353, hcc353⟩ := Kd.N_get HO_4.out [] x5_1 p353 (by first | exact q353 | exact of_decide_eq_true (by first | (with_reducible assumption) | assumption) | (have e_ := (Kd.N_reads' HO_4.out).1; omega))
            obtain ⟨ua353_0, uc353_0, rfl, ul353_0, ge353_0⟩ := Kd.FK_slice_open hMe353
            have hv353_0 := hcc353 0 _ rfl
            rw [Nat.add_zero, show ((Kd.slice 9 Kd.string)).sz = 1 from rfl, Nat.mul_one] at hv353_0
            replace hv353_0 := Option.some.inj (hv353_0.symm.trans hx353_0)
            injection hv353_0 with hva_ hvn_ hvc_
            rw [hva_] at ge353_0
            rw [hvc_] at ul353_0
            have HL353_0 := Aside0.mk (show Kd.V Kd.string 9 _ w.heap.size _ _ (rd_L7 t331 x5_1) from Kd.V_mk ul353_0 ge353_0)
            clear hva_ hvn_ hvc_ ge353_0 ul353_0
            clear hcc353 hce353
            have HR353_0 := Aside0.mk hi353_0
            have HC353_0 := Aside0.mk hl353_0
            clear hi353_0 hl353_0
            replace p353 := eq_true p353
            replace q353 := eq_true q353
            go_wp2_with (first | ((with_reducible refine gate_callee (f := 9) rfl ?_); refine goesL_ (some 105) rfl rfl Tryd.func9 (by kernel_rfl) rfl #[.string x8_3] rfl (by (try simp only [List.map_toArray, List.map_cons, List.map_nil]); first | done | rfl | (simp only [List.length_drop, List.length_take]; rfl)) ?_; (with_reducible refine (weirgateref22_Line.calls k3 x8_3 t354 t355 t356 t357 t358 t359 t360 t361 t362 _ ?side1 A71.out).mono ?_); (case side1 => exact Laid.below hL (by repeat (first | (with_reducible first | exact HB.out | apply below_alloc | apply pw_below_drewN | apply below_drew1 | refine below_set ?_ GE330.out | refine below_set ?_ GE334.out) | exact HB.out))); rintro e w88 ⟨rfl, hb⟩; refine ⟨_, rfl, ?_⟩; have n0_ := Aside0.mk (Kd.N_below (by (with_reducible repeat (first | apply Kd.N_alloc | apply Kd.N_drewN | apply Kd.N_drew)); exact HO_4.out) hb); have n1_ := Aside0.mk (Kd.R_below (by (with_reducible repeat (first | apply Kd.R_alloc | apply Kd.R_drewN | apply Kd.R_drew)); exact HO_6.out) hb); have n2_ := Aside0.mk (Kd.V_below (by (with_reducible repeat (first | apply Kd.V_alloc | apply Kd.V_drewN | apply Kd.V_drew)); exact HL353_0.out) hb); have n3_ := Aside0.mk (blk_below (g := gb330) (o := .cells #[.int .i64 a0_0, .int .i64 a0_1, .int .i64 a0_2, .int .i64 a0_3, .int .i64 a0_4, .int .u8 a0_5, .int .u8 a0_6, .int .u64 a0_7] 32 (0, 0)) (by (with_reducible repeat (first | refine blk_drewN ?_ _ | refine blk_drew ?_ | refine blk_alloc ?_ _)); exact BK330.out) hb); have n4_ := Aside0.mk (blk_below (g := gb334) (o := .cells #[.int .i64 a0_1, .int .i64 a0_2, .int .i64 a0_3, .int .i64 a0_4, .int .u8 a0_5, .int .u8 a0_6, .int .u64 a0_7] 25 (0, 0)) (by (with_reducible repeat (first | refine blk_drewN ?_ _ | refine blk_drew ?_ | refine blk_alloc ?_ _)); exact BK334.out) hb); have n5_ := Aside0.mk (Kd.C_below (by repeat (first | (with_reducible exact HR353_0.out) | (with_reducible refine Kd.C_alloc ?_ _) | (with_reducible refine Kd.C_drewN ?_ _) | (with_reducible refine Kd.C_drew ?_) | exact HR353_0.out)) hb); have n6_ := Aside0.mk (below_step (by repeat (first | (with_reducible first | exact HB.out | apply below_alloc | apply pw_below_drewN | apply below_drew1 | refine below_set ?_ GE330.out | refine below_set ?_ GE334.out) | exact HB.out)) hb); clear HO_4; clear HO_6; clear HL353_0; clear BK330; clear BK334; clear HR353_0; clear HB; have HO_4 := n0_; have HO_6 := n1_; have HL353_0 := n2_; have BK330 := n3_; have BK334 := n4_; have HR353_0 := n5_; have HB := n6_; clear n0_ n1_ n2_ n3_ n4_ n5_ n6_; (try clear hb); (try clear hb2); (try clear hk); (try clear hi); (try clear A71)) | ((with_reducible refine gate_dst (N := 12) rfl ?_); refine box_event ?hg (N := 12) ?hd (cs := #[.int .i64 0, .int .i64 0, .int .i64 0, .int .i64 0, .int .i64 0, .int .u8 0, .int .u8 0, .int .u64 0, .int .i64 0]) (t := 34) ?hr ?_; (case hd => rfl); (case hg => rfl); (case hr => first | (go_simp; done) | (go_simp; rfl)); intro gb363 hg w89 hbox hb; have n0_ := Aside0.mk (Kd.N_below (Kd.N_elderB (by (with_reducible repeat (first | apply Kd.N_alloc | apply Kd.N_drewN | apply Kd.N_drew)); exact HO_4.out) gb363 (Nat.le_of_eq hg.symm)) hb); have n1_ := Aside0.mk (Kd.R_below (by (with_reducible repeat (first | apply Kd.R_alloc | apply Kd.R_drewN | apply Kd.R_drew)); exact HO_6.out) hb); have n2_ := Aside0.mk (Kd.V_below (Kd.V_elderB (by (with_reducible repeat (first | apply Kd.V_alloc | apply Kd.V_drewN | apply Kd.V_drew)); exact HL353_0.out) gb363 (Nat.le_of_eq hg.symm)) hb); have n3_ := Aside0.mk (blk_below (g := gb330) (o := .cells #[.int .i64 a0_0, .int .i64 a0_1, .int .i64 a0_2, .int .i64 a0_3, .int .i64 a0_4, .int .u8 a0_5, .int .u8 a0_6, .int .u64 a0_7] 32 (0, 0)) (by (with_reducible repeat (first | refine blk_drewN ?_ _ | refine blk_drew ?_ | refine blk_alloc ?_ _)); exact BK330.out) hb); have n4_ := Aside0.mk (blk_below (g := gb334) (o := .cells #[.int .i64 a0_1, .int .i64 a0_2, .int .i64 a0_3, .int .i64 a0_4, .int .u8 a0_5, .int .u8 a0_6, .int .u64 a0_7] 25 (0, 0)) (by (with_reducible repeat (first | refine blk_drewN ?_ _ | refine blk_drew ?_ | refine blk_alloc ?_ _)); exact BK334.out) hb); have n5_ := Aside0.mk (Kd.C_below (by repeat (first | (with_reducible exact HR353_0.out) | (with_reducible refine Kd.C_alloc ?_ _) | (with_reducible refine Kd.C_drewN ?_ _) | (with_reducible refine Kd.C_drew ?_) | exact HR353_0.out)) hb); have n6_ := Aside0.mk (below_step (by repeat (first | (with_reducible first | exact HB.out | apply below_alloc | apply pw_below_drewN | apply below_drew1 | refine below_set ?_ GE330.out | refine below_set ?_ GE334.out) | exact HB.out)) hb); have n7_ := Aside0.mk (hbox); have n8_ := Aside0.mk ((by rw [hg]; exact (below_size (by repeat (first | (with_reducible first | exact HB.out | apply below_alloc | apply pw_below_drewN | apply below_drew1 | refine below_set ?_ GE330.out | refine below_set ?_ GE334.out) | exact HB.out))) : w.heap.size ≤ gb363)); have n9_ := Aside0.mk ((by rw [hg]; exact (below_size (by repeat (first | (with_reducible first | exact HB.out | apply below_alloc | apply pw_below_drewN | apply below_drew1 | refine below_set ?_ GE330.out | refine below_set ?_ GE334.out) | exact HB.out))) : w.heap.size ≤ gb363)); have n10_ := Aside0.mk ((by rw [hg]; exact Nat.ne_of_lt (blk_lt (g := gb330) (o := .cells #[.int .i64 a0_0, .int .i64 a0_1, .int .i64 a0_2, .int .i64 a0_3, .int .i64 a0_4, .int .u8 a0_5, .int .u8 a0_6, .int .u64 a0_7] 32 (0, 0)) (by (with_reducible repeat (first | refine blk_drewN ?_ _ | refine blk_drew ?_ | refine blk_alloc ?_ _)); exact BK330.out)) : gb330 ≠ gb363)); have n11_ := Aside0.mk ((by rw [hg]; exact Nat.ne_of_gt (blk_lt (g := gb330) (o := .cells #[.int .i64 a0_0, .int .i64 a0_1, .int .i64 a0_2, .int .i64 a0_3, .int .i64 a0_4, .int .u8 a0_5, .int .u8 a0_6, .int .u64 a0_7] 32 (0, 0)) (by (with_reducible repeat (first | refine blk_drewN ?_ _ | refine blk_drew ?_ | refine blk_alloc ?_ _)); exact BK330.out)) : gb363 ≠ gb330)); have n12_ := Aside0.mk ((by rw [hg]; exact Nat.ne_of_lt (blk_lt (g := gb334) (o := .cells #[.int .i64 a0_1, .int .i64 a0_2, .int .i64 a0_3, .int .i64 a0_4, .int .u8 a0_5, .int .u8 a0_6, .int .u64 a0_7] 25 (0, 0)) (by (with_reducible repeat (first | refine blk_drewN ?_ _ | refine blk_drew ?_ | refine blk_alloc ?_ _)); exact BK334.out)) : gb334 ≠ gb363)); have n13_ := Aside0.mk ((by rw [hg]; exact Nat.ne_of_gt (blk_lt (g := gb334) (o := .cells #[.int .i64 a0_1, .int .i64 a0_2, .int .i64 a0_3, .int .i64 a0_4, .int .u8 a0_5, .int .u8 a0_6, .int .u64 a0_7] 25 (0, 0)) (by (with_reducible repeat (first | refine blk_drewN ?_ _ | refine blk_drew ?_ | refine blk_alloc ?_ _)); exact BK334.out)) : gb363 ≠ gb334)); clear HO_4; clear HO_6; clear HL353_0; clear BK330; clear BK334; clear HR353_0; clear HB; have HO_4 := n0_; have HO_6 := n1_; have HL353_0 := n2_; have BK330 := n3_; have BK334 := n4_; have HR353_0 := n5_; have HB := n6_; have BK363 := n7_; have GW363 := n8_; have GE363 := n9_; have NB330_363 := n10_; have NB363_330 := n11_; have NB334_363 := n12_; have NB363_334 := n13_; clear n0_ n1_ n2_ n3_ n4_ n5_ n6_ n7_ n8_ n9_ n10_ n11_ n12_ n13_; clear hb hbox hg; have hnb90 := NB363_330.out; have hnc90 := NB330_363.out; have hnb91 := NB363_334.out; have hnc91 := NB334_363.out; have hcz92_0 : w89.cell? ⟨gb363, 0, none⟩ = some (.int .i64 0) := (blk_cell BK363.out 0).trans rfl; have hcz92_1 : w89.cell? ⟨gb363, 1, none⟩ = some (.int .i64 0) := (blk_cell BK363.out 1).trans rfl; have hcz92_2 : w89.cell? ⟨gb363, 2, none⟩ = some (.int .i64 0) := (blk_cell BK363.out 2).trans rfl; have hcz92_3 : w89.cell? ⟨gb363, 3, none⟩ = some (.int .i64 0) := (blk_cell BK363.out 3).trans rfl; have hcz92_4 : w89.cell? ⟨gb363, 4, none⟩ = some (.int .i64 0) := (blk_cell BK363.out 4).trans rfl; have hcz92_5 : w89.cell? ⟨gb363, 5, none⟩ = some (.int .u8 0) := (blk_cell BK363.out 5).trans rfl; have hcz92_6 : w89.cell? ⟨gb363, 6, none⟩ = some (.int .u8 0) := (blk_cell BK363.out 6).trans rfl; have hcz92_7 : w89.cell? ⟨gb363, 7, none⟩ = some (.int .u64 0) := (blk_cell BK363.out 7).trans rfl; have hcz92_8 : w89.cell? ⟨gb363, 8, none⟩ = some (.int .i64 0) := (blk_cell BK363.out 8).trans rfl; have hfz92_0 := blk_frozen BK363.out 0; have hfz92_1 := blk_frozen BK363.out 1; have hfz92_2 := blk_frozen BK363.out 2; have hfz92_3 := blk_frozen BK363.out 3; have hfz92_4 := blk_frozen BK363.out 4; have hfz92_5 := blk_frozen BK363.out 5; have hfz92_6 := blk_frozen BK363.out 6; have hfz92_7 := blk_frozen BK363.out 7; have hfz92_8 := blk_frozen BK363.out 8))
            go_roundg k3
            case measure => have := HK1.out; have := HJ5.out; have := HK3.out; omega
            case rel => exact ⟨(wrap64 (x5_1 + 1)), (by first | rfl | (simp; done) | (simp [*]; done)), H', ⟨by have := HK1.out; have := HJ5.out; have := HK3.out; omega⟩, ⟨by (with_reducible repeat (first | apply Kd.N_alloc | apply Kd.N_drewN | apply Kd.N_drew)); exact Kd.N_mono (Kd.N_far (p := ⟨gb363, 8, none⟩) (Kd.N_far (p := ⟨gb363, 7, none⟩) (Kd.N_far (p := ⟨gb363, 6, none⟩) (Kd.N_far (p := ⟨gb363, 5, none⟩) (Kd.N_far (p := ⟨gb363, 4, none⟩) (Kd.N_far (p := ⟨gb363, 3, none⟩) (Kd.N_far (p := ⟨gb363, 2, none⟩) (Kd.N_far (p := ⟨gb363, 1, none⟩) (Kd.N_far (p := ⟨gb363, 0, none⟩) (Kd.N_mono HO_4.out (fun k_ hk => (⟨hk, hk.2⟩ : _ ∧ k_ ≠ gb363))) (fun _ hk => hk.2) (.int .i64 t354)) (fun _ hk => hk.2) (.int .i64 t355)) (fun _ hk => hk.2) (.int .i64 t356)) (fun _ hk => hk.2) (.int .i64 t357)) (fun _ hk => hk.2) (.int .i64 t358)) (fun _ hk => hk.2) (.int .u8 t359)) (fun _ hk => hk.2) (.int .u8 t360)) (fun _ hk => hk.2) (.int .u64 t361)) (fun _ hk => hk.2) (.int .i64 t362)) (fun _ hk => hk.1.1.2.1)⟩, ⟨by (with_reducible repeat (first | refine blk_drewN ?_ _ | refine blk_drew ?_ | refine blk_alloc ?_ _)); refine blk_far ?_ NB330_363.out _; (with_reducible repeat (first | refine blk_drewN ?_ _ | refine blk_drew ?_ | refine blk_alloc ?_ _)); refine blk_far ?_ NB330_363.out _; (with_reducible repeat (first | refine blk_drewN ?_ _ | refine blk_drew ?_ | refine blk_alloc ?_ _)); refine blk_far ?_ NB330_363.out _; (with_reducible repeat (first | refine blk_drewN ?_ _ | refine blk_drew ?_ | refine blk_alloc ?_ _)); refine blk_far ?_ NB330_363.out _; (with_reducible repeat (first | refine blk_drewN ?_ _ | refine blk_drew ?_ | refine blk_alloc ?_ _)); refine blk_far ?_ NB330_363.out _; (with_reducible repeat (first | refine blk_drewN ?_ _ | refine blk_drew ?_ | refine blk_alloc ?_ _)); refine blk_far ?_ NB330_363.out _; (with_reducible repeat (first | refine blk_drewN ?_ _ | refine blk_drew ?_ | refine blk_alloc ?_ _)); refine blk_far ?_ NB330_363.out _; (with_reducible repeat (first | refine blk_drewN ?_ _ | refine blk_drew ?_ | refine blk_alloc ?_ _)); refine blk_far ?_ NB330_363.out _; (with_reducible repeat (first | refine blk_drewN ?_ _ | refine blk_drew ?_ | refine blk_alloc ?_ _)); refine blk_far ?_ NB330_363.out _; (with_reducible repeat (first | refine blk_drewN ?_ _ | refine blk_drew ?_ | refine blk_alloc ?_ _)); exact BK330.out⟩, ⟨by repeat (first | (with_reducible first | exact HB.out | apply below_alloc | apply pw_below_drewN | apply below_drew1 | refine below_set ?_ GE330.out | refine below_set ?_ GE334.out | refine below_set ?_ GE363.out) | exact HB.out)⟩⟩
         ·rw [if_neg c45] at H
          exact absurd H (by simp)
        ·rw [if_neg c44] at H
         exact absurd H (by simp)
   ·rw [if_neg c5] at H
    have c5b0 : decide (x5_1 < (t331.length : Int)) = false := decide_eq_false c5
    clear c5
    simp only [Option.some.injEq, Prod.mk.injEq] at H
    obtain ⟨rfl, rfl⟩ := H
    obtain ⟨Ao93, co93, eo93⟩ := Kd.N_slice HO_4.out
    subst eo93
    go_wp2
    go_ret2
    exact ⟨by first | rfl | (simp [errW_none, errW_some] <;> rfl) | (simp [*, errW_none, errW_some] <;> rfl), by repeat (first | (with_reducible first | exact HB.out | apply below_alloc | apply pw_below_drewN | apply below_drew1 | refine below_set ?_ GE330.out) | exact HB.out)⟩

end Go.Proofs.YtagnoecfdefmjaaDoor.X
