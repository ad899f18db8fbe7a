/- ParseTexts: the line of any command, or that there is none, is the reference's. Condition: the command's numbers are of their kinds. -/
import Derived.Test.YtagnoecfdefmjaaDoorPWakes
import Derived.Test.YtagnoecfdefmjaaDoorPRefText
namespace Go.Proofs.YtagnoecfdefmjaaDoor.P
open Go.RowKit Go.Proofs.YtagnoecfdefmjaaDoorW.PrintWords Go.Proofs.YtagnoecfdefmjaaDoorW.PrintLast Go.Proofs.YtagnoecfdefmjaaDoorW.PrintMore Go.Proofs.YtagnoecfdefmjaaDoor.X Go.Proofs.YtagnoecfdefmjaaDoor.Plain Go.Proofs.YtagnoecfdefmjaaDoor
set_option linter.unusedVariables false
set_option linter.unusedSimpArgs false

set_option maxHeartbeats 4000000 in
set_option maxRecDepth 100000 in
theorem texts_walk (k : Nat) (c : Cm) (t : ByteArray) (f : Int) (w : World) (hL : Laid w) (h1 : X.parse_Text.f k c.w c.k c.p c.n c.v c.m c.t c.a = some (t, f)) (h2 : weirgateref22_Text.f k c.w c.k c.p c.n c.v c.m c.t c.a = some (t, f)) (h3 : weirgatelaw22_wakes.f k = some true) :
    Calls Tryd.prog 4 #[.agg #[.int .i64 c.w, .int .i64 c.k, .int .i64 c.p, .int .i64 c.n, .int .i64 c.v, .int .u8 c.m, .int .u8 c.t, .int .u64 c.a]] w fun e w' => e = .returned (.bool true) ∧ Below w.heap.size w w' := by
  have A1 := Aside0.mk h1
  have A2 := Aside0.mk h2
  have A3 := Aside0.mk h3
  clear h1 h2 h3
  have hs : (t.toList == t.toList) = true := by simp
  have HB := Aside0.mk (Below.refl w.heap.size w)
  go_enter Tryd.func4, Tryd.ntmps4
  go_wp2_with (first
    | ((with_reducible refine gate_dst (N := 1) rfl ?_); refine box_event ?hg (N := 1) ?hd (cs := #[.int .i64 c.w, .int .i64 c.k, .int .i64 c.p, .int .i64 c.n, .int .i64 c.v, .int .u8 c.m, .int .u8 c.t, .int .u64 c.a]) (t := 27) ?hr ?_; (case hd => rfl); (case hg => rfl); (case hr => first | (go_simp; done) | (go_simp; rfl)); intro gbb hg wb BKb hb; have GEb := Aside0.mk ((by rw [hg]; exact HB.out.size) : w.heap.size ≤ gbb); replace HB := Aside0.mk (below_step HB.out hb); replace BKb := Aside0.mk BKb; clear hb hg; have hcb_0 : wb.cell? ⟨gbb, 0, none⟩ = some (.int .i64 c.w) := (blk_cell BKb.out 0).trans rfl; have hcb_1 : wb.cell? ⟨gbb, 1, none⟩ = some (.int .i64 c.k) := (blk_cell BKb.out 1).trans rfl; have hcb_2 : wb.cell? ⟨gbb, 2, none⟩ = some (.int .i64 c.p) := (blk_cell BKb.out 2).trans rfl; have hcb_3 : wb.cell? ⟨gbb, 3, none⟩ = some (.int .i64 c.n) := (blk_cell BKb.out 3).trans rfl; have hcb_4 : wb.cell? ⟨gbb, 4, none⟩ = some (.int .i64 c.v) := (blk_cell BKb.out 4).trans rfl; have hcb_5 : wb.cell? ⟨gbb, 5, none⟩ = some (.int .u8 c.m) := (blk_cell BKb.out 5).trans rfl; have hcb_6 : wb.cell? ⟨gbb, 6, none⟩ = some (.int .u8 c.t) := (blk_cell BKb.out 6).trans rfl; have hcb_7 : wb.cell? ⟨gbb, 7, none⟩ = some (.int .u64 c.a) := (blk_cell BKb.out 7).trans rfl)
    | (go_at_call 11; (with_reducible refine (X.parse_Text.calls k c.w c.k c.p c.n c.v c.m c.t c.a t f _ ?s1 A1.out).mono ?_); (case s1 => exact Laid.below hL HB.out); rintro e wl ⟨rfl, hb⟩; replace BKb := Aside0.mk (blk_below BKb.out hb); replace HB := Aside0.mk (below_step HB.out hb); clear hb hcb_0 hcb_1 hcb_2 hcb_3 hcb_4 hcb_5 hcb_6 hcb_7; have hcb_0 : wl.cell? ⟨gbb, 0, none⟩ = some (.int .i64 c.w) := (blk_cell BKb.out 0).trans rfl; have hcb_1 : wl.cell? ⟨gbb, 1, none⟩ = some (.int .i64 c.k) := (blk_cell BKb.out 1).trans rfl; have hcb_2 : wl.cell? ⟨gbb, 2, none⟩ = some (.int .i64 c.p) := (blk_cell BKb.out 2).trans rfl; have hcb_3 : wl.cell? ⟨gbb, 3, none⟩ = some (.int .i64 c.n) := (blk_cell BKb.out 3).trans rfl; have hcb_4 : wl.cell? ⟨gbb, 4, none⟩ = some (.int .i64 c.v) := (blk_cell BKb.out 4).trans rfl; have hcb_5 : wl.cell? ⟨gbb, 5, none⟩ = some (.int .u8 c.m) := (blk_cell BKb.out 5).trans rfl; have hcb_6 : wl.cell? ⟨gbb, 6, none⟩ = some (.int .u8 c.t) := (blk_cell BKb.out 6).trans rfl; have hcb_7 : wl.cell? ⟨gbb, 7, none⟩ = some (.int .u64 c.a) := (blk_cell BKb.out 7).trans rfl)
    | (go_at_call 10; (with_reducible refine (weirgatelaw22_Own.calls c.w c.k c.p c.n c.v c.m c.t c.a c.w c.k c.p c.n c.v c.m c.t c.a _ ?s1 rfl).mono ?_); (case s1 => exact Laid.below hL HB.out); rintro e wo ⟨rfl, hb⟩; replace HB := Aside0.mk (below_step HB.out hb); clear hb)
    | (go_at_call 12; (with_reducible refine (weirgateref22_Text.calls k c.w c.k c.p c.n c.v c.m c.t c.a t f _ ?s1 A2.out).mono ?_); (case s1 => exact Laid.below hL HB.out); rintro e wr ⟨rfl, hb⟩; replace HB := Aside0.mk (below_step HB.out hb); clear hb)
    | (go_at_call 7; (with_reducible refine (weirgatelaw22_wakes.calls k true _ ?s1 A3.out).mono ?_); (case s1 => exact Laid.below hL HB.out); rintro e ww ⟨rfl, hb⟩; replace HB := Aside0.mk (below_step HB.out hb); clear hb))
  go_ret
  exact ⟨rfl, HB.out⟩
theorem texts (c : Cm) (h : c.Ok) (w : World) (hL : Laid w) :
    Calls Tryd.prog 4 #[.agg #[.int .i64 c.w, .int .i64 c.k, .int .i64 c.p, .int .i64 c.n, .int .i64 c.v, .int .u8 c.m, .int .u8 c.t, .int .u64 c.a]] w fun e w' => e = .returned (.bool true) ∧ Below w.heap.size w w' := by
  obtain ⟨K1, h1⟩ := text_ev c h
  obtain ⟨K2, h2⟩ := reftext_ev c h
  obtain ⟨K3, h3⟩ := wakes_ev
  exact texts_walk (K1 + K2 + K3) c _ _ w hL (h1 _ (by omega)) (h2 _ (by omega)) (h3 _ (by omega))
end Go.Proofs.YtagnoecfdefmjaaDoor.P
