/- Contract of (parse.form).take: the command of words, if they are this form's; no condition. -/
import Derived.Test.YtjamaamkmfdnaaaDoorXx2
import Derived.Outline
namespace Go.Proofs.YtjamaamkmfdnaaaDoor
open Go.RowKit Go.Proofs.YtjamaamkmfdnaaaDoorW.PrintWords Go.Proofs.YtjamaamkmfdnaaaDoorW.PrintLast Go.Proofs.YtjamaamkmfdnaaaDoorW.PrintMore
set_option linter.unusedVariables false
set_option linter.unusedSimpArgs false

/-- The words read one behind the other. -/
def takeL (k : Nat) : List ByteArray → List ByteArray → Int → Int → Int → Int → Int → Int → Int → Int → Option (Int × Int × Int × Int × Int × Int × Int × Int × Bool)
  | y :: ys, x :: xs, c0, c1, c2, c3, c4, c5, c6, c7 => (X.parse_Cmd_read.f k c0 c1 c2 c3 c4 c5 c6 c7 y x).bind fun b => if b.1 = true then takeL k ys xs b.2.1 b.2.2.1 b.2.2.2.1 b.2.2.2.2.1 b.2.2.2.2.2.1 b.2.2.2.2.2.2.1 b.2.2.2.2.2.2.2.1 b.2.2.2.2.2.2.2.2 else some (0, 0, 0, 0, 0, 0, 0, 0, false)
  | [], _, c0, c1, c2, c3, c4, c5, c6, c7 => some (c0, c1, c2, c3, c4, c5, c6, c7, true)
  | _ :: _, [], c0, c1, c2, c3, c4, c5, c6, c7 => some (c0, c1, c2, c3, c4, c5, c6, c7, true)
/-- What 'take' answers. -/
def parse_form_take.f (k : Nat) (a0_0 : Int) (a0_1 : Int) (a0_2 : Int) (a0_3 : Int) (a0_4 : Int) (a0_5 : Int) (a0_6 : Int) (a0_7 : Int) (a0_8 : ByteArray) (l1 : List ByteArray) : Option (Int × Int × Int × Int × Int × Int × Int × Int × Bool) :=
  (X.words_Cut.f k a0_8).bind fun want => if want.length = l1.length then takeL k want l1 a0_0 a0_1 a0_2 a0_3 a0_4 a0_5 a0_6 a0_7 else some (0, 0, 0, 0, 0, 0, 0, 0, false)
theorem takeL_mono (k : Nat) : ∀ (ys xs : List ByteArray) (c0 : Int) (c1 : Int) (c2 : Int) (c3 : Int) (c4 : Int) (c5 : Int) (c6 : Int) (c7 : Int), LeO (takeL k ys xs c0 c1 c2 c3 c4 c5 c6 c7) (takeL (k + 1) ys xs c0 c1 c2 c3 c4 c5 c6 c7)
  | y :: ys, x :: xs, c0, c1, c2, c3, c4, c5, c6, c7 => by
    unfold takeL
    refine LeO.bind (X.parse_Cmd_read.mono _ _ _ _ _ _ _ _ _ _ _) (fun b => ?_)
    split
    · exact takeL_mono k ys xs _ _ _ _ _ _ _ _
    · exact LeO.refl _
  | [], xs, c0, c1, c2, c3, c4, c5, c6, c7 => by unfold takeL; exact LeO.refl _
  | _ :: _, [], c0, c1, c2, c3, c4, c5, c6, c7 => by unfold takeL; exact LeO.refl _
theorem parse_form_take.mono : ∀ a0 a1 a2 a3 a4 a5 a6 a7 a8 a9 k, LeO (parse_form_take.f k a0 a1 a2 a3 a4 a5 a6 a7 a8 a9) (parse_form_take.f (k + 1) a0 a1 a2 a3 a4 a5 a6 a7 a8 a9) := by
  intros
  unfold parse_form_take.f
  refine LeO.bind (X.words_Cut.mono _ _) (fun b => ?_)
  split
  · exact takeL_mono _ _ _ _ _ _ _ _ _ _ _
  · exact LeO.refl _
theorem takeL_step (k : Nat) (ys xs : List ByteArray) (i : Int) (h0 : 0 ≤ i) (h1 : i < (ys.length : Int)) (h2 : i < (xs.length : Int)) (c0 : Int) (c1 : Int) (c2 : Int) (c3 : Int) (c4 : Int) (c5 : Int) (c6 : Int) (c7 : Int) : takeL k (ys.drop i.toNat) (xs.drop i.toNat) c0 c1 c2 c3 c4 c5 c6 c7 =
    (X.parse_Cmd_read.f k c0 c1 c2 c3 c4 c5 c6 c7 (rdOf ByteArray.empty ys i) (rdOf ByteArray.empty xs i)).bind fun b => if b.1 = true then takeL k (ys.drop (i.toNat + 1)) (xs.drop (i.toNat + 1)) b.2.1 b.2.2.1 b.2.2.2.1 b.2.2.2.2.1 b.2.2.2.2.2.1 b.2.2.2.2.2.2.1 b.2.2.2.2.2.2.2.1 b.2.2.2.2.2.2.2.2 else some (0, 0, 0, 0, 0, 0, 0, 0, false) := by
  rw [List.drop_eq_getElem_cons (show i.toNat < ys.length by omega), List.drop_eq_getElem_cons (show i.toNat < xs.length by omega), takeL]
  rw [show rdOf ByteArray.empty ys i = ys[i.toNat]'(by omega) by simp [rdOf, List.getD_eq_getElem?_getD, List.getElem?_eq_getElem (show i.toNat < ys.length by omega)], show rdOf ByteArray.empty xs i = xs[i.toNat]'(by omega) by simp [rdOf, List.getD_eq_getElem?_getD, List.getElem?_eq_getElem (show i.toNat < xs.length by omega)]]
theorem R_keep {α : Type} {d : Kd α} {e : Nat} {w w1 : World} {base g : Nat} {v : Value} {xs : List α} (h : Kd.R d e w base (fun k => k ≠ g) v xs) (hk : KeepBut w w1 g none) : Kd.R d e w1 base (fun k => k ≠ g) v xs :=
  Kd.R_mono (Kd.R_move (Kd.R_bound h) (fun k hk' => hk.2 k hk'.2.2.1 hk'.1 (by simp))) (fun k hk' => hk'.1)
theorem blk_keep {w w1 : World} {g b : Nat} {o : Obj} (h : w.heap[b]? = some o) (hk : KeepBut w w1 g none) (hne : b ≠ g) : w1.heap[b]? = some o := (hk.2 b (blk_lt h) hne (by simp)).trans h

set_option maxHeartbeats 8000000 in
set_option maxRecDepth 100000 in
theorem take_ne (k : Nat) (a0_0 : Int) (a0_1 : Int) (a0_2 : Int) (a0_3 : Int) (a0_4 : Int) (a0_5 : Int) (a0_6 : Int) (a0_7 : Int) (a0_8 : ByteArray) (A1 : Option Addr) (c1 : Nat) (l1 : List ByteArray) (r1 : Int) (r2 : Int) (r3 : Int) (r4 : Int) (r5 : Int) (r6 : Int) (r7 : Int) (r8 : Int) (r9 : Bool) (w : World) (hr1 : Kd.C Kd.string w A1 l1.length l1) (hc1 : l1.length ≤ c1) (hL : Laid w) (want : List ByteArray) (hA : X.words_Cut.f k a0_8 = some want) (hne : ¬ want.length = l1.length) (h : some (0, 0, 0, 0, 0, 0, 0, 0, false) = some (r1, r2, r3, r4, r5, r6, r7, r8, r9)) :
    Calls Tryd.prog 41 #[.agg #[.int .i64 a0_0, .int .i64 a0_1, .int .i64 a0_2, .int .i64 a0_3, .int .i64 a0_4, .int .u8 a0_5, .int .u8 a0_6, .int .u64 a0_7, .string a0_8], .slice A1 l1.length c1] w fun e w' => e = .returned (.tuple #[.agg #[.int .i64 r1, .int .i64 r2, .int .i64 r3, .int .i64 r4, .int .i64 r5, .int .u8 r6, .int .u8 r7, .int .u64 r8], .bool r9]) ∧ Below w.heap.size w w' := by
  simp only [Option.some.injEq, Prod.mk.injEq] at h
  obtain ⟨rfl, rfl, rfl, rfl, rfl, rfl, rfl, rfl, rfl⟩ := h
  have hb0 : ((want.length : Int) == (l1.length : Int)) = false := beq_eq_false_iff_ne.2 (by omega)
  have hb1 : ((want.length : Int) != (l1.length : Int)) = true := by rw [bne_iff_ne]; omega
  have HA := Aside0.mk hA
  have HB := Aside0.mk (Below.refl w.heap.size w)
  clear hA hne
  go_enter Tryd.func41, Tryd.ntmps41
  go_wp2_with (first | ((with_reducible refine gate_dst (N := 2) rfl ?_); refine box_event ?hg (N := 2) ?hd (cs := #[.int .i64 a0_0, .int .i64 a0_1, .int .i64 a0_2, .int .i64 a0_3, .int .i64 a0_4, .int .u8 a0_5, .int .u8 a0_6, .int .u64 a0_7, .string a0_8]) (t := 97) ?hr ?_; (case hd => rfl); (case hg => rfl); (case hr => first | (go_simp; done) | (go_simp; rfl)); intro gbf hg wf BKf hb; have GEf := Aside0.mk ((by rw [hg]; exact HB.out.size) : w.heap.size ≤ gbf); replace HB := Aside0.mk (below_step HB.out hb); replace BKf := Aside0.mk BKf; clear hb hg) | ((with_reducible refine gate_dst (N := 4) rfl ?_); refine box_event ?hg (N := 4) ?hd (cs := #[.int .i64 0, .int .i64 0, .int .i64 0, .int .i64 0, .int .i64 0, .int .u8 0, .int .u8 0, .int .u64 0]) (t := 86) ?hr ?_; (case hd => rfl); (case hg => rfl); (case hr => first | (go_simp; done) | (go_simp; rfl)); intro gbr hg wr BKr hb; have LTfr : gbf < gbr := (by rw [hg]; exact blk_lt BKf.out); replace BKf := Aside0.mk (blk_below BKf.out hb); have GEr := Aside0.mk ((by rw [hg]; exact HB.out.size) : w.heap.size ≤ gbr); replace HB := Aside0.mk (below_step HB.out hb); replace BKr := Aside0.mk BKr; clear hb hg; have hcf_8 : wr.cell? ⟨gbf, 8, none⟩ = some (.string a0_8) := (blk_cell BKf.out 8).trans rfl) | (go_at_call 38; (with_reducible refine (X.words_Cut.calls k a0_8 want _ ?side1 HA.out).mono ?_); (case side1 => exact Laid.below hL HB.out); rintro e wd ⟨v, rfl, ho, hb⟩; replace BKf := Aside0.mk (blk_below BKf.out hb); replace BKr := Aside0.mk (blk_below BKr.out hb); have HO := Aside0.mk (Kd.R_lower ho HB.out.size); replace HB := Aside0.mk (below_step HB.out hb); clear hb ho hcf_8; obtain ⟨Ao, co, eo⟩ := Kd.R_slice HO.out; subst eo; have hcr_0 : wd.cell? ⟨gbr, 0, none⟩ = some (.int .i64 0) := (blk_cell BKr.out 0).trans rfl; have hcr_1 : wd.cell? ⟨gbr, 1, none⟩ = some (.int .i64 0) := (blk_cell BKr.out 1).trans rfl; have hcr_2 : wd.cell? ⟨gbr, 2, none⟩ = some (.int .i64 0) := (blk_cell BKr.out 2).trans rfl; have hcr_3 : wd.cell? ⟨gbr, 3, none⟩ = some (.int .i64 0) := (blk_cell BKr.out 3).trans rfl; have hcr_4 : wd.cell? ⟨gbr, 4, none⟩ = some (.int .i64 0) := (blk_cell BKr.out 4).trans rfl; have hcr_5 : wd.cell? ⟨gbr, 5, none⟩ = some (.int .u8 0) := (blk_cell BKr.out 5).trans rfl; have hcr_6 : wd.cell? ⟨gbr, 6, none⟩ = some (.int .u8 0) := (blk_cell BKr.out 6).trans rfl; have hcr_7 : wd.cell? ⟨gbr, 7, none⟩ = some (.int .u64 0) := (blk_cell BKr.out 7).trans rfl; have hfr_0 := blk_frozen BKr.out 0; have hfr_1 := blk_frozen BKr.out 1; have hfr_2 := blk_frozen BKr.out 2; have hfr_3 := blk_frozen BKr.out 3; have hfr_4 := blk_frozen BKr.out 4; have hfr_5 := blk_frozen BKr.out 5; have hfr_6 := blk_frozen BKr.out 6; have hfr_7 := blk_frozen BKr.out 7))
  · refine bodyPost_ret (results_ct rfl _ _ gbr 86 #[.int .i64 0, .int .i64 0, .int .i64 0, .int .i64 0, .int .i64 0, .int .u8 0, .int .u8 0, .int .u64 0] (0, 0) _ rfl (by (with_reducible repeat (first | refine blk_drewN ?_ _ | refine blk_drew ?_ | refine blk_alloc ?_ _)); refine blk_put (cs := #[.int .i64 0, .int .i64 0, .int .i64 0, .int .i64 0, .int .i64 0, .int .u8 0, .int .u8 0, .int .u64 0]) ?_ 7 _ rfl; (with_reducible repeat (first | refine blk_drewN ?_ _ | refine blk_drew ?_ | refine blk_alloc ?_ _)); refine blk_put (cs := #[.int .i64 0, .int .i64 0, .int .i64 0, .int .i64 0, .int .i64 0, .int .u8 0, .int .u8 0, .int .u64 0]) ?_ 6 _ rfl; (with_reducible repeat (first | refine blk_drewN ?_ _ | refine blk_drew ?_ | refine blk_alloc ?_ _)); refine blk_put (cs := #[.int .i64 0, .int .i64 0, .int .i64 0, .int .i64 0, .int .i64 0, .int .u8 0, .int .u8 0, .int .u64 0]) ?_ 5 _ rfl; (with_reducible repeat (first | refine blk_drewN ?_ _ | refine blk_drew ?_ | refine blk_alloc ?_ _)); refine blk_put (cs := #[.int .i64 0, .int .i64 0, .int .i64 0, .int .i64 0, .int .i64 0, .int .u8 0, .int .u8 0, .int .u64 0]) ?_ 4 _ rfl; (with_reducible repeat (first | refine blk_drewN ?_ _ | refine blk_drew ?_ | refine blk_alloc ?_ _)); refine blk_put (cs := #[.int .i64 0, .int .i64 0, .int .i64 0, .int .i64 0, .int .i64 0, .int .u8 0, .int .u8 0, .int .u64 0]) ?_ 3 _ rfl; (with_reducible repeat (first | refine blk_drewN ?_ _ | refine blk_drew ?_ | refine blk_alloc ?_ _)); refine blk_put (cs := #[.int .i64 0, .int .i64 0, .int .i64 0, .int .i64 0, .int .i64 0, .int .u8 0, .int .u8 0, .int .u64 0]) ?_ 2 _ rfl; (with_reducible repeat (first | refine blk_drewN ?_ _ | refine blk_drew ?_ | refine blk_alloc ?_ _)); refine blk_put (cs := #[.int .i64 0, .int .i64 0, .int .i64 0, .int .i64 0, .int .i64 0, .int .u8 0, .int .u8 0, .int .u64 0]) ?_ 1 _ rfl; (with_reducible repeat (first | refine blk_drewN ?_ _ | refine blk_drew ?_ | refine blk_alloc ?_ _)); refine blk_put (cs := #[.int .i64 0, .int .i64 0, .int .i64 0, .int .i64 0, .int .i64 0, .int .u8 0, .int .u8 0, .int .u64 0]) ?_ 0 _ rfl; (with_reducible repeat (first | refine blk_drewN ?_ _ | refine blk_drew ?_ | refine blk_alloc ?_ _)); exact BKr.out) Tryd.underlying86 rfl (by kernel_rfl)) rfl ?_
    exact ⟨rfl, by repeat (first | (with_reducible first | exact HB.out | apply below_alloc | apply pw_below_drewN | apply below_drew1 | refine below_set ?_ GEr.out) | exact HB.out)⟩

set_option maxHeartbeats 8000000 in
set_option maxRecDepth 100000 in
theorem take_eq (k : Nat) (a0_0 : Int) (a0_1 : Int) (a0_2 : Int) (a0_3 : Int) (a0_4 : Int) (a0_5 : Int) (a0_6 : Int) (a0_7 : Int) (a0_8 : ByteArray) (A1 : Option Addr) (c1 : Nat) (l1 : List ByteArray) (r1 : Int) (r2 : Int) (r3 : Int) (r4 : Int) (r5 : Int) (r6 : Int) (r7 : Int) (r8 : Int) (r9 : Bool) (w : World) (hr1 : Kd.C Kd.string w A1 l1.length l1) (hc1 : l1.length ≤ c1) (hL : Laid w) (want : List ByteArray) (hA : X.words_Cut.f k a0_8 = some want) (hlen : want.length = l1.length) (h : takeL k want l1 a0_0 a0_1 a0_2 a0_3 a0_4 a0_5 a0_6 a0_7 = some (r1, r2, r3, r4, r5, r6, r7, r8, r9)) :
    Calls Tryd.prog 41 #[.agg #[.int .i64 a0_0, .int .i64 a0_1, .int .i64 a0_2, .int .i64 a0_3, .int .i64 a0_4, .int .u8 a0_5, .int .u8 a0_6, .int .u64 a0_7, .string a0_8], .slice A1 l1.length c1] w fun e w' => e = .returned (.tuple #[.agg #[.int .i64 r1, .int .i64 r2, .int .i64 r3, .int .i64 r4, .int .i64 r5, .int .u8 r6, .int .u8 r7, .int .u64 r8], .bool r9]) ∧ Below w.heap.size w w' := by
  have hm : l1.length ≤ 9223372036854775807 := hr1.2.1
  have hb0 : ((want.length : Int) == (l1.length : Int)) = true := beq_iff_eq.2 (by omega)
  have hb1 : ((want.length : Int) != (l1.length : Int)) = false := by rw [bne_eq_false_iff_eq]; omega
  have HA := Aside0.mk hA
  have HH := Aside0.mk h
  have HLEN := Aside0.mk hlen
  have HB := Aside0.mk (Below.refl w.heap.size w)
  clear hA hlen h
  go_enter Tryd.func41, Tryd.ntmps41
  go_wp2_with (first | ((with_reducible refine gate_dst (N := 2) rfl ?_); refine box_event ?hg (N := 2) ?hd (cs := #[.int .i64 a0_0, .int .i64 a0_1, .int .i64 a0_2, .int .i64 a0_3, .int .i64 a0_4, .int .u8 a0_5, .int .u8 a0_6, .int .u64 a0_7, .string a0_8]) (t := 97) ?hr ?_; (case hd => rfl); (case hg => rfl); (case hr => first | (go_simp; done) | (go_simp; rfl)); intro gbf hg wf BKf hb; have GEf := Aside0.mk ((by rw [hg]; exact HB.out.size) : w.heap.size ≤ gbf); replace HB := Aside0.mk (below_step HB.out hb); replace BKf := Aside0.mk BKf; clear hb hg) | ((with_reducible refine gate_dst (N := 4) rfl ?_); refine box_event ?hg (N := 4) ?hd (cs := #[.int .i64 0, .int .i64 0, .int .i64 0, .int .i64 0, .int .i64 0, .int .u8 0, .int .u8 0, .int .u64 0]) (t := 86) ?hr ?_; (case hd => rfl); (case hg => rfl); (case hr => first | (go_simp; done) | (go_simp; rfl)); intro gbr hg wr BKr hb; have LTfr : gbf < gbr := (by rw [hg]; exact blk_lt BKf.out); replace BKf := Aside0.mk (blk_below BKf.out hb); have GEr := Aside0.mk ((by rw [hg]; exact HB.out.size) : w.heap.size ≤ gbr); replace HB := Aside0.mk (below_step HB.out hb); replace BKr := Aside0.mk BKr; clear hb hg; have hcf_8 : wr.cell? ⟨gbf, 8, none⟩ = some (.string a0_8) := (blk_cell BKf.out 8).trans rfl) | (go_at_call 38; (with_reducible refine (X.words_Cut.calls k a0_8 want _ ?side1 HA.out).mono ?_); (case side1 => exact Laid.below hL HB.out); rintro e wd ⟨v, rfl, ho, hb⟩; replace BKf := Aside0.mk (blk_below BKf.out hb); replace BKr := Aside0.mk (blk_below BKr.out hb); have HO := Aside0.mk (Kd.R_lower ho HB.out.size); replace HB := Aside0.mk (below_step HB.out hb); clear hb ho hcf_8; obtain ⟨Ao, co, eo⟩ := Kd.R_slice HO.out; subst eo; have hcf_0 : wd.cell? ⟨gbf, 0, none⟩ = some (.int .i64 a0_0) := (blk_cell BKf.out 0).trans rfl; have hcf_1 : wd.cell? ⟨gbf, 1, none⟩ = some (.int .i64 a0_1) := (blk_cell BKf.out 1).trans rfl; have hcf_2 : wd.cell? ⟨gbf, 2, none⟩ = some (.int .i64 a0_2) := (blk_cell BKf.out 2).trans rfl; have hcf_3 : wd.cell? ⟨gbf, 3, none⟩ = some (.int .i64 a0_3) := (blk_cell BKf.out 3).trans rfl; have hcf_4 : wd.cell? ⟨gbf, 4, none⟩ = some (.int .i64 a0_4) := (blk_cell BKf.out 4).trans rfl; have hcf_5 : wd.cell? ⟨gbf, 5, none⟩ = some (.int .u8 a0_5) := (blk_cell BKf.out 5).trans rfl; have hcf_6 : wd.cell? ⟨gbf, 6, none⟩ = some (.int .u8 a0_6) := (blk_cell BKf.out 6).trans rfl; have hcf_7 : wd.cell? ⟨gbf, 7, none⟩ = some (.int .u64 a0_7) := (blk_cell BKf.out 7).trans rfl) | ((with_reducible refine gate_dst (N := 7) rfl ?_); refine box_event ?hg (N := 7) ?hd (cs := #[.int .i64 0, .int .i64 0, .int .i64 0, .int .i64 0, .int .i64 0, .int .u8 0, .int .u8 0, .int .u64 0]) (t := 86) ?hr ?_; (case hd => rfl); (case hg => rfl); (case hr => first | (go_simp; done) | (go_simp; rfl)); intro gbc hg wc BKc hb; have LTfc : gbf < gbc := (by rw [hg]; exact blk_lt BKf.out); have LTrc : gbr < gbc := (by rw [hg]; exact blk_lt BKr.out); replace BKf := Aside0.mk (blk_below BKf.out hb); replace BKr := Aside0.mk (blk_below BKr.out hb); replace HO := Aside0.mk (Kd.R_mono (Kd.R_below (Kd.R_bound HO.out) hb) (fun k_ hk_ => (by have h_ := hk_.2.2.1; omega : k_ ≠ gbc))); have GEc := Aside0.mk ((by rw [hg]; exact HB.out.size) : w.heap.size ≤ gbc); replace HB := Aside0.mk (below_step HB.out hb); replace BKc := Aside0.mk BKc; clear hb hg; clear hcf_0; clear hcf_1; clear hcf_2; clear hcf_3; clear hcf_4; clear hcf_5; clear hcf_6; clear hcf_7; have hcc_0 : wc.cell? ⟨gbc, 0, none⟩ = some (.int .i64 0) := (blk_cell BKc.out 0).trans rfl; have hcc_1 : wc.cell? ⟨gbc, 1, none⟩ = some (.int .i64 0) := (blk_cell BKc.out 1).trans rfl; have hcc_2 : wc.cell? ⟨gbc, 2, none⟩ = some (.int .i64 0) := (blk_cell BKc.out 2).trans rfl; have hcc_3 : wc.cell? ⟨gbc, 3, none⟩ = some (.int .i64 0) := (blk_cell BKc.out 3).trans rfl; have hcc_4 : wc.cell? ⟨gbc, 4, none⟩ = some (.int .i64 0) := (blk_cell BKc.out 4).trans rfl; have hcc_5 : wc.cell? ⟨gbc, 5, none⟩ = some (.int .u8 0) := (blk_cell BKc.out 5).trans rfl; have hcc_6 : wc.cell? ⟨gbc, 6, none⟩ = some (.int .u8 0) := (blk_cell BKc.out 6).trans rfl; have hcc_7 : wc.cell? ⟨gbc, 7, none⟩ = some (.int .u64 0) := (blk_cell BKc.out 7).trans rfl; have hfc_0 := blk_frozen BKc.out 0; have hfc_1 := blk_frozen BKc.out 1; have hfc_2 := blk_frozen BKc.out 2; have hfc_3 := blk_frozen BKc.out 3; have hfc_4 := blk_frozen BKc.out 4; have hfc_5 := blk_frozen BKc.out 5; have hfc_6 := blk_frozen BKc.out 6; have hfc_7 := blk_frozen BKc.out 7))
  go_loopg [23] l1.length (fun kq v23 w' => ∃ (x : Int) (c0 c1 c2 c3 c4 c5 c6 c7 : Int), v23 = .int .i64 x ∧ Aside0 (0 ≤ x ∧ x + kq = l1.length) ∧ Aside0 (takeL k (want.drop x.toNat) (l1.drop x.toNat) c0 c1 c2 c3 c4 c5 c6 c7 = some (r1, r2, r3, r4, r5, r6, r7, r8, r9)) ∧ Aside0 (X.IsS86 w w' gbc c0 c1 c2 c3 c4 c5 c6 c7) ∧ Aside0 (w'.heap[gbr]? = some (.cells #[.int .i64 0, .int .i64 0, .int .i64 0, .int .i64 0, .int .i64 0, .int .u8 0, .int .u8 0, .int .u64 0] 86 (0, 0))) ∧ Aside0 (Kd.R Kd.string 9 w' w.heap.size (fun k_ => k_ ≠ gbc) (.slice Ao want.length co) want) ∧ Aside0 (Below w.heap.size w w'))
  case atStart =>
    refine ⟨0, a0_0, a0_1, a0_2, a0_3, a0_4, a0_5, a0_6, a0_7, rfl, ⟨by simp⟩, ⟨by simpa using HH.out⟩, ⟨⟨?_, GEc.out⟩⟩, ⟨?_⟩, ⟨?_⟩, ⟨?_⟩⟩
    · (with_reducible repeat (first | refine blk_drewN ?_ _ | refine blk_drew ?_ | refine blk_alloc ?_ _)); refine blk_put (cs := #[.int .i64 a0_0, .int .i64 a0_1, .int .i64 a0_2, .int .i64 a0_3, .int .i64 a0_4, .int .u8 a0_5, .int .u8 a0_6, .int .u64 0]) ?_ 7 _ rfl; (with_reducible repeat (first | refine blk_drewN ?_ _ | refine blk_drew ?_ | refine blk_alloc ?_ _)); refine blk_put (cs := #[.int .i64 a0_0, .int .i64 a0_1, .int .i64 a0_2, .int .i64 a0_3, .int .i64 a0_4, .int .u8 a0_5, .int .u8 0, .int .u64 0]) ?_ 6 _ rfl; (with_reducible repeat (first | refine blk_drewN ?_ _ | refine blk_drew ?_ | refine blk_alloc ?_ _)); refine blk_put (cs := #[.int .i64 a0_0, .int .i64 a0_1, .int .i64 a0_2, .int .i64 a0_3, .int .i64 a0_4, .int .u8 0, .int .u8 0, .int .u64 0]) ?_ 5 _ rfl; (with_reducible repeat (first | refine blk_drewN ?_ _ | refine blk_drew ?_ | refine blk_alloc ?_ _)); refine blk_put (cs := #[.int .i64 a0_0, .int .i64 a0_1, .int .i64 a0_2, .int .i64 a0_3, .int .i64 0, .int .u8 0, .int .u8 0, .int .u64 0]) ?_ 4 _ rfl; (with_reducible repeat (first | refine blk_drewN ?_ _ | refine blk_drew ?_ | refine blk_alloc ?_ _)); refine blk_put (cs := #[.int .i64 a0_0, .int .i64 a0_1, .int .i64 a0_2, .int .i64 0, .int .i64 0, .int .u8 0, .int .u8 0, .int .u64 0]) ?_ 3 _ rfl; (with_reducible repeat (first | refine blk_drewN ?_ _ | refine blk_drew ?_ | refine blk_alloc ?_ _)); refine blk_put (cs := #[.int .i64 a0_0, .int .i64 a0_1, .int .i64 0, .int .i64 0, .int .i64 0, .int .u8 0, .int .u8 0, .int .u64 0]) ?_ 2 _ rfl; (with_reducible repeat (first | refine blk_drewN ?_ _ | refine blk_drew ?_ | refine blk_alloc ?_ _)); refine blk_put (cs := #[.int .i64 a0_0, .int .i64 0, .int .i64 0, .int .i64 0, .int .i64 0, .int .u8 0, .int .u8 0, .int .u64 0]) ?_ 1 _ rfl; (with_reducible repeat (first | refine blk_drewN ?_ _ | refine blk_drew ?_ | refine blk_alloc ?_ _)); refine blk_put (cs := #[.int .i64 0, .int .i64 0, .int .i64 0, .int .i64 0, .int .i64 0, .int .u8 0, .int .u8 0, .int .u64 0]) ?_ 0 _ rfl; (with_reducible repeat (first | refine blk_drewN ?_ _ | refine blk_drew ?_ | refine blk_alloc ?_ _)); exact BKc.out
    · repeat (refine blk_far ?_ (Nat.ne_of_lt LTrc) _)
      exact BKr.out
    · repeat (refine Kd.R_far (p := ⟨gbc, _, none⟩) ?_ (fun _ hk => hk) _)
      exact HO.out
    · repeat (first | (with_reducible first | exact HB.out | apply below_alloc | apply pw_below_drewN | apply below_drew1 | refine below_set ?_ GEc.out) | exact HB.out)
  case round =>
    clear HH BKf BKr HO HB hcc_0 hfc_0 hcc_1 hfc_1 hcc_2 hfc_2 hcc_3 hfc_3 hcc_4 hfc_4 hcc_5 hfc_5 hcc_6 hfc_6 hcc_7 hfc_7
    obtain ⟨x, c0, c1, c2, c3, c4, c5, c6, c7, rfl, HX, HH, HI, BKr, HO, HB⟩ := hrel
    have hx0 : 0 ≤ x := HX.out.1
    by_cases hxl : x < (l1.length : Int)
    · have hxw : x < (want.length : Int) := by rw [HLEN.out]; exact hxl
      have HS := HH.out
      clear HH
      rw [takeL_step k want l1 x hx0 hxw hxl] at HS
      obtain ⟨⟨ok, d0, d1, d2, d3, d4, d5, d6, d7⟩, hA, HS⟩ := Option.bind_eq_some_iff.1 HS
      have HA2 := Aside0.mk hA
      clear hA
      obtain ⟨ad1, e1, hx1⟩ := Kd.at_string (Kd.C_below hr1 HB.out) x hx0 hxl
      cases e1
      obtain ⟨ad2, e2, hx2⟩ := Kd.at_string (Kd.R_reads' HO.out).2.2 x hx0 hxw
      cases e2
      have b0 : decide (x < (l1.length : Int)) = true := decide_eq_true hxl
      cases ok
      · simp only [Bool.false_eq_true, if_false, Option.some.injEq, Prod.mk.injEq] at HS
        obtain ⟨rfl, rfl, rfl, rfl, rfl, rfl, rfl, rfl, rfl⟩ := HS
        go_wp2_with (go_at_call 52; (with_reducible refine (X.parse_Cmd_read.calls k gbc c0 c1 c2 c3 c4 c5 c6 c7 (rdOf ByteArray.empty want x) (rdOf ByteArray.empty l1 x) false d0 d1 d2 d3 d4 d5 d6 d7 w _ HI.out HB.out hL HA2.out).mono ?_); rintro e w9 ⟨rfl, hI, hb, hk⟩; replace HI := Aside0.mk hI; replace HB := Aside0.mk hb; replace BKr := Aside0.mk (blk_keep BKr.out hk (Nat.ne_of_lt LTrc)); replace HO := Aside0.mk (R_keep HO.out hk); clear hI hb hk hx1 hx2; have hcr_0 := X.cellS86_0 BKr.out; have hcr_1 := X.cellS86_1 BKr.out; have hcr_2 := X.cellS86_2 BKr.out; have hcr_3 := X.cellS86_3 BKr.out; have hcr_4 := X.cellS86_4 BKr.out; have hcr_5 := X.cellS86_5 BKr.out; have hcr_6 := X.cellS86_6 BKr.out; have hcr_7 := X.cellS86_7 BKr.out; have hfr_0 := blk_frozen BKr.out 0; have hfr_1 := blk_frozen BKr.out 1; have hfr_2 := blk_frozen BKr.out 2; have hfr_3 := blk_frozen BKr.out 3; have hfr_4 := blk_frozen BKr.out 4; have hfr_5 := blk_frozen BKr.out 5; have hfr_6 := blk_frozen BKr.out 6; have hfr_7 := blk_frozen BKr.out 7)
        refine bodyPost_ret (results_ct rfl _ _ gbr 86 #[.int .i64 0, .int .i64 0, .int .i64 0, .int .i64 0, .int .i64 0, .int .u8 0, .int .u8 0, .int .u64 0] (0, 0) _ rfl (by (with_reducible repeat (first | refine blk_drewN ?_ _ | refine blk_drew ?_ | refine blk_alloc ?_ _)); refine blk_put (cs := #[.int .i64 0, .int .i64 0, .int .i64 0, .int .i64 0, .int .i64 0, .int .u8 0, .int .u8 0, .int .u64 0]) ?_ 7 _ rfl; (with_reducible repeat (first | refine blk_drewN ?_ _ | refine blk_drew ?_ | refine blk_alloc ?_ _)); refine blk_put (cs := #[.int .i64 0, .int .i64 0, .int .i64 0, .int .i64 0, .int .i64 0, .int .u8 0, .int .u8 0, .int .u64 0]) ?_ 6 _ rfl; (with_reducible repeat (first | refine blk_drewN ?_ _ | refine blk_drew ?_ | refine blk_alloc ?_ _)); refine blk_put (cs := #[.int .i64 0, .int .i64 0, .int .i64 0, .int .i64 0, .int .i64 0, .int .u8 0, .int .u8 0, .int .u64 0]) ?_ 5 _ rfl; (with_reducible repeat (first | refine blk_drewN ?_ _ | refine blk_drew ?_ | refine blk_alloc ?_ _)); refine blk_put (cs := #[.int .i64 0, .int .i64 0, .int .i64 0, .int .i64 0, .int .i64 0, .int .u8 0, .int .u8 0, .int .u64 0]) ?_ 4 _ rfl; (with_reducible repeat (first | refine blk_drewN ?_ _ | refine blk_drew ?_ | refine blk_alloc ?_ _)); refine blk_put (cs := #[.int .i64 0, .int .i64 0, .int .i64 0, .int .i64 0, .int .i64 0, .int .u8 0, .int .u8 0, .int .u64 0]) ?_ 3 _ rfl; (with_reducible repeat (first | refine blk_drewN ?_ _ | refine blk_drew ?_ | refine blk_alloc ?_ _)); refine blk_put (cs := #[.int .i64 0, .int .i64 0, .int .i64 0, .int .i64 0, .int .i64 0, .int .u8 0, .int .u8 0, .int .u64 0]) ?_ 2 _ rfl; (with_reducible repeat (first | refine blk_drewN ?_ _ | refine blk_drew ?_ | refine blk_alloc ?_ _)); refine blk_put (cs := #[.int .i64 0, .int .i64 0, .int .i64 0, .int .i64 0, .int .i64 0, .int .u8 0, .int .u8 0, .int .u64 0]) ?_ 1 _ rfl; (with_reducible repeat (first | refine blk_drewN ?_ _ | refine blk_drew ?_ | refine blk_alloc ?_ _)); refine blk_put (cs := #[.int .i64 0, .int .i64 0, .int .i64 0, .int .i64 0, .int .i64 0, .int .u8 0, .int .u8 0, .int .u64 0]) ?_ 0 _ rfl; (with_reducible repeat (first | refine blk_drewN ?_ _ | refine blk_drew ?_ | refine blk_alloc ?_ _)); exact BKr.out) Tryd.underlying86 rfl (by kernel_rfl)) rfl ?_
        exact ⟨rfl, by repeat (first | (with_reducible first | exact HB.out | apply below_alloc | apply pw_below_drewN | apply below_drew1 | refine below_set ?_ GEr.out) | exact HB.out)⟩
      · simp only [if_true] at HS
        have HS2 := Aside0.mk HS
        clear HS
        go_wp2_with (go_at_call 52; (with_reducible refine (X.parse_Cmd_read.calls k gbc c0 c1 c2 c3 c4 c5 c6 c7 (rdOf ByteArray.empty want x) (rdOf ByteArray.empty l1 x) true d0 d1 d2 d3 d4 d5 d6 d7 w _ HI.out HB.out hL HA2.out).mono ?_); rintro e w9 ⟨rfl, hI, hb, hk⟩; replace HI := Aside0.mk hI; replace HB := Aside0.mk hb; replace BKr := Aside0.mk (blk_keep BKr.out hk (Nat.ne_of_lt LTrc)); replace HO := Aside0.mk (R_keep HO.out hk); clear hI hb hk hx1 hx2)
        go_roundg (gk - 1)
        case measure => have := HX.out; omega
        case rel => exact ⟨x + 1, d0, d1, d2, d3, d4, d5, d6, d7, by first | rfl | go_num, ⟨by have := HX.out; omega, by have := HX.out; omega⟩, ⟨by rw [show (x + 1).toNat = x.toNat + 1 by omega]; exact HS2.out⟩, HI, BKr, HO, HB⟩
    · have HS := HH.out
      clear HH
      have ex : x = (l1.length : Int) := by have := HX.out; omega
      rw [show want.drop x.toNat = [] by rw [List.drop_eq_nil_iff]; have := HLEN.out; omega, takeL] at HS
      simp only [Option.some.injEq, Prod.mk.injEq] at HS
      obtain ⟨rfl, rfl, rfl, rfl, rfl, rfl, rfl, rfl, rfl⟩ := HS
      have b0 : decide (x < (l1.length : Int)) = false := decide_eq_false hxl
      clear ex
      have hcc_0 := X.cellS86_0 HI.out.1
      have hcc_1 := X.cellS86_1 HI.out.1
      have hcc_2 := X.cellS86_2 HI.out.1
      have hcc_3 := X.cellS86_3 HI.out.1
      have hcc_4 := X.cellS86_4 HI.out.1
      have hcc_5 := X.cellS86_5 HI.out.1
      have hcc_6 := X.cellS86_6 HI.out.1
      have hcc_7 := X.cellS86_7 HI.out.1
      have hcr_0 := X.cellS86_0 BKr.out
      have hcr_1 := X.cellS86_1 BKr.out
      have hcr_2 := X.cellS86_2 BKr.out
      have hcr_3 := X.cellS86_3 BKr.out
      have hcr_4 := X.cellS86_4 BKr.out
      have hcr_5 := X.cellS86_5 BKr.out
      have hcr_6 := X.cellS86_6 BKr.out
      have hcr_7 := X.cellS86_7 BKr.out
      have hfr_0 := blk_frozen BKr.out 0
      have hfr_1 := blk_frozen BKr.out 1
      have hfr_2 := blk_frozen BKr.out 2
      have hfr_3 := blk_frozen BKr.out 3
      have hfr_4 := blk_frozen BKr.out 4
      have hfr_5 := blk_frozen BKr.out 5
      have hfr_6 := blk_frozen BKr.out 6
      have hfr_7 := blk_frozen BKr.out 7
      go_wp2
      refine bodyPost_ret (results_ct rfl _ _ gbr 86 #[.int .i64 c0, .int .i64 c1, .int .i64 c2, .int .i64 c3, .int .i64 c4, .int .u8 c5, .int .u8 c6, .int .u64 c7] (0, 0) _ rfl (by (with_reducible repeat (first | refine blk_drewN ?_ _ | refine blk_drew ?_ | refine blk_alloc ?_ _)); refine blk_put (cs := #[.int .i64 c0, .int .i64 c1, .int .i64 c2, .int .i64 c3, .int .i64 c4, .int .u8 c5, .int .u8 c6, .int .u64 0]) ?_ 7 _ rfl; (with_reducible repeat (first | refine blk_drewN ?_ _ | refine blk_drew ?_ | refine blk_alloc ?_ _)); refine blk_put (cs := #[.int .i64 c0, .int .i64 c1, .int .i64 c2, .int .i64 c3, .int .i64 c4, .int .u8 c5, .int .u8 0, .int .u64 0]) ?_ 6 _ rfl; (with_reducible repeat (first | refine blk_drewN ?_ _ | refine blk_drew ?_ | refine blk_alloc ?_ _)); refine blk_put (cs := #[.int .i64 c0, .int .i64 c1, .int .i64 c2, .int .i64 c3, .int .i64 c4, .int .u8 0, .int .u8 0, .int .u64 0]) ?_ 5 _ rfl; (with_reducible repeat (first | refine blk_drewN ?_ _ | refine blk_drew ?_ | refine blk_alloc ?_ _)); refine blk_put (cs := #[.int .i64 c0, .int .i64 c1, .int .i64 c2, .int .i64 c3, .int .i64 0, .int .u8 0, .int .u8 0, .int .u64 0]) ?_ 4 _ rfl; (with_reducible repeat (first | refine blk_drewN ?_ _ | refine blk_drew ?_ | refine blk_alloc ?_ _)); refine blk_put (cs := #[.int .i64 c0, .int .i64 c1, .int .i64 c2, .int .i64 0, .int .i64 0, .int .u8 0, .int .u8 0, .int .u64 0]) ?_ 3 _ rfl; (with_reducible repeat (first | refine blk_drewN ?_ _ | refine blk_drew ?_ | refine blk_alloc ?_ _)); refine blk_put (cs := #[.int .i64 c0, .int .i64 c1, .int .i64 0, .int .i64 0, .int .i64 0, .int .u8 0, .int .u8 0, .int .u64 0]) ?_ 2 _ rfl; (with_reducible repeat (first | refine blk_drewN ?_ _ | refine blk_drew ?_ | refine blk_alloc ?_ _)); refine blk_put (cs := #[.int .i64 c0, .int .i64 0, .int .i64 0, .int .i64 0, .int .i64 0, .int .u8 0, .int .u8 0, .int .u64 0]) ?_ 1 _ rfl; (with_reducible repeat (first | refine blk_drewN ?_ _ | refine blk_drew ?_ | refine blk_alloc ?_ _)); refine blk_put (cs := #[.int .i64 0, .int .i64 0, .int .i64 0, .int .i64 0, .int .i64 0, .int .u8 0, .int .u8 0, .int .u64 0]) ?_ 0 _ rfl; (with_reducible repeat (first | refine blk_drewN ?_ _ | refine blk_drew ?_ | refine blk_alloc ?_ _)); exact BKr.out) Tryd.underlying86 rfl (by kernel_rfl)) rfl ?_
      exact ⟨rfl, by repeat (first | (with_reducible first | exact HB.out | apply below_alloc | apply pw_below_drewN | apply below_drew1 | refine below_set ?_ GEr.out) | exact HB.out)⟩

theorem parse_form_take.calls (k : Nat) (a0_0 : Int) (a0_1 : Int) (a0_2 : Int) (a0_3 : Int) (a0_4 : Int) (a0_5 : Int) (a0_6 : Int) (a0_7 : Int) (a0_8 : ByteArray) (A1 : Option Addr) (c1 : Nat) (l1 : List ByteArray) (r1 : Int) (r2 : Int) (r3 : Int) (r4 : Int) (r5 : Int) (r6 : Int) (r7 : Int) (r8 : Int) (r9 : Bool) (w : World) (hr1 : Kd.C Kd.string w A1 l1.length l1) (hc1 : l1.length ≤ c1) (hL : Laid w) (h : parse_form_take.f k a0_0 a0_1 a0_2 a0_3 a0_4 a0_5 a0_6 a0_7 a0_8 l1 = some (r1, r2, r3, r4, r5, r6, r7, r8, r9)) :
    Calls Tryd.prog 41 #[.agg #[.int .i64 a0_0, .int .i64 a0_1, .int .i64 a0_2, .int .i64 a0_3, .int .i64 a0_4, .int .u8 a0_5, .int .u8 a0_6, .int .u64 a0_7, .string a0_8], .slice A1 l1.length c1] w fun e w' => e = .returned (.tuple #[.agg #[.int .i64 r1, .int .i64 r2, .int .i64 r3, .int .i64 r4, .int .i64 r5, .int .u8 r6, .int .u8 r7, .int .u64 r8], .bool r9]) ∧ Below w.heap.size w w' := by
  unfold parse_form_take.f at h
  obtain ⟨want, hA, h⟩ := Option.bind_eq_some_iff.1 h
  split at h
  · rename_i hlen
    exact take_eq k a0_0 a0_1 a0_2 a0_3 a0_4 a0_5 a0_6 a0_7 a0_8 A1 c1 l1 r1 r2 r3 r4 r5 r6 r7 r8 r9 w hr1 hc1 hL want hA hlen h
  · rename_i hlen
    exact take_ne k a0_0 a0_1 a0_2 a0_3 a0_4 a0_5 a0_6 a0_7 a0_8 A1 c1 l1 r1 r2 r3 r4 r5 r6 r7 r8 r9 w hr1 hc1 hL want hA hlen h
end Go.Proofs.YtjamaamkmfdnaaaDoor
