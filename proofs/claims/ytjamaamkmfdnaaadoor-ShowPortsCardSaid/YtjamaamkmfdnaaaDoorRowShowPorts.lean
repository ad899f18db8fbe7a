/- The law 'weirgatelaw24.ShowPorts': for every input the call returns true and the arguments read as they did; the listed package-level variables hold what the program's text lays. -/
import Derived.Test.YtjamaamkmfdnaaaDoorRowBase
import Derived.Test.YtjamaamkmfdnaaaDoorSLaw
import Derived.Test.YtjamaamkmfdnaaaDoorCards
import Derived.Test.YtjamaamkmfdnaaaDoorTie
namespace Go.Proofs.YtjamaamkmfdnaaaDoor.rowShowPorts
open Go.ChangeShapes Go.WideShapes Go.ChangeAt Go.RowKit Go.Proofs.YtjamaamkmfdnaaaDoor Go.Proofs.YtjamaamkmfdnaaaDoorW.PrintWords
open Go.ChangeMaps (open_string shut_string)
set_option linter.unusedVariables false
theorem laidOf {W : World} (h : laidMetH Tryd.prog Rows.showPortsRow.laid W) (hs : W.ShapedOpen Tryd.prog) : Laid W := by
  rw [MakeChecks.laidMetH_plain _ _ _ (by kernel_rfl)] at h
  exact { shaped := hs, pow10 := pow_of h (by kernel_rfl), errSyntax := sentinel_of (text := [105, 110, 118, 97, 108, 105, 100, 32, 115, 121, 110, 116, 97, 120]) h gSyn (by kernel_rfl) (by kernel_rfl), errRange := sentinel_of (text := [118, 97, 108, 117, 101, 32, 111, 117, 116, 32, 111, 102, 32, 114, 97, 110, 103, 101]) h gRan (by kernel_rfl) (by kernel_rfl) }
set_option maxRecDepth 100000 in
theorem contract (H : Type) (enc : TypeId × Value → H) (W : World) (base : Nat) (args : Array Value) (ds gs : List (DataW H)) (before : List MemPlace)
    (hval : ∀ (j : Nat) t v, Tryd.f3.params[j]? = some t → args[j]? = some v → Value.okWide Tryd.prog W .any base t v)
    (hW : DataW.Whole enc Tryd.prog Tryd.f3.params.toList Rows.showPortsSpec.vars false W args.toList ds gs before)
    (hsz : (DataW.weightsEach Tryd.prog (Tryd.f3.params.toList ++ (OpenSpec.ofChange Rows.showPortsSpec).bare.plain.varTypes Tryd.prog) (ds ++ gs)).all (· ≤ reachBytes) = true)
    (hL : laidMetH Tryd.prog Rows.showPortsRow.laid W) (hsh : W.ShapedOpen Tryd.prog) :
    Calls Tryd.prog 3 args W fun e W' => ∃ v, e = .returned v ∧ Rows.showPortsSpec.post enc Tryd.prog Tryd.f3 false true false false W args v W' := by
  have hLd := laidOf hL hsh
  have hW' := hW
  obtain ⟨p, q, hA0, hV, rfl, hfz, hnd⟩ := hW
  have hA : DataW.TrodAll enc Tryd.prog W 0 (fun _ => true) true Tryd.f3.params.toList args.toList ds p := hA0
  rw [Tryd.params3] at hA hval hsz
  obtain ⟨v0, vs0, d0, ds0, p0, q0, hargs, rfl, rfl, h0, r0⟩ := trodAll_cons hA
  obtain ⟨v1, vs1, d1, ds1, p1, q1, rfl, rfl, rfl, h1, r1⟩ := trodAll_cons r0
  obtain ⟨v2, vs2, d2, ds2, p2, q2, rfl, rfl, rfl, h2, r2⟩ := trodAll_cons r1
  obtain ⟨rfl, rfl, rfl⟩ := trodAll_nil r2
  obtain rfl : args = #[v0, v1, v2] := by cases args; simp_all
  obtain ⟨rfl, rfl⟩ := trodVars_none hV
  have k0 := h0
  have lt0 : ∀ x ∈ p0, x.block < W.heap.size := by obtain ⟨m, hm⟩ := k0; exact DataW.trod_lt m _ _ _ hm
  obtain ⟨a0, rfl, rfl, rfl, w0⟩ := open_int Tryd.underlying5 (hval 0 5 v0 rfl rfl) h0
  have b0 := wf_u8 w0
  have k1 := h1
  have lt1 : ∀ x ∈ p1, x.block < W.heap.size := by obtain ⟨m, hm⟩ := k1; exact DataW.trod_lt m _ _ _ hm
  obtain ⟨⟨l1⟩, rfl, z1⟩ := okWide_arr Tryd.underlying22 (hval 1 22 v1 rfl rfl)
  obtain ⟨q1_0, q1_1, rfl⟩ : ∃ q1_0 q1_1 : Value, l1 = [q1_0, q1_1] := by
    have hl : l1.length = 2 := z1.trans (by kernel_rfl)
    match l1, hl with
    | [q1_0, q1_1], _ => exact ⟨q1_0, q1_1, rfl⟩
  obtain ⟨fuel1, hf1⟩ := h1
  clear z1
  obtain ⟨_, _, g1_1⟩ := elem_of Tryd.underlying22 hf1 0 (by decide) 1 (by kernel_rfl)
  obtain ⟨_, _, g1_2⟩ := elem_of Tryd.underlying22 hf1 1 (by decide) 1 (by kernel_rfl)
  obtain ⟨a1_0, e1_0, w1_0⟩ := leaf_int Tryd.underlying5 g1_1
  have b1_0 := wf_u8 w1_0
  obtain ⟨a1_1, e1_1, w1_1⟩ := leaf_int Tryd.underlying5 g1_2
  have b1_1 := wf_u8 w1_1
  clear hf1 g1_1 g1_2
  subst e1_0 e1_1
  have k2 := h2
  have lt2 : ∀ x ∈ p2, x.block < W.heap.size := by obtain ⟨m, hm⟩ := k2; exact DataW.trod_lt m _ _ _ hm
  obtain ⟨⟨l2⟩, rfl, z2⟩ := okWide_struct Tryd.underlying26 (hval 2 26 v2 rfl rfl)
  obtain ⟨q2_0, q2_1, q2_2, q2_3, rfl⟩ : ∃ q2_0 q2_1 q2_2 q2_3 : Value, l2 = [q2_0, q2_1, q2_2, q2_3] := by
    have hl : l2.length = 4 := z2.trans (by kernel_rfl)
    match l2, hl with
    | [q2_0, q2_1, q2_2, q2_3], _ => exact ⟨q2_0, q2_1, q2_2, q2_3, rfl⟩
  obtain ⟨fuel2, hf2⟩ := h2
  clear z2
  obtain ⟨_, _, g2_1⟩ := field_of Tryd.underlying26 hf2 0 _ rfl 1 (by kernel_rfl)
  obtain ⟨_, _, g2_2⟩ := field_of Tryd.underlying26 hf2 1 _ rfl 1 (by kernel_rfl)
  obtain ⟨_, _, g2_3⟩ := field_of Tryd.underlying26 hf2 2 _ rfl 1 (by kernel_rfl)
  obtain ⟨_, _, g2_4⟩ := field_of Tryd.underlying26 hf2 3 _ rfl 1 (by kernel_rfl)
  obtain ⟨a2_0, e2_0, w2_0⟩ := leaf_int Tryd.underlying23 g2_1
  have b2_0 := wf_u64 w2_0
  obtain ⟨a2_1, e2_1, w2_1⟩ := leaf_int Tryd.underlying24 g2_2
  have b2_1 := wf_u32 w2_1
  obtain ⟨a2_2, e2_2, w2_2⟩ := leaf_int Tryd.underlying23 g2_3
  have b2_2 := wf_u64 w2_2
  obtain ⟨a2_3, e2_3, w2_3⟩ := leaf_int Tryd.underlying3 g2_4
  have b2_3 := wf_i64 w2_3
  clear hf2 g2_1 g2_2 g2_3 g2_4
  subst e2_0 e2_1 e2_2 e2_3
  refine (P.ports_int a0 a1_0 a1_1 a2_0 a2_1 a2_2 a2_3 W hLd b0 b1_0 b1_1 b2_0 b2_1 b2_2).mono fun e W' ⟨he, bel⟩ => ?_
  subst he
  exact ⟨_, rfl, _, _, _, [], _, [], hW', trodAll_mk1 (shut_bool Tryd.underlying4 _), (trodAll_cons_mk (Below.trod laidOut (by kernel_rfl) (of_decide_eq_true (by kernel_rfl)) k0 bel lt0) (trodAll_cons_mk (Below.trod laidOut (by kernel_rfl) (of_decide_eq_true (by kernel_rfl)) k1 bel lt1) (trodAll_cons_mk (Below.trod laidOut (by kernel_rfl) (of_decide_eq_true (by kernel_rfl)) k2 bel lt2) trodAll_mk0))), rfl, bel.frame _, fun h => by cases h⟩

set_option maxRecDepth 100000 in
theorem laid_met (os : Os) : laidMetH Tryd.prog Rows.showPortsRow.laid ((World.laidAll Tryd.prog os Rows.showPortsRow.laid).forCall (fun _ _ => 0) ⟨#[], #[.int .u8 0, .agg #[.int .u8 0, .int .u8 0], .agg #[.int .u64 0, .int .u32 0, .int .u64 0, .int .i64 0]], []⟩).memory := by
  rw [MakeChecks.laidMetH_plain _ _ _ (by kernel_rfl)]
  exact laidMet_laidAll _ (by kernel_rfl) (by kernel_rfl)
theorem reads (os : Os) {H : Type} (enc : TypeId × Value → H) : ∃ places, DataW.whole enc Tryd.prog ((World.laidAll Tryd.prog os Rows.showPortsRow.laid).forCall (fun _ _ => 0) ⟨#[], #[.int .u8 0, .agg #[.int .u8 0, .int .u8 0], .agg #[.int .u64 0, .int .u32 0, .int .u64 0, .int .i64 0]], []⟩).memory Tryd.f3.params.toList Rows.showPortsSpec.vars false (#[.int .u8 0, .agg #[.int .u8 0, .int .u8 0], .agg #[.int .u64 0, .int .u32 0, .int .u64 0, .int .i64 0]] : Array Value).toList 8 = some ([.lit (.int .u8 0), .agg [.lit (.int .u8 0), .lit (.int .u8 0)], .agg [.lit (.int .u64 0), .lit (.int .u32 0), .lit (.int .u64 0), .lit (.int .i64 0)]], [], places) :=
  ⟨[], by kernel_rfl⟩
set_option maxRecDepth 100000 in
theorem witness (os : Os) {H : Type} (enc : TypeId × Value → H) : ∃ (w : World) (tape : Tape) (i : Input), w.os = os ∧ (w.forCall tape i).Shaped Tryd.prog ∧ i.vars = [] ∧ Input.okWide Tryd.prog (w.forCall tape i) .any w.heap.size 3 i ∧
    (OpenSpec.ofChange Rows.showPortsSpec).preRow enc Tryd.prog Tryd.f3 Rows.showPortsRow.domain false Rows.showPortsRow.laid (w.forCall tape i).memory i.args ∧ ({ modest := false } : Assume).holds Tryd.prog (lone (Frame.enter Tryd.prog 3 i.args .normal) [] (w.forCall tape i)) := by
  obtain ⟨places, hx⟩ := reads os enc
  have hok : Input.okWideB Tryd.prog ((World.laidAll Tryd.prog os Rows.showPortsRow.laid).forCall (fun _ _ => 0) ⟨#[], #[.int .u8 0, .agg #[.int .u8 0, .int .u8 0], .agg #[.int .u64 0, .int .u32 0, .int .u64 0, .int .i64 0]], []⟩) 3 ⟨#[], #[.int .u8 0, .agg #[.int .u8 0, .int .u8 0], .agg #[.int .u64 0, .int .u32 0, .int .u64 0, .int .i64 0]], []⟩ = true := by kernel_rfl
  exact ⟨World.laidAll Tryd.prog os Rows.showPortsRow.laid, fun _ _ => 0, ⟨#[], #[.int .u8 0, .agg #[.int .u8 0, .int .u8 0], .agg #[.int .u64 0, .int .u32 0, .int .u64 0, .int .i64 0]], []⟩, World.laidAll_os _ _ _, World.shaped_of_ZipB (by kernel_rfl) (by kernel_rfl), (Input.okWide_of_okWideB (base := 0) hok).1, (Input.okWide_of_okWideB hok).2,
    OpenSpec.preRow_of_cond 8 hx (by kernel_rfl) (fun k hk => by cases hk) (by kernel_rfl) (laid_met os), by
      simp only [Assume.holds]
      exact ⟨by simp, by simp, fun _ => Modest.zero, by simp, by simp⟩⟩

set_option maxRecDepth 100000 in
theorem lifted (os : Os) (started : os.Started) (H : Type) (enc : TypeId × Value → H) (F : Stop.Interp) :
    ReturnsInHanded {} Tryd.checked os 3 .any ((OpenSpec.ofChange Rows.showPortsSpec).preRow enc Tryd.prog Tryd.f3 Rows.showPortsRow.domain false Rows.showPortsRow.laid) (((OpenSpec.ofChange Rows.showPortsSpec).at F).post enc Tryd.prog Tryd.f3 false true false false) := by
  refine returnsInHanded_of_row (C := Tryd.checked) (s := OpenSpec.ofChange Rows.showPortsSpec) own started (by kernel_rfl) Tryd.func3 (witness os enc) ?_
  intro W base args ds gs before hval hW _ _ hsz hL hsh _
  exact contract H enc W base args ds gs before hval hW hsz hL hsh
theorem said : Rows.ShowPortsSaid :=
  OpenClaim.holds_of_cond 3 Tryd.f3 rfl rfl rfl rfl rfl rfl rfl ⟨rfl, rfl, rfl, rfl, rfl⟩ rfl rfl rfl rfl rfl (by kernel_rfl) Tryd.func3 (by kernel_rfl)
    (of_decide_eq_true (by kernel_rfl)) (by unfold Func.isWrapper; first | (rw [if_pos (by decide +kernel)]; kernel_rfl) | (rw [if_neg (by decide +kernel)]; exact ⟨rfl, rfl⟩))
    (fun os started H enc _ F => by rw [OpenClaim.pre_eq_preRow]; exact lifted os started H enc F)

theorem plain (f : FuncId) (fn : Func) (hf : Tryd.pinned.checked.prog.funcNamed "weirgate/weirgatelaw24.ShowPorts" = some f) (hfn : Tryd.pinned.checked.prog.funcs[f]? = some fn) :
    true = Tryd.pinned.checked.prog.looks [] ∧ ∀ (j : Nat) t, fn.params[j]? = some t → Tryd.pinned.checked.prog.wantsStandIn t = false := by
  obtain rfl : f = 3 := Option.some.inj ((show Tryd.prog.funcNamed "weirgate/weirgatelaw24.ShowPorts" = some 3 by kernel_rfl).symm.trans hf) |>.symm
  obtain rfl : fn = Tryd.f3 := (Option.some.inj (Tryd.func3.symm.trans hfn)).symm
  refine ⟨by kernel_rfl, fun j t ht => ?_⟩
  rw [Tryd.params3] at ht
  have hm : t ∈ [5, 22, 26] := by simpa using Array.mem_of_getElem? ht
  have hall : ([5, 22, 26].all fun u => !Tryd.prog.wantsStandIn u) = true := by kernel_rfl
  exact (show Tryd.prog.wantsStandIn t = false by simpa using List.all_eq_true.1 hall t hm)
theorem card : Rows.ShowPortsCardSaid :=
  Claim7.holds_tied_plain_at .later [] _ _ _ _ said (fun _ h => by cases h) (by kernel_rfl) (fun _ h => by cases h) showPorts_row_tie rfl ⟨rfl, rfl⟩ (by kernel_rfl) rfl plain (by kernel_rfl)
#print axioms card
end Go.Proofs.YtjamaamkmfdnaaaDoor.rowShowPorts
namespace Go.Proofs.YtjamaamkmfdnaaaDoor
/-- The statement, under a short name. -/
theorem showPorts_holds : Rows.ShowPortsCardSaid := rowShowPorts.card
end Go.Proofs.YtjamaamkmfdnaaaDoor
