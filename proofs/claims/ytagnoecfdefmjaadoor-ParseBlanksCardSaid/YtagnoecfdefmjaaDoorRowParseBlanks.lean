/- The law 'weirgatelaw22.ParseBlanks': for every input the call returns true and the arguments read as they did; the listed package-level variables hold what the program's text lays. -/
import Derived.Test.YtagnoecfdefmjaaDoorRowBase
import Derived.Test.YtagnoecfdefmjaaDoorPBlanks
import Derived.Test.YtagnoecfdefmjaaDoorCards
import Derived.Test.YtagnoecfdefmjaaDoorTie
namespace Go.Proofs.YtagnoecfdefmjaaDoor.rowParseBlanks
open Go.ChangeShapes Go.WideShapes Go.ChangeAt Go.RowKit Go.Proofs.YtagnoecfdefmjaaDoor Go.Proofs.YtagnoecfdefmjaaDoorW.PrintWords
open Go.ChangeMaps (open_string shut_string)
set_option linter.unusedVariables false
theorem laidOf {W : World} (h : laidMetH Tryd.prog Rows.parseBlanksRow.laid W) (hs : W.ShapedOpen Tryd.prog) : Laid W := by
  rw [MakeChecks.laidMetH_plain _ _ _ (by kernel_rfl)] at h
  exact { shaped := hs, pow10 := pow_of h (by kernel_rfl), errSyntax := sentinel_of (text := [105, 110, 118, 97, 108, 105, 100, 32, 115, 121, 110, 116, 97, 120]) h gSyn (by kernel_rfl) (by kernel_rfl), errRange := sentinel_of (text := [118, 97, 108, 117, 101, 32, 111, 117, 116, 32, 111, 102, 32, 114, 97, 110, 103, 101]) h gRan (by kernel_rfl) (by kernel_rfl) }
set_option maxRecDepth 100000 in
theorem contract (H : Type) (enc : TypeId × Value → H) (W : World) (base : Nat) (args : Array Value) (ds gs : List (DataW H)) (before : List MemPlace)
    (hval : ∀ (j : Nat) t v, Tryd.f6.params[j]? = some t → args[j]? = some v → Value.okWide Tryd.prog W .any base t v)
    (hW : DataW.Whole enc Tryd.prog Tryd.f6.params.toList Rows.parseBlanksSpec.vars false W args.toList ds gs before)
    (hsz : (DataW.weightsEach Tryd.prog (Tryd.f6.params.toList ++ (OpenSpec.ofChange Rows.parseBlanksSpec).bare.plain.varTypes Tryd.prog) (ds ++ gs)).all (· ≤ reachBytes) = true)
    (hL : laidMetH Tryd.prog Rows.parseBlanksRow.laid W) (hsh : W.ShapedOpen Tryd.prog) :
    Calls Tryd.prog 6 args W fun e W' => ∃ v, e = .returned v ∧ Rows.parseBlanksSpec.post enc Tryd.prog Tryd.f6 false true false false W args v W' := by
  have hLd := laidOf hL hsh
  have hW' := hW
  obtain ⟨p, q, hA0, hV, rfl, hfz, hnd⟩ := hW
  have hA : DataW.TrodAll enc Tryd.prog W 0 (fun _ => true) true Tryd.f6.params.toList args.toList ds p := hA0
  rw [Tryd.params6] at hA hval hsz
  obtain ⟨v0, vs0, d0, ds0, p0, q0, hargs, rfl, rfl, h0, r0⟩ := trodAll_cons hA
  obtain ⟨v1, vs1, d1, ds1, p1, q1, rfl, rfl, rfl, h1, r1⟩ := trodAll_cons r0
  obtain ⟨rfl, rfl, rfl⟩ := trodAll_nil r1
  obtain rfl : args = #[v0, v1] := by cases args; simp_all
  obtain ⟨rfl, rfl⟩ := trodVars_none hV
  have k0 := h0
  have lt0 : ∀ x ∈ p0, x.block < W.heap.size := by obtain ⟨m, hm⟩ := k0; exact DataW.trod_lt m _ _ _ hm
  obtain ⟨⟨l0⟩, rfl, z0⟩ := okWide_struct Tryd.underlying27 (hval 0 27 v0 rfl rfl)
  obtain ⟨q0_0, q0_1, q0_2, q0_3, q0_4, q0_5, q0_6, q0_7, rfl⟩ : ∃ q0_0 q0_1 q0_2 q0_3 q0_4 q0_5 q0_6 q0_7 : Value, l0 = [q0_0, q0_1, q0_2, q0_3, q0_4, q0_5, q0_6, q0_7] := by
    have hl : l0.length = 8 := z0.trans (by kernel_rfl)
    match l0, hl with
    | [q0_0, q0_1, q0_2, q0_3, q0_4, q0_5, q0_6, q0_7], _ => exact ⟨q0_0, q0_1, q0_2, q0_3, q0_4, q0_5, q0_6, q0_7, rfl⟩
  obtain ⟨fuel0, hf0⟩ := h0
  clear z0
  obtain ⟨_, _, g0_1⟩ := field_of Tryd.underlying27 hf0 0 _ rfl 1 (by kernel_rfl)
  obtain ⟨_, _, g0_2⟩ := field_of Tryd.underlying27 hf0 1 _ rfl 7 (by kernel_rfl)
  obtain ⟨_, _, g0_3⟩ := field_of Tryd.underlying25 g0_2 0 _ rfl 1 (by kernel_rfl)
  obtain ⟨_, _, g0_4⟩ := field_of Tryd.underlying25 g0_2 1 _ rfl 1 (by kernel_rfl)
  obtain ⟨_, _, g0_5⟩ := field_of Tryd.underlying25 g0_2 2 _ rfl 1 (by kernel_rfl)
  obtain ⟨_, _, g0_6⟩ := field_of Tryd.underlying25 g0_2 3 _ rfl 1 (by kernel_rfl)
  obtain ⟨_, _, g0_7⟩ := field_of Tryd.underlying25 g0_2 4 _ rfl 1 (by kernel_rfl)
  obtain ⟨_, _, g0_8⟩ := field_of Tryd.underlying25 g0_2 5 _ rfl 1 (by kernel_rfl)
  obtain ⟨_, _, g0_9⟩ := field_of Tryd.underlying25 g0_2 6 _ rfl 1 (by kernel_rfl)
  obtain ⟨a0_0, e0_0, w0_0⟩ := leaf_int Tryd.underlying3 g0_1
  have b0_0 := wf_i64 w0_0
  obtain ⟨a0_1, e0_1, w0_1⟩ := leaf_int Tryd.underlying3 g0_3
  have b0_1 := wf_i64 w0_1
  obtain ⟨a0_2, e0_2, w0_2⟩ := leaf_int Tryd.underlying3 g0_4
  have b0_2 := wf_i64 w0_2
  obtain ⟨a0_3, e0_3, w0_3⟩ := leaf_int Tryd.underlying3 g0_5
  have b0_3 := wf_i64 w0_3
  obtain ⟨a0_4, e0_4, w0_4⟩ := leaf_int Tryd.underlying3 g0_6
  have b0_4 := wf_i64 w0_4
  obtain ⟨a0_5, e0_5, w0_5⟩ := leaf_int Tryd.underlying5 g0_7
  have b0_5 := wf_u8 w0_5
  obtain ⟨a0_6, e0_6, w0_6⟩ := leaf_int Tryd.underlying5 g0_8
  have b0_6 := wf_u8 w0_6
  obtain ⟨a0_7, e0_7, w0_7⟩ := leaf_int Tryd.underlying23 g0_9
  have b0_7 := wf_u64 w0_7
  clear hf0 g0_1 g0_2 g0_3 g0_4 g0_5 g0_6 g0_7 g0_8 g0_9
  subst e0_0 e0_1 e0_2 e0_3 e0_4 e0_5 e0_6 e0_7
  have k1 := h1
  have lt1 : ∀ x ∈ p1, x.block < W.heap.size := by obtain ⟨m, hm⟩ := k1; exact DataW.trod_lt m _ _ _ hm
  obtain ⟨a1, rfl, rfl, rfl, w1⟩ := open_int Tryd.underlying5 (hval 1 5 v1 rfl rfl) h1
  have b1 := wf_u8 w1
  obtain ⟨k, hk⟩ : ∃ k, X.weirgatelaw22_ParseBlanks.f k a0_0 a0_1 a0_2 a0_3 a0_4 a0_5 a0_6 a0_7 a1 = some true := P.blank ⟨a0_0, a0_1, a0_2, a0_3, a0_4, a0_5, a0_6, a0_7⟩ ⟨b0_3.1, b0_3.2, b0_2.1, b0_2.2, b0_4.1, b0_4.2, b0_5.1, b0_5.2, b0_6.1, b0_6.2, b0_7.1, b0_7.2⟩ a1 b1.1 b1.2
  refine (X.weirgatelaw22_ParseBlanks.calls k a0_0 a0_1 a0_2 a0_3 a0_4 a0_5 a0_6 a0_7 a1 true W  hLd hk).mono fun e W' ⟨he, bel⟩ => ?_
  subst he
  exact ⟨_, rfl, _, _, _, [], _, [], hW', trodAll_mk1 (shut_bool Tryd.underlying4 _), (trodAll_cons_mk (Below.trod laidOut (by kernel_rfl) (of_decide_eq_true (by kernel_rfl)) k0 bel lt0) (trodAll_cons_mk (Below.trod laidOut (by kernel_rfl) (of_decide_eq_true (by kernel_rfl)) k1 bel lt1) trodAll_mk0)), rfl, bel.frame _, fun h => by cases h⟩

set_option maxRecDepth 100000 in
theorem laid_met (os : Os) : laidMetH Tryd.prog Rows.parseBlanksRow.laid ((World.laidAll Tryd.prog os Rows.parseBlanksRow.laid).forCall (fun _ _ => 0) ⟨#[], #[.agg #[.int .i64 0, .int .i64 0, .int .i64 0, .int .i64 0, .int .i64 0, .int .u8 0, .int .u8 0, .int .u64 0], .int .u8 0], []⟩).memory := by
  rw [MakeChecks.laidMetH_plain _ _ _ (by kernel_rfl)]
  exact laidMet_laidAll _ (by kernel_rfl) (by kernel_rfl)
theorem reads (os : Os) {H : Type} (enc : TypeId × Value → H) : ∃ places, DataW.whole enc Tryd.prog ((World.laidAll Tryd.prog os Rows.parseBlanksRow.laid).forCall (fun _ _ => 0) ⟨#[], #[.agg #[.int .i64 0, .int .i64 0, .int .i64 0, .int .i64 0, .int .i64 0, .int .u8 0, .int .u8 0, .int .u64 0], .int .u8 0], []⟩).memory Tryd.f6.params.toList Rows.parseBlanksSpec.vars false (#[.agg #[.int .i64 0, .int .i64 0, .int .i64 0, .int .i64 0, .int .i64 0, .int .u8 0, .int .u8 0, .int .u64 0], .int .u8 0] : Array Value).toList 8 = some ([.agg [.lit (.int .i64 0), .agg [.lit (.int .i64 0), .lit (.int .i64 0), .lit (.int .i64 0), .lit (.int .i64 0), .lit (.int .u8 0), .lit (.int .u8 0), .lit (.int .u64 0)]], .lit (.int .u8 0)], [], places) :=
  ⟨[], by kernel_rfl⟩
set_option maxRecDepth 100000 in
theorem witness (os : Os) {H : Type} (enc : TypeId × Value → H) : ∃ (w : World) (tape : Tape) (i : Input), w.os = os ∧ (w.forCall tape i).Shaped Tryd.prog ∧ i.vars = [] ∧ Input.okWide Tryd.prog (w.forCall tape i) .any w.heap.size 6 i ∧
    (OpenSpec.ofChange Rows.parseBlanksSpec).preRow enc Tryd.prog Tryd.f6 Rows.parseBlanksRow.domain false Rows.parseBlanksRow.laid (w.forCall tape i).memory i.args ∧ ({ modest := false } : Assume).holds Tryd.prog (lone (Frame.enter Tryd.prog 6 i.args .normal) [] (w.forCall tape i)) := by
  obtain ⟨places, hx⟩ := reads os enc
  have hok : Input.okWideB Tryd.prog ((World.laidAll Tryd.prog os Rows.parseBlanksRow.laid).forCall (fun _ _ => 0) ⟨#[], #[.agg #[.int .i64 0, .int .i64 0, .int .i64 0, .int .i64 0, .int .i64 0, .int .u8 0, .int .u8 0, .int .u64 0], .int .u8 0], []⟩) 6 ⟨#[], #[.agg #[.int .i64 0, .int .i64 0, .int .i64 0, .int .i64 0, .int .i64 0, .int .u8 0, .int .u8 0, .int .u64 0], .int .u8 0], []⟩ = true := by kernel_rfl
  exact ⟨World.laidAll Tryd.prog os Rows.parseBlanksRow.laid, fun _ _ => 0, ⟨#[], #[.agg #[.int .i64 0, .int .i64 0, .int .i64 0, .int .i64 0, .int .i64 0, .int .u8 0, .int .u8 0, .int .u64 0], .int .u8 0], []⟩, World.laidAll_os _ _ _, World.shaped_of_ZipB (by kernel_rfl) (by kernel_rfl), (Input.okWide_of_okWideB (base := 0) hok).1, (Input.okWide_of_okWideB hok).2,
    OpenSpec.preRow_of_cond 8 hx (by kernel_rfl) (fun k hk => by cases hk) (by kernel_rfl) (laid_met os), by
      simp only [Assume.holds]
      exact ⟨by simp, by simp, fun _ => Modest.zero, by simp, by simp⟩⟩

set_option maxRecDepth 100000 in
theorem lifted (os : Os) (started : os.Started) (H : Type) (enc : TypeId × Value → H) (F : Stop.Interp) :
    ReturnsInHanded {} Tryd.checked os 6 .any ((OpenSpec.ofChange Rows.parseBlanksSpec).preRow enc Tryd.prog Tryd.f6 Rows.parseBlanksRow.domain false Rows.parseBlanksRow.laid) (((OpenSpec.ofChange Rows.parseBlanksSpec).at F).post enc Tryd.prog Tryd.f6 false true false false) := by
  refine returnsInHanded_of_row (C := Tryd.checked) (s := OpenSpec.ofChange Rows.parseBlanksSpec) own started (by kernel_rfl) Tryd.func6 (witness os enc) ?_
  intro W base args ds gs before hval hW _ _ hsz hL hsh _
  exact contract H enc W base args ds gs before hval hW hsz hL hsh
theorem said : Rows.ParseBlanksSaid :=
  OpenClaim.holds_of_cond 6 Tryd.f6 rfl rfl rfl rfl rfl rfl rfl ⟨rfl, rfl, rfl, rfl, rfl⟩ rfl rfl rfl rfl rfl (by kernel_rfl) Tryd.func6 (by kernel_rfl)
    (of_decide_eq_true (by kernel_rfl)) (by unfold Func.isWrapper; first | (rw [if_pos (by decide +kernel)]; kernel_rfl) | (rw [if_neg (by decide +kernel)]; exact ⟨rfl, rfl⟩))
    (fun os started H enc _ F => by rw [OpenClaim.pre_eq_preRow]; exact lifted os started H enc F)

theorem plain (f : FuncId) (fn : Func) (hf : Tryd.pinned.checked.prog.funcNamed "weirgate/weirgatelaw22.ParseBlanks" = some f) (hfn : Tryd.pinned.checked.prog.funcs[f]? = some fn) :
    true = Tryd.pinned.checked.prog.looks [] ∧ ∀ (j : Nat) t, fn.params[j]? = some t → Tryd.pinned.checked.prog.wantsStandIn t = false := by
  obtain rfl : f = 6 := Option.some.inj ((show Tryd.prog.funcNamed "weirgate/weirgatelaw22.ParseBlanks" = some 6 by kernel_rfl).symm.trans hf) |>.symm
  obtain rfl : fn = Tryd.f6 := (Option.some.inj (Tryd.func6.symm.trans hfn)).symm
  refine ⟨by kernel_rfl, fun j t ht => ?_⟩
  rw [Tryd.params6] at ht
  have hm : t ∈ [27, 5] := by simpa using Array.mem_of_getElem? ht
  have hall : ([27, 5].all fun u => !Tryd.prog.wantsStandIn u) = true := by kernel_rfl
  exact (show Tryd.prog.wantsStandIn t = false by simpa using List.all_eq_true.1 hall t hm)
theorem card : Rows.ParseBlanksCardSaid :=
  Claim7.holds_tied_plain_at .later [] _ _ _ _ said (fun _ h => by cases h) (by kernel_rfl) (fun _ h => by cases h) parseBlanks_row_tie rfl ⟨rfl, rfl⟩ (by kernel_rfl) rfl plain (by kernel_rfl)
#print axioms card
end Go.Proofs.YtagnoecfdefmjaaDoor.rowParseBlanks
namespace Go.Proofs.YtagnoecfdefmjaaDoor
/-- The statement, under a short name. -/
theorem parseBlanks_holds : Rows.ParseBlanksCardSaid := rowParseBlanks.card
end Go.Proofs.YtagnoecfdefmjaaDoor
