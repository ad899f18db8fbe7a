-- WRITTEN BY A PROGRAM OF THIS CLAIM'S SESSION (xprint.py, over the kit's print): functions, contracts. Lean checks it.
import Derived.Test.YtjamaamkmfdnaaaDoorXx0
import Derived.Test.YtjamaamkmfdnaaaDoorXx2
import Derived.Test.YtjamaamkmfdnaaaDoorXx3
namespace Go.Proofs.YtjamaamkmfdnaaaDoor.X
open Go.RowKit Go.Proofs.YtjamaamkmfdnaaaDoorW.PrintWords Go.Proofs.YtjamaamkmfdnaaaDoorW.PrintLast Go.Proofs.YtjamaamkmfdnaaaDoorW.PrintMore
attribute [local go_sem] max2_int min2_int max_two min_two max_three min_three max_four min_four   -- for this text's walks alone
set_option linter.unusedVariables false
set_option linter.unusedSimpArgs false

/-! ### show_Port: function 5 -/
def show_Port.f (k : Nat) (a0 : Int) (a1_0 : Bool) (a1_1 : Int) (a1_2 : Bool) (a1_3 : Int) (a1_4 : Int) (a1_5 : Int) (a1_6 : Int) (a1_7 : Int) (a1_8 : Int) (a1_9 : Int) (a1_10 : Int) (a1_11 : Int) (a1_12 : Bool) : Option (ByteArray) := (show_name.f a1_9 (([(⟨#[100, 105, 115, 97, 98, 108, 101, 100]⟩ : ByteArray), (⟨#[97, 108, 116, 101, 114, 110, 97, 116, 101]⟩ : ByteArray), (⟨#[114, 111, 111, 116]⟩ : ByteArray), (⟨#[100, 101, 115, 105, 103, 110, 97, 116, 101, 100]⟩ : ByteArray), (⟨#[98, 97, 99, 107, 117, 112]⟩ : ByteArray)] : List ByteArray))).bind fun t179 => ((show_name.f a1_10 (([(⟨#[100, 105, 115, 99, 97, 114, 100, 105, 110, 103]⟩ : ByteArray), (⟨#[108, 101, 97, 114, 110, 105, 110, 103]⟩ : ByteArray), (⟨#[102, 111, 114, 119, 97, 114, 100, 105, 110, 103]⟩ : ByteArray)] : List ByteArray))).bind fun t183 => (if a1_2 = true then ((words_Text.f a0).bind fun t189 => ((show_long.f a1_3).bind fun t190 => ((show_long.f a1_5).bind fun t191 => ((show_long.f (IntKind.u64.wrap (a1_4))).bind fun t192 => ((words_Join.f k (([(⟨#[112, 111, 114, 116]⟩ : ByteArray), t189, t179, t183, (⟨#[114, 111, 111, 116]⟩ : ByteArray), t190, (⟨#[102, 114, 111, 109]⟩ : ByteArray), t191, (⟨#[99, 111, 115, 116]⟩ : ByteArray), t192] : List ByteArray))).bind fun t196 => (some t196)))))) else ((words_Text.f a0).bind fun t184 => ((words_Join.f k (([(⟨#[112, 111, 114, 116]⟩ : ByteArray), t184, t179, t183, (⟨#[115, 105, 108, 101, 110, 116]⟩ : ByteArray)] : List ByteArray))).bind fun t188 => (some t188)))))
theorem show_Port.mono : ∀ a0 a1 a2 a3 a4 a5 a6 a7 a8 a9 a10 a11 a12 a13 k, LeO (show_Port.f k a0 a1 a2 a3 a4 a5 a6 a7 a8 a9 a10 a11 a12 a13) (show_Port.f (k + 1) a0 a1 a2 a3 a4 a5 a6 a7 a8 a9 a10 a11 a12 a13) := by
  intro a0 a1 a2 a3 a4 a5 a6 a7 a8 a9 a10 a11 a12 a13 k
  unfold show_Port.f
  repeat' first
      | (with_reducible exact words_Join.mono _ _)
      | (with_reducible exact LeO.refl _)
      | (with_reducible exact LeO.none _)
      | (with_reducible refine LeO.ite ?_ ?_)
      | (with_reducible refine LeO.bind ?_ (fun _ => ?_))
      | exact words_Join.mono _ _
      | exact LeO.none _
      | refine LeO.ite ?_ ?_
      | refine LeO.bind ?_ (fun _ => ?_)
def show_Port.T5 : Bool × List (List Nat × List Nat) := (true, [([], []), ([0], [0]), ([], []), ([], []), ([], []), ([4], [4]), ([5], [5]), ([6], [6]), ([7], [7]), ([8, 1], [8]), ([], []), ([10], [10]), ([11], [11]), ([12], [12]), ([13], [13]), ([14, 9], [14]), ([], []), ([16], [16]), ([17], [17]), ([18], [18]), ([19], [19]), ([20], [20]), ([21, 15], [21]), ([1, 2, 3, 9, 15, 22], [1, 2, 3, 9, 15, 22]), ([23, 22], [23]), ([24, 24, 0, 1, 2, 3, 4, 5, 6, 7, 8, 9, 10, 11, 12, 13, 14, 15, 16, 17, 18, 19, 20, 21, 22, 23, 24], [24])])
def show_Port.B5 : List Nat := [0, 1, 0, 0, 0, 16, 48, 112, 240, 499, 0, 1024, 3072, 7168, 15360, 32755, 0, 65536, 196608, 458752, 983040, 2031616, 4194291, 8388607, 16777215, 33554431]
theorem show_Port.tab5 : rtab .any (opsOf Tryd.f5 5) = show_Port.T5 := by kernel_rfl
theorem show_Port.bits5 : waitsOk show_Port.T5.2 show_Port.B5 = true := by kernel_rfl
set_option maxHeartbeats 8000000 in
set_option maxRecDepth 100000 in
theorem show_Port.calls (k : Nat) (a0 : Int) (a1_0 : Bool) (a1_1 : Int) (a1_2 : Bool) (a1_3 : Int) (a1_4 : Int) (a1_5 : Int) (a1_6 : Int) (a1_7 : Int) (a1_8 : Int) (a1_9 : Int) (a1_10 : Int) (a1_11 : Int) (a1_12 : Bool) (r : ByteArray) (w : World) (hL : Laid w) (h : show_Port.f k a0 a1_0 a1_1 a1_2 a1_3 a1_4 a1_5 a1_6 a1_7 a1_8 a1_9 a1_10 a1_11 a1_12 = some r) :
    Calls Tryd.prog 5 #[.int .i64 a0, .agg #[.bool a1_0, .int .u32 a1_1, .bool a1_2, .int .u64 a1_3, .int .u32 a1_4, .int .u64 a1_5, .int .i64 a1_6, .int .i64 a1_7, .int .i64 a1_8, .int .i64 a1_9, .int .i64 a1_10, .int .i64 a1_11, .bool a1_12]] w fun e w' => e = .returned (.string r) ∧ Below w.heap.size w w' := by
  have hu33 := Tryd.underlying33
  have HB := Aside0.mk (Below.refl w.heap.size w)
  have H : ((show_name.f a1_9 (([(⟨#[100, 105, 115, 97, 98, 108, 101, 100]⟩ : ByteArray), (⟨#[97, 108, 116, 101, 114, 110, 97, 116, 101]⟩ : ByteArray), (⟨#[114, 111, 111, 116]⟩ : ByteArray), (⟨#[100, 101, 115, 105, 103, 110, 97, 116, 101, 100]⟩ : ByteArray), (⟨#[98, 97, 99, 107, 117, 112]⟩ : ByteArray)] : List ByteArray))).bind fun t179 => ((show_name.f a1_10 (([(⟨#[100, 105, 115, 99, 97, 114, 100, 105, 110, 103]⟩ : ByteArray), (⟨#[108, 101, 97, 114, 110, 105, 110, 103]⟩ : ByteArray), (⟨#[102, 111, 114, 119, 97, 114, 100, 105, 110, 103]⟩ : ByteArray)] : List ByteArray))).bind fun t183 => (if a1_2 = true then ((words_Text.f a0).bind fun t189 => ((show_long.f a1_3).bind fun t190 => ((show_long.f a1_5).bind fun t191 => ((show_long.f (IntKind.u64.wrap (a1_4))).bind fun t192 => ((words_Join.f k (([(⟨#[112, 111, 114, 116]⟩ : ByteArray), t189, t179, t183, (⟨#[114, 111, 111, 116]⟩ : ByteArray), t190, (⟨#[102, 114, 111, 109]⟩ : ByteArray), t191, (⟨#[99, 111, 115, 116]⟩ : ByteArray), t192] : List ByteArray))).bind fun t196 => (some t196)))))) else ((words_Text.f a0).bind fun t184 => ((words_Join.f k (([(⟨#[112, 111, 114, 116]⟩ : ByteArray), t184, t179, t183, (⟨#[115, 105, 108, 101, 110, 116]⟩ : ByteArray)] : List ByteArray))).bind fun t188 => (some t188)))))) = some r := h
  clear h
  obtain ⟨y176, hy176⟩ : ∃ y_ : List ByteArray, y_ = (([(⟨#[100, 105, 115, 97, 98, 108, 101, 100]⟩ : ByteArray), (⟨#[97, 108, 116, 101, 114, 110, 97, 116, 101]⟩ : ByteArray), (⟨#[114, 111, 111, 116]⟩ : ByteArray), (⟨#[100, 101, 115, 105, 103, 110, 97, 116, 101, 100]⟩ : ByteArray), (⟨#[98, 97, 99, 107, 117, 112]⟩ : ByteArray)] : List ByteArray)) := ⟨_, rfl⟩
  replace H : ((show_name.f a1_9 y176).bind fun t179 => ((show_name.f a1_10 (([(⟨#[100, 105, 115, 99, 97, 114, 100, 105, 110, 103]⟩ : ByteArray), (⟨#[108, 101, 97, 114, 110, 105, 110, 103]⟩ : ByteArray), (⟨#[102, 111, 114, 119, 97, 114, 100, 105, 110, 103]⟩ : ByteArray)] : List ByteArray))).bind fun t183 => (if a1_2 = true then ((words_Text.f a0).bind fun t189 => ((show_long.f a1_3).bind fun t190 => ((show_long.f a1_5).bind fun t191 => ((show_long.f (IntKind.u64.wrap (a1_4))).bind fun t192 => ((words_Join.f k (([(⟨#[112, 111, 114, 116]⟩ : ByteArray), t189, t179, t183, (⟨#[114, 111, 111, 116]⟩ : ByteArray), t190, (⟨#[102, 114, 111, 109]⟩ : ByteArray), t191, (⟨#[99, 111, 115, 116]⟩ : ByteArray), t192] : List ByteArray))).bind fun t196 => (some t196)))))) else ((words_Text.f a0).bind fun t184 => ((words_Join.f k (([(⟨#[112, 111, 114, 116]⟩ : ByteArray), t184, t179, t183, (⟨#[115, 105, 108, 101, 110, 116]⟩ : ByteArray)] : List ByteArray))).bind fun t188 => (some t188)))))) = some r := by first | (rw [hy176]; with_reducible exact H) | (have H2_ := (Option.bind_some _ _).symm.trans H; rw [hy176]; with_reducible exact H2_) | (have H2_ := (Option.bind_some _ _).symm.trans H; with_reducible exact H2_) | with_reducible exact H | (rw [hy176]; exact H) | exact H
  have Ny176 := Aside0.mk hy176
  clear hy176
  replace H := Option.bind_eq_some_iff.mp H
  obtain ⟨t179, A30, H⟩ := H
  replace H : ((show_name.f a1_10 (([(⟨#[100, 105, 115, 99, 97, 114, 100, 105, 110, 103]⟩ : ByteArray), (⟨#[108, 101, 97, 114, 110, 105, 110, 103]⟩ : ByteArray), (⟨#[102, 111, 114, 119, 97, 114, 100, 105, 110, 103]⟩ : ByteArray)] : List ByteArray))).bind fun t183 => (if a1_2 = true then ((words_Text.f a0).bind fun t189 => ((show_long.f a1_3).bind fun t190 => ((show_long.f a1_5).bind fun t191 => ((show_long.f (IntKind.u64.wrap (a1_4))).bind fun t192 => ((words_Join.f k (([(⟨#[112, 111, 114, 116]⟩ : ByteArray), t189, t179, t183, (⟨#[114, 111, 111, 116]⟩ : ByteArray), t190, (⟨#[102, 114, 111, 109]⟩ : ByteArray), t191, (⟨#[99, 111, 115, 116]⟩ : ByteArray), t192] : List ByteArray))).bind fun t196 => (some t196)))))) else ((words_Text.f a0).bind fun t184 => ((words_Join.f k (([(⟨#[112, 111, 114, 116]⟩ : ByteArray), t184, t179, t183, (⟨#[115, 105, 108, 101, 110, 116]⟩ : ByteArray)] : List ByteArray))).bind fun t188 => (some t188))))) = some r := H
  have A3 := Aside0.mk A30
  clear A30
  obtain ⟨y180, hy180⟩ : ∃ y_ : List ByteArray, y_ = (([(⟨#[100, 105, 115, 99, 97, 114, 100, 105, 110, 103]⟩ : ByteArray), (⟨#[108, 101, 97, 114, 110, 105, 110, 103]⟩ : ByteArray), (⟨#[102, 111, 114, 119, 97, 114, 100, 105, 110, 103]⟩ : ByteArray)] : List ByteArray)) := ⟨_, rfl⟩
  replace H : ((show_name.f a1_10 y180).bind fun t183 => (if a1_2 = true then ((words_Text.f a0).bind fun t189 => ((show_long.f a1_3).bind fun t190 => ((show_long.f a1_5).bind fun t191 => ((show_long.f (IntKind.u64.wrap (a1_4))).bind fun t192 => ((words_Join.f k (([(⟨#[112, 111, 114, 116]⟩ : ByteArray), t189, t179, t183, (⟨#[114, 111, 111, 116]⟩ : ByteArray), t190, (⟨#[102, 114, 111, 109]⟩ : ByteArray), t191, (⟨#[99, 111, 115, 116]⟩ : ByteArray), t192] : List ByteArray))).bind fun t196 => (some t196)))))) else ((words_Text.f a0).bind fun t184 => ((words_Join.f k (([(⟨#[112, 111, 114, 116]⟩ : ByteArray), t184, t179, t183, (⟨#[115, 105, 108, 101, 110, 116]⟩ : ByteArray)] : List ByteArray))).bind fun t188 => (some t188))))) = some r := by first | (rw [hy180]; with_reducible exact H) | (have H2_ := (Option.bind_some _ _).symm.trans H; rw [hy180]; with_reducible exact H2_) | (have H2_ := (Option.bind_some _ _).symm.trans H; with_reducible exact H2_) | with_reducible exact H | (rw [hy180]; exact H) | exact H
  have Ny180 := Aside0.mk hy180
  clear hy180
  replace H := Option.bind_eq_some_iff.mp H
  obtain ⟨t183, A40, H⟩ := H
  replace H : (if a1_2 = true then ((words_Text.f a0).bind fun t189 => ((show_long.f a1_3).bind fun t190 => ((show_long.f a1_5).bind fun t191 => ((show_long.f (IntKind.u64.wrap (a1_4))).bind fun t192 => ((words_Join.f k (([(⟨#[112, 111, 114, 116]⟩ : ByteArray), t189, t179, t183, (⟨#[114, 111, 111, 116]⟩ : ByteArray), t190, (⟨#[102, 114, 111, 109]⟩ : ByteArray), t191, (⟨#[99, 111, 115, 116]⟩ : ByteArray), t192] : List ByteArray))).bind fun t196 => (some t196)))))) else ((words_Text.f a0).bind fun t184 => ((words_Join.f k (([(⟨#[112, 111, 114, 116]⟩ : ByteArray), t184, t179, t183, (⟨#[115, 105, 108, 101, 110, 116]⟩ : ByteArray)] : List ByteArray))).bind fun t188 => (some t188)))) = some r := H
  have A4 := Aside0.mk A40
  clear A40
  by_cases c5 : a1_2 = true
  · subst c5
    have H1 : ((words_Text.f a0).bind fun t189 => ((show_long.f a1_3).bind fun t190 => ((show_long.f a1_5).bind fun t191 => ((show_long.f (IntKind.u64.wrap (a1_4))).bind fun t192 => ((words_Join.f k (([(⟨#[112, 111, 114, 116]⟩ : ByteArray), t189, t179, t183, (⟨#[114, 111, 111, 116]⟩ : ByteArray), t190, (⟨#[102, 114, 111, 109]⟩ : ByteArray), t191, (⟨#[99, 111, 115, 116]⟩ : ByteArray), t192] : List ByteArray))).bind fun t196 => (some t196)))))) = some r := by rw [if_pos rfl] at H; exact H
    clear H
    have H := H1
    clear H1
    replace H := Option.bind_eq_some_iff.mp H
    obtain ⟨t189, A60, H⟩ := H
    replace H : ((show_long.f a1_3).bind fun t190 => ((show_long.f a1_5).bind fun t191 => ((show_long.f (IntKind.u64.wrap (a1_4))).bind fun t192 => ((words_Join.f k (([(⟨#[112, 111, 114, 116]⟩ : ByteArray), t189, t179, t183, (⟨#[114, 111, 111, 116]⟩ : ByteArray), t190, (⟨#[102, 114, 111, 109]⟩ : ByteArray), t191, (⟨#[99, 111, 115, 116]⟩ : ByteArray), t192] : List ByteArray))).bind fun t196 => (some t196))))) = some r := H
    have A6 := Aside0.mk A60
    clear A60
    replace H := Option.bind_eq_some_iff.mp H
    obtain ⟨t190, A70, H⟩ := H
    replace H : ((show_long.f a1_5).bind fun t191 => ((show_long.f (IntKind.u64.wrap (a1_4))).bind fun t192 => ((words_Join.f k (([(⟨#[112, 111, 114, 116]⟩ : ByteArray), t189, t179, t183, (⟨#[114, 111, 111, 116]⟩ : ByteArray), t190, (⟨#[102, 114, 111, 109]⟩ : ByteArray), t191, (⟨#[99, 111, 115, 116]⟩ : ByteArray), t192] : List ByteArray))).bind fun t196 => (some t196)))) = some r := H
    have A7 := Aside0.mk A70
    clear A70
    replace H := Option.bind_eq_some_iff.mp H
    obtain ⟨t191, A80, H⟩ := H
    replace H : ((show_long.f (IntKind.u64.wrap (a1_4))).bind fun t192 => ((words_Join.f k (([(⟨#[112, 111, 114, 116]⟩ : ByteArray), t189, t179, t183, (⟨#[114, 111, 111, 116]⟩ : ByteArray), t190, (⟨#[102, 114, 111, 109]⟩ : ByteArray), t191, (⟨#[99, 111, 115, 116]⟩ : ByteArray), t192] : List ByteArray))).bind fun t196 => (some t196))) = some r := H
    have A8 := Aside0.mk A80
    clear A80
    replace H := Option.bind_eq_some_iff.mp H
    obtain ⟨t192, A90, H⟩ := H
    replace H : ((words_Join.f k (([(⟨#[112, 111, 114, 116]⟩ : ByteArray), t189, t179, t183, (⟨#[114, 111, 111, 116]⟩ : ByteArray), t190, (⟨#[102, 114, 111, 109]⟩ : ByteArray), t191, (⟨#[99, 111, 115, 116]⟩ : ByteArray), t192] : List ByteArray))).bind fun t196 => (some t196)) = some r := H
    have A9 := Aside0.mk A90
    clear A90
    obtain ⟨y193, hy193⟩ : ∃ y_ : List ByteArray, y_ = (([(⟨#[112, 111, 114, 116]⟩ : ByteArray), t189, t179, t183, (⟨#[114, 111, 111, 116]⟩ : ByteArray), t190, (⟨#[102, 114, 111, 109]⟩ : ByteArray), t191, (⟨#[99, 111, 115, 116]⟩ : ByteArray), t192] : List ByteArray)) := ⟨_, rfl⟩
    replace H : ((words_Join.f k y193).bind fun t196 => (some t196)) = some r := by first | (rw [hy193]; with_reducible exact H) | (have H2_ := (Option.bind_some _ _).symm.trans H; rw [hy193]; with_reducible exact H2_) | (have H2_ := (Option.bind_some _ _).symm.trans H; with_reducible exact H2_) | with_reducible exact H | (rw [hy193]; exact H) | exact H
    have Ny193 := Aside0.mk hy193
    clear hy193
    replace H := Option.bind_eq_some_iff.mp H
    obtain ⟨t196, A100, H⟩ := H
    replace H : (some t196) = some r := H
    have A10 := Aside0.mk A100
    clear A100
    obtain rfl := Option.some.inj H
    go_enter Tryd.func5, Tryd.ntmps5
    try go_wp2_with (first | ((with_reducible refine gate_dst (N := 3) rfl ?_); refine box_event ?hg (N := 3) ?hd (cs := #[.bool a1_0, .int .u32 a1_1, .bool true, .int .u64 a1_3, .int .u32 a1_4, .int .u64 a1_5, .int .i64 a1_6, .int .i64 a1_7, .int .i64 a1_8, .int .i64 a1_9, .int .i64 a1_10, .int .i64 a1_11, .bool a1_12]) (t := 33) ?hr ?_; (case hd => rfl); (case hg => rfl); (case hr => first | (go_simp; done) | (go_simp; rfl)); intro gb175 hg w11 hbox hb; have n0_ := Aside0.mk (below_step (by repeat (first | (with_reducible first | exact HB.out | apply below_alloc | apply pw_below_drewN | apply below_drew1) | exact HB.out)) hb); have n1_ := Aside0.mk (hbox); have n2_ := Aside0.mk ((by rw [hg]; exact (below_size (by repeat (first | (with_reducible first | exact HB.out | apply below_alloc | apply pw_below_drewN | apply below_drew1) | exact HB.out))) : w.heap.size ≤ gb175)); have n3_ := Aside0.mk ((by rw [hg]; exact (below_size (by repeat (first | (with_reducible first | exact HB.out | apply below_alloc | apply pw_below_drewN | apply below_drew1) | exact HB.out))) : w.heap.size ≤ gb175)); clear HB; have HB := n0_; have BK175 := n1_; have GW175 := n2_; have GE175 := n3_; clear n0_ n1_ n2_ n3_; clear hb hbox hg; have hcz12_0 : w11.cell? ⟨gb175, 0, none⟩ = some (.bool a1_0) := (blk_cell BK175.out 0).trans rfl; have hcz12_1 : w11.cell? ⟨gb175, 1, none⟩ = some (.int .u32 a1_1) := (blk_cell BK175.out 1).trans rfl; have hcz12_2 : w11.cell? ⟨gb175, 2, none⟩ = some (.bool true) := (blk_cell BK175.out 2).trans rfl; have hcz12_3 : w11.cell? ⟨gb175, 3, none⟩ = some (.int .u64 a1_3) := (blk_cell BK175.out 3).trans rfl; have hcz12_4 : w11.cell? ⟨gb175, 4, none⟩ = some (.int .u32 a1_4) := (blk_cell BK175.out 4).trans rfl; have hcz12_5 : w11.cell? ⟨gb175, 5, none⟩ = some (.int .u64 a1_5) := (blk_cell BK175.out 5).trans rfl; have hcz12_6 : w11.cell? ⟨gb175, 6, none⟩ = some (.int .i64 a1_6) := (blk_cell BK175.out 6).trans rfl; have hcz12_7 : w11.cell? ⟨gb175, 7, none⟩ = some (.int .i64 a1_7) := (blk_cell BK175.out 7).trans rfl; have hcz12_8 : w11.cell? ⟨gb175, 8, none⟩ = some (.int .i64 a1_8) := (blk_cell BK175.out 8).trans rfl; have hcz12_9 : w11.cell? ⟨gb175, 9, none⟩ = some (.int .i64 a1_9) := (blk_cell BK175.out 9).trans rfl; have hcz12_10 : w11.cell? ⟨gb175, 10, none⟩ = some (.int .i64 a1_10) := (blk_cell BK175.out 10).trans rfl; have hcz12_11 : w11.cell? ⟨gb175, 11, none⟩ = some (.int .i64 a1_11) := (blk_cell BK175.out 11).trans rfl; have hcz12_12 : w11.cell? ⟨gb175, 12, none⟩ = some (.bool a1_12) := (blk_cell BK175.out 12).trans rfl; have hfz12_0 := blk_frozen BK175.out 0; have hfz12_1 := blk_frozen BK175.out 1; have hfz12_2 := blk_frozen BK175.out 2; have hfz12_3 := blk_frozen BK175.out 3; have hfz12_4 := blk_frozen BK175.out 4; have hfz12_5 := blk_frozen BK175.out 5; have hfz12_6 := blk_frozen BK175.out 6; have hfz12_7 := blk_frozen BK175.out 7; have hfz12_8 := blk_frozen BK175.out 8; have hfz12_9 := blk_frozen BK175.out 9; have hfz12_10 := blk_frozen BK175.out 10; have hfz12_11 := blk_frozen BK175.out 11; have hfz12_12 := blk_frozen BK175.out 12) | ((with_reducible refine gate_dst (N := 9) rfl ?_); refine Kd.R_lit Kd.string _ 9 ?hg (N := 9) ?hd (xs := ([(⟨#[100, 105, 115, 97, 98, 108, 101, 100]⟩ : ByteArray), (⟨#[97, 108, 116, 101, 114, 110, 97, 116, 101]⟩ : ByteArray), (⟨#[114, 111, 111, 116]⟩ : ByteArray), (⟨#[100, 101, 115, 105, 103, 110, 97, 116, 101, 100]⟩ : ByteArray), (⟨#[98, 97, 99, 107, 117, 112]⟩ : ByteArray)] : List ByteArray)) (inner := [.string (⟨#[100, 105, 115, 97, 98, 108, 101, 100]⟩ : ByteArray), .string (⟨#[97, 108, 116, 101, 114, 110, 97, 116, 101]⟩ : ByteArray), .string (⟨#[114, 111, 111, 116]⟩ : ByteArray), .string (⟨#[100, 101, 115, 105, 103, 110, 97, 116, 101, 100]⟩ : ByteArray), .string (⟨#[98, 97, 99, 107, 117, 112]⟩ : ByteArray)]) (ok := fun _ => True) (okp := fun _ => True) ?hr ?hp (fun _ hk => hk) trivial (Below.refl _ _) (Nat.le_refl _) (by simp) ?_; (case hd => rfl); (case hg => rfl); (case hr => first | (go_simp; done) | (go_simp; rfl)); (case hp => exact (Reps.one (show Kd.M Kd.string _ _ _ (⟨#[100, 105, 115, 97, 98, 108, 101, 100]⟩ : ByteArray) [.string (⟨#[100, 105, 115, 97, 98, 108, 101, 100]⟩ : ByteArray)] from rfl) (Reps.one (show Kd.M Kd.string _ _ _ (⟨#[97, 108, 116, 101, 114, 110, 97, 116, 101]⟩ : ByteArray) [.string (⟨#[97, 108, 116, 101, 114, 110, 97, 116, 101]⟩ : ByteArray)] from rfl) (Reps.one (show Kd.M Kd.string _ _ _ (⟨#[114, 111, 111, 116]⟩ : ByteArray) [.string (⟨#[114, 111, 111, 116]⟩ : ByteArray)] from rfl) (Reps.one (show Kd.M Kd.string _ _ _ (⟨#[100, 101, 115, 105, 103, 110, 97, 116, 101, 100]⟩ : ByteArray) [.string (⟨#[100, 101, 115, 105, 103, 110, 97, 116, 101, 100]⟩ : ByteArray)] from rfl) (Reps.one (show Kd.M Kd.string _ _ _ (⟨#[98, 97, 99, 107, 117, 112]⟩ : ByteArray) [.string (⟨#[98, 97, 99, 107, 117, 112]⟩ : ByteArray)] from rfl) (Reps.none _ _))))))); intro v177 w13 ho14 hb hg_ hnew_; clear hg_ hnew_; (first | rw [← Ny176.out] at ho14 | (simp only [Int.reduceToNat] at ho14; rw [← Ny176.out] at ho14)); have n0_ := Aside0.mk (Kd.R_lower ho14 (below_size (by repeat (first | (with_reducible first | exact HB.out | apply below_alloc | apply pw_below_drewN | apply below_drew1 | refine below_set ?_ GE175.out) | exact HB.out)))); have n1_ := Aside0.mk (blk_below (g := gb175) (o := .cells #[.bool a1_0, .int .u32 a1_1, .bool true, .int .u64 a1_3, .int .u32 a1_4, .int .u64 a1_5, .int .i64 a1_6, .int .i64 a1_7, .int .i64 a1_8, .int .i64 a1_9, .int .i64 a1_10, .int .i64 a1_11, .bool a1_12] 33 (0, 0)) (by (with_reducible repeat (first | refine blk_drewN ?_ _ | refine blk_drew ?_ | refine blk_alloc ?_ _)); exact BK175.out) hb); have n2_ := Aside0.mk (below_step (by repeat (first | (with_reducible first | exact HB.out | apply below_alloc | apply pw_below_drewN | apply below_drew1 | refine below_set ?_ GE175.out) | exact HB.out)) hb); clear BK175; clear HB; have HO178 := n0_; have BK175 := n1_; have HB := n2_; clear n0_ n1_ n2_; clear hb ho14; obtain ⟨Ao15, co15, eo15⟩ := Kd.R_slice HO178.out; subst eo15) | ((with_reducible refine gate_callee (f := 7) rfl ?_); refine goesL_ (some 10) rfl rfl Tryd.func7 (by kernel_rfl) rfl #[.int .i64 a1_9, .slice Ao15 y176.length co15] rfl (by (try simp only [List.map_toArray, List.map_cons, List.map_nil]); first | done | rfl | (simp only [List.length_drop, List.length_take]; rfl)) ?_; (with_reducible refine (show_name.calls a1_9 _ _ y176 t179 _ ?side1 ?side2 ?side3 A3.out).mono ?_); (case side1 => repeat (first | exact (Kd.R_reads' HO178.out).2.2 | (with_reducible refine Kd.C_alloc ?_ _) | (with_reducible refine Kd.C_drewN ?_ _) | (with_reducible refine Kd.C_drew ?_))); (case side2 => exact (Kd.R_reads' HO178.out).2.1); (case side3 => exact Laid.below hL (by repeat (first | (with_reducible first | exact HB.out | apply below_alloc | apply pw_below_drewN | apply below_drew1 | refine below_set ?_ GE175.out) | exact HB.out))); rintro e w' ⟨rfl, ⟨nd, rfl⟩⟩; refine ⟨_, rfl, ?_⟩; (try clear A3); have hcz16_0 : w13.cell? ⟨gb175, 0, none⟩ = some (.bool a1_0) := (blk_cell BK175.out 0).trans rfl; have hcz16_1 : w13.cell? ⟨gb175, 1, none⟩ = some (.int .u32 a1_1) := (blk_cell BK175.out 1).trans rfl; have hcz16_2 : w13.cell? ⟨gb175, 2, none⟩ = some (.bool true) := (blk_cell BK175.out 2).trans rfl; have hcz16_3 : w13.cell? ⟨gb175, 3, none⟩ = some (.int .u64 a1_3) := (blk_cell BK175.out 3).trans rfl; have hcz16_4 : w13.cell? ⟨gb175, 4, none⟩ = some (.int .u32 a1_4) := (blk_cell BK175.out 4).trans rfl; have hcz16_5 : w13.cell? ⟨gb175, 5, none⟩ = some (.int .u64 a1_5) := (blk_cell BK175.out 5).trans rfl; have hcz16_6 : w13.cell? ⟨gb175, 6, none⟩ = some (.int .i64 a1_6) := (blk_cell BK175.out 6).trans rfl; have hcz16_7 : w13.cell? ⟨gb175, 7, none⟩ = some (.int .i64 a1_7) := (blk_cell BK175.out 7).trans rfl; have hcz16_8 : w13.cell? ⟨gb175, 8, none⟩ = some (.int .i64 a1_8) := (blk_cell BK175.out 8).trans rfl; have hcz16_9 : w13.cell? ⟨gb175, 9, none⟩ = some (.int .i64 a1_9) := (blk_cell BK175.out 9).trans rfl; have hcz16_10 : w13.cell? ⟨gb175, 10, none⟩ = some (.int .i64 a1_10) := (blk_cell BK175.out 10).trans rfl; have hcz16_11 : w13.cell? ⟨gb175, 11, none⟩ = some (.int .i64 a1_11) := (blk_cell BK175.out 11).trans rfl; have hcz16_12 : w13.cell? ⟨gb175, 12, none⟩ = some (.bool a1_12) := (blk_cell BK175.out 12).trans rfl; have hfz16_0 := blk_frozen BK175.out 0; have hfz16_1 := blk_frozen BK175.out 1; have hfz16_2 := blk_frozen BK175.out 2; have hfz16_3 := blk_frozen BK175.out 3; have hfz16_4 := blk_frozen BK175.out 4; have hfz16_5 := blk_frozen BK175.out 5; have hfz16_6 := blk_frozen BK175.out 6; have hfz16_7 := blk_frozen BK175.out 7; have hfz16_8 := blk_frozen BK175.out 8; have hfz16_9 := blk_frozen BK175.out 9; have hfz16_10 := blk_frozen BK175.out 10; have hfz16_11 := blk_frozen BK175.out 11; have hfz16_12 := blk_frozen BK175.out 12) | ((with_reducible refine gate_dst (N := 13) rfl ?_); refine Kd.R_lit Kd.string _ 9 ?hg (N := 13) ?hd (xs := ([(⟨#[100, 105, 115, 99, 97, 114, 100, 105, 110, 103]⟩ : ByteArray), (⟨#[108, 101, 97, 114, 110, 105, 110, 103]⟩ : ByteArray), (⟨#[102, 111, 114, 119, 97, 114, 100, 105, 110, 103]⟩ : ByteArray)] : List ByteArray)) (inner := [.string (⟨#[100, 105, 115, 99, 97, 114, 100, 105, 110, 103]⟩ : ByteArray), .string (⟨#[108, 101, 97, 114, 110, 105, 110, 103]⟩ : ByteArray), .string (⟨#[102, 111, 114, 119, 97, 114, 100, 105, 110, 103]⟩ : ByteArray)]) (ok := fun _ => True) (okp := fun _ => True) ?hr ?hp (fun _ hk => hk) trivial (Below.refl _ _) (Nat.le_refl _) (by simp) ?_; (case hd => rfl); (case hg => rfl); (case hr => first | (go_simp; done) | (go_simp; rfl)); (case hp => exact (Reps.one (show Kd.M Kd.string _ _ _ (⟨#[100, 105, 115, 99, 97, 114, 100, 105, 110, 103]⟩ : ByteArray) [.string (⟨#[100, 105, 115, 99, 97, 114, 100, 105, 110, 103]⟩ : ByteArray)] from rfl) (Reps.one (show Kd.M Kd.string _ _ _ (⟨#[108, 101, 97, 114, 110, 105, 110, 103]⟩ : ByteArray) [.string (⟨#[108, 101, 97, 114, 110, 105, 110, 103]⟩ : ByteArray)] from rfl) (Reps.one (show Kd.M Kd.string _ _ _ (⟨#[102, 111, 114, 119, 97, 114, 100, 105, 110, 103]⟩ : ByteArray) [.string (⟨#[102, 111, 114, 119, 97, 114, 100, 105, 110, 103]⟩ : ByteArray)] from rfl) (Reps.none _ _))))); intro v181 w17 ho18 hb hg_ hnew_; clear hg_ hnew_; (first | rw [← Ny180.out] at ho18 | (simp only [Int.reduceToNat] at ho18; rw [← Ny180.out] at ho18)); have n0_ := Aside0.mk (Kd.R_elder' (by (with_reducible repeat (first | apply Kd.R_alloc | apply Kd.R_drewN | apply Kd.R_drew)); exact HO178.out) (Kd.R_base ho18) hb); have n1_ := Aside0.mk (Kd.R_lower (Kd.R_new' ho18 (Kd.R_lt (by (with_reducible repeat (first | apply Kd.R_alloc | apply Kd.R_drewN | apply Kd.R_drew)); exact HO178.out))) (below_size (by repeat (first | (with_reducible first | exact HB.out | apply below_alloc | apply pw_below_drewN | apply below_drew1 | refine below_set ?_ GE175.out) | exact HB.out)))); have n2_ := Aside0.mk (blk_below (g := gb175) (o := .cells #[.bool a1_0, .int .u32 a1_1, .bool true, .int .u64 a1_3, .int .u32 a1_4, .int .u64 a1_5, .int .i64 a1_6, .int .i64 a1_7, .int .i64 a1_8, .int .i64 a1_9, .int .i64 a1_10, .int .i64 a1_11, .bool a1_12] 33 (0, 0)) (by (with_reducible repeat (first | refine blk_drewN ?_ _ | refine blk_drew ?_ | refine blk_alloc ?_ _)); exact BK175.out) hb); have n3_ := Aside0.mk (below_step (by repeat (first | (with_reducible first | exact HB.out | apply below_alloc | apply pw_below_drewN | apply below_drew1 | refine below_set ?_ GE175.out) | exact HB.out)) hb); clear HO178; clear BK175; clear HB; have HO178 := n0_; have HO182 := n1_; have BK175 := n2_; have HB := n3_; clear n0_ n1_ n2_ n3_; clear hb ho18; obtain ⟨Ao19, co19, eo19⟩ := Kd.R_slice HO182.out; subst eo19) | ((with_reducible refine gate_callee (f := 7) rfl ?_); refine goesL_ (some 14) rfl rfl Tryd.func7 (by kernel_rfl) rfl #[.int .i64 a1_10, .slice Ao19 y180.length co19] rfl (by (try simp only [List.map_toArray, List.map_cons, List.map_nil]); first | done | rfl | (simp only [List.length_drop, List.length_take]; rfl)) ?_; (with_reducible refine (show_name.calls a1_10 _ _ y180 t183 _ ?side1 ?side2 ?side3 A4.out).mono ?_); (case side1 => repeat (first | exact (Kd.R_reads' HO182.out).2.2 | (with_reducible refine Kd.C_alloc ?_ _) | (with_reducible refine Kd.C_drewN ?_ _) | (with_reducible refine Kd.C_drew ?_))); (case side2 => exact (Kd.R_reads' HO182.out).2.1); (case side3 => exact Laid.below hL (by repeat (first | (with_reducible first | exact HB.out | apply below_alloc | apply pw_below_drewN | apply below_drew1 | refine below_set ?_ GE175.out) | exact HB.out))); rintro e w' ⟨rfl, ⟨nd, rfl⟩⟩; refine ⟨_, rfl, ?_⟩; (try clear A4); have hcz20_0 : w17.cell? ⟨gb175, 0, none⟩ = some (.bool a1_0) := (blk_cell BK175.out 0).trans rfl; have hcz20_1 : w17.cell? ⟨gb175, 1, none⟩ = some (.int .u32 a1_1) := (blk_cell BK175.out 1).trans rfl; have hcz20_2 : w17.cell? ⟨gb175, 2, none⟩ = some (.bool true) := (blk_cell BK175.out 2).trans rfl; have hcz20_3 : w17.cell? ⟨gb175, 3, none⟩ = some (.int .u64 a1_3) := (blk_cell BK175.out 3).trans rfl; have hcz20_4 : w17.cell? ⟨gb175, 4, none⟩ = some (.int .u32 a1_4) := (blk_cell BK175.out 4).trans rfl; have hcz20_5 : w17.cell? ⟨gb175, 5, none⟩ = some (.int .u64 a1_5) := (blk_cell BK175.out 5).trans rfl; have hcz20_6 : w17.cell? ⟨gb175, 6, none⟩ = some (.int .i64 a1_6) := (blk_cell BK175.out 6).trans rfl; have hcz20_7 : w17.cell? ⟨gb175, 7, none⟩ = some (.int .i64 a1_7) := (blk_cell BK175.out 7).trans rfl; have hcz20_8 : w17.cell? ⟨gb175, 8, none⟩ = some (.int .i64 a1_8) := (blk_cell BK175.out 8).trans rfl; have hcz20_9 : w17.cell? ⟨gb175, 9, none⟩ = some (.int .i64 a1_9) := (blk_cell BK175.out 9).trans rfl; have hcz20_10 : w17.cell? ⟨gb175, 10, none⟩ = some (.int .i64 a1_10) := (blk_cell BK175.out 10).trans rfl; have hcz20_11 : w17.cell? ⟨gb175, 11, none⟩ = some (.int .i64 a1_11) := (blk_cell BK175.out 11).trans rfl; have hcz20_12 : w17.cell? ⟨gb175, 12, none⟩ = some (.bool a1_12) := (blk_cell BK175.out 12).trans rfl; have hfz20_0 := blk_frozen BK175.out 0; have hfz20_1 := blk_frozen BK175.out 1; have hfz20_2 := blk_frozen BK175.out 2; have hfz20_3 := blk_frozen BK175.out 3; have hfz20_4 := blk_frozen BK175.out 4; have hfz20_5 := blk_frozen BK175.out 5; have hfz20_6 := blk_frozen BK175.out 6; have hfz20_7 := blk_frozen BK175.out 7; have hfz20_8 := blk_frozen BK175.out 8; have hfz20_9 := blk_frozen BK175.out 9; have hfz20_10 := blk_frozen BK175.out 10; have hfz20_11 := blk_frozen BK175.out 11; have hfz20_12 := blk_frozen BK175.out 12))
    (try (rw [drewN_self w17]; generalize hq_ : World.drewN w17 _ = w17; have n0_ : Aside0 (Kd.R Kd.string 9 w17 w.heap.size (fun k_ => some k_ ≠ (.slice Ao19 y180.length co19 : Value).ownBlock) (.slice Ao15 y176.length co15) y176) := ⟨by rw [← hq_]; exact (by (with_reducible repeat (first | apply Kd.R_alloc | apply Kd.R_drewN | apply Kd.R_drew)); exact Kd.R_mono HO178.out (fun _ hk => hk.2))⟩; have n1_ : Aside0 (Kd.R Kd.string 9 w17 w.heap.size (fun k_ => some k_ ≠ (.slice Ao15 y176.length co15 : Value).ownBlock) (.slice Ao19 y180.length co19) y180) := ⟨by rw [← hq_]; exact (by (with_reducible repeat (first | apply Kd.R_alloc | apply Kd.R_drewN | apply Kd.R_drew)); exact Kd.R_mono HO182.out (fun _ hk => hk.2))⟩; have n2_ : Aside0 (w17.heap[gb175]? = some (.cells #[.bool a1_0, .int .u32 a1_1, .bool true, .int .u64 a1_3, .int .u32 a1_4, .int .u64 a1_5, .int .i64 a1_6, .int .i64 a1_7, .int .i64 a1_8, .int .i64 a1_9, .int .i64 a1_10, .int .i64 a1_11, .bool a1_12] 33 (0, 0))) := ⟨by rw [← hq_]; exact (by (with_reducible repeat (first | refine blk_drewN ?_ _ | refine blk_drew ?_ | refine blk_alloc ?_ _)); exact BK175.out)⟩; have n3_ : Aside0 (Below w.heap.size w w17) := ⟨by rw [← hq_]; exact (by repeat (first | (with_reducible first | exact HB.out | apply below_alloc | apply pw_below_drewN | apply below_drew1 | refine below_set ?_ GE175.out) | exact HB.out))⟩; clear HO178 HO182 BK175 HB hq_; have HO178 := n0_; have HO182 := n1_; have BK175 := n2_; have HB := n3_; clear n0_ n1_ n2_ n3_))
    have n0_ := Aside0.mk (Kd.R_drew HO178.out)
    have n1_ := Aside0.mk (Kd.R_drew HO182.out)
    have n2_ := Aside0.mk (blk_drew BK175.out)
    have n3_ := Aside0.mk (below_drew1 HB.out)
    clear HO178
    clear HO182
    clear BK175
    clear HB
    have HO178 := n0_
    have HO182 := n1_
    have BK175 := n2_
    have HB := n3_
    clear n0_ n1_ n2_ n3_
    refine start_ (n := 26) (S := fun w' => w'.cell? ⟨gb175, 0, none⟩ = some (.bool a1_0) ∧ w'.cell? ⟨gb175, 1, none⟩ = some (.int .u32 a1_1) ∧ w'.cell? ⟨gb175, 2, none⟩ = some (.bool true) ∧ w'.cell? ⟨gb175, 3, none⟩ = some (.int .u64 a1_3) ∧ w'.cell? ⟨gb175, 4, none⟩ = some (.int .u32 a1_4) ∧ w'.cell? ⟨gb175, 5, none⟩ = some (.int .u64 a1_5) ∧ w'.cell? ⟨gb175, 6, none⟩ = some (.int .i64 a1_6) ∧ w'.cell? ⟨gb175, 7, none⟩ = some (.int .i64 a1_7) ∧ w'.cell? ⟨gb175, 8, none⟩ = some (.int .i64 a1_8) ∧ w'.cell? ⟨gb175, 9, none⟩ = some (.int .i64 a1_9) ∧ w'.cell? ⟨gb175, 10, none⟩ = some (.int .i64 a1_10) ∧ w'.cell? ⟨gb175, 11, none⟩ = some (.int .i64 a1_11) ∧ w'.cell? ⟨gb175, 12, none⟩ = some (.bool a1_12)) (ds := []) #[false, false, false, false, false, false, false, false, false, false, false, false, false, false, false, false, false, false, false, false, false, false, false, false, false, false] (by kernel_rfl) rfl rfl ⟨(blk_cell BK175.out 0).trans rfl, (blk_cell BK175.out 1).trans rfl, (blk_cell BK175.out 2).trans rfl, (blk_cell BK175.out 3).trans rfl, (blk_cell BK175.out 4).trans rfl, (blk_cell BK175.out 5).trans rfl, (blk_cell BK175.out 6).trans rfl, (blk_cell BK175.out 7).trans rfl, (blk_cell BK175.out 8).trans rfl, (blk_cell BK175.out 9).trans rfl, (blk_cell BK175.out 10).trans rfl, (blk_cell BK175.out 11).trans rfl, (blk_cell BK175.out 12).trans rfl⟩ (fun hHeld => ?_); refine with_tabW show_Port.tab5 show_Port.bits5 (fun HT_ HW_ => ?_)
    generalize w17.drew = w21 at HO178 HO182 BK175 HB hHeld ⊢
    refine pure_ (i := 0) (N := some 26) (v := ?_) (a' := ?_) #[true, false, false, false, false, false, false, false, false, false, false, false, false, false, false, false, false, false, false, false, false, false, false, false, false, false] rfl rfl (any_of HT_.out (by kernel_rfl)) (fun _ _ _ h => h) (Or.inl ⟨by rfl, ?_⟩) ?_ ?_
    rotate_left
    · intro w'
      go_simp
      with_reducible rfl
    rotate_left
    · simp only [Act.put, List.setIfInBounds_toArray, List.set_cons_zero, List.set_cons_succ, i64_w, i32_w]
      rfl
    refine pure_ (i := 2) (N := some 28) (v := ?_) (a' := ?_) #[true, false, true, false, false, false, false, false, false, false, false, false, false, false, false, false, false, false, false, false, false, false, false, false, false, false] rfl rfl (any_of HT_.out (by kernel_rfl)) (fun _ _ _ h => h) (Or.inl ⟨by rfl, ?_⟩) ?_ ?_
    rotate_left
    · intro w'
      go_simp
      with_reducible rfl
    rotate_left
    · simp only [Act.put, List.setIfInBounds_toArray, List.set_cons_zero, List.set_cons_succ, i64_w, i32_w]
      rfl
    refine pure_ (i := 3) (N := some 29) (v := ?_) (a' := ?_) #[true, false, true, true, false, false, false, false, false, false, false, false, false, false, false, false, false, false, false, false, false, false, false, false, false, false] rfl rfl (any_of HT_.out (by kernel_rfl)) (fun _ _ _ h => h) (Or.inl ⟨by rfl, ?_⟩) ?_ ?_
    rotate_left
    · intro w'
      go_simp
      with_reducible rfl
    rotate_left
    · simp only [Act.put, List.setIfInBounds_toArray, List.set_cons_zero, List.set_cons_succ, i64_w, i32_w]
      rfl
    refine pure_ (i := 4) (N := some 30) (v := ?_) (a' := ?_) #[true, false, true, true, true, false, false, false, false, false, false, false, false, false, false, false, false, false, false, false, false, false, false, false, false, false] rfl rfl (any_of HT_.out (by kernel_rfl)) (fun _ _ _ h => h) (Or.inl ⟨by rfl, ?_⟩) ?_ ?_
    rotate_left
    · intro w'
      go_simp
      with_reducible rfl
    rotate_left
    · simp only [Act.put, List.setIfInBounds_toArray, List.set_cons_zero, List.set_cons_succ, i64_w, i32_w]
      rfl
    refine pure_ (i := 5) (N := some 31) (v := ?_) (a' := ?_) #[true, false, true, true, true, true, false, false, false, false, false, false, false, false, false, false, false, false, false, false, false, false, false, false, false, false] rfl rfl (any_of HT_.out (by kernel_rfl)) (fun _ _ _ h => h) (Or.inl ⟨by rfl, ?_⟩) ?_ ?_
    rotate_left
    · intro w'
      go_simp
      with_reducible rfl
    rotate_left
    · simp only [Act.put, List.setIfInBounds_toArray, List.set_cons_zero, List.set_cons_succ, i64_w, i32_w]
      rfl
    refine pure_ (i := 6) (N := some 32) (v := ?_) (a' := ?_) #[true, false, true, true, true, true, true, false, false, false, false, false, false, false, false, false, false, false, false, false, false, false, false, false, false, false] rfl rfl (any_of HT_.out (by kernel_rfl)) (fun _ _ _ h => h) (Or.inl ⟨by rfl, ?_⟩) ?_ ?_
    rotate_left
    · intro w'
      go_simp
      with_reducible rfl
    rotate_left
    · simp only [Act.put, List.setIfInBounds_toArray, List.set_cons_zero, List.set_cons_succ, i64_w, i32_w]
      rfl
    refine pure_ (i := 7) (N := some 33) (v := ?_) (a' := ?_) #[true, false, true, true, true, true, true, true, false, false, false, false, false, false, false, false, false, false, false, false, false, false, false, false, false, false] rfl rfl (any_of HT_.out (by kernel_rfl)) (fun _ _ _ h => h) (Or.inl ⟨by rfl, ?_⟩) ?_ ?_
    rotate_left
    · intro w'
      go_simp
      with_reducible rfl
    rotate_left
    · simp only [Act.put, List.setIfInBounds_toArray, List.set_cons_zero, List.set_cons_succ, i64_w, i32_w]
      rfl
    refine pure_ (i := 10) (N := some 36) (v := ?_) (a' := ?_) #[true, false, true, true, true, true, true, true, false, false, true, false, false, false, false, false, false, false, false, false, false, false, false, false, false, false] rfl rfl (any_of HT_.out (by kernel_rfl)) (fun _ _ _ h => h) (Or.inl ⟨by rfl, ?_⟩) ?_ ?_
    rotate_left
    · intro w'
      go_simp
      with_reducible rfl
    rotate_left
    · simp only [Act.put, List.setIfInBounds_toArray, List.set_cons_zero, List.set_cons_succ, i64_w, i32_w]
      rfl
    refine pure_ (i := 11) (N := some 37) (v := ?_) (a' := ?_) #[true, false, true, true, true, true, true, true, false, false, true, true, false, false, false, false, false, false, false, false, false, false, false, false, false, false] rfl rfl (any_of HT_.out (by kernel_rfl)) (fun _ _ _ h => h) (Or.inl ⟨by rfl, ?_⟩) ?_ ?_
    rotate_left
    · intro w'
      go_simp
      with_reducible rfl
    rotate_left
    · simp only [Act.put, List.setIfInBounds_toArray, List.set_cons_zero, List.set_cons_succ, i64_w, i32_w]
      rfl
    refine pure_ (i := 12) (N := some 38) (v := ?_) (a' := ?_) #[true, false, true, true, true, true, true, true, false, false, true, true, true, false, false, false, false, false, false, false, false, false, false, false, false, false] rfl rfl (any_of HT_.out (by kernel_rfl)) (fun _ _ _ h => h) (Or.inl ⟨by rfl, ?_⟩) ?_ ?_
    rotate_left
    · intro w'
      go_simp
      with_reducible rfl
    rotate_left
    · simp only [Act.put, List.setIfInBounds_toArray, List.set_cons_zero, List.set_cons_succ, i64_w, i32_w]
      rfl
    refine pure_ (i := 13) (N := some 39) (v := ?_) (a' := ?_) #[true, false, true, true, true, true, true, true, false, false, true, true, true, true, false, false, false, false, false, false, false, false, false, false, false, false] rfl rfl (any_of HT_.out (by kernel_rfl)) (fun _ _ _ h => h) (Or.inl ⟨by rfl, ?_⟩) ?_ ?_
    rotate_left
    · intro w'
      go_simp
      with_reducible rfl
    rotate_left
    · simp only [Act.put, List.setIfInBounds_toArray, List.set_cons_zero, List.set_cons_succ, i64_w, i32_w]
      rfl
    refine pure_ (i := 16) (N := some 42) (v := ?_) (a' := ?_) #[true, false, true, true, true, true, true, true, false, false, true, true, true, true, false, false, true, false, false, false, false, false, false, false, false, false] rfl rfl (any_of HT_.out (by kernel_rfl)) (fun _ _ _ h => h) (Or.inl ⟨by rfl, ?_⟩) ?_ ?_
    rotate_left
    · intro w'
      go_simp
      with_reducible rfl
    rotate_left
    · simp only [Act.put, List.setIfInBounds_toArray, List.set_cons_zero, List.set_cons_succ, i64_w, i32_w]
      rfl
    refine pure_ (i := 17) (N := some 43) (v := ?_) (a' := ?_) #[true, false, true, true, true, true, true, true, false, false, true, true, true, true, false, false, true, true, false, false, false, false, false, false, false, false] rfl rfl (any_of HT_.out (by kernel_rfl)) (fun _ _ _ h => h) (Or.inl ⟨by rfl, ?_⟩) ?_ ?_
    rotate_left
    · intro w'
      go_simp
      with_reducible rfl
    rotate_left
    · simp only [Act.put, List.setIfInBounds_toArray, List.set_cons_zero, List.set_cons_succ, i64_w, i32_w]
      rfl
    refine pure_ (i := 18) (N := some 44) (v := ?_) (a' := ?_) #[true, false, true, true, true, true, true, true, false, false, true, true, true, true, false, false, true, true, true, false, false, false, false, false, false, false] rfl rfl (any_of HT_.out (by kernel_rfl)) (fun _ _ _ h => h) (Or.inl ⟨by rfl, ?_⟩) ?_ ?_
    rotate_left
    · intro w'
      go_simp
      with_reducible rfl
    rotate_left
    · simp only [Act.put, List.setIfInBounds_toArray, List.set_cons_zero, List.set_cons_succ, i64_w, i32_w]
      rfl
    refine pure_ (i := 19) (N := some 45) (v := ?_) (a' := ?_) #[true, false, true, true, true, true, true, true, false, false, true, true, true, true, false, false, true, true, true, true, false, false, false, false, false, false] rfl rfl (any_of HT_.out (by kernel_rfl)) (fun _ _ _ h => h) (Or.inl ⟨by rfl, ?_⟩) ?_ ?_
    rotate_left
    · intro w'
      go_simp
      with_reducible rfl
    rotate_left
    · simp only [Act.put, List.setIfInBounds_toArray, List.set_cons_zero, List.set_cons_succ, i64_w, i32_w]
      rfl
    refine take_ (i := 8) (N := some 34) (v := ?_) (a' := ?_) #[true, false, true, true, true, true, true, true, true, false, true, true, true, true, false, false, true, true, true, true, false, false, false, false, false, false] rfl rfl (take_ofW HT_.out HW_.out (by kernel_rfl)) (fun _ _ _ h => h) (Or.inl ⟨by rfl, ?_⟩) hHeld ?_ ?_
    rotate_left
    · rintro w' ⟨s0, s1, s2, s3, s4, s5, s6, s7, s8, s9, s10, s11, s12⟩
      go_simp
      with_reducible rfl
    rotate_left
    · simp only [Act.put, List.setIfInBounds_toArray, List.set_cons_zero, List.set_cons_succ, i64_w, i32_w]
      rfl
    refine take_ (i := 14) (N := some 40) (v := ?_) (a' := ?_) #[true, false, true, true, true, true, true, true, true, false, true, true, true, true, true, false, true, true, true, true, false, false, false, false, false, false] rfl rfl (take_ofW HT_.out HW_.out (by kernel_rfl)) (fun _ _ _ h => h) (Or.inl ⟨by rfl, ?_⟩) hHeld ?_ ?_
    rotate_left
    · rintro w' ⟨s0, s1, s2, s3, s4, s5, s6, s7, s8, s9, s10, s11, s12⟩
      go_simp
      with_reducible rfl
    rotate_left
    · simp only [Act.put, List.setIfInBounds_toArray, List.set_cons_zero, List.set_cons_succ, i64_w, i32_w]
      rfl
    refine take_ (i := 20) (N := some 46) (v := ?_) (a' := ?_) #[true, false, true, true, true, true, true, true, true, false, true, true, true, true, true, false, true, true, true, true, true, false, false, false, false, false] rfl rfl (take_ofW HT_.out HW_.out (by kernel_rfl)) (fun _ _ _ h => h) (Or.inl ⟨by rfl, ?_⟩) hHeld ?_ ?_
    rotate_left
    · rintro w' ⟨s0, s1, s2, s3, s4, s5, s6, s7, s8, s9, s10, s11, s12⟩
      go_simp
      with_reducible rfl
    rotate_left
    · simp only [Act.put, List.setIfInBounds_toArray, List.set_cons_zero, List.set_cons_succ, i64_w, i32_w]
      rfl
    refine pure_ (i := 21) (N := some 47) (v := ?_) (a' := ?_) #[true, false, true, true, true, true, true, true, true, false, true, true, true, true, true, false, true, true, true, true, true, true, false, false, false, false] rfl rfl (any_of HT_.out (by kernel_rfl)) (fun _ _ _ h => h) (Or.inl ⟨by rfl, ?_⟩) ?_ ?_
    rotate_left
    · intro w'
      go_simp
      with_reducible rfl
    rotate_left
    · simp only [Act.put, List.setIfInBounds_toArray, List.set_cons_zero, List.set_cons_succ, i64_w, i32_w]
      rfl
    refine one_ (i := 1) (N := some 27) #[true, true, true, true, true, true, true, true, true, false, true, true, true, true, true, false, true, true, true, true, true, true, false, false, false, false] rfl rfl (one_of HT_.out (by kernel_rfl)) (by decide) (fun K hK => ?_)
    refine goes_ Tryd.func9 (by kernel_rfl) rfl #[.int .i64 a0] (by rfl) rfl rfl (by (try simp only [List.map_toArray, List.map_cons, List.map_nil]); first | done | rfl | (simp only [List.length_drop, List.length_take]; rfl)) ?_
    with_reducible refine (words_Text.calls a0 t189 _ ?side1 A6.out).mono ?_
    (case side1 => exact Laid.below hL (by repeat (first | (with_reducible first | exact HB.out | apply below_alloc | apply pw_below_drewN | apply below_drew1 | refine below_set ?_ GE175.out) | exact HB.out)))
    rintro e w22 ⟨rfl, hb⟩
    refine ⟨_, rfl, ?_⟩
    have n0_ := Aside0.mk (Kd.R_below (by (with_reducible repeat (first | apply Kd.R_alloc | apply Kd.R_drewN | apply Kd.R_drew)); exact HO178.out) hb)
    have n1_ := Aside0.mk (Kd.R_below (by (with_reducible repeat (first | apply Kd.R_alloc | apply Kd.R_drewN | apply Kd.R_drew)); exact HO182.out) hb)
    have n2_ := Aside0.mk (blk_below (g := gb175) (o := .cells #[.bool a1_0, .int .u32 a1_1, .bool true, .int .u64 a1_3, .int .u32 a1_4, .int .u64 a1_5, .int .i64 a1_6, .int .i64 a1_7, .int .i64 a1_8, .int .i64 a1_9, .int .i64 a1_10, .int .i64 a1_11, .bool a1_12] 33 (0, 0)) (by (with_reducible repeat (first | refine blk_drewN ?_ _ | refine blk_drew ?_ | refine blk_alloc ?_ _)); exact BK175.out) hb)
    have n3_ := Aside0.mk (below_step (by repeat (first | (with_reducible first | exact HB.out | apply below_alloc | apply pw_below_drewN | apply below_drew1 | refine below_set ?_ GE175.out) | exact HB.out)) hb)
    clear HO178
    clear HO182
    clear BK175
    clear HB
    have HO178 := n0_
    have HO182 := n1_
    have BK175 := n2_
    have HB := n3_
    clear n0_ n1_ n2_ n3_
    (try clear hb)
    (try clear hb2)
    (try clear hk)
    (try clear hi)
    (try clear A6)
    refine hK.out _ _ ⟨(blk_cell BK175.out 0).trans rfl, (blk_cell BK175.out 1).trans rfl, (blk_cell BK175.out 2).trans rfl, (blk_cell BK175.out 3).trans rfl, (blk_cell BK175.out 4).trans rfl, (blk_cell BK175.out 5).trans rfl, (blk_cell BK175.out 6).trans rfl, (blk_cell BK175.out 7).trans rfl, (blk_cell BK175.out 8).trans rfl, (blk_cell BK175.out 9).trans rfl, (blk_cell BK175.out 10).trans rfl, (blk_cell BK175.out 11).trans rfl, (blk_cell BK175.out 12).trans rfl⟩ (fun hHeld => ?_)
    clear hK K
    refine norm_ (a' := ?_) ?_ ?_
    rotate_left
    · show Act.put _ (some 27) _ = _
      simp only [Act.put, List.setIfInBounds_toArray, List.set_cons_zero, List.set_cons_succ, i64_w, i32_w]
      rfl
    refine one_ (i := 9) (N := some 35) #[true, true, true, true, true, true, true, true, true, true, true, true, true, true, true, false, true, true, true, true, true, true, false, false, false, false] rfl rfl (one_of HT_.out (by kernel_rfl)) (by decide) (fun K hK => ?_)
    refine goes_ Tryd.func10 (by kernel_rfl) rfl #[.int .u64 a1_3] (by rfl) rfl rfl (by (try simp only [List.map_toArray, List.map_cons, List.map_nil]); first | done | rfl | (simp only [List.length_drop, List.length_take]; rfl)) ?_
    with_reducible refine (show_long.calls a1_3 t190 _ ?side1 A7.out).mono ?_
    (case side1 => exact Laid.below hL (by repeat (first | (with_reducible first | exact HB.out | apply below_alloc | apply pw_below_drewN | apply below_drew1 | refine below_set ?_ GE175.out) | exact HB.out)))
    rintro e w23 ⟨rfl, hb⟩
    refine ⟨_, rfl, ?_⟩
    have n0_ := Aside0.mk (Kd.R_below (by (with_reducible repeat (first | apply Kd.R_alloc | apply Kd.R_drewN | apply Kd.R_drew)); exact HO178.out) hb)
    have n1_ := Aside0.mk (Kd.R_below (by (with_reducible repeat (first | apply Kd.R_alloc | apply Kd.R_drewN | apply Kd.R_drew)); exact HO182.out) hb)
    have n2_ := Aside0.mk (blk_below (g := gb175) (o := .cells #[.bool a1_0, .int .u32 a1_1, .bool true, .int .u64 a1_3, .int .u32 a1_4, .int .u64 a1_5, .int .i64 a1_6, .int .i64 a1_7, .int .i64 a1_8, .int .i64 a1_9, .int .i64 a1_10, .int .i64 a1_11, .bool a1_12] 33 (0, 0)) (by (with_reducible repeat (first | refine blk_drewN ?_ _ | refine blk_drew ?_ | refine blk_alloc ?_ _)); exact BK175.out) hb)
    have n3_ := Aside0.mk (below_step (by repeat (first | (with_reducible first | exact HB.out | apply below_alloc | apply pw_below_drewN | apply below_drew1 | refine below_set ?_ GE175.out) | exact HB.out)) hb)
    clear HO178
    clear HO182
    clear BK175
    clear HB
    have HO178 := n0_
    have HO182 := n1_
    have BK175 := n2_
    have HB := n3_
    clear n0_ n1_ n2_ n3_
    (try clear hb)
    (try clear hb2)
    (try clear hk)
    (try clear hi)
    (try clear A7)
    refine hK.out _ _ ⟨(blk_cell BK175.out 0).trans rfl, (blk_cell BK175.out 1).trans rfl, (blk_cell BK175.out 2).trans rfl, (blk_cell BK175.out 3).trans rfl, (blk_cell BK175.out 4).trans rfl, (blk_cell BK175.out 5).trans rfl, (blk_cell BK175.out 6).trans rfl, (blk_cell BK175.out 7).trans rfl, (blk_cell BK175.out 8).trans rfl, (blk_cell BK175.out 9).trans rfl, (blk_cell BK175.out 10).trans rfl, (blk_cell BK175.out 11).trans rfl, (blk_cell BK175.out 12).trans rfl⟩ (fun hHeld => ?_)
    clear hK K
    refine norm_ (a' := ?_) ?_ ?_
    rotate_left
    · show Act.put _ (some 35) _ = _
      simp only [Act.put, List.setIfInBounds_toArray, List.set_cons_zero, List.set_cons_succ, i64_w, i32_w]
      rfl
    refine one_ (i := 15) (N := some 41) #[true, true, true, true, true, true, true, true, true, true, true, true, true, true, true, true, true, true, true, true, true, true, false, false, false, false] rfl rfl (one_of HT_.out (by kernel_rfl)) (by decide) (fun K hK => ?_)
    refine goes_ Tryd.func10 (by kernel_rfl) rfl #[.int .u64 a1_5] (by rfl) rfl rfl (by (try simp only [List.map_toArray, List.map_cons, List.map_nil]); first | done | rfl | (simp only [List.length_drop, List.length_take]; rfl)) ?_
    with_reducible refine (show_long.calls a1_5 t191 _ ?side1 A8.out).mono ?_
    (case side1 => exact Laid.below hL (by repeat (first | (with_reducible first | exact HB.out | apply below_alloc | apply pw_below_drewN | apply below_drew1 | refine below_set ?_ GE175.out) | exact HB.out)))
    rintro e w24 ⟨rfl, hb⟩
    refine ⟨_, rfl, ?_⟩
    have n0_ := Aside0.mk (Kd.R_below (by (with_reducible repeat (first | apply Kd.R_alloc | apply Kd.R_drewN | apply Kd.R_drew)); exact HO178.out) hb)
    have n1_ := Aside0.mk (Kd.R_below (by (with_reducible repeat (first | apply Kd.R_alloc | apply Kd.R_drewN | apply Kd.R_drew)); exact HO182.out) hb)
    have n2_ := Aside0.mk (blk_below (g := gb175) (o := .cells #[.bool a1_0, .int .u32 a1_1, .bool true, .int .u64 a1_3, .int .u32 a1_4, .int .u64 a1_5, .int .i64 a1_6, .int .i64 a1_7, .int .i64 a1_8, .int .i64 a1_9, .int .i64 a1_10, .int .i64 a1_11, .bool a1_12] 33 (0, 0)) (by (with_reducible repeat (first | refine blk_drewN ?_ _ | refine blk_drew ?_ | refine blk_alloc ?_ _)); exact BK175.out) hb)
    have n3_ := Aside0.mk (below_step (by repeat (first | (with_reducible first | exact HB.out | apply below_alloc | apply pw_below_drewN | apply below_drew1 | refine below_set ?_ GE175.out) | exact HB.out)) hb)
    clear HO178
    clear HO182
    clear BK175
    clear HB
    have HO178 := n0_
    have HO182 := n1_
    have BK175 := n2_
    have HB := n3_
    clear n0_ n1_ n2_ n3_
    (try clear hb)
    (try clear hb2)
    (try clear hk)
    (try clear hi)
    (try clear A8)
    refine hK.out _ _ ⟨(blk_cell BK175.out 0).trans rfl, (blk_cell BK175.out 1).trans rfl, (blk_cell BK175.out 2).trans rfl, (blk_cell BK175.out 3).trans rfl, (blk_cell BK175.out 4).trans rfl, (blk_cell BK175.out 5).trans rfl, (blk_cell BK175.out 6).trans rfl, (blk_cell BK175.out 7).trans rfl, (blk_cell BK175.out 8).trans rfl, (blk_cell BK175.out 9).trans rfl, (blk_cell BK175.out 10).trans rfl, (blk_cell BK175.out 11).trans rfl, (blk_cell BK175.out 12).trans rfl⟩ (fun hHeld => ?_)
    clear hK K
    refine norm_ (a' := ?_) ?_ ?_
    rotate_left
    · show Act.put _ (some 41) _ = _
      simp only [Act.put, List.setIfInBounds_toArray, List.set_cons_zero, List.set_cons_succ, i64_w, i32_w]
      rfl
    refine one_ (i := 22) (N := some 48) #[true, true, true, true, true, true, true, true, true, true, true, true, true, true, true, true, true, true, true, true, true, true, true, false, false, false] rfl rfl (one_of HT_.out (by kernel_rfl)) (by decide) (fun K hK => ?_)
    refine goes_ Tryd.func10 (by kernel_rfl) rfl #[.int .u64 (IntKind.u64.wrap (a1_4))] (by rfl) rfl rfl (by (try simp only [List.map_toArray, List.map_cons, List.map_nil]); first | done | rfl | (simp only [List.length_drop, List.length_take]; rfl)) ?_
    with_reducible refine (show_long.calls (IntKind.u64.wrap (a1_4)) t192 _ ?side1 A9.out).mono ?_
    (case side1 => exact Laid.below hL (by repeat (first | (with_reducible first | exact HB.out | apply below_alloc | apply pw_below_drewN | apply below_drew1 | refine below_set ?_ GE175.out) | exact HB.out)))
    rintro e w25 ⟨rfl, hb⟩
    refine ⟨_, rfl, ?_⟩
    have n0_ := Aside0.mk (Kd.R_below (by (with_reducible repeat (first | apply Kd.R_alloc | apply Kd.R_drewN | apply Kd.R_drew)); exact HO178.out) hb)
    have n1_ := Aside0.mk (Kd.R_below (by (with_reducible repeat (first | apply Kd.R_alloc | apply Kd.R_drewN | apply Kd.R_drew)); exact HO182.out) hb)
    have n2_ := Aside0.mk (blk_below (g := gb175) (o := .cells #[.bool a1_0, .int .u32 a1_1, .bool true, .int .u64 a1_3, .int .u32 a1_4, .int .u64 a1_5, .int .i64 a1_6, .int .i64 a1_7, .int .i64 a1_8, .int .i64 a1_9, .int .i64 a1_10, .int .i64 a1_11, .bool a1_12] 33 (0, 0)) (by (with_reducible repeat (first | refine blk_drewN ?_ _ | refine blk_drew ?_ | refine blk_alloc ?_ _)); exact BK175.out) hb)
    have n3_ := Aside0.mk (below_step (by repeat (first | (with_reducible first | exact HB.out | apply below_alloc | apply pw_below_drewN | apply below_drew1 | refine below_set ?_ GE175.out) | exact HB.out)) hb)
    clear HO178
    clear HO182
    clear BK175
    clear HB
    have HO178 := n0_
    have HO182 := n1_
    have BK175 := n2_
    have HB := n3_
    clear n0_ n1_ n2_ n3_
    (try clear hb)
    (try clear hb2)
    (try clear hk)
    (try clear hi)
    (try clear A9)
    refine hK.out _ _ ⟨(blk_cell BK175.out 0).trans rfl, (blk_cell BK175.out 1).trans rfl, (blk_cell BK175.out 2).trans rfl, (blk_cell BK175.out 3).trans rfl, (blk_cell BK175.out 4).trans rfl, (blk_cell BK175.out 5).trans rfl, (blk_cell BK175.out 6).trans rfl, (blk_cell BK175.out 7).trans rfl, (blk_cell BK175.out 8).trans rfl, (blk_cell BK175.out 9).trans rfl, (blk_cell BK175.out 10).trans rfl, (blk_cell BK175.out 11).trans rfl, (blk_cell BK175.out 12).trans rfl⟩ (fun hHeld => ?_)
    clear hK K
    refine norm_ (a' := ?_) ?_ ?_
    rotate_left
    · show Act.put _ (some 48) _ = _
      simp only [Act.put, List.setIfInBounds_toArray, List.set_cons_zero, List.set_cons_succ, i64_w, i32_w]
      rfl
    refine one_ (i := 23) (N := some 49) #[true, true, true, true, true, true, true, true, true, true, true, true, true, true, true, true, true, true, true, true, true, true, true, true, false, false] rfl rfl (one_of HT_.out (by kernel_rfl)) (by decide) (fun K hK => ?_)
    refine Kd.R_lit_step Kd.string _ 9 ?hg (N := 49) ?hd (xs := ([(⟨#[112, 111, 114, 116]⟩ : ByteArray), t189, t179, t183, (⟨#[114, 111, 111, 116]⟩ : ByteArray), t190, (⟨#[102, 114, 111, 109]⟩ : ByteArray), t191, (⟨#[99, 111, 115, 116]⟩ : ByteArray), t192] : List ByteArray)) (inner := [.string (⟨#[112, 111, 114, 116]⟩ : ByteArray), .string t189, .string t179, .string t183, .string (⟨#[114, 111, 111, 116]⟩ : ByteArray), .string t190, .string (⟨#[102, 114, 111, 109]⟩ : ByteArray), .string t191, .string (⟨#[99, 111, 115, 116]⟩ : ByteArray), .string t192]) (ok := fun _ => True) (okp := fun _ => True) ?hr ?hp (fun _ hk => hk) trivial (Below.refl _ _) (Nat.le_refl _) (by simp) ?_; (case hd => rfl); (case hg => rfl); (case hr => first | (go_simp; done) | (go_simp; rfl)); (case hp => exact (Reps.one (show Kd.M Kd.string _ _ _ (⟨#[112, 111, 114, 116]⟩ : ByteArray) [.string (⟨#[112, 111, 114, 116]⟩ : ByteArray)] from rfl) (Reps.one (show Kd.M Kd.string _ _ _ t189 [.string t189] from rfl) (Reps.one (show Kd.M Kd.string _ _ _ t179 [.string t179] from rfl) (Reps.one (show Kd.M Kd.string _ _ _ t183 [.string t183] from rfl) (Reps.one (show Kd.M Kd.string _ _ _ (⟨#[114, 111, 111, 116]⟩ : ByteArray) [.string (⟨#[114, 111, 111, 116]⟩ : ByteArray)] from rfl) (Reps.one (show Kd.M Kd.string _ _ _ t190 [.string t190] from rfl) (Reps.one (show Kd.M Kd.string _ _ _ (⟨#[102, 114, 111, 109]⟩ : ByteArray) [.string (⟨#[102, 114, 111, 109]⟩ : ByteArray)] from rfl) (Reps.one (show Kd.M Kd.string _ _ _ t191 [.string t191] from rfl) (Reps.one (show Kd.M Kd.string _ _ _ (⟨#[99, 111, 115, 116]⟩ : ByteArray) [.string (⟨#[99, 111, 115, 116]⟩ : ByteArray)] from rfl) (Reps.one (show Kd.M Kd.string _ _ _ t192 [.string t192] from rfl) (Reps.none _ _))))))))))))
    intro v194 w26 ho27 hb hg_ hnew_
    clear hg_ hnew_
    (first | rw [← Ny193.out] at ho27 | (simp only [Int.reduceToNat] at ho27; rw [← Ny193.out] at ho27))
    have n0_ := Aside0.mk (Kd.R_elder' (by (with_reducible repeat (first | apply Kd.R_alloc | apply Kd.R_drewN | apply Kd.R_drew)); exact HO178.out) (Kd.R_base ho27) hb)
    have n1_ := Aside0.mk (Kd.R_elder' (by (with_reducible repeat (first | apply Kd.R_alloc | apply Kd.R_drewN | apply Kd.R_drew)); exact HO182.out) (Kd.R_base ho27) hb)
    have n2_ := Aside0.mk (Kd.R_lower (Kd.R_new' (Kd.R_new' ho27 (Kd.R_lt (by (with_reducible repeat (first | apply Kd.R_alloc | apply Kd.R_drewN | apply Kd.R_drew)); exact HO178.out))) (Kd.R_lt (by (with_reducible repeat (first | apply Kd.R_alloc | apply Kd.R_drewN | apply Kd.R_drew)); exact HO182.out))) (below_size (by repeat (first | (with_reducible first | exact HB.out | apply below_alloc | apply pw_below_drewN | apply below_drew1 | refine below_set ?_ GE175.out) | exact HB.out))))
    have n3_ := Aside0.mk (blk_below (g := gb175) (o := .cells #[.bool a1_0, .int .u32 a1_1, .bool true, .int .u64 a1_3, .int .u32 a1_4, .int .u64 a1_5, .int .i64 a1_6, .int .i64 a1_7, .int .i64 a1_8, .int .i64 a1_9, .int .i64 a1_10, .int .i64 a1_11, .bool a1_12] 33 (0, 0)) (by (with_reducible repeat (first | refine blk_drewN ?_ _ | refine blk_drew ?_ | refine blk_alloc ?_ _)); exact BK175.out) hb)
    have n4_ := Aside0.mk (below_step (by repeat (first | (with_reducible first | exact HB.out | apply below_alloc | apply pw_below_drewN | apply below_drew1 | refine below_set ?_ GE175.out) | exact HB.out)) hb)
    clear HO178
    clear HO182
    clear BK175
    clear HB
    have HO178 := n0_
    have HO182 := n1_
    have HO195 := n2_
    have BK175 := n3_
    have HB := n4_
    clear n0_ n1_ n2_ n3_ n4_
    clear hb ho27
    obtain ⟨Ao28, co28, eo28⟩ := Kd.R_slice HO195.out
    (first | subst eo28 | (injection eo28 with f1_ f2_ f3_; have f4_ := f1_.symm; have f5_ := f3_.symm; clear f1_ f2_ f3_; subst f4_; subst f5_))
    refine hK.out _ _ ⟨(blk_cell BK175.out 0).trans rfl, (blk_cell BK175.out 1).trans rfl, (blk_cell BK175.out 2).trans rfl, (blk_cell BK175.out 3).trans rfl, (blk_cell BK175.out 4).trans rfl, (blk_cell BK175.out 5).trans rfl, (blk_cell BK175.out 6).trans rfl, (blk_cell BK175.out 7).trans rfl, (blk_cell BK175.out 8).trans rfl, (blk_cell BK175.out 9).trans rfl, (blk_cell BK175.out 10).trans rfl, (blk_cell BK175.out 11).trans rfl, (blk_cell BK175.out 12).trans rfl⟩ (fun hHeld => ?_)
    clear hK K
    refine norm_ (a' := ?_) ?_ ?_
    rotate_left
    · show Act.put _ (some 49) _ = _
      simp only [Act.put, List.setIfInBounds_toArray, List.set_cons_zero, List.set_cons_succ, i64_w, i32_w]
      rfl
    refine one_ (i := 24) (N := some 50) #[true, true, true, true, true, true, true, true, true, true, true, true, true, true, true, true, true, true, true, true, true, true, true, true, true, false] rfl rfl (one_of HT_.out (by kernel_rfl)) (by decide) (fun K hK => ?_)
    refine goes_ Tryd.func8 (by kernel_rfl) rfl #[.slice Ao28 y193.length co28] (by rfl) rfl rfl (by (try simp only [List.map_toArray, List.map_cons, List.map_nil]); first | done | rfl | (simp only [List.length_drop, List.length_take]; rfl)) ?_
    with_reducible refine (words_Join.calls k _ _ y193 t196 _ ?side1 ?side2 ?side3 A10.out).mono ?_
    (case side1 => repeat (first | exact (Kd.R_reads' HO195.out).2.2 | (with_reducible refine Kd.C_alloc ?_ _) | (with_reducible refine Kd.C_drewN ?_ _) | (with_reducible refine Kd.C_drew ?_)))
    (case side2 => exact (Kd.R_reads' HO195.out).2.1)
    (case side3 => exact Laid.below hL (by repeat (first | (with_reducible first | exact HB.out | apply below_alloc | apply pw_below_drewN | apply below_drew1 | refine below_set ?_ GE175.out) | exact HB.out)))
    rintro e w29 ⟨rfl, hb⟩
    refine ⟨_, rfl, ?_⟩
    have n0_ := Aside0.mk (Kd.R_below (by (with_reducible repeat (first | apply Kd.R_alloc | apply Kd.R_drewN | apply Kd.R_drew)); exact HO178.out) hb)
    have n1_ := Aside0.mk (Kd.R_below (by (with_reducible repeat (first | apply Kd.R_alloc | apply Kd.R_drewN | apply Kd.R_drew)); exact HO182.out) hb)
    have n2_ := Aside0.mk (Kd.R_below (by (with_reducible repeat (first | apply Kd.R_alloc | apply Kd.R_drewN | apply Kd.R_drew)); exact HO195.out) hb)
    have n3_ := Aside0.mk (blk_below (g := gb175) (o := .cells #[.bool a1_0, .int .u32 a1_1, .bool true, .int .u64 a1_3, .int .u32 a1_4, .int .u64 a1_5, .int .i64 a1_6, .int .i64 a1_7, .int .i64 a1_8, .int .i64 a1_9, .int .i64 a1_10, .int .i64 a1_11, .bool a1_12] 33 (0, 0)) (by (with_reducible repeat (first | refine blk_drewN ?_ _ | refine blk_drew ?_ | refine blk_alloc ?_ _)); exact BK175.out) hb)
    have n4_ := Aside0.mk (below_step (by repeat (first | (with_reducible first | exact HB.out | apply below_alloc | apply pw_below_drewN | apply below_drew1 | refine below_set ?_ GE175.out) | exact HB.out)) hb)
    clear HO178
    clear HO182
    clear HO195
    clear BK175
    clear HB
    have HO178 := n0_
    have HO182 := n1_
    have HO195 := n2_
    have BK175 := n3_
    have HB := n4_
    clear n0_ n1_ n2_ n3_ n4_
    (try clear hb)
    (try clear hb2)
    (try clear hk)
    (try clear hi)
    (try clear A10)
    refine hK.out _ _ ⟨(blk_cell BK175.out 0).trans rfl, (blk_cell BK175.out 1).trans rfl, (blk_cell BK175.out 2).trans rfl, (blk_cell BK175.out 3).trans rfl, (blk_cell BK175.out 4).trans rfl, (blk_cell BK175.out 5).trans rfl, (blk_cell BK175.out 6).trans rfl, (blk_cell BK175.out 7).trans rfl, (blk_cell BK175.out 8).trans rfl, (blk_cell BK175.out 9).trans rfl, (blk_cell BK175.out 10).trans rfl, (blk_cell BK175.out 11).trans rfl, (blk_cell BK175.out 12).trans rfl⟩ (fun hHeld => ?_)
    clear hK K
    refine norm_ (a' := ?_) ?_ ?_
    rotate_left
    · show Act.put _ (some 50) _ = _
      simp only [Act.put, List.setIfInBounds_toArray, List.set_cons_zero, List.set_cons_succ, i64_w, i32_w]
      rfl
    refine pure_ (i := 25) (N := some 4) (v := ?_) (a' := ?_) #[true, true, true, true, true, true, true, true, true, true, true, true, true, true, true, true, true, true, true, true, true, true, true, true, true, true] rfl rfl (any_of HT_.out (by kernel_rfl)) (fun _ _ _ h => h) (Or.inl ⟨by rfl, ?_⟩) ?_ ?_
    rotate_left
    · intro w'
      go_simp
      with_reducible rfl
    rotate_left
    · simp only [Act.put, List.setIfInBounds_toArray, List.set_cons_zero, List.set_cons_succ, i64_w, i32_w]
      rfl
    refine done_ (done_of HT_.out (by kernel_rfl)) ?_
    try go_wp2
    go_ret
    exact ⟨by first | rfl | (simp [errW_none, errW_some] <;> rfl) | (simp [*, errW_none, errW_some] <;> rfl), by repeat (first | (with_reducible first | exact HB.out | apply below_alloc | apply pw_below_drewN | apply below_drew1 | refine below_set ?_ GE175.out) | exact HB.out)⟩
  · replace c5 := Bool.eq_false_iff.mpr c5
    subst c5
    have H1 : ((words_Text.f a0).bind fun t184 => ((words_Join.f k (([(⟨#[112, 111, 114, 116]⟩ : ByteArray), t184, t179, t183, (⟨#[115, 105, 108, 101, 110, 116]⟩ : ByteArray)] : List ByteArray))).bind fun t188 => (some t188))) = some r := by rw [if_neg (show ¬ (false = true) by decide)] at H; exact H
    clear H
    have H := H1
    clear H1
    replace H := Option.bind_eq_some_iff.mp H
    obtain ⟨t184, A300, H⟩ := H
    replace H : ((words_Join.f k (([(⟨#[112, 111, 114, 116]⟩ : ByteArray), t184, t179, t183, (⟨#[115, 105, 108, 101, 110, 116]⟩ : ByteArray)] : List ByteArray))).bind fun t188 => (some t188)) = some r := H
    have A30 := Aside0.mk A300
    clear A300
    obtain ⟨y185, hy185⟩ : ∃ y_ : List ByteArray, y_ = (([(⟨#[112, 111, 114, 116]⟩ : ByteArray), t184, t179, t183, (⟨#[115, 105, 108, 101, 110, 116]⟩ : ByteArray)] : List ByteArray)) := ⟨_, rfl⟩
    replace H : ((words_Join.f k y185).bind fun t188 => (some t188)) = some r := by first | (rw [hy185]; with_reducible exact H) | (have H2_ := (Option.bind_some _ _).symm.trans H; rw [hy185]; with_reducible exact H2_) | (have H2_ := (Option.bind_some _ _).symm.trans H; with_reducible exact H2_) | with_reducible exact H | (rw [hy185]; exact H) | exact H
    have Ny185 := Aside0.mk hy185
    clear hy185
    replace H := Option.bind_eq_some_iff.mp H
    obtain ⟨t188, A310, H⟩ := H
    replace H : (some t188) = some r := H
    have A31 := Aside0.mk A310
    clear A310
    obtain rfl := Option.some.inj H
    go_enter Tryd.func5, Tryd.ntmps5
    go_wp2_with (first | ((with_reducible refine gate_dst (N := 3) rfl ?_); refine box_event ?hg (N := 3) ?hd (cs := #[.bool a1_0, .int .u32 a1_1, .bool false, .int .u64 a1_3, .int .u32 a1_4, .int .u64 a1_5, .int .i64 a1_6, .int .i64 a1_7, .int .i64 a1_8, .int .i64 a1_9, .int .i64 a1_10, .int .i64 a1_11, .bool a1_12]) (t := 33) ?hr ?_; (case hd => rfl); (case hg => rfl); (case hr => first | (go_simp; done) | (go_simp; rfl)); intro gb175 hg w32 hbox hb; have n0_ := Aside0.mk (below_step (by repeat (first | (with_reducible first | exact HB.out | apply below_alloc | apply pw_below_drewN | apply below_drew1) | exact HB.out)) hb); have n1_ := Aside0.mk (hbox); have n2_ := Aside0.mk ((by rw [hg]; exact (below_size (by repeat (first | (with_reducible first | exact HB.out | apply below_alloc | apply pw_below_drewN | apply below_drew1) | exact HB.out))) : w.heap.size ≤ gb175)); have n3_ := Aside0.mk ((by rw [hg]; exact (below_size (by repeat (first | (with_reducible first | exact HB.out | apply below_alloc | apply pw_below_drewN | apply below_drew1) | exact HB.out))) : w.heap.size ≤ gb175)); clear HB; have HB := n0_; have BK175 := n1_; have GW175 := n2_; have GE175 := n3_; clear n0_ n1_ n2_ n3_; clear hb hbox hg; have hcz33_0 : w32.cell? ⟨gb175, 0, none⟩ = some (.bool a1_0) := (blk_cell BK175.out 0).trans rfl; have hcz33_1 : w32.cell? ⟨gb175, 1, none⟩ = some (.int .u32 a1_1) := (blk_cell BK175.out 1).trans rfl; have hcz33_2 : w32.cell? ⟨gb175, 2, none⟩ = some (.bool false) := (blk_cell BK175.out 2).trans rfl; have hcz33_3 : w32.cell? ⟨gb175, 3, none⟩ = some (.int .u64 a1_3) := (blk_cell BK175.out 3).trans rfl; have hcz33_4 : w32.cell? ⟨gb175, 4, none⟩ = some (.int .u32 a1_4) := (blk_cell BK175.out 4).trans rfl; have hcz33_5 : w32.cell? ⟨gb175, 5, none⟩ = some (.int .u64 a1_5) := (blk_cell BK175.out 5).trans rfl; have hcz33_6 : w32.cell? ⟨gb175, 6, none⟩ = some (.int .i64 a1_6) := (blk_cell BK175.out 6).trans rfl; have hcz33_7 : w32.cell? ⟨gb175, 7, none⟩ = some (.int .i64 a1_7) := (blk_cell BK175.out 7).trans rfl; have hcz33_8 : w32.cell? ⟨gb175, 8, none⟩ = some (.int .i64 a1_8) := (blk_cell BK175.out 8).trans rfl; have hcz33_9 : w32.cell? ⟨gb175, 9, none⟩ = some (.int .i64 a1_9) := (blk_cell BK175.out 9).trans rfl; have hcz33_10 : w32.cell? ⟨gb175, 10, none⟩ = some (.int .i64 a1_10) := (blk_cell BK175.out 10).trans rfl; have hcz33_11 : w32.cell? ⟨gb175, 11, none⟩ = some (.int .i64 a1_11) := (blk_cell BK175.out 11).trans rfl; have hcz33_12 : w32.cell? ⟨gb175, 12, none⟩ = some (.bool a1_12) := (blk_cell BK175.out 12).trans rfl; have hfz33_0 := blk_frozen BK175.out 0; have hfz33_1 := blk_frozen BK175.out 1; have hfz33_2 := blk_frozen BK175.out 2; have hfz33_3 := blk_frozen BK175.out 3; have hfz33_4 := blk_frozen BK175.out 4; have hfz33_5 := blk_frozen BK175.out 5; have hfz33_6 := blk_frozen BK175.out 6; have hfz33_7 := blk_frozen BK175.out 7; have hfz33_8 := blk_frozen BK175.out 8; have hfz33_9 := blk_frozen BK175.out 9; have hfz33_10 := blk_frozen BK175.out 10; have hfz33_11 := blk_frozen BK175.out 11; have hfz33_12 := blk_frozen BK175.out 12) | ((with_reducible refine gate_dst (N := 9) rfl ?_); refine Kd.R_lit Kd.string _ 9 ?hg (N := 9) ?hd (xs := ([(⟨#[100, 105, 115, 97, 98, 108, 101, 100]⟩ : ByteArray), (⟨#[97, 108, 116, 101, 114, 110, 97, 116, 101]⟩ : ByteArray), (⟨#[114, 111, 111, 116]⟩ : ByteArray), (⟨#[100, 101, 115, 105, 103, 110, 97, 116, 101, 100]⟩ : ByteArray), (⟨#[98, 97, 99, 107, 117, 112]⟩ : ByteArray)] : List ByteArray)) (inner := [.string (⟨#[100, 105, 115, 97, 98, 108, 101, 100]⟩ : ByteArray), .string (⟨#[97, 108, 116, 101, 114, 110, 97, 116, 101]⟩ : ByteArray), .string (⟨#[114, 111, 111, 116]⟩ : ByteArray), .string (⟨#[100, 101, 115, 105, 103, 110, 97, 116, 101, 100]⟩ : ByteArray), .string (⟨#[98, 97, 99, 107, 117, 112]⟩ : ByteArray)]) (ok := fun _ => True) (okp := fun _ => True) ?hr ?hp (fun _ hk => hk) trivial (Below.refl _ _) (Nat.le_refl _) (by simp) ?_; (case hd => rfl); (case hg => rfl); (case hr => first | (go_simp; done) | (go_simp; rfl)); (case hp => exact (Reps.one (show Kd.M Kd.string _ _ _ (⟨#[100, 105, 115, 97, 98, 108, 101, 100]⟩ : ByteArray) [.string (⟨#[100, 105, 115, 97, 98, 108, 101, 100]⟩ : ByteArray)] from rfl) (Reps.one (show Kd.M Kd.string _ _ _ (⟨#[97, 108, 116, 101, 114, 110, 97, 116, 101]⟩ : ByteArray) [.string (⟨#[97, 108, 116, 101, 114, 110, 97, 116, 101]⟩ : ByteArray)] from rfl) (Reps.one (show Kd.M Kd.string _ _ _ (⟨#[114, 111, 111, 116]⟩ : ByteArray) [.string (⟨#[114, 111, 111, 116]⟩ : ByteArray)] from rfl) (Reps.one (show Kd.M Kd.string _ _ _ (⟨#[100, 101, 115, 105, 103, 110, 97, 116, 101, 100]⟩ : ByteArray) [.string (⟨#[100, 101, 115, 105, 103, 110, 97, 116, 101, 100]⟩ : ByteArray)] from rfl) (Reps.one (show Kd.M Kd.string _ _ _ (⟨#[98, 97, 99, 107, 117, 112]⟩ : ByteArray) [.string (⟨#[98, 97, 99, 107, 117, 112]⟩ : ByteArray)] from rfl) (Reps.none _ _))))))); intro v177 w34 ho35 hb hg_ hnew_; clear hg_ hnew_; (first | rw [← Ny176.out] at ho35 | (simp only [Int.reduceToNat] at ho35; rw [← Ny176.out] at ho35)); have n0_ := Aside0.mk (Kd.R_lower ho35 (below_size (by repeat (first | (with_reducible first | exact HB.out | apply below_alloc | apply pw_below_drewN | apply below_drew1 | refine below_set ?_ GE175.out) | exact HB.out)))); have n1_ := Aside0.mk (blk_below (g := gb175) (o := .cells #[.bool a1_0, .int .u32 a1_1, .bool false, .int .u64 a1_3, .int .u32 a1_4, .int .u64 a1_5, .int .i64 a1_6, .int .i64 a1_7, .int .i64 a1_8, .int .i64 a1_9, .int .i64 a1_10, .int .i64 a1_11, .bool a1_12] 33 (0, 0)) (by (with_reducible repeat (first | refine blk_drewN ?_ _ | refine blk_drew ?_ | refine blk_alloc ?_ _)); exact BK175.out) hb); have n2_ := Aside0.mk (below_step (by repeat (first | (with_reducible first | exact HB.out | apply below_alloc | apply pw_below_drewN | apply below_drew1 | refine below_set ?_ GE175.out) | exact HB.out)) hb); clear BK175; clear HB; have HO178 := n0_; have BK175 := n1_; have HB := n2_; clear n0_ n1_ n2_; clear hb ho35; obtain ⟨Ao36, co36, eo36⟩ := Kd.R_slice HO178.out; subst eo36) | ((with_reducible refine gate_callee (f := 7) rfl ?_); refine goesL_ (some 10) rfl rfl Tryd.func7 (by kernel_rfl) rfl #[.int .i64 a1_9, .slice Ao36 y176.length co36] rfl (by (try simp only [List.map_toArray, List.map_cons, List.map_nil]); first | done | rfl | (simp only [List.length_drop, List.length_take]; rfl)) ?_; (with_reducible refine (show_name.calls a1_9 _ _ y176 t179 _ ?side1 ?side2 ?side3 A3.out).mono ?_); (case side1 => repeat (first | exact (Kd.R_reads' HO178.out).2.2 | (with_reducible refine Kd.C_alloc ?_ _) | (with_reducible refine Kd.C_drewN ?_ _) | (with_reducible refine Kd.C_drew ?_))); (case side2 => exact (Kd.R_reads' HO178.out).2.1); (case side3 => exact Laid.below hL (by repeat (first | (with_reducible first | exact HB.out | apply below_alloc | apply pw_below_drewN | apply below_drew1 | refine below_set ?_ GE175.out) | exact HB.out))); rintro e w' ⟨rfl, ⟨nd, rfl⟩⟩; refine ⟨_, rfl, ?_⟩; (try clear A3); have hcz37_0 : w34.cell? ⟨gb175, 0, none⟩ = some (.bool a1_0) := (blk_cell BK175.out 0).trans rfl; have hcz37_1 : w34.cell? ⟨gb175, 1, none⟩ = some (.int .u32 a1_1) := (blk_cell BK175.out 1).trans rfl; have hcz37_2 : w34.cell? ⟨gb175, 2, none⟩ = some (.bool false) := (blk_cell BK175.out 2).trans rfl; have hcz37_3 : w34.cell? ⟨gb175, 3, none⟩ = some (.int .u64 a1_3) := (blk_cell BK175.out 3).trans rfl; have hcz37_4 : w34.cell? ⟨gb175, 4, none⟩ = some (.int .u32 a1_4) := (blk_cell BK175.out 4).trans rfl; have hcz37_5 : w34.cell? ⟨gb175, 5, none⟩ = some (.int .u64 a1_5) := (blk_cell BK175.out 5).trans rfl; have hcz37_6 : w34.cell? ⟨gb175, 6, none⟩ = some (.int .i64 a1_6) := (blk_cell BK175.out 6).trans rfl; have hcz37_7 : w34.cell? ⟨gb175, 7, none⟩ = some (.int .i64 a1_7) := (blk_cell BK175.out 7).trans rfl; have hcz37_8 : w34.cell? ⟨gb175, 8, none⟩ = some (.int .i64 a1_8) := (blk_cell BK175.out 8).trans rfl; have hcz37_9 : w34.cell? ⟨gb175, 9, none⟩ = some (.int .i64 a1_9) := (blk_cell BK175.out 9).trans rfl; have hcz37_10 : w34.cell? ⟨gb175, 10, none⟩ = some (.int .i64 a1_10) := (blk_cell BK175.out 10).trans rfl; have hcz37_11 : w34.cell? ⟨gb175, 11, none⟩ = some (.int .i64 a1_11) := (blk_cell BK175.out 11).trans rfl; have hcz37_12 : w34.cell? ⟨gb175, 12, none⟩ = some (.bool a1_12) := (blk_cell BK175.out 12).trans rfl; have hfz37_0 := blk_frozen BK175.out 0; have hfz37_1 := blk_frozen BK175.out 1; have hfz37_2 := blk_frozen BK175.out 2; have hfz37_3 := blk_frozen BK175.out 3; have hfz37_4 := blk_frozen BK175.out 4; have hfz37_5 := blk_frozen BK175.out 5; have hfz37_6 := blk_frozen BK175.out 6; have hfz37_7 := blk_frozen BK175.out 7; have hfz37_8 := blk_frozen BK175.out 8; have hfz37_9 := blk_frozen BK175.out 9; have hfz37_10 := blk_frozen BK175.out 10; have hfz37_11 := blk_frozen BK175.out 11; have hfz37_12 := blk_frozen BK175.out 12) | ((with_reducible refine gate_dst (N := 13) rfl ?_); refine Kd.R_lit Kd.string _ 9 ?hg (N := 13) ?hd (xs := ([(⟨#[100, 105, 115, 99, 97, 114, 100, 105, 110, 103]⟩ : ByteArray), (⟨#[108, 101, 97, 114, 110, 105, 110, 103]⟩ : ByteArray), (⟨#[102, 111, 114, 119, 97, 114, 100, 105, 110, 103]⟩ : ByteArray)] : List ByteArray)) (inner := [.string (⟨#[100, 105, 115, 99, 97, 114, 100, 105, 110, 103]⟩ : ByteArray), .string (⟨#[108, 101, 97, 114, 110, 105, 110, 103]⟩ : ByteArray), .string (⟨#[102, 111, 114, 119, 97, 114, 100, 105, 110, 103]⟩ : ByteArray)]) (ok := fun _ => True) (okp := fun _ => True) ?hr ?hp (fun _ hk => hk) trivial (Below.refl _ _) (Nat.le_refl _) (by simp) ?_; (case hd => rfl); (case hg => rfl); (case hr => first | (go_simp; done) | (go_simp; rfl)); (case hp => exact (Reps.one (show Kd.M Kd.string _ _ _ (⟨#[100, 105, 115, 99, 97, 114, 100, 105, 110, 103]⟩ : ByteArray) [.string (⟨#[100, 105, 115, 99, 97, 114, 100, 105, 110, 103]⟩ : ByteArray)] from rfl) (Reps.one (show Kd.M Kd.string _ _ _ (⟨#[108, 101, 97, 114, 110, 105, 110, 103]⟩ : ByteArray) [.string (⟨#[108, 101, 97, 114, 110, 105, 110, 103]⟩ : ByteArray)] from rfl) (Reps.one (show Kd.M Kd.string _ _ _ (⟨#[102, 111, 114, 119, 97, 114, 100, 105, 110, 103]⟩ : ByteArray) [.string (⟨#[102, 111, 114, 119, 97, 114, 100, 105, 110, 103]⟩ : ByteArray)] from rfl) (Reps.none _ _))))); intro v181 w38 ho39 hb hg_ hnew_; clear hg_ hnew_; (first | rw [← Ny180.out] at ho39 | (simp only [Int.reduceToNat] at ho39; rw [← Ny180.out] at ho39)); have n0_ := Aside0.mk (Kd.R_elder' (by (with_reducible repeat (first | apply Kd.R_alloc | apply Kd.R_drewN | apply Kd.R_drew)); exact HO178.out) (Kd.R_base ho39) hb); have n1_ := Aside0.mk (Kd.R_lower (Kd.R_new' ho39 (Kd.R_lt (by (with_reducible repeat (first | apply Kd.R_alloc | apply Kd.R_drewN | apply Kd.R_drew)); exact HO178.out))) (below_size (by repeat (first | (with_reducible first | exact HB.out | apply below_alloc | apply pw_below_drewN | apply below_drew1 | refine below_set ?_ GE175.out) | exact HB.out)))); have n2_ := Aside0.mk (blk_below (g := gb175) (o := .cells #[.bool a1_0, .int .u32 a1_1, .bool false, .int .u64 a1_3, .int .u32 a1_4, .int .u64 a1_5, .int .i64 a1_6, .int .i64 a1_7, .int .i64 a1_8, .int .i64 a1_9, .int .i64 a1_10, .int .i64 a1_11, .bool a1_12] 33 (0, 0)) (by (with_reducible repeat (first | refine blk_drewN ?_ _ | refine blk_drew ?_ | refine blk_alloc ?_ _)); exact BK175.out) hb); have n3_ := Aside0.mk (below_step (by repeat (first | (with_reducible first | exact HB.out | apply below_alloc | apply pw_below_drewN | apply below_drew1 | refine below_set ?_ GE175.out) | exact HB.out)) hb); clear HO178; clear BK175; clear HB; have HO178 := n0_; have HO182 := n1_; have BK175 := n2_; have HB := n3_; clear n0_ n1_ n2_ n3_; clear hb ho39; obtain ⟨Ao40, co40, eo40⟩ := Kd.R_slice HO182.out; subst eo40) | ((with_reducible refine gate_callee (f := 7) rfl ?_); refine goesL_ (some 14) rfl rfl Tryd.func7 (by kernel_rfl) rfl #[.int .i64 a1_10, .slice Ao40 y180.length co40] rfl (by (try simp only [List.map_toArray, List.map_cons, List.map_nil]); first | done | rfl | (simp only [List.length_drop, List.length_take]; rfl)) ?_; (with_reducible refine (show_name.calls a1_10 _ _ y180 t183 _ ?side1 ?side2 ?side3 A4.out).mono ?_); (case side1 => repeat (first | exact (Kd.R_reads' HO182.out).2.2 | (with_reducible refine Kd.C_alloc ?_ _) | (with_reducible refine Kd.C_drewN ?_ _) | (with_reducible refine Kd.C_drew ?_))); (case side2 => exact (Kd.R_reads' HO182.out).2.1); (case side3 => exact Laid.below hL (by repeat (first | (with_reducible first | exact HB.out | apply below_alloc | apply pw_below_drewN | apply below_drew1 | refine below_set ?_ GE175.out) | exact HB.out))); rintro e w' ⟨rfl, ⟨nd, rfl⟩⟩; refine ⟨_, rfl, ?_⟩; (try clear A4); have hcz41_0 : w38.cell? ⟨gb175, 0, none⟩ = some (.bool a1_0) := (blk_cell BK175.out 0).trans rfl; have hcz41_1 : w38.cell? ⟨gb175, 1, none⟩ = some (.int .u32 a1_1) := (blk_cell BK175.out 1).trans rfl; have hcz41_2 : w38.cell? ⟨gb175, 2, none⟩ = some (.bool false) := (blk_cell BK175.out 2).trans rfl; have hcz41_3 : w38.cell? ⟨gb175, 3, none⟩ = some (.int .u64 a1_3) := (blk_cell BK175.out 3).trans rfl; have hcz41_4 : w38.cell? ⟨gb175, 4, none⟩ = some (.int .u32 a1_4) := (blk_cell BK175.out 4).trans rfl; have hcz41_5 : w38.cell? ⟨gb175, 5, none⟩ = some (.int .u64 a1_5) := (blk_cell BK175.out 5).trans rfl; have hcz41_6 : w38.cell? ⟨gb175, 6, none⟩ = some (.int .i64 a1_6) := (blk_cell BK175.out 6).trans rfl; have hcz41_7 : w38.cell? ⟨gb175, 7, none⟩ = some (.int .i64 a1_7) := (blk_cell BK175.out 7).trans rfl; have hcz41_8 : w38.cell? ⟨gb175, 8, none⟩ = some (.int .i64 a1_8) := (blk_cell BK175.out 8).trans rfl; have hcz41_9 : w38.cell? ⟨gb175, 9, none⟩ = some (.int .i64 a1_9) := (blk_cell BK175.out 9).trans rfl; have hcz41_10 : w38.cell? ⟨gb175, 10, none⟩ = some (.int .i64 a1_10) := (blk_cell BK175.out 10).trans rfl; have hcz41_11 : w38.cell? ⟨gb175, 11, none⟩ = some (.int .i64 a1_11) := (blk_cell BK175.out 11).trans rfl; have hcz41_12 : w38.cell? ⟨gb175, 12, none⟩ = some (.bool a1_12) := (blk_cell BK175.out 12).trans rfl; have hfz41_0 := blk_frozen BK175.out 0; have hfz41_1 := blk_frozen BK175.out 1; have hfz41_2 := blk_frozen BK175.out 2; have hfz41_3 := blk_frozen BK175.out 3; have hfz41_4 := blk_frozen BK175.out 4; have hfz41_5 := blk_frozen BK175.out 5; have hfz41_6 := blk_frozen BK175.out 6; have hfz41_7 := blk_frozen BK175.out 7; have hfz41_8 := blk_frozen BK175.out 8; have hfz41_9 := blk_frozen BK175.out 9; have hfz41_10 := blk_frozen BK175.out 10; have hfz41_11 := blk_frozen BK175.out 11; have hfz41_12 := blk_frozen BK175.out 12) | ((with_reducible refine gate_callee (f := 9) rfl ?_); refine goesL_ (some 21) rfl rfl Tryd.func9 (by kernel_rfl) rfl #[.int .i64 a0] rfl (by (try simp only [List.map_toArray, List.map_cons, List.map_nil]); first | done | rfl | (simp only [List.length_drop, List.length_take]; rfl)) ?_; (with_reducible refine (words_Text.calls a0 t184 _ ?side1 A30.out).mono ?_); (case side1 => exact Laid.below hL (by repeat (first | (with_reducible first | exact HB.out | apply below_alloc | apply pw_below_drewN | apply below_drew1 | refine below_set ?_ GE175.out) | exact HB.out))); rintro e w42 ⟨rfl, hb⟩; refine ⟨_, rfl, ?_⟩; have n0_ := Aside0.mk (Kd.R_below (by (with_reducible repeat (first | apply Kd.R_alloc | apply Kd.R_drewN | apply Kd.R_drew)); exact HO178.out) hb); have n1_ := Aside0.mk (Kd.R_below (by (with_reducible repeat (first | apply Kd.R_alloc | apply Kd.R_drewN | apply Kd.R_drew)); exact HO182.out) hb); have n2_ := Aside0.mk (blk_below (g := gb175) (o := .cells #[.bool a1_0, .int .u32 a1_1, .bool false, .int .u64 a1_3, .int .u32 a1_4, .int .u64 a1_5, .int .i64 a1_6, .int .i64 a1_7, .int .i64 a1_8, .int .i64 a1_9, .int .i64 a1_10, .int .i64 a1_11, .bool a1_12] 33 (0, 0)) (by (with_reducible repeat (first | refine blk_drewN ?_ _ | refine blk_drew ?_ | refine blk_alloc ?_ _)); exact BK175.out) hb); have n3_ := Aside0.mk (below_step (by repeat (first | (with_reducible first | exact HB.out | apply below_alloc | apply pw_below_drewN | apply below_drew1 | refine below_set ?_ GE175.out) | exact HB.out)) hb); clear HO178; clear HO182; clear BK175; clear HB; have HO178 := n0_; have HO182 := n1_; have BK175 := n2_; have HB := n3_; clear n0_ n1_ n2_ n3_; (try clear hb); (try clear hb2); (try clear hk); (try clear hi); (try clear A30)) | ((with_reducible refine gate_dst (N := 24) rfl ?_); refine Kd.R_lit Kd.string _ 9 ?hg (N := 24) ?hd (xs := ([(⟨#[112, 111, 114, 116]⟩ : ByteArray), t184, t179, t183, (⟨#[115, 105, 108, 101, 110, 116]⟩ : ByteArray)] : List ByteArray)) (inner := [.string (⟨#[112, 111, 114, 116]⟩ : ByteArray), .string t184, .string t179, .string t183, .string (⟨#[115, 105, 108, 101, 110, 116]⟩ : ByteArray)]) (ok := fun _ => True) (okp := fun _ => True) ?hr ?hp (fun _ hk => hk) trivial (Below.refl _ _) (Nat.le_refl _) (by simp) ?_; (case hd => rfl); (case hg => rfl); (case hr => first | (go_simp; done) | (go_simp; rfl)); (case hp => exact (Reps.one (show Kd.M Kd.string _ _ _ (⟨#[112, 111, 114, 116]⟩ : ByteArray) [.string (⟨#[112, 111, 114, 116]⟩ : ByteArray)] from rfl) (Reps.one (show Kd.M Kd.string _ _ _ t184 [.string t184] from rfl) (Reps.one (show Kd.M Kd.string _ _ _ t179 [.string t179] from rfl) (Reps.one (show Kd.M Kd.string _ _ _ t183 [.string t183] from rfl) (Reps.one (show Kd.M Kd.string _ _ _ (⟨#[115, 105, 108, 101, 110, 116]⟩ : ByteArray) [.string (⟨#[115, 105, 108, 101, 110, 116]⟩ : ByteArray)] from rfl) (Reps.none _ _))))))); intro v186 w43 ho44 hb hg_ hnew_; clear hg_ hnew_; (first | rw [← Ny185.out] at ho44 | (simp only [Int.reduceToNat] at ho44; rw [← Ny185.out] at ho44)); have n0_ := Aside0.mk (Kd.R_elder' (by (with_reducible repeat (first | apply Kd.R_alloc | apply Kd.R_drewN | apply Kd.R_drew)); exact HO178.out) (Kd.R_base ho44) hb); have n1_ := Aside0.mk (Kd.R_elder' (by (with_reducible repeat (first | apply Kd.R_alloc | apply Kd.R_drewN | apply Kd.R_drew)); exact HO182.out) (Kd.R_base ho44) hb); have n2_ := Aside0.mk (Kd.R_lower (Kd.R_new' (Kd.R_new' ho44 (Kd.R_lt (by (with_reducible repeat (first | apply Kd.R_alloc | apply Kd.R_drewN | apply Kd.R_drew)); exact HO178.out))) (Kd.R_lt (by (with_reducible repeat (first | apply Kd.R_alloc | apply Kd.R_drewN | apply Kd.R_drew)); exact HO182.out))) (below_size (by repeat (first | (with_reducible first | exact HB.out | apply below_alloc | apply pw_below_drewN | apply below_drew1 | refine below_set ?_ GE175.out) | exact HB.out)))); have n3_ := Aside0.mk (blk_below (g := gb175) (o := .cells #[.bool a1_0, .int .u32 a1_1, .bool false, .int .u64 a1_3, .int .u32 a1_4, .int .u64 a1_5, .int .i64 a1_6, .int .i64 a1_7, .int .i64 a1_8, .int .i64 a1_9, .int .i64 a1_10, .int .i64 a1_11, .bool a1_12] 33 (0, 0)) (by (with_reducible repeat (first | refine blk_drewN ?_ _ | refine blk_drew ?_ | refine blk_alloc ?_ _)); exact BK175.out) hb); have n4_ := Aside0.mk (below_step (by repeat (first | (with_reducible first | exact HB.out | apply below_alloc | apply pw_below_drewN | apply below_drew1 | refine below_set ?_ GE175.out) | exact HB.out)) hb); clear HO178; clear HO182; clear BK175; clear HB; have HO178 := n0_; have HO182 := n1_; have HO187 := n2_; have BK175 := n3_; have HB := n4_; clear n0_ n1_ n2_ n3_ n4_; clear hb ho44; obtain ⟨Ao45, co45, eo45⟩ := Kd.R_slice HO187.out; subst eo45) | ((with_reducible refine gate_callee (f := 8) rfl ?_); refine goesL_ (some 25) rfl rfl Tryd.func8 (by kernel_rfl) rfl #[.slice Ao45 y185.length co45] rfl (by (try simp only [List.map_toArray, List.map_cons, List.map_nil]); first | done | rfl | (simp only [List.length_drop, List.length_take]; rfl)) ?_; (with_reducible refine (words_Join.calls k _ _ y185 t188 _ ?side1 ?side2 ?side3 A31.out).mono ?_); (case side1 => repeat (first | exact (Kd.R_reads' HO187.out).2.2 | (with_reducible refine Kd.C_alloc ?_ _) | (with_reducible refine Kd.C_drewN ?_ _) | (with_reducible refine Kd.C_drew ?_))); (case side2 => exact (Kd.R_reads' HO187.out).2.1); (case side3 => exact Laid.below hL (by repeat (first | (with_reducible first | exact HB.out | apply below_alloc | apply pw_below_drewN | apply below_drew1 | refine below_set ?_ GE175.out) | exact HB.out))); rintro e w46 ⟨rfl, hb⟩; refine ⟨_, rfl, ?_⟩; have n0_ := Aside0.mk (Kd.R_below (by (with_reducible repeat (first | apply Kd.R_alloc | apply Kd.R_drewN | apply Kd.R_drew)); exact HO178.out) hb); have n1_ := Aside0.mk (Kd.R_below (by (with_reducible repeat (first | apply Kd.R_alloc | apply Kd.R_drewN | apply Kd.R_drew)); exact HO182.out) hb); have n2_ := Aside0.mk (Kd.R_below (by (with_reducible repeat (first | apply Kd.R_alloc | apply Kd.R_drewN | apply Kd.R_drew)); exact HO187.out) hb); have n3_ := Aside0.mk (blk_below (g := gb175) (o := .cells #[.bool a1_0, .int .u32 a1_1, .bool false, .int .u64 a1_3, .int .u32 a1_4, .int .u64 a1_5, .int .i64 a1_6, .int .i64 a1_7, .int .i64 a1_8, .int .i64 a1_9, .int .i64 a1_10, .int .i64 a1_11, .bool a1_12] 33 (0, 0)) (by (with_reducible repeat (first | refine blk_drewN ?_ _ | refine blk_drew ?_ | refine blk_alloc ?_ _)); exact BK175.out) hb); have n4_ := Aside0.mk (below_step (by repeat (first | (with_reducible first | exact HB.out | apply below_alloc | apply pw_below_drewN | apply below_drew1 | refine below_set ?_ GE175.out) | exact HB.out)) hb); clear HO178; clear HO182; clear HO187; clear BK175; clear HB; have HO178 := n0_; have HO182 := n1_; have HO187 := n2_; have BK175 := n3_; have HB := n4_; clear n0_ n1_ n2_ n3_ n4_; (try clear hb); (try clear hb2); (try clear hk); (try clear hi); (try clear A31)))
    go_ret
    exact ⟨by first | rfl | (simp [errW_none, errW_some] <;> rfl) | (simp [*, errW_none, errW_some] <;> rfl), by repeat (first | (with_reducible first | exact HB.out | apply below_alloc | apply pw_below_drewN | apply below_drew1 | refine below_set ?_ GE175.out) | exact HB.out)⟩

/-! ### show_lines: function 21 -/
def show_lines.l0 : Nat → List ByteArray → List (S65) → Int → Int → Option (List ByteArray)
  | 0, _, _, _, _ => none
  | k + 1, x3, x8, x9, x10 => if x10 < x9 then (if 0 ≤ x10 then (if x10 < (x8.length : Int) then ((parse_Text.f k 1 ((rd_T65 x8 x10).f0) ((rd_T65 x8 x10).f1) ((rd_T65 x8 x10).f2) ((rd_T65 x8 x10).f3) ((rd_T65 x8 x10).f4) ((rd_T65 x8 x10).f5) ((rd_T65 x8 x10).f6)).bind fun bt199 => (if bt199.2 = 0 then (if x3.length < 8796093022208 then (show_lines.l0 k (x3 ++ [bt199.1]) x8 x9 (wrap64 (x10 + 1))) else (none)) else (show_lines.l0 k x3 x8 x9 (wrap64 (x10 + 1))))) else (none)) else (none)) else (some x3)
def show_lines.f (k : Nat) (l0 : List (S65)) : Option (List ByteArray) := show_lines.l0 k ([] : List ByteArray) l0 (l0.length : Int) 0
theorem show_lines.mono_l : ∀ k, (∀ y0 y1 y2 y3, LeO (show_lines.l0 k y0 y1 y2 y3) (show_lines.l0 (k + 1) y0 y1 y2 y3))
  | 0 => fun _ _ _ _ r h => by simp [show_lines.l0] at h
  | k + 1 => by
    have ih0 := show_lines.mono_l k
    · intro y0 y1 y2 y3
      unfold show_lines.l0
      repeat' first
      | (with_reducible exact ih0 _ _ _ _)
      | (with_reducible exact parse_Text.mono _ _ _ _ _ _ _ _ _)
      | (with_reducible exact LeO.refl _)
      | (with_reducible exact LeO.none _)
      | (with_reducible refine LeO.ite ?_ ?_)
      | (with_reducible refine LeO.bind ?_ (fun _ => ?_))
      | exact ih0 _ _ _ _
      | exact parse_Text.mono _ _ _ _ _ _ _ _ _
      | exact LeO.none _
      | refine LeO.ite ?_ ?_
      | refine LeO.bind ?_ (fun _ => ?_)
theorem show_lines.mono : ∀ a0 k, LeO (show_lines.f k a0) (show_lines.f (k + 1) a0) := by
  intro a0 k
  have ih0 := show_lines.mono_l k
  unfold show_lines.f
  repeat' first
      | (with_reducible exact ih0 _ _ _ _)
      | (with_reducible exact parse_Text.mono _ _ _ _ _ _ _ _ _)
      | (with_reducible exact LeO.refl _)
      | (with_reducible exact LeO.none _)
      | (with_reducible refine LeO.ite ?_ ?_)
      | (with_reducible refine LeO.bind ?_ (fun _ => ?_))
      | exact ih0 _ _ _ _
      | exact parse_Text.mono _ _ _ _ _ _ _ _ _
      | exact LeO.none _
      | refine LeO.ite ?_ ?_
      | refine LeO.bind ?_ (fun _ => ?_)
set_option maxHeartbeats 8000000 in
set_option maxRecDepth 100000 in
theorem show_lines.calls (k : Nat) (A0 : Option Addr) (c0 : Nat) (l0 : List (S65)) (r : List ByteArray) (w : World) (hr0 : Kd.C k65 w A0 l0.length l0) (hc0 : l0.length ≤ c0) (hL : Laid w) (h : show_lines.f k l0 = some r) :
    Calls Tryd.prog 21 #[.slice A0 l0.length c0] w fun e w' => ∃ v0_ : Value, e = .returned (v0_) ∧ Kd.R Kd.string 9 w' w.heap.size (fun _ => True) v0_ r ∧ Below w.heap.size w w' := by
  have hu65 := Tryd.underlying65
  have hu86 := Tryd.underlying86
  have HR0 := Aside0.mk hr0
  have HC0 := Aside0.mk hc0
  clear hr0 hc0
  have HB := Aside0.mk (Below.refl w.heap.size w)
  have H : (show_lines.l0 k ([] : List ByteArray) l0 (l0.length : Int) 0) = some r := h
  clear h
  have H' := Aside0.mk H
  clear H
  go_enter Tryd.func21, Tryd.ntmps21
  go_wp2
  go_loopg [3, 10] k (fun kq v3 v10 w' => ∃ (x3_1 : List ByteArray) (x10_1 : Int), v10 = .int .i64 x10_1 ∧ Aside0 (show_lines.l0 kq x3_1 l0 (l0.length : Int) x10_1 = some r) ∧ Aside0 (kq ≤ k) ∧ Aside0 (Kd.R Kd.string 9 w' w.heap.size (fun _ => True) v3 x3_1) ∧ Aside0 (Below w.heap.size w w'))
  case atStart => exact ⟨(([] : List ByteArray)), (0), (by first | rfl | (simp; done) | (simp [*]; done)), H', ⟨Nat.le_refl _⟩, ⟨by first | exact Kd.R_nil _ _ _ _ _ | exact Kd.N_nil _ _ _ _ _ | exact Kd.V_nil _ _ _ _ _ | exact Kd.Q_nil _ _ _ _ _ | exact Kd.S_nil _ _ _ _ _⟩, ⟨by repeat (first | (with_reducible first | exact HB.out | apply below_alloc | apply pw_below_drewN | apply below_drew1) | exact HB.out)⟩⟩
  case round =>
    clear H'
    obtain ⟨x3_1, x10_1, rfl, HA, HK1, HO_3, HB⟩ := hrel
    cases gk with
    | zero => exact absurd HA.out (by simp [show_lines.l0])
    | succ k1 =>
      have H := HA.out
      clear HA
      simp only [show_lines.l0] at H
      by_cases c2 : x10_1 < (l0.length : Int)
      · rw [if_pos c2] at H
        have c2b0 : decide (x10_1 < (l0.length : Int)) = true := decide_eq_true c2
        clear c2
        by_cases c3 : 0 ≤ x10_1
        · rw [if_pos c3] at H
          have c3b0 : decide (0 ≤ x10_1) = true := decide_eq_true c3
          clear c3
          by_cases c4 : x10_1 < (l0.length : Int)
          · rw [if_pos c4] at H
            have c4b0 : decide (x10_1 < (l0.length : Int)) = true := decide_eq_true c4
            clear c4
            replace H := Option.bind_eq_some_iff.mp H
            obtain ⟨⟨t199, t200⟩, A50, H⟩ := H
            replace H : (if t200 = 0 then (if x3_1.length < 8796093022208 then (show_lines.l0 k1 (x3_1 ++ [t199]) l0 (l0.length : Int) (wrap64 (x10_1 + 1))) else (none)) else (show_lines.l0 k1 x3_1 l0 (l0.length : Int) (wrap64 (x10_1 + 1)))) = some r := H
            have A5 := Aside0.mk A50
            clear A50
            by_cases c6 : t200 = 0
            · rw [if_pos c6] at H
              have c6b0 : (t200 == 0) = true := beq_iff_eq.mpr c6
              have c6b1 : (t200 != 0) = false := bne_eq_false_iff_eq.mpr c6
              clear c6
              by_cases c7 : x3_1.length < 8796093022208
              · rw [if_pos c7] at H
                have LMc7 := Aside0.mk c7
                clear c7
                obtain ⟨y201, hy201⟩ : ∃ y_ : List ByteArray, y_ = (x3_1 ++ [t199]) := ⟨_, rfl⟩
                replace H : (show_lines.l0 k1 y201 l0 (l0.length : Int) (wrap64 (x10_1 + 1))) = some r := by first | (rw [hy201]; with_reducible exact H) | (have H2_ := (Option.bind_some _ _).symm.trans H; rw [hy201]; with_reducible exact H2_) | (have H2_ := (Option.bind_some _ _).symm.trans H; with_reducible exact H2_) | with_reducible exact H | (rw [hy201]; exact H) | exact H
                have Ny201 := Aside0.mk hy201
                clear hy201
                have H' := Aside0.mk H
                clear H
                have p197 : 0 ≤ (x10_1 : Int) := of_decide_eq_true (by first | (with_reducible assumption) | assumption)
                have q197 : x10_1 < (l0.length : Int) := of_decide_eq_true (by first | (with_reducible assumption) | assumption)
                obtain ⟨ad197, e197, hx197_0, hx197_1, hx197_2, hx197_3, hx197_4, hx197_5, hx197_6⟩ := at_T65 HR0.out x10_1 p197 q197
                cases e197
                replace hx197_0 := (HB.out.cell (World.block_lt_of_cell? w _ hx197_0)).trans hx197_0
                replace hx197_1 := (HB.out.cell (World.block_lt_of_cell? w _ hx197_1)).trans hx197_1
                replace hx197_2 := (HB.out.cell (World.block_lt_of_cell? w _ hx197_2)).trans hx197_2
                replace hx197_3 := (HB.out.cell (World.block_lt_of_cell? w _ hx197_3)).trans hx197_3
                replace hx197_4 := (HB.out.cell (World.block_lt_of_cell? w _ hx197_4)).trans hx197_4
                replace hx197_5 := (HB.out.cell (World.block_lt_of_cell? w _ hx197_5)).trans hx197_5
                replace hx197_6 := (HB.out.cell (World.block_lt_of_cell? w _ hx197_6)).trans hx197_6
                replace p197 := eq_true p197
                replace q197 := eq_true q197
                go_wp2_with (first | ((with_reducible refine gate_dst (N := 5) rfl ?_); refine box_event ?hg (N := 5) ?hd (cs := #[.int .i64 0, .int .i64 0, .int .i64 0, .int .i64 0, .int .u8 0, .int .u8 0, .int .u64 0]) (t := 65) ?hr ?_; (case hd => rfl); (case hg => rfl); (case hr => first | (go_simp; done) | (go_simp; rfl)); intro gb198 hg w8 hbox hb; have n0_ := Aside0.mk (Kd.R_below (by (with_reducible repeat (first | apply Kd.R_alloc | apply Kd.R_drewN | apply Kd.R_drew)); exact HO_3.out) hb); have n1_ := Aside0.mk (below_step (by repeat (first | (with_reducible first | exact HB.out | apply below_alloc | apply pw_below_drewN | apply below_drew1) | exact HB.out)) hb); have n2_ := Aside0.mk (hbox); have n3_ := Aside0.mk ((by rw [hg]; exact (below_size (by repeat (first | (with_reducible first | exact HB.out | apply below_alloc | apply pw_below_drewN | apply below_drew1) | exact HB.out))) : w.heap.size ≤ gb198)); have n4_ := Aside0.mk ((by rw [hg]; exact (below_size (by repeat (first | (with_reducible first | exact HB.out | apply below_alloc | apply pw_below_drewN | apply below_drew1) | exact HB.out))) : w.heap.size ≤ gb198)); clear HO_3; clear HB; have HO_3 := n0_; have HB := n1_; have BK198 := n2_; have GW198 := n3_; have GE198 := n4_; clear n0_ n1_ n2_ n3_ n4_; clear hb hbox hg; have hcz9_0 : w8.cell? ⟨gb198, 0, none⟩ = some (.int .i64 0) := (blk_cell BK198.out 0).trans rfl; have hcz9_1 : w8.cell? ⟨gb198, 1, none⟩ = some (.int .i64 0) := (blk_cell BK198.out 1).trans rfl; have hcz9_2 : w8.cell? ⟨gb198, 2, none⟩ = some (.int .i64 0) := (blk_cell BK198.out 2).trans rfl; have hcz9_3 : w8.cell? ⟨gb198, 3, none⟩ = some (.int .i64 0) := (blk_cell BK198.out 3).trans rfl; have hcz9_4 : w8.cell? ⟨gb198, 4, none⟩ = some (.int .u8 0) := (blk_cell BK198.out 4).trans rfl; have hcz9_5 : w8.cell? ⟨gb198, 5, none⟩ = some (.int .u8 0) := (blk_cell BK198.out 5).trans rfl; have hcz9_6 : w8.cell? ⟨gb198, 6, none⟩ = some (.int .u64 0) := (blk_cell BK198.out 6).trans rfl; have hfz9_0 := blk_frozen BK198.out 0; have hfz9_1 := blk_frozen BK198.out 1; have hfz9_2 := blk_frozen BK198.out 2; have hfz9_3 := blk_frozen BK198.out 3; have hfz9_4 := blk_frozen BK198.out 4; have hfz9_5 := blk_frozen BK198.out 5; have hfz9_6 := blk_frozen BK198.out 6) | ((with_reducible refine gate_callee (f := 29) rfl ?_); refine goesL_ (some 17) rfl rfl Tryd.func29 (by kernel_rfl) rfl #[.agg #[.int .i64 1, .int .i64 ((rd_T65 l0 x10_1).f0), .int .i64 ((rd_T65 l0 x10_1).f1), .int .i64 ((rd_T65 l0 x10_1).f2), .int .i64 ((rd_T65 l0 x10_1).f3), .int .u8 ((rd_T65 l0 x10_1).f4), .int .u8 ((rd_T65 l0 x10_1).f5), .int .u64 ((rd_T65 l0 x10_1).f6)]] rfl (by (try simp only [List.map_toArray, List.map_cons, List.map_nil]); first | done | rfl | (simp only [List.length_drop, List.length_take]; rfl)) ?_; (with_reducible refine (parse_Text.calls k1 1 ((rd_T65 l0 x10_1).f0) ((rd_T65 l0 x10_1).f1) ((rd_T65 l0 x10_1).f2) ((rd_T65 l0 x10_1).f3) ((rd_T65 l0 x10_1).f4) ((rd_T65 l0 x10_1).f5) ((rd_T65 l0 x10_1).f6) t199 t200 _ ?side1 A5.out).mono ?_); (case side1 => exact Laid.below hL (by repeat (first | (with_reducible first | exact HB.out | apply below_alloc | apply pw_below_drewN | apply below_drew1 | refine below_set ?_ GE198.out) | exact HB.out))); rintro e w10 ⟨rfl, hb⟩; refine ⟨_, rfl, ?_⟩; have n0_ := Aside0.mk (Kd.R_below (by (with_reducible repeat (first | apply Kd.R_alloc | apply Kd.R_drewN | apply Kd.R_drew)); exact (Kd.R_mono (Kd.R_far (p := ⟨gb198, 6, none⟩) (Kd.R_far (p := ⟨gb198, 5, none⟩) (Kd.R_far (p := ⟨gb198, 4, none⟩) (Kd.R_far (p := ⟨gb198, 3, none⟩) (Kd.R_far (p := ⟨gb198, 2, none⟩) (Kd.R_far (p := ⟨gb198, 1, none⟩) (Kd.R_far (p := ⟨gb198, 0, none⟩) (Kd.R_types HO_3.out BK198.out (by decide)) (fun _ hk => hk.2) (.int .i64 ((rd_T65 l0 x10_1).f0))) (fun _ hk => hk.2) (.int .i64 ((rd_T65 l0 x10_1).f1))) (fun _ hk => hk.2) (.int .i64 ((rd_T65 l0 x10_1).f2))) (fun _ hk => hk.2) (.int .i64 ((rd_T65 l0 x10_1).f3))) (fun _ hk => hk.2) (.int .u8 ((rd_T65 l0 x10_1).f4))) (fun _ hk => hk.2) (.int .u8 ((rd_T65 l0 x10_1).f5))) (fun _ hk => hk.2) (.int .u64 ((rd_T65 l0 x10_1).f6))) (fun _ h_ => h_.1))) hb); have n1_ := Aside0.mk (blk_below (g := gb198) (o := .cells #[.int .i64 ((rd_T65 l0 x10_1).f0), .int .i64 ((rd_T65 l0 x10_1).f1), .int .i64 ((rd_T65 l0 x10_1).f2), .int .i64 ((rd_T65 l0 x10_1).f3), .int .u8 ((rd_T65 l0 x10_1).f4), .int .u8 ((rd_T65 l0 x10_1).f5), .int .u64 ((rd_T65 l0 x10_1).f6)] 65 (0, 0)) (by (with_reducible repeat (first | refine blk_drewN ?_ _ | refine blk_drew ?_ | refine blk_alloc ?_ _)); refine blk_put (cs := #[.int .i64 ((rd_T65 l0 x10_1).f0), .int .i64 ((rd_T65 l0 x10_1).f1), .int .i64 ((rd_T65 l0 x10_1).f2), .int .i64 ((rd_T65 l0 x10_1).f3), .int .u8 ((rd_T65 l0 x10_1).f4), .int .u8 ((rd_T65 l0 x10_1).f5), .int .u64 0]) ?_ 6 _ rfl; (with_reducible repeat (first | refine blk_drewN ?_ _ | refine blk_drew ?_ | refine blk_alloc ?_ _)); refine blk_put (cs := #[.int .i64 ((rd_T65 l0 x10_1).f0), .int .i64 ((rd_T65 l0 x10_1).f1), .int .i64 ((rd_T65 l0 x10_1).f2), .int .i64 ((rd_T65 l0 x10_1).f3), .int .u8 ((rd_T65 l0 x10_1).f4), .int .u8 0, .int .u64 0]) ?_ 5 _ rfl; (with_reducible repeat (first | refine blk_drewN ?_ _ | refine blk_drew ?_ | refine blk_alloc ?_ _)); refine blk_put (cs := #[.int .i64 ((rd_T65 l0 x10_1).f0), .int .i64 ((rd_T65 l0 x10_1).f1), .int .i64 ((rd_T65 l0 x10_1).f2), .int .i64 ((rd_T65 l0 x10_1).f3), .int .u8 0, .int .u8 0, .int .u64 0]) ?_ 4 _ rfl; (with_reducible repeat (first | refine blk_drewN ?_ _ | refine blk_drew ?_ | refine blk_alloc ?_ _)); refine blk_put (cs := #[.int .i64 ((rd_T65 l0 x10_1).f0), .int .i64 ((rd_T65 l0 x10_1).f1), .int .i64 ((rd_T65 l0 x10_1).f2), .int .i64 0, .int .u8 0, .int .u8 0, .int .u64 0]) ?_ 3 _ rfl; (with_reducible repeat (first | refine blk_drewN ?_ _ | refine blk_drew ?_ | refine blk_alloc ?_ _)); refine blk_put (cs := #[.int .i64 ((rd_T65 l0 x10_1).f0), .int .i64 ((rd_T65 l0 x10_1).f1), .int .i64 0, .int .i64 0, .int .u8 0, .int .u8 0, .int .u64 0]) ?_ 2 _ rfl; (with_reducible repeat (first | refine blk_drewN ?_ _ | refine blk_drew ?_ | refine blk_alloc ?_ _)); refine blk_put (cs := #[.int .i64 ((rd_T65 l0 x10_1).f0), .int .i64 0, .int .i64 0, .int .i64 0, .int .u8 0, .int .u8 0, .int .u64 0]) ?_ 1 _ rfl; (with_reducible repeat (first | refine blk_drewN ?_ _ | refine blk_drew ?_ | refine blk_alloc ?_ _)); refine blk_put (cs := #[.int .i64 0, .int .i64 0, .int .i64 0, .int .i64 0, .int .u8 0, .int .u8 0, .int .u64 0]) ?_ 0 _ rfl; (with_reducible repeat (first | refine blk_drewN ?_ _ | refine blk_drew ?_ | refine blk_alloc ?_ _)); exact BK198.out) hb); have n2_ := Aside0.mk (below_step (by repeat (first | (with_reducible first | exact HB.out | apply below_alloc | apply pw_below_drewN | apply below_drew1 | refine below_set ?_ GE198.out) | exact HB.out)) hb); clear HO_3; clear BK198; clear HB; have HO_3 := n0_; have BK198 := n1_; have HB := n2_; clear n0_ n1_ n2_; (try clear hb); (try clear hb2); (try clear hk); (try clear hi); (try clear A5)) | ((with_reducible refine gate_builtin (b := .append) (xs := #[.tmp 22, .tmp 24]) rfl ?_); at_builtin; refine Kd.R_append Kd.string (w0 := w) w.heap.size rfl (.tmp 22) (.tmp 24) 27 9 (.string ⟨#[]⟩) 16 rfl Tryd.underlying27 info9 rfl (by decide) (by omega) u3 x3_1 t199 [.string t199] (fun _ => True) (fun _ => False) rfl rfl ?aP (fun _ hk => hk.elim) ?aF ?aO ?aB ?aS ?aL ?_; (case aP => exact rfl); (case aB => exact (by repeat (first | (with_reducible first | exact HB.out | apply below_alloc | apply pw_below_drewN | apply below_drew1 | refine below_set ?_ GE198.out) | exact HB.out))); (case aF => exact (fun _ _ => trivial)); (case aO => exact (by (with_reducible repeat (first | apply Kd.R_alloc | apply Kd.R_drewN | apply Kd.R_drew)); exact HO_3.out)); (case aS => exact (below_size (by repeat (first | (with_reducible first | exact HB.out | apply below_alloc | apply pw_below_drewN | apply below_drew1 | refine below_set ?_ GE198.out) | exact HB.out)))); (case aL => have := LMc7.out; omega); intro v202 w11 ho hb hg hat; rw [← Ny201.out] at ho; have n0_ := Aside0.mk (blk_grown (g := gb198) (o := .cells #[.int .i64 ((rd_T65 l0 x10_1).f0), .int .i64 ((rd_T65 l0 x10_1).f1), .int .i64 ((rd_T65 l0 x10_1).f2), .int .i64 ((rd_T65 l0 x10_1).f3), .int .u8 ((rd_T65 l0 x10_1).f4), .int .u8 ((rd_T65 l0 x10_1).f5), .int .u64 ((rd_T65 l0 x10_1).f6)] 65 (0, 0)) (by (with_reducible repeat (first | refine blk_drewN ?_ _ | refine blk_drew ?_ | refine blk_alloc ?_ _)); exact BK198.out) hg (Kd.R_ne HO_3.out BK198.out (by decide))); have n1_ := Aside0.mk (hb); have n2_ := Aside0.mk (ho); clear BK198; clear HB; clear HO_3; have BK198 := n0_; have HB := n1_; have HO203 := n2_; clear n0_ n1_ n2_; clear ho hb hg hat))
                go_roundg k1
                case measure => have := HK1.out; omega
                case rel => exact ⟨(y201), (wrap64 (x10_1 + 1)), (by first | rfl | (simp; done) | (simp [*]; done)), H', ⟨by have := HK1.out; omega⟩, ⟨by (with_reducible repeat (first | apply Kd.R_alloc | apply Kd.R_drewN | apply Kd.R_drew)); exact HO203.out⟩, ⟨by repeat (first | (with_reducible first | exact HB.out | apply below_alloc | apply pw_below_drewN | apply below_drew1 | refine below_set ?_ GE198.out) | exact HB.out)⟩⟩
              · rw [if_neg c7] at H
                exact absurd H (by simp)
            · rw [if_neg c6] at H
              have c6b0 : (t200 == 0) = false := beq_eq_false_iff_ne.mpr c6
              have c6b1 : (t200 != 0) = true := bne_iff_ne.mpr c6
              have H' := Aside0.mk H
              clear H
              have p197 : 0 ≤ (x10_1 : Int) := of_decide_eq_true (by first | (with_reducible assumption) | assumption)
              have q197 : x10_1 < (l0.length : Int) := of_decide_eq_true (by first | (with_reducible assumption) | assumption)
              obtain ⟨ad197, e197, hx197_0, hx197_1, hx197_2, hx197_3, hx197_4, hx197_5, hx197_6⟩ := at_T65 HR0.out x10_1 p197 q197
              cases e197
              replace hx197_0 := (HB.out.cell (World.block_lt_of_cell? w _ hx197_0)).trans hx197_0
              replace hx197_1 := (HB.out.cell (World.block_lt_of_cell? w _ hx197_1)).trans hx197_1
              replace hx197_2 := (HB.out.cell (World.block_lt_of_cell? w _ hx197_2)).trans hx197_2
              replace hx197_3 := (HB.out.cell (World.block_lt_of_cell? w _ hx197_3)).trans hx197_3
              replace hx197_4 := (HB.out.cell (World.block_lt_of_cell? w _ hx197_4)).trans hx197_4
              replace hx197_5 := (HB.out.cell (World.block_lt_of_cell? w _ hx197_5)).trans hx197_5
              replace hx197_6 := (HB.out.cell (World.block_lt_of_cell? w _ hx197_6)).trans hx197_6
              replace p197 := eq_true p197
              replace q197 := eq_true q197
              go_wp2_with (first | ((with_reducible refine gate_dst (N := 5) rfl ?_); refine box_event ?hg (N := 5) ?hd (cs := #[.int .i64 0, .int .i64 0, .int .i64 0, .int .i64 0, .int .u8 0, .int .u8 0, .int .u64 0]) (t := 65) ?hr ?_; (case hd => rfl); (case hg => rfl); (case hr => first | (go_simp; done) | (go_simp; rfl)); intro gb198 hg w12 hbox hb; have n0_ := Aside0.mk (Kd.R_below (by (with_reducible repeat (first | apply Kd.R_alloc | apply Kd.R_drewN | apply Kd.R_drew)); exact HO_3.out) hb); have n1_ := Aside0.mk (below_step (by repeat (first | (with_reducible first | exact HB.out | apply below_alloc | apply pw_below_drewN | apply below_drew1) | exact HB.out)) hb); have n2_ := Aside0.mk (hbox); have n3_ := Aside0.mk ((by rw [hg]; exact (below_size (by repeat (first | (with_reducible first | exact HB.out | apply below_alloc | apply pw_below_drewN | apply below_drew1) | exact HB.out))) : w.heap.size ≤ gb198)); have n4_ := Aside0.mk ((by rw [hg]; exact (below_size (by repeat (first | (with_reducible first | exact HB.out | apply below_alloc | apply pw_below_drewN | apply below_drew1) | exact HB.out))) : w.heap.size ≤ gb198)); clear HO_3; clear HB; have HO_3 := n0_; have HB := n1_; have BK198 := n2_; have GW198 := n3_; have GE198 := n4_; clear n0_ n1_ n2_ n3_ n4_; clear hb hbox hg; have hcz13_0 : w12.cell? ⟨gb198, 0, none⟩ = some (.int .i64 0) := (blk_cell BK198.out 0).trans rfl; have hcz13_1 : w12.cell? ⟨gb198, 1, none⟩ = some (.int .i64 0) := (blk_cell BK198.out 1).trans rfl; have hcz13_2 : w12.cell? ⟨gb198, 2, none⟩ = some (.int .i64 0) := (blk_cell BK198.out 2).trans rfl; have hcz13_3 : w12.cell? ⟨gb198, 3, none⟩ = some (.int .i64 0) := (blk_cell BK198.out 3).trans rfl; have hcz13_4 : w12.cell? ⟨gb198, 4, none⟩ = some (.int .u8 0) := (blk_cell BK198.out 4).trans rfl; have hcz13_5 : w12.cell? ⟨gb198, 5, none⟩ = some (.int .u8 0) := (blk_cell BK198.out 5).trans rfl; have hcz13_6 : w12.cell? ⟨gb198, 6, none⟩ = some (.int .u64 0) := (blk_cell BK198.out 6).trans rfl; have hfz13_0 := blk_frozen BK198.out 0; have hfz13_1 := blk_frozen BK198.out 1; have hfz13_2 := blk_frozen BK198.out 2; have hfz13_3 := blk_frozen BK198.out 3; have hfz13_4 := blk_frozen BK198.out 4; have hfz13_5 := blk_frozen BK198.out 5; have hfz13_6 := blk_frozen BK198.out 6) | ((with_reducible refine gate_callee (f := 29) rfl ?_); refine goesL_ (some 17) rfl rfl Tryd.func29 (by kernel_rfl) rfl #[.agg #[.int .i64 1, .int .i64 ((rd_T65 l0 x10_1).f0), .int .i64 ((rd_T65 l0 x10_1).f1), .int .i64 ((rd_T65 l0 x10_1).f2), .int .i64 ((rd_T65 l0 x10_1).f3), .int .u8 ((rd_T65 l0 x10_1).f4), .int .u8 ((rd_T65 l0 x10_1).f5), .int .u64 ((rd_T65 l0 x10_1).f6)]] rfl (by (try simp only [List.map_toArray, List.map_cons, List.map_nil]); first | done | rfl | (simp only [List.length_drop, List.length_take]; rfl)) ?_; (with_reducible refine (parse_Text.calls k1 1 ((rd_T65 l0 x10_1).f0) ((rd_T65 l0 x10_1).f1) ((rd_T65 l0 x10_1).f2) ((rd_T65 l0 x10_1).f3) ((rd_T65 l0 x10_1).f4) ((rd_T65 l0 x10_1).f5) ((rd_T65 l0 x10_1).f6) t199 t200 _ ?side1 A5.out).mono ?_); (case side1 => exact Laid.below hL (by repeat (first | (with_reducible first | exact HB.out | apply below_alloc | apply pw_below_drewN | apply below_drew1 | refine below_set ?_ GE198.out) | exact HB.out))); rintro e w14 ⟨rfl, hb⟩; refine ⟨_, rfl, ?_⟩; have n0_ := Aside0.mk (Kd.R_below (by (with_reducible repeat (first | apply Kd.R_alloc | apply Kd.R_drewN | apply Kd.R_drew)); exact (Kd.R_mono (Kd.R_far (p := ⟨gb198, 6, none⟩) (Kd.R_far (p := ⟨gb198, 5, none⟩) (Kd.R_far (p := ⟨gb198, 4, none⟩) (Kd.R_far (p := ⟨gb198, 3, none⟩) (Kd.R_far (p := ⟨gb198, 2, none⟩) (Kd.R_far (p := ⟨gb198, 1, none⟩) (Kd.R_far (p := ⟨gb198, 0, none⟩) (Kd.R_types HO_3.out BK198.out (by decide)) (fun _ hk => hk.2) (.int .i64 ((rd_T65 l0 x10_1).f0))) (fun _ hk => hk.2) (.int .i64 ((rd_T65 l0 x10_1).f1))) (fun _ hk => hk.2) (.int .i64 ((rd_T65 l0 x10_1).f2))) (fun _ hk => hk.2) (.int .i64 ((rd_T65 l0 x10_1).f3))) (fun _ hk => hk.2) (.int .u8 ((rd_T65 l0 x10_1).f4))) (fun _ hk => hk.2) (.int .u8 ((rd_T65 l0 x10_1).f5))) (fun _ hk => hk.2) (.int .u64 ((rd_T65 l0 x10_1).f6))) (fun _ h_ => h_.1))) hb); have n1_ := Aside0.mk (blk_below (g := gb198) (o := .cells #[.int .i64 ((rd_T65 l0 x10_1).f0), .int .i64 ((rd_T65 l0 x10_1).f1), .int .i64 ((rd_T65 l0 x10_1).f2), .int .i64 ((rd_T65 l0 x10_1).f3), .int .u8 ((rd_T65 l0 x10_1).f4), .int .u8 ((rd_T65 l0 x10_1).f5), .int .u64 ((rd_T65 l0 x10_1).f6)] 65 (0, 0)) (by (with_reducible repeat (first | refine blk_drewN ?_ _ | refine blk_drew ?_ | refine blk_alloc ?_ _)); refine blk_put (cs := #[.int .i64 ((rd_T65 l0 x10_1).f0), .int .i64 ((rd_T65 l0 x10_1).f1), .int .i64 ((rd_T65 l0 x10_1).f2), .int .i64 ((rd_T65 l0 x10_1).f3), .int .u8 ((rd_T65 l0 x10_1).f4), .int .u8 ((rd_T65 l0 x10_1).f5), .int .u64 0]) ?_ 6 _ rfl; (with_reducible repeat (first | refine blk_drewN ?_ _ | refine blk_drew ?_ | refine blk_alloc ?_ _)); refine blk_put (cs := #[.int .i64 ((rd_T65 l0 x10_1).f0), .int .i64 ((rd_T65 l0 x10_1).f1), .int .i64 ((rd_T65 l0 x10_1).f2), .int .i64 ((rd_T65 l0 x10_1).f3), .int .u8 ((rd_T65 l0 x10_1).f4), .int .u8 0, .int .u64 0]) ?_ 5 _ rfl; (with_reducible repeat (first | refine blk_drewN ?_ _ | refine blk_drew ?_ | refine blk_alloc ?_ _)); refine blk_put (cs := #[.int .i64 ((rd_T65 l0 x10_1).f0), .int .i64 ((rd_T65 l0 x10_1).f1), .int .i64 ((rd_T65 l0 x10_1).f2), .int .i64 ((rd_T65 l0 x10_1).f3), .int .u8 0, .int .u8 0, .int .u64 0]) ?_ 4 _ rfl; (with_reducible repeat (first | refine blk_drewN ?_ _ | refine blk_drew ?_ | refine blk_alloc ?_ _)); refine blk_put (cs := #[.int .i64 ((rd_T65 l0 x10_1).f0), .int .i64 ((rd_T65 l0 x10_1).f1), .int .i64 ((rd_T65 l0 x10_1).f2), .int .i64 0, .int .u8 0, .int .u8 0, .int .u64 0]) ?_ 3 _ rfl; (with_reducible repeat (first | refine blk_drewN ?_ _ | refine blk_drew ?_ | refine blk_alloc ?_ _)); refine blk_put (cs := #[.int .i64 ((rd_T65 l0 x10_1).f0), .int .i64 ((rd_T65 l0 x10_1).f1), .int .i64 0, .int .i64 0, .int .u8 0, .int .u8 0, .int .u64 0]) ?_ 2 _ rfl; (with_reducible repeat (first | refine blk_drewN ?_ _ | refine blk_drew ?_ | refine blk_alloc ?_ _)); refine blk_put (cs := #[.int .i64 ((rd_T65 l0 x10_1).f0), .int .i64 0, .int .i64 0, .int .i64 0, .int .u8 0, .int .u8 0, .int .u64 0]) ?_ 1 _ rfl; (with_reducible repeat (first | refine blk_drewN ?_ _ | refine blk_drew ?_ | refine blk_alloc ?_ _)); refine blk_put (cs := #[.int .i64 0, .int .i64 0, .int .i64 0, .int .i64 0, .int .u8 0, .int .u8 0, .int .u64 0]) ?_ 0 _ rfl; (with_reducible repeat (first | refine blk_drewN ?_ _ | refine blk_drew ?_ | refine blk_alloc ?_ _)); exact BK198.out) hb); have n2_ := Aside0.mk (below_step (by repeat (first | (with_reducible first | exact HB.out | apply below_alloc | apply pw_below_drewN | apply below_drew1 | refine below_set ?_ GE198.out) | exact HB.out)) hb); clear HO_3; clear BK198; clear HB; have HO_3 := n0_; have BK198 := n1_; have HB := n2_; clear n0_ n1_ n2_; (try clear hb); (try clear hb2); (try clear hk); (try clear hi); (try clear A5)))
              go_roundg k1
              case measure => have := HK1.out; omega
              case rel => exact ⟨(x3_1), (wrap64 (x10_1 + 1)), (by first | rfl | (simp; done) | (simp [*]; done)), H', ⟨by have := HK1.out; omega⟩, ⟨by (with_reducible repeat (first | apply Kd.R_alloc | apply Kd.R_drewN | apply Kd.R_drew)); exact HO_3.out⟩, ⟨by repeat (first | (with_reducible first | exact HB.out | apply below_alloc | apply pw_below_drewN | apply below_drew1 | refine below_set ?_ GE198.out) | exact HB.out)⟩⟩
          · rw [if_neg c4] at H
            exact absurd H (by simp)
        · rw [if_neg c3] at H
          exact absurd H (by simp)
      · rw [if_neg c2] at H
        have c2b0 : decide (x10_1 < (l0.length : Int)) = false := decide_eq_false c2
        clear c2
        obtain rfl := Option.some.inj H
        go_wp2
        go_ret
        exact ⟨_, by first | rfl | (simp [errW_none, errW_some] <;> rfl) | (simp [*, errW_none, errW_some] <;> rfl), by (with_reducible repeat (first | apply Kd.R_alloc | apply Kd.R_drewN | apply Kd.R_drew)); exact HO_3.out, by repeat (first | (with_reducible first | exact HB.out | apply below_alloc | apply pw_below_drewN | apply below_drew1) | exact HB.out)⟩

end Go.Proofs.YtjamaamkmfdnaaaDoor.X
