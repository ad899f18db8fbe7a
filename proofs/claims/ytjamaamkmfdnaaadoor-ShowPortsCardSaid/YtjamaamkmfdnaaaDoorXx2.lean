-- WRITTEN BY A PROGRAM OF THIS CLAIM'S SESSION (xprint.py, over the kit's print): functions, contracts. Lean checks it.
import Derived.Test.YtjamaamkmfdnaaaDoorXx0
namespace Go.Proofs.YtjamaamkmfdnaaaDoor.X
open Go.RowKit Go.Proofs.YtjamaamkmfdnaaaDoorW.PrintWords Go.Proofs.YtjamaamkmfdnaaaDoorW.PrintLast Go.Proofs.YtjamaamkmfdnaaaDoorW.PrintMore
attribute [local go_sem] max2_int min2_int max_two min_two max_three min_three max_four min_four   -- for this text's walks alone
set_option linter.unusedVariables false
set_option linter.unusedSimpArgs false

/-! ### words_Cut: function 38 -/
def words_Cut.l0 : Nat → List ByteArray → List ByteArray → Int → Int → Option (List ByteArray)
  | 0, _, _, _, _ => none
  | k + 1, x3, x7, x8, x9 => if x9 < x8 then (if 0 ≤ x9 then (if x9 < (x7.length : Int) then (if (rdOf ByteArray.empty x7 x9).toList = ([] : List UInt8) then (words_Cut.l0 k x3 x7 x8 (wrap64 (x9 + 1))) else (if x3.length < 8796093022208 then (words_Cut.l0 k (x3 ++ [rdOf ByteArray.empty x7 x9]) x7 x8 (wrap64 (x9 + 1))) else (none))) else (none)) else (none)) else (some x3)
def words_Cut.f (k : Nat) (a0 : ByteArray) : Option (List ByteArray) := (strings_Split.f a0 (⟨#[32]⟩ : ByteArray)).bind fun t101 => (words_Cut.l0 k ([] : List ByteArray) t101 (t101.length : Int) 0)
theorem words_Cut.mono_l : ∀ k, (∀ y0 y1 y2 y3, LeO (words_Cut.l0 k y0 y1 y2 y3) (words_Cut.l0 (k + 1) y0 y1 y2 y3))
  | 0 => fun _ _ _ _ r h => by simp [words_Cut.l0] at h
  | k + 1 => by
    have ih0 := words_Cut.mono_l k
    · intro y0 y1 y2 y3
      unfold words_Cut.l0
      repeat' first
      | (with_reducible exact ih0 _ _ _ _)
      | (with_reducible exact LeO.refl _)
      | (with_reducible exact LeO.none _)
      | (with_reducible refine LeO.ite ?_ ?_)
      | (with_reducible refine LeO.bind ?_ (fun _ => ?_))
      | exact ih0 _ _ _ _
      | exact LeO.none _
      | refine LeO.ite ?_ ?_
      | refine LeO.bind ?_ (fun _ => ?_)
theorem words_Cut.mono : ∀ a0 k, LeO (words_Cut.f k a0) (words_Cut.f (k + 1) a0) := by
  intro a0 k
  have ih0 := words_Cut.mono_l k
  unfold words_Cut.f
  repeat' first
      | (with_reducible exact ih0 _ _ _ _)
      | (with_reducible exact LeO.refl _)
      | (with_reducible exact LeO.none _)
      | (with_reducible refine LeO.ite ?_ ?_)
      | (with_reducible refine LeO.bind ?_ (fun _ => ?_))
      | exact ih0 _ _ _ _
      | exact LeO.none _
      | refine LeO.ite ?_ ?_
      | refine LeO.bind ?_ (fun _ => ?_)
set_option maxHeartbeats 8000000 in
set_option maxRecDepth 100000 in
theorem words_Cut.calls (k : Nat) (a0 : ByteArray) (r : List ByteArray) (w : World) (hL : Laid w) (h : words_Cut.f k a0 = some r) :
    Calls Tryd.prog 38 #[.string a0] w fun e w' => ∃ v0_ : Value, e = .returned (v0_) ∧ Kd.R Kd.string 9 w' w.heap.size (fun _ => True) v0_ r ∧ Below w.heap.size w w' := by
  have HB := Aside0.mk (Below.refl w.heap.size w)
  have H : ((strings_Split.f a0 (⟨#[32]⟩ : ByteArray)).bind fun t101 => (words_Cut.l0 k ([] : List ByteArray) t101 (t101.length : Int) 0)) = some r := h
  clear h
  replace H := Option.bind_eq_some_iff.mp H
  obtain ⟨t101, A20, H⟩ := H
  replace H : (words_Cut.l0 k ([] : List ByteArray) t101 (t101.length : Int) 0) = some r := H
  have A2 := Aside0.mk A20
  clear A20
  have H' := Aside0.mk H
  clear H
  go_enter Tryd.func38, Tryd.ntmps38
  go_wp2_with (first | ((with_reducible refine gate_callee (f := 50) rfl ?_); refine goesL_ (some 7) rfl rfl Tryd.func50 (by kernel_rfl) rfl #[.string a0, .string (⟨#[32]⟩ : ByteArray)] rfl (by (try simp only [List.map_toArray, List.map_cons, List.map_nil]); first | done | rfl | (simp only [List.length_drop, List.length_take]; rfl)) ?_; (with_reducible refine (strings_Split.calls a0 (⟨#[32]⟩ : ByteArray) t101 _ ?side1 A2.out).mono ?_); (case side1 => exact Laid.below hL (by repeat (first | (with_reducible first | exact HB.out | apply below_alloc | apply pw_below_drewN | apply below_drew1) | exact HB.out))); rintro e w3 ⟨v102, rfl, ho0, hb⟩; refine ⟨_, rfl, ?_⟩; have n0_ := Aside0.mk (Kd.R_lower ho0 (below_size (by repeat (first | (with_reducible first | exact HB.out | apply below_alloc | apply pw_below_drewN | apply below_drew1) | exact HB.out)))); have n1_ := Aside0.mk (below_step (by repeat (first | (with_reducible first | exact HB.out | apply below_alloc | apply pw_below_drewN | apply below_drew1) | exact HB.out)) hb); clear HB; have HO103 := n0_; have HB := n1_; clear n0_ n1_; (try clear hb); (try clear hb2); (try clear hk); (try clear hi); (try clear ho0); (try clear A2); obtain ⟨Ao4, co4, eo4⟩ := Kd.R_slice HO103.out; subst eo4))
  go_loopg [3, 9] k (fun kq v3 v9 w' => ∃ (x3_1 : List ByteArray) (x9_1 : Int), v9 = .int .i64 x9_1 ∧ Aside0 (words_Cut.l0 kq x3_1 t101 (t101.length : Int) x9_1 = some r) ∧ Aside0 (kq ≤ k) ∧ Aside0 (Kd.R Kd.string 9 w' w.heap.size (fun k_ => some k_ ≠ ((.slice Ao4 t101.length co4) : Value).ownBlock) v3 x3_1) ∧ Aside0 (Kd.R Kd.string 9 w' w.heap.size (fun k_ => some k_ ≠ (v3 : Value).ownBlock) (.slice Ao4 t101.length co4) t101) ∧ Aside0 (Below w.heap.size w w'))
  case atStart => exact ⟨(([] : List ByteArray)), (0), (by first | rfl | (simp; done) | (simp [*]; done)), H', ⟨Nat.le_refl _⟩, ⟨by first | exact Kd.R_nil _ _ _ _ _ | exact Kd.N_nil _ _ _ _ _ | exact Kd.V_nil _ _ _ _ _ | exact Kd.Q_nil _ _ _ _ _ | exact Kd.S_nil _ _ _ _ _⟩, ⟨by (with_reducible repeat (first | apply Kd.R_alloc | apply Kd.R_drewN | apply Kd.R_drew)); exact Kd.R_mono HO103.out (fun _ hk => (by simp [Value.ownBlock]))⟩, ⟨by repeat (first | (with_reducible first | exact HB.out | apply below_alloc | apply pw_below_drewN | apply below_drew1) | exact HB.out)⟩⟩
  case round =>
    clear H'
    try clear p2
    try clear c3
    obtain ⟨x3_1, x9_1, rfl, HA, HK1, HO_3, HO_7, HB⟩ := hrel
    cases gk with
    | zero => exact absurd HA.out (by simp [words_Cut.l0])
    | succ k1 =>
      have H := HA.out
      clear HA
      simp only [words_Cut.l0] at H
      by_cases c5 : x9_1 < (t101.length : Int)
      · rw [if_pos c5] at H
        have c5b0 : decide (x9_1 < (t101.length : Int)) = true := decide_eq_true c5
        clear c5
        by_cases c6 : 0 ≤ x9_1
        · rw [if_pos c6] at H
          have c6b0 : decide (0 ≤ x9_1) = true := decide_eq_true c6
          clear c6
          by_cases c7 : x9_1 < (t101.length : Int)
          · rw [if_pos c7] at H
            have c7b0 : decide (x9_1 < (t101.length : Int)) = true := decide_eq_true c7
            clear c7
            by_cases c8 : (rdOf ByteArray.empty t101 x9_1).toList = ([] : List UInt8)
            · rw [if_pos c8] at H
              have c8b0 : ((rdOf ByteArray.empty t101 x9_1).toList == ([] : List UInt8)) = true := beq_iff_eq.mpr c8
              have c8b1 : ((rdOf ByteArray.empty t101 x9_1).toList != ([] : List UInt8)) = false := bne_eq_false_iff_eq.mpr c8
              clear c8
              have H' := Aside0.mk H
              clear H
              have p104 : 0 ≤ (x9_1 : Int) := of_decide_eq_true (by first | (with_reducible assumption) | assumption)
              have q104 : x9_1 < (t101.length : Int) := of_decide_eq_true (by first | (with_reducible assumption) | assumption)
              obtain ⟨ad104, e104, hx104_0⟩ := Kd.at_string (Kd.R_reads' HO_7.out).2.2 x9_1 p104 q104
              cases e104
              replace p104 := eq_true p104
              replace q104 := eq_true q104
              go_wp2
              go_roundg k1
              case measure => have := HK1.out; omega
              case rel => exact ⟨(x3_1), (wrap64 (x9_1 + 1)), (by first | rfl | (simp; done) | (simp [*]; done)), H', ⟨by have := HK1.out; omega⟩, ⟨by (with_reducible repeat (first | apply Kd.R_alloc | apply Kd.R_drewN | apply Kd.R_drew)); exact HO_3.out⟩, ⟨by (with_reducible repeat (first | apply Kd.R_alloc | apply Kd.R_drewN | apply Kd.R_drew)); exact HO_7.out⟩, ⟨by repeat (first | (with_reducible first | exact HB.out | apply below_alloc | apply pw_below_drewN | apply below_drew1) | exact HB.out)⟩⟩
            · rw [if_neg c8] at H
              have c8b0 : ((rdOf ByteArray.empty t101 x9_1).toList == ([] : List UInt8)) = false := beq_eq_false_iff_ne.mpr c8
              have c8b1 : ((rdOf ByteArray.empty t101 x9_1).toList != ([] : List UInt8)) = true := bne_iff_ne.mpr c8
              by_cases c9 : x3_1.length < 8796093022208
              · rw [if_pos c9] at H
                have LMc9 := Aside0.mk c9
                clear c9
                obtain ⟨y105, hy105⟩ : ∃ y_ : List ByteArray, y_ = (x3_1 ++ [rdOf ByteArray.empty t101 x9_1]) := ⟨_, rfl⟩
                replace H : (words_Cut.l0 k1 y105 t101 (t101.length : Int) (wrap64 (x9_1 + 1))) = some r := by first | (rw [hy105]; with_reducible exact H) | (have H2_ := (Option.bind_some _ _).symm.trans H; rw [hy105]; with_reducible exact H2_) | (have H2_ := (Option.bind_some _ _).symm.trans H; with_reducible exact H2_) | with_reducible exact H | (rw [hy105]; exact H) | exact H
                have Ny105 := Aside0.mk hy105
                clear hy105
                have H' := Aside0.mk H
                clear H
                have p104 : 0 ≤ (x9_1 : Int) := of_decide_eq_true (by first | (with_reducible assumption) | assumption)
                have q104 : x9_1 < (t101.length : Int) := of_decide_eq_true (by first | (with_reducible assumption) | assumption)
                obtain ⟨ad104, e104, hx104_0⟩ := Kd.at_string (Kd.R_reads' HO_7.out).2.2 x9_1 p104 q104
                cases e104
                replace p104 := eq_true p104
                replace q104 := eq_true q104
                go_wp2_with (first | ((with_reducible refine gate_builtin (b := .append) (xs := #[.tmp 15, .tmp 17]) rfl ?_); at_builtin; refine Kd.R_append Kd.string (w0 := w) w.heap.size rfl (.tmp 15) (.tmp 17) 27 9 (.string ⟨#[]⟩) 16 rfl Tryd.underlying27 info9 rfl (by decide) (by omega) u3 x3_1 (rdOf ByteArray.empty t101 x9_1) [.string (rdOf ByteArray.empty t101 x9_1)] (fun k_ => some k_ ≠ (.slice (some ad104) t101.length co4 : Value).ownBlock) (fun _ => False) rfl rfl ?aP (fun _ hk => hk.elim) ?aF ?aO ?aB ?aS ?aL ?_; (case aP => exact rfl); (case aB => exact (by repeat (first | (with_reducible first | exact HB.out | apply below_alloc | apply pw_below_drewN | apply below_drew1) | exact HB.out))); (case aF => exact (fun k_ hk => Kd.fresh' (Kd.R_lt (by (with_reducible repeat (first | apply Kd.R_alloc | apply Kd.R_drewN | apply Kd.R_drew)); exact HO_7.out)) k_ hk)); (case aO => exact (by (with_reducible repeat (first | apply Kd.R_alloc | apply Kd.R_drewN | apply Kd.R_drew)); exact HO_3.out)); (case aS => exact (below_size (by repeat (first | (with_reducible first | exact HB.out | apply below_alloc | apply pw_below_drewN | apply below_drew1) | exact HB.out)))); (case aL => have := LMc9.out; omega); intro v106 w10 ho hb hg hat; rw [← Ny105.out] at ho; have n0_ := Aside0.mk (Kd.R_after (ok := (fun _ => True)) (by (with_reducible repeat (first | apply Kd.R_alloc | apply Kd.R_drewN | apply Kd.R_drew)); exact Kd.R_mono HO_7.out (fun _ hk => ⟨trivial, hk⟩)) hg hat); have n1_ := Aside0.mk (hb); have n2_ := Aside0.mk (ho); clear HO_7; clear HB; clear HO_3; have HO_7 := n0_; have HB := n1_; have HO107 := n2_; clear n0_ n1_ n2_; clear ho hb hg hat))
                go_roundg k1
                case measure => have := HK1.out; omega
                case rel => exact ⟨(y105), (wrap64 (x9_1 + 1)), (by first | rfl | (simp; done) | (simp [*]; done)), H', ⟨by have := HK1.out; omega⟩, ⟨by (with_reducible repeat (first | apply Kd.R_alloc | apply Kd.R_drewN | apply Kd.R_drew)); exact HO107.out⟩, ⟨by (with_reducible repeat (first | apply Kd.R_alloc | apply Kd.R_drewN | apply Kd.R_drew)); exact Kd.R_mono HO_7.out (fun _ hk => hk.2)⟩, ⟨by repeat (first | (with_reducible first | exact HB.out | apply below_alloc | apply pw_below_drewN | apply below_drew1) | exact HB.out)⟩⟩
              · rw [if_neg c9] at H
                exact absurd H (by simp)
          · rw [if_neg c7] at H
            exact absurd H (by simp)
        · rw [if_neg c6] at H
          exact absurd H (by simp)
      · rw [if_neg c5] at H
        have c5b0 : decide (x9_1 < (t101.length : Int)) = false := decide_eq_false c5
        clear c5
        obtain rfl := Option.some.inj H
        go_wp2
        go_ret
        exact ⟨_, by first | rfl | (simp [errW_none, errW_some] <;> rfl) | (simp [*, errW_none, errW_some] <;> rfl), by (with_reducible repeat (first | apply Kd.R_alloc | apply Kd.R_drewN | apply Kd.R_drew)); exact Kd.R_mono HO_3.out (fun _ hk => trivial), by repeat (first | (with_reducible first | exact HB.out | apply below_alloc | apply pw_below_drewN | apply below_drew1) | exact HB.out)⟩

/-! ### parse_small: function 57 -/
def parse_small.f (a0 : ByteArray) (a1 : Int) : Option (Int × Bool) := (words_Num.f a0).bind fun bt108 => (if bt108.2 = true then (some (bt108.1, decide (bt108.1 ≤ a1))) else (some (bt108.1, false)))
set_option maxHeartbeats 8000000 in
set_option maxRecDepth 100000 in
theorem parse_small.calls (a0 : ByteArray) (a1 : Int) (r1 : Int) (r2 : Bool) (w : World) (hL : Laid w) (h : parse_small.f a0 a1 = some (r1, r2)) :
    Calls Tryd.prog 57 #[.string a0, .int .i64 a1] w fun e w' => e = .returned (.tuple #[.int .i64 r1, .bool r2]) ∧ Below w.heap.size w w' := by
  have HB := Aside0.mk (Below.refl w.heap.size w)
  have H : ((words_Num.f a0).bind fun bt108 => (if bt108.2 = true then (some (bt108.1, decide (bt108.1 ≤ a1))) else (some (bt108.1, false)))) = some (r1, r2) := h
  clear h
  replace H := Option.bind_eq_some_iff.mp H
  obtain ⟨⟨t108, t109⟩, A30, H⟩ := H
  replace H : (if t109 = true then (some (t108, decide (t108 ≤ a1))) else (some (t108, false))) = some (r1, r2) := H
  have A3 := Aside0.mk A30
  clear A30
  by_cases c4 : t109 = true
  · subst c4
    have H1 : (some (t108, decide (t108 ≤ a1))) = some (r1, r2) := by rw [if_pos rfl] at H; exact H
    clear H
    have H := H1
    clear H1
    simp only [Option.some.injEq, Prod.mk.injEq] at H
    obtain ⟨rfl, rfl⟩ := H
    go_enter Tryd.func57, Tryd.ntmps57
    go_wp2_with (first | ((with_reducible refine gate_callee (f := 56) rfl ?_); refine goesL_ (some 10) rfl rfl Tryd.func56 (by kernel_rfl) rfl #[.string a0] rfl (by (try simp only [List.map_toArray, List.map_cons, List.map_nil]); first | done | rfl | (simp only [List.length_drop, List.length_take]; rfl)) ?_; (with_reducible refine (words_Num.calls a0 t108 true _ ?side1 A3.out).mono ?_); (case side1 => exact Laid.below hL (by repeat (first | (with_reducible first | exact HB.out | apply below_alloc | apply pw_below_drewN | apply below_drew1) | exact HB.out))); rintro e w5 ⟨rfl, hb⟩; refine ⟨_, rfl, ?_⟩; have n0_ := Aside0.mk (below_step (by repeat (first | (with_reducible first | exact HB.out | apply below_alloc | apply pw_below_drewN | apply below_drew1) | exact HB.out)) hb); clear HB; have HB := n0_; clear n0_; (try clear hb); (try clear hb2); (try clear hk); (try clear hi); (try clear A3)))
    go_ret2
    exact ⟨by first | rfl | (simp [errW_none, errW_some] <;> rfl) | (simp [*, errW_none, errW_some] <;> rfl), by repeat (first | (with_reducible first | exact HB.out | apply below_alloc | apply pw_below_drewN | apply below_drew1) | exact HB.out)⟩
  · replace c4 := Bool.eq_false_iff.mpr c4
    subst c4
    have H1 : (some (t108, false)) = some (r1, r2) := by rw [if_neg (show ¬ (false = true) by decide)] at H; exact H
    clear H
    have H := H1
    clear H1
    simp only [Option.some.injEq, Prod.mk.injEq] at H
    obtain ⟨rfl, rfl⟩ := H
    go_enter Tryd.func57, Tryd.ntmps57
    go_wp2_with (first | ((with_reducible refine gate_callee (f := 56) rfl ?_); refine goesL_ (some 10) rfl rfl Tryd.func56 (by kernel_rfl) rfl #[.string a0] rfl (by (try simp only [List.map_toArray, List.map_cons, List.map_nil]); first | done | rfl | (simp only [List.length_drop, List.length_take]; rfl)) ?_; (with_reducible refine (words_Num.calls a0 t108 false _ ?side1 A3.out).mono ?_); (case side1 => exact Laid.below hL (by repeat (first | (with_reducible first | exact HB.out | apply below_alloc | apply pw_below_drewN | apply below_drew1) | exact HB.out))); rintro e w6 ⟨rfl, hb⟩; refine ⟨_, rfl, ?_⟩; have n0_ := Aside0.mk (below_step (by repeat (first | (with_reducible first | exact HB.out | apply below_alloc | apply pw_below_drewN | apply below_drew1) | exact HB.out)) hb); clear HB; have HB := n0_; clear n0_; (try clear hb); (try clear hb2); (try clear hk); (try clear hi); (try clear A3)))
    go_ret2
    exact ⟨by first | rfl | (simp [errW_none, errW_some] <;> rfl) | (simp [*, errW_none, errW_some] <;> rfl), by repeat (first | (with_reducible first | exact HB.out | apply below_alloc | apply pw_below_drewN | apply below_drew1) | exact HB.out)⟩

/-! ### mac_Of: function 64 -/
def mac_Of.l0 : Nat → Int → List Int → Int → Int → Option (Int × Int)
  | 0, _, _, _, _ => none
  | k + 1, x4, x10, x11, x12 => if x12 < x11 then (if 0 ≤ x12 then (if x12 < (x10.length : Int) then (mac_Of.l0 k (Go.bits .or .u64 (IntKind.u64.wrap (x4 * 256)) (IntKind.u64.wrap (rd x10 x12))) x10 x11 (wrap64 (x12 + 1))) else (none)) else (none)) else (some (x4, 0))
def mac_Of.f (k : Nat) (l0 : List Int) : Option (Int × Int) := if (l0.length : Int) = 6 then (mac_Of.l0 k 0 l0 (l0.length : Int) 0) else (some (0, 11))
theorem mac_Of.mono_l : ∀ k, (∀ y0 y1 y2 y3, LeO (mac_Of.l0 k y0 y1 y2 y3) (mac_Of.l0 (k + 1) y0 y1 y2 y3))
  | 0 => fun _ _ _ _ r h => by simp [mac_Of.l0] at h
  | k + 1 => by
    have ih0 := mac_Of.mono_l k
    · intro y0 y1 y2 y3
      unfold mac_Of.l0
      repeat' first
      | (with_reducible exact ih0 _ _ _ _)
      | (with_reducible exact LeO.refl _)
      | (with_reducible exact LeO.none _)
      | (with_reducible refine LeO.ite ?_ ?_)
      | (with_reducible refine LeO.bind ?_ (fun _ => ?_))
      | exact ih0 _ _ _ _
      | exact LeO.none _
      | refine LeO.ite ?_ ?_
      | refine LeO.bind ?_ (fun _ => ?_)
theorem mac_Of.mono : ∀ a0 k, LeO (mac_Of.f k a0) (mac_Of.f (k + 1) a0) := by
  intro a0 k
  have ih0 := mac_Of.mono_l k
  unfold mac_Of.f
  repeat' first
      | (with_reducible exact ih0 _ _ _ _)
      | (with_reducible exact LeO.refl _)
      | (with_reducible exact LeO.none _)
      | (with_reducible refine LeO.ite ?_ ?_)
      | (with_reducible refine LeO.bind ?_ (fun _ => ?_))
      | exact ih0 _ _ _ _
      | exact LeO.none _
      | refine LeO.ite ?_ ?_
      | refine LeO.bind ?_ (fun _ => ?_)
set_option maxHeartbeats 8000000 in
set_option maxRecDepth 100000 in
theorem mac_Of.calls (k : Nat) (A0 : Option Addr) (c0 : Nat) (l0 : List Int) (r1 : Int) (r2 : Int) (w : World) (hr0 : Kd.C (Kd.int .u8) w A0 l0.length l0) (hc0 : l0.length ≤ c0) (hL : Laid w) (h : mac_Of.f k l0 = some (r1, r2)) :
    Calls Tryd.prog 64 #[.slice A0 l0.length c0] w fun e w' => e = .returned (.tuple #[.int .u64 r1, .int .i64 r2]) ∧ Drawn0 w w' := by
  have HR0 := Aside0.mk hr0
  have HC0 := Aside0.mk hc0
  clear hr0 hc0
  have H : (if (l0.length : Int) = 6 then (mac_Of.l0 k 0 l0 (l0.length : Int) 0) else (some (0, 11))) = some (r1, r2) := h
  clear h
  by_cases c2 : (l0.length : Int) = 6
  · rw [if_pos c2] at H
    have c2b0 : ((l0.length : Int) == 6) = true := beq_iff_eq.mpr c2
    have c2b1 : ((l0.length : Int) != 6) = false := bne_eq_false_iff_eq.mpr c2
    clear c2
    have H' := Aside0.mk H
    clear H
    go_enter Tryd.func64, Tryd.ntmps64
    go_wp2
    go_loopg [4, 12] k (fun kq v4 v12 w' => ∃ (x4_1 : Int) (x12_1 : Int), v4 = .int .u64 x4_1 ∧ v12 = .int .i64 x12_1 ∧ Aside0 (mac_Of.l0 kq x4_1 l0 (l0.length : Int) x12_1 = some (r1, r2)) ∧ Aside0 (kq ≤ k) ∧ Drawn0 w w')
    case atStart => exact ⟨(0), (0), (by first | rfl | (simp; done) | (simp [*]; done)), (by first | rfl | (simp; done) | (simp [*]; done)), H', ⟨Nat.le_refl _⟩, by repeat (first | exact Drawn0.refl _ | apply Drawn0.step)⟩
    case round =>
      clear H'
      try clear c2
      try clear c2b0
      try clear c2b1
      try clear p2
      obtain ⟨x4_1, x12_1, rfl, rfl, HA, HK1, ⟨m1, rfl⟩⟩ := hrel
      cases gk with
      | zero => exact absurd HA.out (by simp [mac_Of.l0])
      | succ k1 =>
        have H := HA.out
        clear HA
        simp only [mac_Of.l0] at H
        by_cases c3 : x12_1 < (l0.length : Int)
        · rw [if_pos c3] at H
          have c3b0 : decide (x12_1 < (l0.length : Int)) = true := decide_eq_true c3
          clear c3
          by_cases c4 : 0 ≤ x12_1
          · rw [if_pos c4] at H
            have c4b0 : decide (0 ≤ x12_1) = true := decide_eq_true c4
            clear c4
            by_cases c5 : x12_1 < (l0.length : Int)
            · rw [if_pos c5] at H
              have c5b0 : decide (x12_1 < (l0.length : Int)) = true := decide_eq_true c5
              clear c5
              have H' := Aside0.mk H
              clear H
              have p110 : 0 ≤ (x12_1 : Int) := of_decide_eq_true (by first | (with_reducible assumption) | assumption)
              have q110 : x12_1 < (l0.length : Int) := of_decide_eq_true (by first | (with_reducible assumption) | assumption)
              obtain ⟨ad110, e110, hx110_0⟩ := Kd.at_int HR0.out x12_1 p110 q110
              cases e110
              replace p110 := eq_true p110
              replace q110 := eq_true q110
              go_wp2
              go_roundg k1
              case measure => have := HK1.out; omega
              case rel => exact ⟨(Go.bits .or .u64 (IntKind.u64.wrap (x4_1 * 256)) (IntKind.u64.wrap (rd l0 x12_1))), (wrap64 (x12_1 + 1)), (by first | rfl | (simp; done) | (simp [*]; done)), (by first | rfl | (simp; done) | (simp [*]; done)), H', ⟨by have := HK1.out; omega⟩, by repeat (first | exact Drawn0.refl _ | apply Drawn0.step)⟩
            · rw [if_neg c5] at H
              exact absurd H (by simp)
          · rw [if_neg c4] at H
            exact absurd H (by simp)
        · rw [if_neg c3] at H
          have c3b0 : decide (x12_1 < (l0.length : Int)) = false := decide_eq_false c3
          clear c3
          simp only [Option.some.injEq, Prod.mk.injEq] at H
          obtain ⟨rfl, rfl⟩ := H
          go_wp2
          go_ret2
          exact ⟨by first | rfl | (simp; done) | (simp [*]; done), by repeat (first | exact Drawn0.refl _ | apply Drawn0.step)⟩
  · rw [if_neg c2] at H
    have c2b0 : ((l0.length : Int) == 6) = false := beq_eq_false_iff_ne.mpr c2
    have c2b1 : ((l0.length : Int) != 6) = true := bne_iff_ne.mpr c2
    simp only [Option.some.injEq, Prod.mk.injEq] at H
    obtain ⟨rfl, rfl⟩ := H
    go_enter Tryd.func64, Tryd.ntmps64
    go_wp2
    go_ret2
    exact ⟨by first | rfl | (simp; done) | (simp [*]; done), by repeat (first | exact Drawn0.refl _ | apply Drawn0.step)⟩

/-! ### mac_Parse: function 58 -/
def mac_Parse.l0 : Nat → List Int → List ByteArray → Int → Int → Option (Int × Int)
  | 0, _, _, _, _ => none
  | k + 1, x4, x10, x11, x12 => if x12 < x11 then (if 0 ≤ x12 then (if x12 < (x10.length : Int) then (if ((rdOf ByteArray.empty x10 x12).size : Int) = 2 then (if 0 < ((rdOf ByteArray.empty x10 x12).size : Int) then ((strings_IndexByte.f (⟨#[48, 49, 50, 51, 52, 53, 54, 55, 56, 57, 97, 98, 99, 100, 101, 102]⟩ : ByteArray) (bt (rdOf ByteArray.empty x10 x12) 0)).bind fun t117 => (if 1 < ((rdOf ByteArray.empty x10 x12).size : Int) then ((strings_IndexByte.f (⟨#[48, 49, 50, 51, 52, 53, 54, 55, 56, 57, 97, 98, 99, 100, 101, 102]⟩ : ByteArray) (bt (rdOf ByteArray.empty x10 x12) 1)).bind fun t118 => (if t117 < 0 then (some (0, 11)) else (if t118 < 0 then (some (0, 11)) else (if x4.length < 140737488355328 then (mac_Parse.l0 k (x4 ++ [(Go.bits .or .i64 (wrap64 (t117 * 16)) t118) % 256]) x10 x11 (wrap64 (x12 + 1))) else (none))))) else (none))) else (none)) else (some (0, 11))) else (none)) else (none)) else ((mac_Of.f k x4).bind fun bt114 => (some (bt114.1, bt114.2)))
def mac_Parse.f (k : Nat) (a0 : ByteArray) : Option (Int × Int) := (strings_Split.f a0 (⟨#[58]⟩ : ByteArray)).bind fun t111 => (mac_Parse.l0 k ([] : List Int) t111 (t111.length : Int) 0)
theorem mac_Parse.mono_l : ∀ k, (∀ y0 y1 y2 y3, LeO (mac_Parse.l0 k y0 y1 y2 y3) (mac_Parse.l0 (k + 1) y0 y1 y2 y3))
  | 0 => fun _ _ _ _ r h => by simp [mac_Parse.l0] at h
  | k + 1 => by
    have ih0 := mac_Parse.mono_l k
    · intro y0 y1 y2 y3
      unfold mac_Parse.l0
      repeat' first
      | (with_reducible exact ih0 _ _ _ _)
      | (with_reducible exact mac_Of.mono _ _)
      | (with_reducible exact LeO.refl _)
      | (with_reducible exact LeO.none _)
      | (with_reducible refine LeO.ite ?_ ?_)
      | (with_reducible refine LeO.bind ?_ (fun _ => ?_))
      | exact ih0 _ _ _ _
      | exact mac_Of.mono _ _
      | exact LeO.none _
      | refine LeO.ite ?_ ?_
      | refine LeO.bind ?_ (fun _ => ?_)
theorem mac_Parse.mono : ∀ a0 k, LeO (mac_Parse.f k a0) (mac_Parse.f (k + 1) a0) := by
  intro a0 k
  have ih0 := mac_Parse.mono_l k
  unfold mac_Parse.f
  repeat' first
      | (with_reducible exact ih0 _ _ _ _)
      | (with_reducible exact mac_Of.mono _ _)
      | (with_reducible exact LeO.refl _)
      | (with_reducible exact LeO.none _)
      | (with_reducible refine LeO.ite ?_ ?_)
      | (with_reducible refine LeO.bind ?_ (fun _ => ?_))
      | exact ih0 _ _ _ _
      | exact mac_Of.mono _ _
      | exact LeO.none _
      | refine LeO.ite ?_ ?_
      | refine LeO.bind ?_ (fun _ => ?_)
set_option maxHeartbeats 8000000 in
set_option maxRecDepth 100000 in
theorem mac_Parse.calls (k : Nat) (a0 : ByteArray) (r1 : Int) (r2 : Int) (w : World) (hL : Laid w) (h : mac_Parse.f k a0 = some (r1, r2)) :
    Calls Tryd.prog 58 #[.string a0] w fun e w' => e = .returned (.tuple #[.int .u64 r1, .int .i64 r2]) ∧ Below w.heap.size w w' := by
  have HB := Aside0.mk (Below.refl w.heap.size w)
  have H : ((strings_Split.f a0 (⟨#[58]⟩ : ByteArray)).bind fun t111 => (mac_Parse.l0 k ([] : List Int) t111 (t111.length : Int) 0)) = some (r1, r2) := h
  clear h
  replace H := Option.bind_eq_some_iff.mp H
  obtain ⟨t111, A20, H⟩ := H
  replace H : (mac_Parse.l0 k ([] : List Int) t111 (t111.length : Int) 0) = some (r1, r2) := H
  have A2 := Aside0.mk A20
  clear A20
  have H' := Aside0.mk H
  clear H
  go_enter Tryd.func58, Tryd.ntmps58
  go_wp2_with (first | (go_at_call 50; (with_reducible refine (strings_Split.calls a0 (⟨#[58]⟩ : ByteArray) t111 _ ?side1 A2.out).mono ?_); (case side1 => exact Laid.below hL (by repeat (first | (with_reducible first | exact HB.out | apply below_alloc | apply pw_below_drewN | apply below_drew1) | exact HB.out))); rintro e w3 ⟨v112, rfl, ho0, hb⟩; have n0_ := Aside0.mk (Kd.R_lower ho0 (below_size (by repeat (first | (with_reducible first | exact HB.out | apply below_alloc | apply pw_below_drewN | apply below_drew1) | exact HB.out)))); have n1_ := Aside0.mk (below_step (by repeat (first | (with_reducible first | exact HB.out | apply below_alloc | apply pw_below_drewN | apply below_drew1) | exact HB.out)) hb); clear HB; have HO113 := n0_; have HB := n1_; clear n0_ n1_; (try clear hb); (try clear hb2); (try clear hk); (try clear hi); (try clear ho0); (try clear A2); obtain ⟨Ao4, co4, eo4⟩ := Kd.R_slice HO113.out; subst eo4))
  repeat (go_quiet (first | (go_at_call 50; (with_reducible refine (strings_Split.calls a0 (⟨#[58]⟩ : ByteArray) t111 _ ?side1 A2.out).mono ?_); (case side1 => exact Laid.below hL (by repeat (first | (with_reducible first | exact HB.out | apply below_alloc | apply pw_below_drewN | apply below_drew1) | exact HB.out))); rintro e w3 ⟨v112, rfl, ho0, hb⟩; have n0_ := Aside0.mk (Kd.R_lower ho0 (below_size (by repeat (first | (with_reducible first | exact HB.out | apply below_alloc | apply pw_below_drewN | apply below_drew1) | exact HB.out)))); have n1_ := Aside0.mk (below_step (by repeat (first | (with_reducible first | exact HB.out | apply below_alloc | apply pw_below_drewN | apply below_drew1) | exact HB.out)) hb); clear HB; have HO113 := n0_; have HB := n1_; clear n0_ n1_; (try clear hb); (try clear hb2); (try clear hk); (try clear hi); (try clear ho0); (try clear A2); obtain ⟨Ao4, co4, eo4⟩ := Kd.R_slice HO113.out; subst eo4)); try go_wp2_with (first | (go_at_call 50; (with_reducible refine (strings_Split.calls a0 (⟨#[58]⟩ : ByteArray) t111 _ ?side1 A2.out).mono ?_); (case side1 => exact Laid.below hL (by repeat (first | (with_reducible first | exact HB.out | apply below_alloc | apply pw_below_drewN | apply below_drew1) | exact HB.out))); rintro e w3 ⟨v112, rfl, ho0, hb⟩; have n0_ := Aside0.mk (Kd.R_lower ho0 (below_size (by repeat (first | (with_reducible first | exact HB.out | apply below_alloc | apply pw_below_drewN | apply below_drew1) | exact HB.out)))); have n1_ := Aside0.mk (below_step (by repeat (first | (with_reducible first | exact HB.out | apply below_alloc | apply pw_below_drewN | apply below_drew1) | exact HB.out)) hb); clear HB; have HO113 := n0_; have HB := n1_; clear n0_ n1_; (try clear hb); (try clear hb2); (try clear hk); (try clear hi); (try clear ho0); (try clear A2); obtain ⟨Ao4, co4, eo4⟩ := Kd.R_slice HO113.out; subst eo4)))
  go_loopg [4, 12] k (fun kq v4 v12 w' => ∃ (x4_1 : List Int) (x12_1 : Int), v12 = .int .i64 x12_1 ∧ Aside0 (mac_Parse.l0 kq x4_1 t111 (t111.length : Int) x12_1 = some (r1, r2)) ∧ Aside0 (kq ≤ k) ∧ Aside0 (Kd.R (Kd.int .u8) 5 w' w.heap.size (fun _ => True) v4 x4_1) ∧ Aside0 (Kd.R Kd.string 9 w' w.heap.size (fun _ => True) (.slice Ao4 t111.length co4) t111) ∧ Aside0 (Below w.heap.size w w'))
  case atStart => exact ⟨(([] : List Int)), (0), (by first | rfl | (simp; done) | (simp [*]; done)), H', ⟨Nat.le_refl _⟩, ⟨by first | exact Kd.R_nil _ _ _ _ _ | exact Kd.N_nil _ _ _ _ _ | exact Kd.V_nil _ _ _ _ _ | exact Kd.Q_nil _ _ _ _ _ | exact Kd.S_nil _ _ _ _ _⟩, ⟨by (with_reducible repeat (first | apply Kd.R_alloc | apply Kd.R_drewN | apply Kd.R_drew)); exact HO113.out⟩, ⟨by repeat (first | (with_reducible first | exact HB.out | apply below_alloc | apply pw_below_drewN | apply below_drew1) | exact HB.out)⟩⟩
  case round =>
    clear H'
    try clear p2
    obtain ⟨x4_1, x12_1, rfl, HA, HK1, HO_4, HO_10, HB⟩ := hrel
    cases gk with
    | zero => exact absurd HA.out (by simp [mac_Parse.l0])
    | succ k1 =>
      have H := HA.out
      clear HA
      simp only [mac_Parse.l0] at H
      by_cases c5 : x12_1 < (t111.length : Int)
      · rw [if_pos c5] at H
        have c5b0 : decide (x12_1 < (t111.length : Int)) = true := decide_eq_true c5
        clear c5
        by_cases c6 : 0 ≤ x12_1
        · rw [if_pos c6] at H
          have c6b0 : decide (0 ≤ x12_1) = true := decide_eq_true c6
          clear c6
          by_cases c7 : x12_1 < (t111.length : Int)
          · rw [if_pos c7] at H
            have c7b0 : decide (x12_1 < (t111.length : Int)) = true := decide_eq_true c7
            clear c7
            by_cases c8 : ((rdOf ByteArray.empty t111 x12_1).size : Int) = 2
            · rw [if_pos c8] at H
              have c8b0 : (((rdOf ByteArray.empty t111 x12_1).size : Int) == 2) = true := beq_iff_eq.mpr c8
              have c8b1 : (((rdOf ByteArray.empty t111 x12_1).size : Int) != 2) = false := bne_eq_false_iff_eq.mpr c8
              clear c8
              by_cases c9 : 0 < ((rdOf ByteArray.empty t111 x12_1).size : Int)
              · rw [if_pos c9] at H
                have c9b0 : decide (0 < ((rdOf ByteArray.empty t111 x12_1).size : Int)) = true := decide_eq_true c9
                have c9b1 : decide (0 < (rdOf ByteArray.empty t111 x12_1).size) = true := decide_eq_true (by omega)
                clear c9
                replace H := Option.bind_eq_some_iff.mp H
                obtain ⟨t117, A110, H⟩ := H
                replace H : (if 1 < ((rdOf ByteArray.empty t111 x12_1).size : Int) then ((strings_IndexByte.f (⟨#[48, 49, 50, 51, 52, 53, 54, 55, 56, 57, 97, 98, 99, 100, 101, 102]⟩ : ByteArray) (bt (rdOf ByteArray.empty t111 x12_1) 1)).bind fun t118 => (if t117 < 0 then (some (0, 11)) else (if t118 < 0 then (some (0, 11)) else (if x4_1.length < 140737488355328 then (mac_Parse.l0 k1 (x4_1 ++ [(Go.bits .or .i64 (wrap64 (t117 * 16)) t118) % 256]) t111 (t111.length : Int) (wrap64 (x12_1 + 1))) else (none))))) else (none)) = some (r1, r2) := H
                have A11 := Aside0.mk A110
                clear A110
                by_cases c12 : 1 < ((rdOf ByteArray.empty t111 x12_1).size : Int)
                · rw [if_pos c12] at H
                  have c12b0 : decide (1 < ((rdOf ByteArray.empty t111 x12_1).size : Int)) = true := decide_eq_true c12
                  have c12b1 : decide (1 < (rdOf ByteArray.empty t111 x12_1).size) = true := decide_eq_true (by omega)
                  clear c12
                  replace H := Option.bind_eq_some_iff.mp H
                  obtain ⟨t118, A140, H⟩ := H
                  replace H : (if t117 < 0 then (some (0, 11)) else (if t118 < 0 then (some (0, 11)) else (if x4_1.length < 140737488355328 then (mac_Parse.l0 k1 (x4_1 ++ [(Go.bits .or .i64 (wrap64 (t117 * 16)) t118) % 256]) t111 (t111.length : Int) (wrap64 (x12_1 + 1))) else (none)))) = some (r1, r2) := H
                  have A14 := Aside0.mk A140
                  clear A140
                  by_cases c15 : t117 < 0
                  · rw [if_pos c15] at H
                    have c15b0 : decide (t117 < 0) = true := decide_eq_true c15
                    clear c15
                    simp only [Option.some.injEq, Prod.mk.injEq] at H
                    obtain ⟨rfl, rfl⟩ := H
                    have p116 : 0 ≤ (x12_1 : Int) := of_decide_eq_true (by first | (with_reducible assumption) | assumption)
                    have q116 : x12_1 < (t111.length : Int) := of_decide_eq_true (by first | (with_reducible assumption) | assumption)
                    obtain ⟨ad116, e116, hx116_0⟩ := Kd.at_string (Kd.R_reads' HO_10.out).2.2 x12_1 p116 q116
                    cases e116
                    replace p116 := eq_true p116
                    replace q116 := eq_true q116
                    have p10 : 0 ≤ (0 : Int) := (by omega)
                    have q10 : 0 < (rdOf ByteArray.empty t111 x12_1).size := (by have : (0 : Int) < ((rdOf ByteArray.empty t111 x12_1).size : Int) := of_decide_eq_true (by first | (with_reducible assumption) | assumption); omega)
                    have hx10 : ∀ h : 0 < (rdOf ByteArray.empty t111 x12_1).size, (((rdOf ByteArray.empty t111 x12_1)[0]'h).toNat : Int) = bt (rdOf ByteArray.empty t111 x12_1) 0 := bt_at (rdOf ByteArray.empty t111 x12_1) 0
                    clear p10
                    have qi10 : (0 < ((rdOf ByteArray.empty t111 x12_1).size : Int)) = True := eq_true (of_decide_eq_true (by first | (with_reducible assumption) | assumption))
                    replace q10 := eq_true q10
                    go_wp2_with (first | (go_at_call 63; (with_reducible refine (strings_IndexByte.calls (⟨#[48, 49, 50, 51, 52, 53, 54, 55, 56, 57, 97, 98, 99, 100, 101, 102]⟩ : ByteArray) (bt (rdOf ByteArray.empty t111 x12_1) 0) t117 _ ?side1 A11.out).mono ?_); (case side1 => exact Laid.below hL (by repeat (first | (with_reducible first | exact HB.out | apply below_alloc | apply pw_below_drewN | apply below_drew1) | exact HB.out))); rintro e w' ⟨rfl, ⟨nd, rfl⟩⟩; (try clear A11); (try first | exact ⟨rfl, _, World.drewN_drewN _ _ _⟩ | exact ⟨rfl, _, Eq.trans (World.drewN_drewN _ _ _) (congrArg (World.drewN _) (Nat.add_assoc _ _ _))⟩); have p13 : 0 ≤ (1 : Int) := (by omega); have q13 : 1 < (rdOf ByteArray.empty t111 x12_1).size := (by have : (1 : Int) < ((rdOf ByteArray.empty t111 x12_1).size : Int) := of_decide_eq_true (by first | (with_reducible assumption) | assumption); omega); have hx13 : ∀ h : 1 < (rdOf ByteArray.empty t111 x12_1).size, (((rdOf ByteArray.empty t111 x12_1)[1]'h).toNat : Int) = bt (rdOf ByteArray.empty t111 x12_1) 1 := bt_at (rdOf ByteArray.empty t111 x12_1) 1; clear p13; have qi13 : (1 < ((rdOf ByteArray.empty t111 x12_1).size : Int)) = True := eq_true (of_decide_eq_true (by first | (with_reducible assumption) | assumption)); replace q13 := eq_true q13) | (go_at_call 63; (with_reducible refine (strings_IndexByte.calls (⟨#[48, 49, 50, 51, 52, 53, 54, 55, 56, 57, 97, 98, 99, 100, 101, 102]⟩ : ByteArray) (bt (rdOf ByteArray.empty t111 x12_1) 1) t118 _ ?side1 A14.out).mono ?_); (case side1 => exact Laid.below hL (by repeat (first | (with_reducible first | exact HB.out | apply below_alloc | apply pw_below_drewN | apply below_drew1) | exact HB.out))); rintro e w' ⟨rfl, ⟨nd, rfl⟩⟩; (try clear A14); (try first | exact ⟨rfl, _, World.drewN_drewN _ _ _⟩ | exact ⟨rfl, _, Eq.trans (World.drewN_drewN _ _ _) (congrArg (World.drewN _) (Nat.add_assoc _ _ _))⟩)))
                    repeat (go_quiet (first | (go_at_call 63; (with_reducible refine (strings_IndexByte.calls (⟨#[48, 49, 50, 51, 52, 53, 54, 55, 56, 57, 97, 98, 99, 100, 101, 102]⟩ : ByteArray) (bt (rdOf ByteArray.empty t111 x12_1) 0) t117 _ ?side1 A11.out).mono ?_); (case side1 => exact Laid.below hL (by repeat (first | (with_reducible first | exact HB.out | apply below_alloc | apply pw_below_drewN | apply below_drew1) | exact HB.out))); rintro e w' ⟨rfl, ⟨nd, rfl⟩⟩; (try clear A11); (try first | exact ⟨rfl, _, World.drewN_drewN _ _ _⟩ | exact ⟨rfl, _, Eq.trans (World.drewN_drewN _ _ _) (congrArg (World.drewN _) (Nat.add_assoc _ _ _))⟩); have p13 : 0 ≤ (1 : Int) := (by omega); have q13 : 1 < (rdOf ByteArray.empty t111 x12_1).size := (by have : (1 : Int) < ((rdOf ByteArray.empty t111 x12_1).size : Int) := of_decide_eq_true (by first | (with_reducible assumption) | assumption); omega); have hx13 : ∀ h : 1 < (rdOf ByteArray.empty t111 x12_1).size, (((rdOf ByteArray.empty t111 x12_1)[1]'h).toNat : Int) = bt (rdOf ByteArray.empty t111 x12_1) 1 := bt_at (rdOf ByteArray.empty t111 x12_1) 1; clear p13; have qi13 : (1 < ((rdOf ByteArray.empty t111 x12_1).size : Int)) = True := eq_true (of_decide_eq_true (by first | (with_reducible assumption) | assumption)); replace q13 := eq_true q13) | (go_at_call 63; (with_reducible refine (strings_IndexByte.calls (⟨#[48, 49, 50, 51, 52, 53, 54, 55, 56, 57, 97, 98, 99, 100, 101, 102]⟩ : ByteArray) (bt (rdOf ByteArray.empty t111 x12_1) 1) t118 _ ?side1 A14.out).mono ?_); (case side1 => exact Laid.below hL (by repeat (first | (with_reducible first | exact HB.out | apply below_alloc | apply pw_below_drewN | apply below_drew1) | exact HB.out))); rintro e w' ⟨rfl, ⟨nd, rfl⟩⟩; (try clear A14); (try first | exact ⟨rfl, _, World.drewN_drewN _ _ _⟩ | exact ⟨rfl, _, Eq.trans (World.drewN_drewN _ _ _) (congrArg (World.drewN _) (Nat.add_assoc _ _ _))⟩))); try go_wp2_with (first | (go_at_call 63; (with_reducible refine (strings_IndexByte.calls (⟨#[48, 49, 50, 51, 52, 53, 54, 55, 56, 57, 97, 98, 99, 100, 101, 102]⟩ : ByteArray) (bt (rdOf ByteArray.empty t111 x12_1) 0) t117 _ ?side1 A11.out).mono ?_); (case side1 => exact Laid.below hL (by repeat (first | (with_reducible first | exact HB.out | apply below_alloc | apply pw_below_drewN | apply below_drew1) | exact HB.out))); rintro e w' ⟨rfl, ⟨nd, rfl⟩⟩; (try clear A11); (try first | exact ⟨rfl, _, World.drewN_drewN _ _ _⟩ | exact ⟨rfl, _, Eq.trans (World.drewN_drewN _ _ _) (congrArg (World.drewN _) (Nat.add_assoc _ _ _))⟩); have p13 : 0 ≤ (1 : Int) := (by omega); have q13 : 1 < (rdOf ByteArray.empty t111 x12_1).size := (by have : (1 : Int) < ((rdOf ByteArray.empty t111 x12_1).size : Int) := of_decide_eq_true (by first | (with_reducible assumption) | assumption); omega); have hx13 : ∀ h : 1 < (rdOf ByteArray.empty t111 x12_1).size, (((rdOf ByteArray.empty t111 x12_1)[1]'h).toNat : Int) = bt (rdOf ByteArray.empty t111 x12_1) 1 := bt_at (rdOf ByteArray.empty t111 x12_1) 1; clear p13; have qi13 : (1 < ((rdOf ByteArray.empty t111 x12_1).size : Int)) = True := eq_true (of_decide_eq_true (by first | (with_reducible assumption) | assumption)); replace q13 := eq_true q13) | (go_at_call 63; (with_reducible refine (strings_IndexByte.calls (⟨#[48, 49, 50, 51, 52, 53, 54, 55, 56, 57, 97, 98, 99, 100, 101, 102]⟩ : ByteArray) (bt (rdOf ByteArray.empty t111 x12_1) 1) t118 _ ?side1 A14.out).mono ?_); (case side1 => exact Laid.below hL (by repeat (first | (with_reducible first | exact HB.out | apply below_alloc | apply pw_below_drewN | apply below_drew1) | exact HB.out))); rintro e w' ⟨rfl, ⟨nd, rfl⟩⟩; (try clear A14); (try first | exact ⟨rfl, _, World.drewN_drewN _ _ _⟩ | exact ⟨rfl, _, Eq.trans (World.drewN_drewN _ _ _) (congrArg (World.drewN _) (Nat.add_assoc _ _ _))⟩))))
                    go_ret2
                    exact ⟨by first | rfl | (simp [errW_none, errW_some] <;> rfl) | (simp [*, errW_none, errW_some] <;> rfl), by repeat (first | (with_reducible first | exact HB.out | apply below_alloc | apply pw_below_drewN | apply below_drew1) | exact HB.out)⟩
                  · rw [if_neg c15] at H
                    have c15b0 : decide (t117 < 0) = false := decide_eq_false c15
                    clear c15
                    by_cases c16 : t118 < 0
                    · rw [if_pos c16] at H
                      have c16b0 : decide (t118 < 0) = true := decide_eq_true c16
                      clear c16
                      simp only [Option.some.injEq, Prod.mk.injEq] at H
                      obtain ⟨rfl, rfl⟩ := H
                      have p116 : 0 ≤ (x12_1 : Int) := of_decide_eq_true (by first | (with_reducible assumption) | assumption)
                      have q116 : x12_1 < (t111.length : Int) := of_decide_eq_true (by first | (with_reducible assumption) | assumption)
                      obtain ⟨ad116, e116, hx116_0⟩ := Kd.at_string (Kd.R_reads' HO_10.out).2.2 x12_1 p116 q116
                      cases e116
                      replace p116 := eq_true p116
                      replace q116 := eq_true q116
                      have p10 : 0 ≤ (0 : Int) := (by omega)
                      have q10 : 0 < (rdOf ByteArray.empty t111 x12_1).size := (by have : (0 : Int) < ((rdOf ByteArray.empty t111 x12_1).size : Int) := of_decide_eq_true (by first | (with_reducible assumption) | assumption); omega)
                      have hx10 : ∀ h : 0 < (rdOf ByteArray.empty t111 x12_1).size, (((rdOf ByteArray.empty t111 x12_1)[0]'h).toNat : Int) = bt (rdOf ByteArray.empty t111 x12_1) 0 := bt_at (rdOf ByteArray.empty t111 x12_1) 0
                      clear p10
                      have qi10 : (0 < ((rdOf ByteArray.empty t111 x12_1).size : Int)) = True := eq_true (of_decide_eq_true (by first | (with_reducible assumption) | assumption))
                      replace q10 := eq_true q10
                      go_wp2_with (first | (go_at_call 63; (with_reducible refine (strings_IndexByte.calls (⟨#[48, 49, 50, 51, 52, 53, 54, 55, 56, 57, 97, 98, 99, 100, 101, 102]⟩ : ByteArray) (bt (rdOf ByteArray.empty t111 x12_1) 0) t117 _ ?side1 A11.out).mono ?_); (case side1 => exact Laid.below hL (by repeat (first | (with_reducible first | exact HB.out | apply below_alloc | apply pw_below_drewN | apply below_drew1) | exact HB.out))); rintro e w' ⟨rfl, ⟨nd, rfl⟩⟩; (try clear A11); (try first | exact ⟨rfl, _, World.drewN_drewN _ _ _⟩ | exact ⟨rfl, _, Eq.trans (World.drewN_drewN _ _ _) (congrArg (World.drewN _) (Nat.add_assoc _ _ _))⟩); have p13 : 0 ≤ (1 : Int) := (by omega); have q13 : 1 < (rdOf ByteArray.empty t111 x12_1).size := (by have : (1 : Int) < ((rdOf ByteArray.empty t111 x12_1).size : Int) := of_decide_eq_true (by first | (with_reducible assumption) | assumption); omega); have hx13 : ∀ h : 1 < (rdOf ByteArray.empty t111 x12_1).size, (((rdOf ByteArray.empty t111 x12_1)[1]'h).toNat : Int) = bt (rdOf ByteArray.empty t111 x12_1) 1 := bt_at (rdOf ByteArray.empty t111 x12_1) 1; clear p13; have qi13 : (1 < ((rdOf ByteArray.empty t111 x12_1).size : Int)) = True := eq_true (of_decide_eq_true (by first | (with_reducible assumption) | assumption)); replace q13 := eq_true q13) | (go_at_call 63; (with_reducible refine (strings_IndexByte.calls (⟨#[48, 49, 50, 51, 52, 53, 54, 55, 56, 57, 97, 98, 99, 100, 101, 102]⟩ : ByteArray) (bt (rdOf ByteArray.empty t111 x12_1) 1) t118 _ ?side1 A14.out).mono ?_); (case side1 => exact Laid.below hL (by repeat (first | (with_reducible first | exact HB.out | apply below_alloc | apply pw_below_drewN | apply below_drew1) | exact HB.out))); rintro e w' ⟨rfl, ⟨nd, rfl⟩⟩; (try clear A14); (try first | exact ⟨rfl, _, World.drewN_drewN _ _ _⟩ | exact ⟨rfl, _, Eq.trans (World.drewN_drewN _ _ _) (congrArg (World.drewN _) (Nat.add_assoc _ _ _))⟩)))
                      repeat (go_quiet (first | (go_at_call 63; (with_reducible refine (strings_IndexByte.calls (⟨#[48, 49, 50, 51, 52, 53, 54, 55, 56, 57, 97, 98, 99, 100, 101, 102]⟩ : ByteArray) (bt (rdOf ByteArray.empty t111 x12_1) 0) t117 _ ?side1 A11.out).mono ?_); (case side1 => exact Laid.below hL (by repeat (first | (with_reducible first | exact HB.out | apply below_alloc | apply pw_below_drewN | apply below_drew1) | exact HB.out))); rintro e w' ⟨rfl, ⟨nd, rfl⟩⟩; (try clear A11); (try first | exact ⟨rfl, _, World.drewN_drewN _ _ _⟩ | exact ⟨rfl, _, Eq.trans (World.drewN_drewN _ _ _) (congrArg (World.drewN _) (Nat.add_assoc _ _ _))⟩); have p13 : 0 ≤ (1 : Int) := (by omega); have q13 : 1 < (rdOf ByteArray.empty t111 x12_1).size := (by have : (1 : Int) < ((rdOf ByteArray.empty t111 x12_1).size : Int) := of_decide_eq_true (by first | (with_reducible assumption) | assumption); omega); have hx13 : ∀ h : 1 < (rdOf ByteArray.empty t111 x12_1).size, (((rdOf ByteArray.empty t111 x12_1)[1]'h).toNat : Int) = bt (rdOf ByteArray.empty t111 x12_1) 1 := bt_at (rdOf ByteArray.empty t111 x12_1) 1; clear p13; have qi13 : (1 < ((rdOf ByteArray.empty t111 x12_1).size : Int)) = True := eq_true (of_decide_eq_true (by first | (with_reducible assumption) | assumption)); replace q13 := eq_true q13) | (go_at_call 63; (with_reducible refine (strings_IndexByte.calls (⟨#[48, 49, 50, 51, 52, 53, 54, 55, 56, 57, 97, 98, 99, 100, 101, 102]⟩ : ByteArray) (bt (rdOf ByteArray.empty t111 x12_1) 1) t118 _ ?side1 A14.out).mono ?_); (case side1 => exact Laid.below hL (by repeat (first | (with_reducible first | exact HB.out | apply below_alloc | apply pw_below_drewN | apply below_drew1) | exact HB.out))); rintro e w' ⟨rfl, ⟨nd, rfl⟩⟩; (try clear A14); (try first | exact ⟨rfl, _, World.drewN_drewN _ _ _⟩ | exact ⟨rfl, _, Eq.trans (World.drewN_drewN _ _ _) (congrArg (World.drewN _) (Nat.add_assoc _ _ _))⟩))); try go_wp2_with (first | (go_at_call 63; (with_reducible refine (strings_IndexByte.calls (⟨#[48, 49, 50, 51, 52, 53, 54, 55, 56, 57, 97, 98, 99, 100, 101, 102]⟩ : ByteArray) (bt (rdOf ByteArray.empty t111 x12_1) 0) t117 _ ?side1 A11.out).mono ?_); (case side1 => exact Laid.below hL (by repeat (first | (with_reducible first | exact HB.out | apply below_alloc | apply pw_below_drewN | apply below_drew1) | exact HB.out))); rintro e w' ⟨rfl, ⟨nd, rfl⟩⟩; (try clear A11); (try first | exact ⟨rfl, _, World.drewN_drewN _ _ _⟩ | exact ⟨rfl, _, Eq.trans (World.drewN_drewN _ _ _) (congrArg (World.drewN _) (Nat.add_assoc _ _ _))⟩); have p13 : 0 ≤ (1 : Int) := (by omega); have q13 : 1 < (rdOf ByteArray.empty t111 x12_1).size := (by have : (1 : Int) < ((rdOf ByteArray.empty t111 x12_1).size : Int) := of_decide_eq_true (by first | (with_reducible assumption) | assumption); omega); have hx13 : ∀ h : 1 < (rdOf ByteArray.empty t111 x12_1).size, (((rdOf ByteArray.empty t111 x12_1)[1]'h).toNat : Int) = bt (rdOf ByteArray.empty t111 x12_1) 1 := bt_at (rdOf ByteArray.empty t111 x12_1) 1; clear p13; have qi13 : (1 < ((rdOf ByteArray.empty t111 x12_1).size : Int)) = True := eq_true (of_decide_eq_true (by first | (with_reducible assumption) | assumption)); replace q13 := eq_true q13) | (go_at_call 63; (with_reducible refine (strings_IndexByte.calls (⟨#[48, 49, 50, 51, 52, 53, 54, 55, 56, 57, 97, 98, 99, 100, 101, 102]⟩ : ByteArray) (bt (rdOf ByteArray.empty t111 x12_1) 1) t118 _ ?side1 A14.out).mono ?_); (case side1 => exact Laid.below hL (by repeat (first | (with_reducible first | exact HB.out | apply below_alloc | apply pw_below_drewN | apply below_drew1) | exact HB.out))); rintro e w' ⟨rfl, ⟨nd, rfl⟩⟩; (try clear A14); (try first | exact ⟨rfl, _, World.drewN_drewN _ _ _⟩ | exact ⟨rfl, _, Eq.trans (World.drewN_drewN _ _ _) (congrArg (World.drewN _) (Nat.add_assoc _ _ _))⟩))))
                      go_ret2
                      exact ⟨by first | rfl | (simp [errW_none, errW_some] <;> rfl) | (simp [*, errW_none, errW_some] <;> rfl), by repeat (first | (with_reducible first | exact HB.out | apply below_alloc | apply pw_below_drewN | apply below_drew1) | exact HB.out)⟩
                    · rw [if_neg c16] at H
                      have c16b0 : decide (t118 < 0) = false := decide_eq_false c16
                      clear c16
                      by_cases c17 : x4_1.length < 140737488355328
                      · rw [if_pos c17] at H
                        have LMc17 := Aside0.mk c17
                        clear c17
                        obtain ⟨y119, hy119⟩ : ∃ y_ : List Int, y_ = (x4_1 ++ [(Go.bits .or .i64 (wrap64 (t117 * 16)) t118) % 256]) := ⟨_, rfl⟩
                        replace H : (mac_Parse.l0 k1 y119 t111 (t111.length : Int) (wrap64 (x12_1 + 1))) = some (r1, r2) := by first | (rw [hy119]; with_reducible exact H) | (have H2_ := (Option.bind_some _ _).symm.trans H; rw [hy119]; with_reducible exact H2_) | (have H2_ := (Option.bind_some _ _).symm.trans H; with_reducible exact H2_) | with_reducible exact H | (rw [hy119]; exact H) | exact H
                        have Ny119 := Aside0.mk hy119
                        clear hy119
                        have H' := Aside0.mk H
                        clear H
                        have p116 : 0 ≤ (x12_1 : Int) := of_decide_eq_true (by first | (with_reducible assumption) | assumption)
                        have q116 : x12_1 < (t111.length : Int) := of_decide_eq_true (by first | (with_reducible assumption) | assumption)
                        obtain ⟨ad116, e116, hx116_0⟩ := Kd.at_string (Kd.R_reads' HO_10.out).2.2 x12_1 p116 q116
                        cases e116
                        replace p116 := eq_true p116
                        replace q116 := eq_true q116
                        have p10 : 0 ≤ (0 : Int) := (by omega)
                        have q10 : 0 < (rdOf ByteArray.empty t111 x12_1).size := (by have : (0 : Int) < ((rdOf ByteArray.empty t111 x12_1).size : Int) := of_decide_eq_true (by first | (with_reducible assumption) | assumption); omega)
                        have hx10 : ∀ h : 0 < (rdOf ByteArray.empty t111 x12_1).size, (((rdOf ByteArray.empty t111 x12_1)[0]'h).toNat : Int) = bt (rdOf ByteArray.empty t111 x12_1) 0 := bt_at (rdOf ByteArray.empty t111 x12_1) 0
                        clear p10
                        have qi10 : (0 < ((rdOf ByteArray.empty t111 x12_1).size : Int)) = True := eq_true (of_decide_eq_true (by first | (with_reducible assumption) | assumption))
                        replace q10 := eq_true q10
                        go_wp2_with (first | (go_at_call 63; (with_reducible refine (strings_IndexByte.calls (⟨#[48, 49, 50, 51, 52, 53, 54, 55, 56, 57, 97, 98, 99, 100, 101, 102]⟩ : ByteArray) (bt (rdOf ByteArray.empty t111 x12_1) 0) t117 _ ?side1 A11.out).mono ?_); (case side1 => exact Laid.below hL (by repeat (first | (with_reducible first | exact HB.out | apply below_alloc | apply pw_below_drewN | apply below_drew1) | exact HB.out))); rintro e w' ⟨rfl, ⟨nd, rfl⟩⟩; (try clear A11); (try first | exact ⟨rfl, _, World.drewN_drewN _ _ _⟩ | exact ⟨rfl, _, Eq.trans (World.drewN_drewN _ _ _) (congrArg (World.drewN _) (Nat.add_assoc _ _ _))⟩); have p13 : 0 ≤ (1 : Int) := (by omega); have q13 : 1 < (rdOf ByteArray.empty t111 x12_1).size := (by have : (1 : Int) < ((rdOf ByteArray.empty t111 x12_1).size : Int) := of_decide_eq_true (by first | (with_reducible assumption) | assumption); omega); have hx13 : ∀ h : 1 < (rdOf ByteArray.empty t111 x12_1).size, (((rdOf ByteArray.empty t111 x12_1)[1]'h).toNat : Int) = bt (rdOf ByteArray.empty t111 x12_1) 1 := bt_at (rdOf ByteArray.empty t111 x12_1) 1; clear p13; have qi13 : (1 < ((rdOf ByteArray.empty t111 x12_1).size : Int)) = True := eq_true (of_decide_eq_true (by first | (with_reducible assumption) | assumption)); replace q13 := eq_true q13) | (go_at_call 63; (with_reducible refine (strings_IndexByte.calls (⟨#[48, 49, 50, 51, 52, 53, 54, 55, 56, 57, 97, 98, 99, 100, 101, 102]⟩ : ByteArray) (bt (rdOf ByteArray.empty t111 x12_1) 1) t118 _ ?side1 A14.out).mono ?_); (case side1 => exact Laid.below hL (by repeat (first | (with_reducible first | exact HB.out | apply below_alloc | apply pw_below_drewN | apply below_drew1) | exact HB.out))); rintro e w' ⟨rfl, ⟨nd, rfl⟩⟩; (try clear A14); (try first | exact ⟨rfl, _, World.drewN_drewN _ _ _⟩ | exact ⟨rfl, _, Eq.trans (World.drewN_drewN _ _ _) (congrArg (World.drewN _) (Nat.add_assoc _ _ _))⟩)) | ((with_reducible refine gate_builtin (b := .append) (xs := #[.tmp 31, .tmp 37]) rfl ?_); at_builtin; refine Kd.R_append (Kd.int .u8) (w0 := w) w.heap.size rfl (.tmp 31) (.tmp 37) 38 5 (.int .u8 0) 1 rfl Tryd.underlying38 info5 rfl (by decide) (by omega) u4 x4_1 ((Go.bits .or .i64 (wrap64 (t117 * 16)) t118) % 256) [.int .u8 ((Go.bits .or .i64 (wrap64 (t117 * 16)) t118) % 256)] (fun _ => True) (fun _ => False) rfl rfl ?aP (fun _ hk => hk.elim) ?aF ?aO ?aB ?aS ?aL ?_; (case aP => exact rfl); (case aB => exact (by repeat (first | (with_reducible first | exact HB.out | apply below_alloc | apply pw_below_drewN | apply below_drew1) | exact HB.out))); (case aF => exact (fun _ _ => trivial)); (case aO => exact (by (with_reducible repeat (first | apply Kd.R_alloc | apply Kd.R_drewN | apply Kd.R_drew)); exact HO_4.out)); (case aS => exact (below_size (by repeat (first | (with_reducible first | exact HB.out | apply below_alloc | apply pw_below_drewN | apply below_drew1) | exact HB.out)))); (case aL => have := LMc17.out; omega); intro v120 w18 ho hb hg hat; rw [← Ny119.out] at ho; have n0_ := Aside0.mk (Kd.R_over' (by (with_reducible repeat (first | apply Kd.R_alloc | apply Kd.R_drewN | apply Kd.R_drew)); exact HO_10.out) (Kd.R_typed (by (with_reducible repeat (first | apply Kd.R_alloc | apply Kd.R_drewN | apply Kd.R_drew)); exact HO_4.out)) (by decide) hg); have n1_ := Aside0.mk (hb); have n2_ := Aside0.mk (ho); clear HO_10; clear HB; clear HO_4; have HO_10 := n0_; have HB := n1_; have HO121 := n2_; clear n0_ n1_ n2_; clear ho hb hg hat))
                        repeat (go_quiet (first | (go_at_call 63; (with_reducible refine (strings_IndexByte.calls (⟨#[48, 49, 50, 51, 52, 53, 54, 55, 56, 57, 97, 98, 99, 100, 101, 102]⟩ : ByteArray) (bt (rdOf ByteArray.empty t111 x12_1) 0) t117 _ ?side1 A11.out).mono ?_); (case side1 => exact Laid.below hL (by repeat (first | (with_reducible first | exact HB.out | apply below_alloc | apply pw_below_drewN | apply below_drew1) | exact HB.out))); rintro e w' ⟨rfl, ⟨nd, rfl⟩⟩; (try clear A11); (try first | exact ⟨rfl, _, World.drewN_drewN _ _ _⟩ | exact ⟨rfl, _, Eq.trans (World.drewN_drewN _ _ _) (congrArg (World.drewN _) (Nat.add_assoc _ _ _))⟩); have p13 : 0 ≤ (1 : Int) := (by omega); have q13 : 1 < (rdOf ByteArray.empty t111 x12_1).size := (by have : (1 : Int) < ((rdOf ByteArray.empty t111 x12_1).size : Int) := of_decide_eq_true (by first | (with_reducible assumption) | assumption); omega); have hx13 : ∀ h : 1 < (rdOf ByteArray.empty t111 x12_1).size, (((rdOf ByteArray.empty t111 x12_1)[1]'h).toNat : Int) = bt (rdOf ByteArray.empty t111 x12_1) 1 := bt_at (rdOf ByteArray.empty t111 x12_1) 1; clear p13; have qi13 : (1 < ((rdOf ByteArray.empty t111 x12_1).size : Int)) = True := eq_true (of_decide_eq_true (by first | (with_reducible assumption) | assumption)); replace q13 := eq_true q13) | (go_at_call 63; (with_reducible refine (strings_IndexByte.calls (⟨#[48, 49, 50, 51, 52, 53, 54, 55, 56, 57, 97, 98, 99, 100, 101, 102]⟩ : ByteArray) (bt (rdOf ByteArray.empty t111 x12_1) 1) t118 _ ?side1 A14.out).mono ?_); (case side1 => exact Laid.below hL (by repeat (first | (with_reducible first | exact HB.out | apply below_alloc | apply pw_below_drewN | apply below_drew1) | exact HB.out))); rintro e w' ⟨rfl, ⟨nd, rfl⟩⟩; (try clear A14); (try first | exact ⟨rfl, _, World.drewN_drewN _ _ _⟩ | exact ⟨rfl, _, Eq.trans (World.drewN_drewN _ _ _) (congrArg (World.drewN _) (Nat.add_assoc _ _ _))⟩)) | ((with_reducible refine gate_builtin (b := .append) (xs := #[.tmp 31, .tmp 37]) rfl ?_); at_builtin; refine Kd.R_append (Kd.int .u8) (w0 := w) w.heap.size rfl (.tmp 31) (.tmp 37) 38 5 (.int .u8 0) 1 rfl Tryd.underlying38 info5 rfl (by decide) (by omega) u4 x4_1 ((Go.bits .or .i64 (wrap64 (t117 * 16)) t118) % 256) [.int .u8 ((Go.bits .or .i64 (wrap64 (t117 * 16)) t118) % 256)] (fun _ => True) (fun _ => False) rfl rfl ?aP (fun _ hk => hk.elim) ?aF ?aO ?aB ?aS ?aL ?_; (case aP => exact rfl); (case aB => exact (by repeat (first | (with_reducible first | exact HB.out | apply below_alloc | apply pw_below_drewN | apply below_drew1) | exact HB.out))); (case aF => exact (fun _ _ => trivial)); (case aO => exact (by (with_reducible repeat (first | apply Kd.R_alloc | apply Kd.R_drewN | apply Kd.R_drew)); exact HO_4.out)); (case aS => exact (below_size (by repeat (first | (with_reducible first | exact HB.out | apply below_alloc | apply pw_below_drewN | apply below_drew1) | exact HB.out)))); (case aL => have := LMc17.out; omega); intro v120 w18 ho hb hg hat; rw [← Ny119.out] at ho; have n0_ := Aside0.mk (Kd.R_over' (by (with_reducible repeat (first | apply Kd.R_alloc | apply Kd.R_drewN | apply Kd.R_drew)); exact HO_10.out) (Kd.R_typed (by (with_reducible repeat (first | apply Kd.R_alloc | apply Kd.R_drewN | apply Kd.R_drew)); exact HO_4.out)) (by decide) hg); have n1_ := Aside0.mk (hb); have n2_ := Aside0.mk (ho); clear HO_10; clear HB; clear HO_4; have HO_10 := n0_; have HB := n1_; have HO121 := n2_; clear n0_ n1_ n2_; clear ho hb hg hat)); try go_wp2_with (first | (go_at_call 63; (with_reducible refine (strings_IndexByte.calls (⟨#[48, 49, 50, 51, 52, 53, 54, 55, 56, 57, 97, 98, 99, 100, 101, 102]⟩ : ByteArray) (bt (rdOf ByteArray.empty t111 x12_1) 0) t117 _ ?side1 A11.out).mono ?_); (case side1 => exact Laid.below hL (by repeat (first | (with_reducible first | exact HB.out | apply below_alloc | apply pw_below_drewN | apply below_drew1) | exact HB.out))); rintro e w' ⟨rfl, ⟨nd, rfl⟩⟩; (try clear A11); (try first | exact ⟨rfl, _, World.drewN_drewN _ _ _⟩ | exact ⟨rfl, _, Eq.trans (World.drewN_drewN _ _ _) (congrArg (World.drewN _) (Nat.add_assoc _ _ _))⟩); have p13 : 0 ≤ (1 : Int) := (by omega); have q13 : 1 < (rdOf ByteArray.empty t111 x12_1).size := (by have : (1 : Int) < ((rdOf ByteArray.empty t111 x12_1).size : Int) := of_decide_eq_true (by first | (with_reducible assumption) | assumption); omega); have hx13 : ∀ h : 1 < (rdOf ByteArray.empty t111 x12_1).size, (((rdOf ByteArray.empty t111 x12_1)[1]'h).toNat : Int) = bt (rdOf ByteArray.empty t111 x12_1) 1 := bt_at (rdOf ByteArray.empty t111 x12_1) 1; clear p13; have qi13 : (1 < ((rdOf ByteArray.empty t111 x12_1).size : Int)) = True := eq_true (of_decide_eq_true (by first | (with_reducible assumption) | assumption)); replace q13 := eq_true q13) | (go_at_call 63; (with_reducible refine (strings_IndexByte.calls (⟨#[48, 49, 50, 51, 52, 53, 54, 55, 56, 57, 97, 98, 99, 100, 101, 102]⟩ : ByteArray) (bt (rdOf ByteArray.empty t111 x12_1) 1) t118 _ ?side1 A14.out).mono ?_); (case side1 => exact Laid.below hL (by repeat (first | (with_reducible first | exact HB.out | apply below_alloc | apply pw_below_drewN | apply below_drew1) | exact HB.out))); rintro e w' ⟨rfl, ⟨nd, rfl⟩⟩; (try clear A14); (try first | exact ⟨rfl, _, World.drewN_drewN _ _ _⟩ | exact ⟨rfl, _, Eq.trans (World.drewN_drewN _ _ _) (congrArg (World.drewN _) (Nat.add_assoc _ _ _))⟩)) | ((with_reducible refine gate_builtin (b := .append) (xs := #[.tmp 31, .tmp 37]) rfl ?_); at_builtin; refine Kd.R_append (Kd.int .u8) (w0 := w) w.heap.size rfl (.tmp 31) (.tmp 37) 38 5 (.int .u8 0) 1 rfl Tryd.underlying38 info5 rfl (by decide) (by omega) u4 x4_1 ((Go.bits .or .i64 (wrap64 (t117 * 16)) t118) % 256) [.int .u8 ((Go.bits .or .i64 (wrap64 (t117 * 16)) t118) % 256)] (fun _ => True) (fun _ => False) rfl rfl ?aP (fun _ hk => hk.elim) ?aF ?aO ?aB ?aS ?aL ?_; (case aP => exact rfl); (case aB => exact (by repeat (first | (with_reducible first | exact HB.out | apply below_alloc | apply pw_below_drewN | apply below_drew1) | exact HB.out))); (case aF => exact (fun _ _ => trivial)); (case aO => exact (by (with_reducible repeat (first | apply Kd.R_alloc | apply Kd.R_drewN | apply Kd.R_drew)); exact HO_4.out)); (case aS => exact (below_size (by repeat (first | (with_reducible first | exact HB.out | apply below_alloc | apply pw_below_drewN | apply below_drew1) | exact HB.out)))); (case aL => have := LMc17.out; omega); intro v120 w18 ho hb hg hat; rw [← Ny119.out] at ho; have n0_ := Aside0.mk (Kd.R_over' (by (with_reducible repeat (first | apply Kd.R_alloc | apply Kd.R_drewN | apply Kd.R_drew)); exact HO_10.out) (Kd.R_typed (by (with_reducible repeat (first | apply Kd.R_alloc | apply Kd.R_drewN | apply Kd.R_drew)); exact HO_4.out)) (by decide) hg); have n1_ := Aside0.mk (hb); have n2_ := Aside0.mk (ho); clear HO_10; clear HB; clear HO_4; have HO_10 := n0_; have HB := n1_; have HO121 := n2_; clear n0_ n1_ n2_; clear ho hb hg hat)))
                        go_roundg k1
                        case measure => have := HK1.out; omega
                        case rel => exact ⟨(y119), (wrap64 (x12_1 + 1)), (by first | rfl | (simp; done) | (simp [*]; done)), H', ⟨by have := HK1.out; omega⟩, ⟨by (with_reducible repeat (first | apply Kd.R_alloc | apply Kd.R_drewN | apply Kd.R_drew)); exact HO121.out⟩, ⟨by (with_reducible repeat (first | apply Kd.R_alloc | apply Kd.R_drewN | apply Kd.R_drew)); exact HO_10.out⟩, ⟨by repeat (first | (with_reducible first | exact HB.out | apply below_alloc | apply pw_below_drewN | apply below_drew1) | exact HB.out)⟩⟩
                      · rw [if_neg c17] at H
                        exact absurd H (by simp)
                · rw [if_neg c12] at H
                  exact absurd H (by simp)
              · rw [if_neg c9] at H
                exact absurd H (by simp)
            · rw [if_neg c8] at H
              have c8b0 : (((rdOf ByteArray.empty t111 x12_1).size : Int) == 2) = false := beq_eq_false_iff_ne.mpr c8
              have c8b1 : (((rdOf ByteArray.empty t111 x12_1).size : Int) != 2) = true := bne_iff_ne.mpr c8
              simp only [Option.some.injEq, Prod.mk.injEq] at H
              obtain ⟨rfl, rfl⟩ := H
              have p116 : 0 ≤ (x12_1 : Int) := of_decide_eq_true (by first | (with_reducible assumption) | assumption)
              have q116 : x12_1 < (t111.length : Int) := of_decide_eq_true (by first | (with_reducible assumption) | assumption)
              obtain ⟨ad116, e116, hx116_0⟩ := Kd.at_string (Kd.R_reads' HO_10.out).2.2 x12_1 p116 q116
              cases e116
              replace p116 := eq_true p116
              replace q116 := eq_true q116
              go_wp2
              repeat (go_quiet (fail); try go_wp2)
              go_ret2
              exact ⟨by first | rfl | (simp [errW_none, errW_some] <;> rfl) | (simp [*, errW_none, errW_some] <;> rfl), by repeat (first | (with_reducible first | exact HB.out | apply below_alloc | apply pw_below_drewN | apply below_drew1) | exact HB.out)⟩
          · rw [if_neg c7] at H
            exact absurd H (by simp)
        · rw [if_neg c6] at H
          exact absurd H (by simp)
      · rw [if_neg c5] at H
        have c5b0 : decide (x12_1 < (t111.length : Int)) = false := decide_eq_false c5
        clear c5
        replace H := Option.bind_eq_some_iff.mp H
        obtain ⟨⟨t114, t115⟩, A190, H⟩ := H
        replace H : (some (t114, t115)) = some (r1, r2) := H
        have A19 := Aside0.mk A190
        clear A190
        simp only [Option.some.injEq, Prod.mk.injEq] at H
        obtain ⟨rfl, rfl⟩ := H
        obtain ⟨Ao20, co20, eo20⟩ := Kd.R_slice HO_4.out
        subst eo20
        go_wp2_with (first | (go_at_call 64; (with_reducible refine (mac_Of.calls k1 _ _ x4_1 t114 t115 _ ?side1 ?side2 ?side3 A19.out).mono ?_); (case side1 => repeat (first | exact (Kd.R_reads' HO_4.out).2.2 | (with_reducible refine Kd.C_alloc ?_ _) | (with_reducible refine Kd.C_drewN ?_ _) | (with_reducible refine Kd.C_drew ?_))); (case side2 => exact (Kd.R_reads' HO_4.out).2.1); (case side3 => exact Laid.below hL (by repeat (first | (with_reducible first | exact HB.out | apply below_alloc | apply pw_below_drewN | apply below_drew1) | exact HB.out))); rintro e w' ⟨rfl, ⟨nd, rfl⟩⟩; (try clear A19); (try first | exact ⟨rfl, _, World.drewN_drewN _ _ _⟩ | exact ⟨rfl, _, Eq.trans (World.drewN_drewN _ _ _) (congrArg (World.drewN _) (Nat.add_assoc _ _ _))⟩)))
        repeat (go_quiet (first | (go_at_call 64; (with_reducible refine (mac_Of.calls k1 _ _ x4_1 t114 t115 _ ?side1 ?side2 ?side3 A19.out).mono ?_); (case side1 => repeat (first | exact (Kd.R_reads' HO_4.out).2.2 | (with_reducible refine Kd.C_alloc ?_ _) | (with_reducible refine Kd.C_drewN ?_ _) | (with_reducible refine Kd.C_drew ?_))); (case side2 => exact (Kd.R_reads' HO_4.out).2.1); (case side3 => exact Laid.below hL (by repeat (first | (with_reducible first | exact HB.out | apply below_alloc | apply pw_below_drewN | apply below_drew1) | exact HB.out))); rintro e w' ⟨rfl, ⟨nd, rfl⟩⟩; (try clear A19); (try first | exact ⟨rfl, _, World.drewN_drewN _ _ _⟩ | exact ⟨rfl, _, Eq.trans (World.drewN_drewN _ _ _) (congrArg (World.drewN _) (Nat.add_assoc _ _ _))⟩))); try go_wp2_with (first | (go_at_call 64; (with_reducible refine (mac_Of.calls k1 _ _ x4_1 t114 t115 _ ?side1 ?side2 ?side3 A19.out).mono ?_); (case side1 => repeat (first | exact (Kd.R_reads' HO_4.out).2.2 | (with_reducible refine Kd.C_alloc ?_ _) | (with_reducible refine Kd.C_drewN ?_ _) | (with_reducible refine Kd.C_drew ?_))); (case side2 => exact (Kd.R_reads' HO_4.out).2.1); (case side3 => exact Laid.below hL (by repeat (first | (with_reducible first | exact HB.out | apply below_alloc | apply pw_below_drewN | apply below_drew1) | exact HB.out))); rintro e w' ⟨rfl, ⟨nd, rfl⟩⟩; (try clear A19); (try first | exact ⟨rfl, _, World.drewN_drewN _ _ _⟩ | exact ⟨rfl, _, Eq.trans (World.drewN_drewN _ _ _) (congrArg (World.drewN _) (Nat.add_assoc _ _ _))⟩))))
        go_ret2
        exact ⟨by first | rfl | (simp [errW_none, errW_some] <;> rfl) | (simp [*, errW_none, errW_some] <;> rfl), by repeat (first | (with_reducible first | exact HB.out | apply below_alloc | apply pw_below_drewN | apply below_drew1) | exact HB.out)⟩

/-- A state of type 86 at block g of W; what its slices lead to came in by w0. -/
def IsS86 (w0 W : World) (g : Nat) (f0 : Int) (f1 : Int) (f2 : Int) (f3 : Int) (f4 : Int) (f5 : Int) (f6 : Int) (f7 : Int) : Prop := W.heap[g]? = some (.cells #[.int .i64 f0, .int .i64 f1, .int .i64 f2, .int .i64 f3, .int .i64 f4, .int .u8 f5, .int .u8 f6, .int .u64 f7] 86 (0, 0)) ∧ w0.heap.size ≤ g
theorem IsS86.grown {w0 W : World} {g : Nat} {f0 : Int} {f1 : Int} {f2 : Int} {f3 : Int} {f4 : Int} {f5 : Int} {f6 : Int} {f7 : Int} {W1 : World} {row : Option Nat} (h : IsS86 w0 W g f0 f1 f2 f3 f4 f5 f6 f7) (hw : W.grownBy W1 row) (hne : some g ≠ row) : IsS86 w0 W1 g f0 f1 f2 f3 f4 f5 f6 f7 := by
  obtain ⟨hb, hg⟩ := h
  exact ⟨blk_grown hb hw hne, hg⟩
theorem IsS86.own_neN {w0 W : World} {g : Nat} {f0 : Int} {f1 : Int} {f2 : Int} {f3 : Int} {f4 : Int} {f5 : Int} {f6 : Int} {f7 : Int} {α : Type} {d : Kd α} {e : Nat} {base : Nat} {ok : Nat → Prop} {v : Value} {xs : List α} (h : IsS86 w0 W g f0 f1 f2 f3 f4 f5 f6 f7) (ho : Kd.N d e W base ok v xs) (ht : e ≠ 86) : some g ≠ v.ownBlock := by
  obtain ⟨hb, hg⟩ := h
  exact Kd.N_ne ho hb ht
theorem IsS86.fresh {w0 W : World} {g : Nat} {f0 : Int} {f1 : Int} {f2 : Int} {f3 : Int} {f4 : Int} {f5 : Int} {f6 : Int} {f7 : Int} (h : IsS86 w0 W g f0 f1 f2 f3 f4 f5 f6 f7) : ∀ k, W.heap.size ≤ k → k ≠ g := by
  obtain ⟨hb, hg⟩ := h
  exact Kd.freshB hb
theorem IsS86.kept {w0 W : World} {g : Nat} {f0 : Int} {f1 : Int} {f2 : Int} {f3 : Int} {f4 : Int} {f5 : Int} {f6 : Int} {f7 : Int} {W1 : World} {S : Nat → Prop} (h : IsS86 w0 W g f0 f1 f2 f3 f4 f5 f6 f7) (hk : Kept W W1 S) (hne : ¬ S g) : IsS86 w0 W1 g f0 f1 f2 f3 f4 f5 f6 f7 := by
  obtain ⟨hb, hg⟩ := h
  exact ⟨blk_kept hb hk hne, hg⟩
theorem IsS86.below {w0 W : World} {g : Nat} {f0 : Int} {f1 : Int} {f2 : Int} {f3 : Int} {f4 : Int} {f5 : Int} {f6 : Int} {f7 : Int} {W1 : World} (h : IsS86 w0 W g f0 f1 f2 f3 f4 f5 f6 f7) (hw : Below W.heap.size W W1) : IsS86 w0 W1 g f0 f1 f2 f3 f4 f5 f6 f7 := h.grown (grown_of_below hw none) (by simp)
theorem IsS86.alloc {w0 W : World} {g : Nat} {f0 : Int} {f1 : Int} {f2 : Int} {f3 : Int} {f4 : Int} {f5 : Int} {f6 : Int} {f7 : Int} (h : IsS86 w0 W g f0 f1 f2 f3 f4 f5 f6 f7) (o : Obj) : IsS86 w0 (W.alloc o) g f0 f1 f2 f3 f4 f5 f6 f7 := h.below (below_alloc (Below.refl _ _) o)
theorem IsS86.drewN {w0 W : World} {g : Nat} {f0 : Int} {f1 : Int} {f2 : Int} {f3 : Int} {f4 : Int} {f5 : Int} {f6 : Int} {f7 : Int} (h : IsS86 w0 W g f0 f1 f2 f3 f4 f5 f6 f7) (m : Nat) : IsS86 w0 (W.drewN m) g f0 f1 f2 f3 f4 f5 f6 f7 := h
theorem IsS86.drew {w0 W : World} {g : Nat} {f0 : Int} {f1 : Int} {f2 : Int} {f3 : Int} {f4 : Int} {f5 : Int} {f6 : Int} {f7 : Int} (h : IsS86 w0 W g f0 f1 f2 f3 f4 f5 f6 f7) : IsS86 w0 W.drew g f0 f1 f2 f3 f4 f5 f6 f7 := h
theorem IsS86.at_ {w0 W : World} {g : Nat} {f0 : Int} {f1 : Int} {f2 : Int} {f3 : Int} {f4 : Int} {f5 : Int} {f6 : Int} {f7 : Int} {w' : World} {m : Nat} (hq : W.drewN m = w') (h : IsS86 w0 W g f0 f1 f2 f3 f4 f5 f6 f7) : IsS86 w0 w' g f0 f1 f2 f3 f4 f5 f6 f7 := by subst hq; exact IsS86.drewN h m
theorem IsS86.apart {w0 W : World} {g : Nat} {f0 : Int} {f1 : Int} {f2 : Int} {f3 : Int} {f4 : Int} {f5 : Int} {f6 : Int} {f7 : Int} {α : Type} {d : Kd α} {e : Nat} {base : Nat} {ok : Nat → Prop} {v : Value} {xs : List α} (h : IsS86 w0 W g f0 f1 f2 f3 f4 f5 f6 f7) (ho : d.R e W base ok v xs) (ht : ∀ q, q ∈ e :: d.E → q ≠ 86) : d.R e W base (fun k => ok k ∧ k ≠ g) v xs := by
  obtain ⟨hb, hg⟩ := h
  exact Kd.R_types ho hb ht
theorem IsS86.own_ne {w0 W : World} {g : Nat} {f0 : Int} {f1 : Int} {f2 : Int} {f3 : Int} {f4 : Int} {f5 : Int} {f6 : Int} {f7 : Int} {α : Type} {d : Kd α} {e : Nat} {base : Nat} {ok : Nat → Prop} {v : Value} {xs : List α} (h : IsS86 w0 W g f0 f1 f2 f3 f4 f5 f6 f7) (ho : d.R e W base ok v xs) (ht : e ≠ 86) : some g ≠ v.ownBlock := by
  obtain ⟨hb, hg⟩ := h
  exact Kd.R_ne ho hb ht
theorem IsS86.apartQ {w0 W : World} {g : Nat} {f0 : Int} {f1 : Int} {f2 : Int} {f3 : Int} {f4 : Int} {f5 : Int} {f6 : Int} {f7 : Int} {α : Type} {d : Kd α} {e : Nat} {base : Nat} {ok : Nat → Prop} {v : Value} {xs : List α} (h : IsS86 w0 W g f0 f1 f2 f3 f4 f5 f6 f7) (ho : d.Q e W base ok v xs) (ht : ∀ q, q ∈ e :: d.E → q ≠ 86) : d.Q e W base (fun k => ok k ∧ k ≠ g) v xs := by
  obtain ⟨hb, hg⟩ := h
  exact Kd.Q_types ho hb ht
theorem IsS86.own_neQ {w0 W : World} {g : Nat} {f0 : Int} {f1 : Int} {f2 : Int} {f3 : Int} {f4 : Int} {f5 : Int} {f6 : Int} {f7 : Int} {α : Type} {d : Kd α} {e : Nat} {base : Nat} {ok : Nat → Prop} {v : Value} {xs : List α} (h : IsS86 w0 W g f0 f1 f2 f3 f4 f5 f6 f7) (ho : d.Q e W base ok v xs) (ht : e ≠ 86) : some g ≠ v.ownBlock := by
  obtain ⟨hb, hg⟩ := h
  exact Kd.Q_ne ho hb ht
theorem IsS86.apartS {w0 W : World} {g : Nat} {f0 : Int} {f1 : Int} {f2 : Int} {f3 : Int} {f4 : Int} {f5 : Int} {f6 : Int} {f7 : Int} {α : Type} {d : Kd α} {e : Nat} {base : Nat} {ok : Nat → Prop} {v : Value} {xs : List α} (h : IsS86 w0 W g f0 f1 f2 f3 f4 f5 f6 f7) (ho : d.S e W base ok v xs) (ht : ∀ q, q ∈ e :: d.E → q ≠ 86) : d.S e W base (fun k => ok k ∧ k ≠ g) v xs := by
  obtain ⟨hb, hg⟩ := h
  exact Kd.S_types ho hb ht
theorem IsS86.own_neS {w0 W : World} {g : Nat} {f0 : Int} {f1 : Int} {f2 : Int} {f3 : Int} {f4 : Int} {f5 : Int} {f6 : Int} {f7 : Int} {α : Type} {d : Kd α} {e : Nat} {base : Nat} {ok : Nat → Prop} {v : Value} {xs : List α} (h : IsS86 w0 W g f0 f1 f2 f3 f4 f5 f6 f7) (ho : d.S e W base ok v xs) (ht : e ≠ 86) : some g ≠ v.ownBlock := by
  obtain ⟨hb, hg⟩ := h
  exact Kd.S_ne ho hb ht
theorem IsS86.lt {w0 W : World} {g : Nat} {f0 : Int} {f1 : Int} {f2 : Int} {f3 : Int} {f4 : Int} {f5 : Int} {f6 : Int} {f7 : Int} (h : IsS86 w0 W g f0 f1 f2 f3 f4 f5 f6 f7) : g < W.heap.size := by
  obtain ⟨hb, hg⟩ := h
  exact blk_lt hb
theorem IsS86.ge {w0 W : World} {g : Nat} {f0 : Int} {f1 : Int} {f2 : Int} {f3 : Int} {f4 : Int} {f5 : Int} {f6 : Int} {f7 : Int} (h : IsS86 w0 W g f0 f1 f2 f3 f4 f5 f6 f7) : w0.heap.size ≤ g := by
  obtain ⟨hb, hg⟩ := h
  exact hg
theorem IsS86.ne_blk {w0 W : World} {g : Nat} {f0 : Int} {f1 : Int} {f2 : Int} {f3 : Int} {f4 : Int} {f5 : Int} {f6 : Int} {f7 : Int} {a : Nat} {cs : Array Value} {t : TypeId} {fr : Nat × Nat} (h : IsS86 w0 W g f0 f1 f2 f3 f4 f5 f6 f7) (hb2 : W.heap[a]? = some (.cells cs t fr)) (ht : t ≠ 86) : g ≠ a := by
  obtain ⟨hb, hg⟩ := h
  rintro rfl
  rw [hb] at hb2
  injection hb2 with hb2
  injection hb2 with _ ht2
  exact ht ht2.symm
theorem IsS86.far {w0 W : World} {g : Nat} {f0 : Int} {f1 : Int} {f2 : Int} {f3 : Int} {f4 : Int} {f5 : Int} {f6 : Int} {f7 : Int} {p : Addr} (h : IsS86 w0 W g f0 f1 f2 f3 f4 f5 f6 f7) (hne : g ≠ p.block) (u : Value) : IsS86 w0 (W.setCell p u) g f0 f1 f2 f3 f4 f5 f6 f7 := by
  obtain ⟨hb, hg⟩ := h
  exact ⟨blk_far hb hne u, hg⟩
theorem cellS86_0 {W : World} {g : Nat} {f0 : Int} {f1 : Int} {f2 : Int} {f3 : Int} {f4 : Int} {f5 : Int} {f6 : Int} {f7 : Int} (h : W.heap[g]? = some (.cells #[.int .i64 f0, .int .i64 f1, .int .i64 f2, .int .i64 f3, .int .i64 f4, .int .u8 f5, .int .u8 f6, .int .u64 f7] 86 (0, 0))) : W.cell? ⟨g, 0, none⟩ = some (.int .i64 f0) := (blk_cell h 0).trans rfl
theorem IsS86.set_0 {w0 W : World} {g : Nat} {f0 : Int} {f1 : Int} {f2 : Int} {f3 : Int} {f4 : Int} {f5 : Int} {f6 : Int} {f7 : Int} (h : IsS86 w0 W g f0 f1 f2 f3 f4 f5 f6 f7) (x : Int) : IsS86 w0 (W.setCell ⟨g, 0, none⟩ (.int .i64 x)) g x f1 f2 f3 f4 f5 f6 f7 := by
  obtain ⟨hb, hg⟩ := h
  exact ⟨by simpa using blk_set hb 0 (.int .i64 x), hg⟩
theorem cellS86_1 {W : World} {g : Nat} {f0 : Int} {f1 : Int} {f2 : Int} {f3 : Int} {f4 : Int} {f5 : Int} {f6 : Int} {f7 : Int} (h : W.heap[g]? = some (.cells #[.int .i64 f0, .int .i64 f1, .int .i64 f2, .int .i64 f3, .int .i64 f4, .int .u8 f5, .int .u8 f6, .int .u64 f7] 86 (0, 0))) : W.cell? ⟨g, 1, none⟩ = some (.int .i64 f1) := (blk_cell h 1).trans rfl
theorem IsS86.set_1 {w0 W : World} {g : Nat} {f0 : Int} {f1 : Int} {f2 : Int} {f3 : Int} {f4 : Int} {f5 : Int} {f6 : Int} {f7 : Int} (h : IsS86 w0 W g f0 f1 f2 f3 f4 f5 f6 f7) (x : Int) : IsS86 w0 (W.setCell ⟨g, 1, none⟩ (.int .i64 x)) g f0 x f2 f3 f4 f5 f6 f7 := by
  obtain ⟨hb, hg⟩ := h
  exact ⟨by simpa using blk_set hb 1 (.int .i64 x), hg⟩
theorem cellS86_2 {W : World} {g : Nat} {f0 : Int} {f1 : Int} {f2 : Int} {f3 : Int} {f4 : Int} {f5 : Int} {f6 : Int} {f7 : Int} (h : W.heap[g]? = some (.cells #[.int .i64 f0, .int .i64 f1, .int .i64 f2, .int .i64 f3, .int .i64 f4, .int .u8 f5, .int .u8 f6, .int .u64 f7] 86 (0, 0))) : W.cell? ⟨g, 2, none⟩ = some (.int .i64 f2) := (blk_cell h 2).trans rfl
theorem IsS86.set_2 {w0 W : World} {g : Nat} {f0 : Int} {f1 : Int} {f2 : Int} {f3 : Int} {f4 : Int} {f5 : Int} {f6 : Int} {f7 : Int} (h : IsS86 w0 W g f0 f1 f2 f3 f4 f5 f6 f7) (x : Int) : IsS86 w0 (W.setCell ⟨g, 2, none⟩ (.int .i64 x)) g f0 f1 x f3 f4 f5 f6 f7 := by
  obtain ⟨hb, hg⟩ := h
  exact ⟨by simpa using blk_set hb 2 (.int .i64 x), hg⟩
theorem cellS86_3 {W : World} {g : Nat} {f0 : Int} {f1 : Int} {f2 : Int} {f3 : Int} {f4 : Int} {f5 : Int} {f6 : Int} {f7 : Int} (h : W.heap[g]? = some (.cells #[.int .i64 f0, .int .i64 f1, .int .i64 f2, .int .i64 f3, .int .i64 f4, .int .u8 f5, .int .u8 f6, .int .u64 f7] 86 (0, 0))) : W.cell? ⟨g, 3, none⟩ = some (.int .i64 f3) := (blk_cell h 3).trans rfl
theorem IsS86.set_3 {w0 W : World} {g : Nat} {f0 : Int} {f1 : Int} {f2 : Int} {f3 : Int} {f4 : Int} {f5 : Int} {f6 : Int} {f7 : Int} (h : IsS86 w0 W g f0 f1 f2 f3 f4 f5 f6 f7) (x : Int) : IsS86 w0 (W.setCell ⟨g, 3, none⟩ (.int .i64 x)) g f0 f1 f2 x f4 f5 f6 f7 := by
  obtain ⟨hb, hg⟩ := h
  exact ⟨by simpa using blk_set hb 3 (.int .i64 x), hg⟩
theorem cellS86_4 {W : World} {g : Nat} {f0 : Int} {f1 : Int} {f2 : Int} {f3 : Int} {f4 : Int} {f5 : Int} {f6 : Int} {f7 : Int} (h : W.heap[g]? = some (.cells #[.int .i64 f0, .int .i64 f1, .int .i64 f2, .int .i64 f3, .int .i64 f4, .int .u8 f5, .int .u8 f6, .int .u64 f7] 86 (0, 0))) : W.cell? ⟨g, 4, none⟩ = some (.int .i64 f4) := (blk_cell h 4).trans rfl
theorem IsS86.set_4 {w0 W : World} {g : Nat} {f0 : Int} {f1 : Int} {f2 : Int} {f3 : Int} {f4 : Int} {f5 : Int} {f6 : Int} {f7 : Int} (h : IsS86 w0 W g f0 f1 f2 f3 f4 f5 f6 f7) (x : Int) : IsS86 w0 (W.setCell ⟨g, 4, none⟩ (.int .i64 x)) g f0 f1 f2 f3 x f5 f6 f7 := by
  obtain ⟨hb, hg⟩ := h
  exact ⟨by simpa using blk_set hb 4 (.int .i64 x), hg⟩
theorem cellS86_5 {W : World} {g : Nat} {f0 : Int} {f1 : Int} {f2 : Int} {f3 : Int} {f4 : Int} {f5 : Int} {f6 : Int} {f7 : Int} (h : W.heap[g]? = some (.cells #[.int .i64 f0, .int .i64 f1, .int .i64 f2, .int .i64 f3, .int .i64 f4, .int .u8 f5, .int .u8 f6, .int .u64 f7] 86 (0, 0))) : W.cell? ⟨g, 5, none⟩ = some (.int .u8 f5) := (blk_cell h 5).trans rfl
theorem IsS86.set_5 {w0 W : World} {g : Nat} {f0 : Int} {f1 : Int} {f2 : Int} {f3 : Int} {f4 : Int} {f5 : Int} {f6 : Int} {f7 : Int} (h : IsS86 w0 W g f0 f1 f2 f3 f4 f5 f6 f7) (x : Int) : IsS86 w0 (W.setCell ⟨g, 5, none⟩ (.int .u8 x)) g f0 f1 f2 f3 f4 x f6 f7 := by
  obtain ⟨hb, hg⟩ := h
  exact ⟨by simpa using blk_set hb 5 (.int .u8 x), hg⟩
theorem cellS86_6 {W : World} {g : Nat} {f0 : Int} {f1 : Int} {f2 : Int} {f3 : Int} {f4 : Int} {f5 : Int} {f6 : Int} {f7 : Int} (h : W.heap[g]? = some (.cells #[.int .i64 f0, .int .i64 f1, .int .i64 f2, .int .i64 f3, .int .i64 f4, .int .u8 f5, .int .u8 f6, .int .u64 f7] 86 (0, 0))) : W.cell? ⟨g, 6, none⟩ = some (.int .u8 f6) := (blk_cell h 6).trans rfl
theorem IsS86.set_6 {w0 W : World} {g : Nat} {f0 : Int} {f1 : Int} {f2 : Int} {f3 : Int} {f4 : Int} {f5 : Int} {f6 : Int} {f7 : Int} (h : IsS86 w0 W g f0 f1 f2 f3 f4 f5 f6 f7) (x : Int) : IsS86 w0 (W.setCell ⟨g, 6, none⟩ (.int .u8 x)) g f0 f1 f2 f3 f4 f5 x f7 := by
  obtain ⟨hb, hg⟩ := h
  exact ⟨by simpa using blk_set hb 6 (.int .u8 x), hg⟩
theorem cellS86_7 {W : World} {g : Nat} {f0 : Int} {f1 : Int} {f2 : Int} {f3 : Int} {f4 : Int} {f5 : Int} {f6 : Int} {f7 : Int} (h : W.heap[g]? = some (.cells #[.int .i64 f0, .int .i64 f1, .int .i64 f2, .int .i64 f3, .int .i64 f4, .int .u8 f5, .int .u8 f6, .int .u64 f7] 86 (0, 0))) : W.cell? ⟨g, 7, none⟩ = some (.int .u64 f7) := (blk_cell h 7).trans rfl
theorem IsS86.set_7 {w0 W : World} {g : Nat} {f0 : Int} {f1 : Int} {f2 : Int} {f3 : Int} {f4 : Int} {f5 : Int} {f6 : Int} {f7 : Int} (h : IsS86 w0 W g f0 f1 f2 f3 f4 f5 f6 f7) (x : Int) : IsS86 w0 (W.setCell ⟨g, 7, none⟩ (.int .u64 x)) g f0 f1 f2 f3 f4 f5 f6 x := by
  obtain ⟨hb, hg⟩ := h
  exact ⟨by simpa using blk_set hb 7 (.int .u64 x), hg⟩
theorem IsS86.new (w0 W : World) (f0 : Int) (f1 : Int) (f2 : Int) (f3 : Int) (f4 : Int) (f5 : Int) (f6 : Int) (f7 : Int) (hB : Below w0.heap.size w0 W) : IsS86 w0 (W.alloc (.cells #[.int .i64 f0, .int .i64 f1, .int .i64 f2, .int .i64 f3, .int .i64 f4, .int .u8 f5, .int .u8 f6, .int .u64 f7] 86)) W.heap.size f0 f1 f2 f3 f4 f5 f6 f7 := ⟨by simpa using heap_alloc_new W _, hB.size⟩

/-! ### parse_Cmd_read: function 52 -/
def parse_Cmd_read.j0 : Nat → ByteArray → ByteArray → ByteArray → Bool → Int → Int → Int → Int → Int → Int → Int → Int → Option (Bool × Int × Int × Int × Int × Int × Int × Int × Int)
  | 0, _, _, _, _, _, _, _, _, _, _, _, _ => none
  | k + 1, x1, x2, x11, x48, x1000, x1001, x1002, x1003, x1004, x1005, x1006, x1007 => if x48 = true then ((parse_small.f x2 255).bind fun bt128 => (if x1.toList = ([77] : List UInt8) then (some (bt128.2, x1000, x1001, x1002, x1003, x1004, (bt128.1) % 256, x1006, x1007)) else (some (bt128.2, x1000, x1001, x1002, x1003, x1004, x1005, (bt128.1) % 256, x1007)))) else (if x11.toList = ([65] : List UInt8) then ((mac_Parse.f k x2).bind fun bt130 => (some ((bt130.2 == 0), x1000, x1001, x1002, x1003, x1004, x1005, x1006, bt130.1))) else (some ((x2.toList == x1.toList), x1000, x1001, x1002, x1003, x1004, x1005, x1006, x1007)))
def parse_Cmd_read.f (k : Nat) (s0_0 : Int) (s0_1 : Int) (s0_2 : Int) (s0_3 : Int) (s0_4 : Int) (s0_5 : Int) (s0_6 : Int) (s0_7 : Int) (a1 : ByteArray) (a2 : ByteArray) : Option (Bool × Int × Int × Int × Int × Int × Int × Int × Int) := if a1.toList = ([78] : List UInt8) then ((words_Num.f a2).bind fun bt122 => (some (bt122.2, s0_0, s0_1, s0_2, bt122.1, s0_4, s0_5, s0_6, s0_7))) else (if a1.toList = ([80] : List UInt8) then ((parse_small.f a2 255).bind fun bt124 => (some (bt124.2, s0_0, s0_1, bt124.1, s0_3, s0_4, s0_5, s0_6, s0_7))) else (if a1.toList = ([86] : List UInt8) then ((parse_small.f a2 65535).bind fun bt126 => (some (bt126.2, s0_0, s0_1, s0_2, s0_3, bt126.1, s0_5, s0_6, s0_7))) else (if a1.toList = ([77] : List UInt8) then (parse_Cmd_read.j0 k a1 a2 a1 (a1.toList == ([77] : List UInt8)) s0_0 s0_1 s0_2 s0_3 s0_4 s0_5 s0_6 s0_7) else (parse_Cmd_read.j0 k a1 a2 a1 (a1.toList == ([84] : List UInt8)) s0_0 s0_1 s0_2 s0_3 s0_4 s0_5 s0_6 s0_7))))
theorem parse_Cmd_read.mono_l : ∀ k, (∀ y0 y1 y2 y3 y4 y5 y6 y7 y8 y9 y10 y11, LeO (parse_Cmd_read.j0 k y0 y1 y2 y3 y4 y5 y6 y7 y8 y9 y10 y11) (parse_Cmd_read.j0 (k + 1) y0 y1 y2 y3 y4 y5 y6 y7 y8 y9 y10 y11))
  | 0 => fun _ _ _ _ _ _ _ _ _ _ _ _ r h => by simp [parse_Cmd_read.j0] at h
  | k + 1 => by
    have ih0 := parse_Cmd_read.mono_l k
    · intro y0 y1 y2 y3 y4 y5 y6 y7 y8 y9 y10 y11
      unfold parse_Cmd_read.j0
      repeat' first
      | (with_reducible exact ih0 _ _ _ _ _ _ _ _ _ _ _ _)
      | (with_reducible exact mac_Parse.mono _ _)
      | (with_reducible exact LeO.refl _)
      | (with_reducible exact LeO.none _)
      | (with_reducible refine LeO.ite ?_ ?_)
      | (with_reducible refine LeO.bind ?_ (fun _ => ?_))
      | exact ih0 _ _ _ _ _ _ _ _ _ _ _ _
      | exact mac_Parse.mono _ _
      | exact LeO.none _
      | refine LeO.ite ?_ ?_
      | refine LeO.bind ?_ (fun _ => ?_)
theorem parse_Cmd_read.mono : ∀ a0 a1 a2 a3 a4 a5 a6 a7 a8 a9 k, LeO (parse_Cmd_read.f k a0 a1 a2 a3 a4 a5 a6 a7 a8 a9) (parse_Cmd_read.f (k + 1) a0 a1 a2 a3 a4 a5 a6 a7 a8 a9) := by
  intro a0 a1 a2 a3 a4 a5 a6 a7 a8 a9 k
  have ih0 := parse_Cmd_read.mono_l k
  unfold parse_Cmd_read.f
  repeat' first
      | (with_reducible exact ih0 _ _ _ _ _ _ _ _ _ _ _ _)
      | (with_reducible exact mac_Parse.mono _ _)
      | (with_reducible exact LeO.refl _)
      | (with_reducible exact LeO.none _)
      | (with_reducible refine LeO.ite ?_ ?_)
      | (with_reducible refine LeO.bind ?_ (fun _ => ?_))
      | exact ih0 _ _ _ _ _ _ _ _ _ _ _ _
      | exact mac_Parse.mono _ _
      | exact LeO.none _
      | refine LeO.ite ?_ ?_
      | refine LeO.bind ?_ (fun _ => ?_)
set_option maxHeartbeats 8000000 in
set_option maxRecDepth 100000 in
theorem parse_Cmd_read.calls (k : Nat) (g : Nat) (s0_0 : Int) (s0_1 : Int) (s0_2 : Int) (s0_3 : Int) (s0_4 : Int) (s0_5 : Int) (s0_6 : Int) (s0_7 : Int) (a1 : ByteArray) (a2 : ByteArray) (r1 : Bool) (r2 : Int) (r3 : Int) (r4 : Int) (r5 : Int) (r6 : Int) (r7 : Int) (r8 : Int) (r9 : Int) (w0 w : World) (hI : IsS86 w0 w g s0_0 s0_1 s0_2 s0_3 s0_4 s0_5 s0_6 s0_7) (hB : Below w0.heap.size w0 w) (hL : Laid w0) (h : parse_Cmd_read.f k s0_0 s0_1 s0_2 s0_3 s0_4 s0_5 s0_6 s0_7 a1 a2 = some (r1, r2, r3, r4, r5, r6, r7, r8, r9)) :
    Calls Tryd.prog 52 #[.pointer (some ⟨g, 0, none⟩), .string a1, .string a2] w fun e w' => e = .returned (.bool r1) ∧ IsS86 w0 w' g r2 r3 r4 r5 r6 r7 r8 r9 ∧ Below w0.heap.size w0 w' ∧ KeepBut w w' g none := by
  have HI0 := Aside0.mk hI
  have HK := Aside0.mk (KeepBut.refl w g none)
  have HL := Aside0.mk hB.size
  clear hI
  have HW0 := Aside0.mk hB.size
  have HB := Aside0.mk hB
  clear hB
  have H : (if a1.toList = ([78] : List UInt8) then ((words_Num.f a2).bind fun bt122 => (some (bt122.2, s0_0, s0_1, s0_2, bt122.1, s0_4, s0_5, s0_6, s0_7))) else (if a1.toList = ([80] : List UInt8) then ((parse_small.f a2 255).bind fun bt124 => (some (bt124.2, s0_0, s0_1, bt124.1, s0_3, s0_4, s0_5, s0_6, s0_7))) else (if a1.toList = ([86] : List UInt8) then ((parse_small.f a2 65535).bind fun bt126 => (some (bt126.2, s0_0, s0_1, s0_2, s0_3, bt126.1, s0_5, s0_6, s0_7))) else (if a1.toList = ([77] : List UInt8) then (parse_Cmd_read.j0 k a1 a2 a1 (a1.toList == ([77] : List UInt8)) s0_0 s0_1 s0_2 s0_3 s0_4 s0_5 s0_6 s0_7) else (parse_Cmd_read.j0 k a1 a2 a1 (a1.toList == ([84] : List UInt8)) s0_0 s0_1 s0_2 s0_3 s0_4 s0_5 s0_6 s0_7))))) = some (r1, r2, r3, r4, r5, r6, r7, r8, r9) := h
  clear h
  by_cases c4 : a1.toList = ([78] : List UInt8)
  · rw [if_pos c4] at H
    have c4b0 : (a1.toList == ([78] : List UInt8)) = true := beq_iff_eq.mpr c4
    have c4b1 : (a1.toList != ([78] : List UInt8)) = false := bne_eq_false_iff_eq.mpr c4
    clear c4
    replace H := Option.bind_eq_some_iff.mp H
    obtain ⟨⟨t122, t123⟩, A50, H⟩ := H
    replace H : (some (t123, s0_0, s0_1, s0_2, t122, s0_4, s0_5, s0_6, s0_7)) = some (r1, r2, r3, r4, r5, r6, r7, r8, r9) := H
    have A5 := Aside0.mk A50
    clear A50
    simp only [Option.some.injEq, Prod.mk.injEq] at H
    obtain ⟨rfl, rfl, rfl, rfl, rfl, rfl, rfl, rfl, rfl⟩ := H
    go_enter Tryd.func52, Tryd.ntmps52
    go_wp2_with (first | ((with_reducible refine gate_callee (f := 56) rfl ?_); refine goesL_ (some 20) rfl rfl Tryd.func56 (by kernel_rfl) rfl #[.string a2] rfl (by (try simp only [List.map_toArray, List.map_cons, List.map_nil]); first | done | rfl | (simp only [List.length_drop, List.length_take]; rfl)) ?_; (with_reducible refine (words_Num.calls a2 t122 t123 _ ?side1 A5.out).mono ?_); (case side1 => exact Laid.below hL (by repeat (first | (with_reducible first | exact HB.out | apply below_alloc | apply pw_below_drewN | apply below_drew1 | refine below_set ?_ (IsS86.ge HI0.out)) | exact HB.out))); rintro e w6 ⟨rfl, hb⟩; refine ⟨_, rfl, ?_⟩; have n0_ := Aside0.mk (IsS86.below (by repeat (first | (with_reducible first | exact HI0.out | apply IsS86.alloc | apply IsS86.drewN | apply IsS86.drew | apply IsS86.set_0 | apply IsS86.set_1 | apply IsS86.set_2 | apply IsS86.set_3 | apply IsS86.set_4 | apply IsS86.set_5 | apply IsS86.set_6 | apply IsS86.set_7) | exact HI0.out)) hb); have n1_ := Aside0.mk (KeepBut.trans (by repeat (first | (with_reducible first | exact HK.out | apply KeepBut.set_ | apply keep_drewN | apply keep_drew | apply keep_alloc) | exact HK.out)) (KeepBut.of_below hb g none) (.inl rfl)); have n2_ := Aside0.mk (below_step (by repeat (first | (with_reducible first | exact HB.out | apply below_alloc | apply pw_below_drewN | apply below_drew1 | refine below_set ?_ (IsS86.ge HI0.out)) | exact HB.out)) hb); clear HI0; clear HK; clear HB; have HI0 := n0_; have HK := n1_; have HB := n2_; clear n0_ n1_ n2_; (try clear hb); (try clear hb2); (try clear hk); (try clear hi); (try clear A5); obtain ⟨HGz7, hgz7⟩ := HI0.out; have hcz7_0 := cellS86_0 HGz7; have hcz7_1 := cellS86_1 HGz7; have hcz7_2 := cellS86_2 HGz7; have hcz7_3 := cellS86_3 HGz7; have hcz7_4 := cellS86_4 HGz7; have hcz7_5 := cellS86_5 HGz7; have hcz7_6 := cellS86_6 HGz7; have hcz7_7 := cellS86_7 HGz7; have hfz7_0 := blk_frozen HGz7 0; have hfz7_1 := blk_frozen HGz7 1; have hfz7_2 := blk_frozen HGz7 2; have hfz7_3 := blk_frozen HGz7 3; have hfz7_4 := blk_frozen HGz7 4; have hfz7_5 := blk_frozen HGz7 5; have hfz7_6 := blk_frozen HGz7 6; have hfz7_7 := blk_frozen HGz7 7; clear HGz7 hgz7))
    go_ret
    exact ⟨by first | rfl | (simp [errW_none, errW_some] <;> rfl) | (simp [*, errW_none, errW_some] <;> rfl), by repeat (first | (with_reducible first | exact HI0.out | apply IsS86.alloc | apply IsS86.drewN | apply IsS86.drew | apply IsS86.set_0 | apply IsS86.set_1 | apply IsS86.set_2 | apply IsS86.set_3 | apply IsS86.set_4 | apply IsS86.set_5 | apply IsS86.set_6 | apply IsS86.set_7) | exact HI0.out), by repeat (first | (with_reducible first | exact HB.out | apply below_alloc | apply pw_below_drewN | apply below_drew1 | refine below_set ?_ (IsS86.ge HI0.out)) | exact HB.out), by repeat (first | (with_reducible first | exact HK.out | apply KeepBut.set_ | apply keep_drewN | apply keep_drew | apply keep_alloc) | exact HK.out)⟩
  · rw [if_neg c4] at H
    have c4b0 : (a1.toList == ([78] : List UInt8)) = false := beq_eq_false_iff_ne.mpr c4
    have c4b1 : (a1.toList != ([78] : List UInt8)) = true := bne_iff_ne.mpr c4
    by_cases c8 : a1.toList = ([80] : List UInt8)
    · rw [if_pos c8] at H
      have c8b0 : (a1.toList == ([80] : List UInt8)) = true := beq_iff_eq.mpr c8
      have c8b1 : (a1.toList != ([80] : List UInt8)) = false := bne_eq_false_iff_eq.mpr c8
      clear c8
      replace H := Option.bind_eq_some_iff.mp H
      obtain ⟨⟨t124, t125⟩, A90, H⟩ := H
      replace H : (some (t125, s0_0, s0_1, t124, s0_3, s0_4, s0_5, s0_6, s0_7)) = some (r1, r2, r3, r4, r5, r6, r7, r8, r9) := H
      have A9 := Aside0.mk A90
      clear A90
      simp only [Option.some.injEq, Prod.mk.injEq] at H
      obtain ⟨rfl, rfl, rfl, rfl, rfl, rfl, rfl, rfl, rfl⟩ := H
      go_enter Tryd.func52, Tryd.ntmps52
      go_wp2_with (first | ((with_reducible refine gate_callee (f := 57) rfl ?_); refine goesL_ (some 31) rfl rfl Tryd.func57 (by kernel_rfl) rfl #[.string a2, .int .i64 255] rfl (by (try simp only [List.map_toArray, List.map_cons, List.map_nil]); first | done | rfl | (simp only [List.length_drop, List.length_take]; rfl)) ?_; (with_reducible refine (parse_small.calls a2 255 t124 t125 _ ?side1 A9.out).mono ?_); (case side1 => exact Laid.below hL (by repeat (first | (with_reducible first | exact HB.out | apply below_alloc | apply pw_below_drewN | apply below_drew1 | refine below_set ?_ (IsS86.ge HI0.out)) | exact HB.out))); rintro e w10 ⟨rfl, hb⟩; refine ⟨_, rfl, ?_⟩; have n0_ := Aside0.mk (IsS86.below (by repeat (first | (with_reducible first | exact HI0.out | apply IsS86.alloc | apply IsS86.drewN | apply IsS86.drew | apply IsS86.set_0 | apply IsS86.set_1 | apply IsS86.set_2 | apply IsS86.set_3 | apply IsS86.set_4 | apply IsS86.set_5 | apply IsS86.set_6 | apply IsS86.set_7) | exact HI0.out)) hb); have n1_ := Aside0.mk (KeepBut.trans (by repeat (first | (with_reducible first | exact HK.out | apply KeepBut.set_ | apply keep_drewN | apply keep_drew | apply keep_alloc) | exact HK.out)) (KeepBut.of_below hb g none) (.inl rfl)); have n2_ := Aside0.mk (below_step (by repeat (first | (with_reducible first | exact HB.out | apply below_alloc | apply pw_below_drewN | apply below_drew1 | refine below_set ?_ (IsS86.ge HI0.out)) | exact HB.out)) hb); clear HI0; clear HK; clear HB; have HI0 := n0_; have HK := n1_; have HB := n2_; clear n0_ n1_ n2_; (try clear hb); (try clear hb2); (try clear hk); (try clear hi); (try clear A9); obtain ⟨HGz11, hgz11⟩ := HI0.out; have hcz11_0 := cellS86_0 HGz11; have hcz11_1 := cellS86_1 HGz11; have hcz11_2 := cellS86_2 HGz11; have hcz11_3 := cellS86_3 HGz11; have hcz11_4 := cellS86_4 HGz11; have hcz11_5 := cellS86_5 HGz11; have hcz11_6 := cellS86_6 HGz11; have hcz11_7 := cellS86_7 HGz11; have hfz11_0 := blk_frozen HGz11 0; have hfz11_1 := blk_frozen HGz11 1; have hfz11_2 := blk_frozen HGz11 2; have hfz11_3 := blk_frozen HGz11 3; have hfz11_4 := blk_frozen HGz11 4; have hfz11_5 := blk_frozen HGz11 5; have hfz11_6 := blk_frozen HGz11 6; have hfz11_7 := blk_frozen HGz11 7; clear HGz11 hgz11))
      go_ret
      exact ⟨by first | rfl | (simp [errW_none, errW_some] <;> rfl) | (simp [*, errW_none, errW_some] <;> rfl), by repeat (first | (with_reducible first | exact HI0.out | apply IsS86.alloc | apply IsS86.drewN | apply IsS86.drew | apply IsS86.set_0 | apply IsS86.set_1 | apply IsS86.set_2 | apply IsS86.set_3 | apply IsS86.set_4 | apply IsS86.set_5 | apply IsS86.set_6 | apply IsS86.set_7) | exact HI0.out), by repeat (first | (with_reducible first | exact HB.out | apply below_alloc | apply pw_below_drewN | apply below_drew1 | refine below_set ?_ (IsS86.ge HI0.out)) | exact HB.out), by repeat (first | (with_reducible first | exact HK.out | apply KeepBut.set_ | apply keep_drewN | apply keep_drew | apply keep_alloc) | exact HK.out)⟩
    · rw [if_neg c8] at H
      have c8b0 : (a1.toList == ([80] : List UInt8)) = false := beq_eq_false_iff_ne.mpr c8
      have c8b1 : (a1.toList != ([80] : List UInt8)) = true := bne_iff_ne.mpr c8
      by_cases c12 : a1.toList = ([86] : List UInt8)
      · rw [if_pos c12] at H
        have c12b0 : (a1.toList == ([86] : List UInt8)) = true := beq_iff_eq.mpr c12
        have c12b1 : (a1.toList != ([86] : List UInt8)) = false := bne_eq_false_iff_eq.mpr c12
        clear c12
        replace H := Option.bind_eq_some_iff.mp H
        obtain ⟨⟨t126, t127⟩, A130, H⟩ := H
        replace H : (some (t127, s0_0, s0_1, s0_2, s0_3, t126, s0_5, s0_6, s0_7)) = some (r1, r2, r3, r4, r5, r6, r7, r8, r9) := H
        have A13 := Aside0.mk A130
        clear A130
        simp only [Option.some.injEq, Prod.mk.injEq] at H
        obtain ⟨rfl, rfl, rfl, rfl, rfl, rfl, rfl, rfl, rfl⟩ := H
        go_enter Tryd.func52, Tryd.ntmps52
        go_wp2_with (first | ((with_reducible refine gate_callee (f := 57) rfl ?_); refine goesL_ (some 42) rfl rfl Tryd.func57 (by kernel_rfl) rfl #[.string a2, .int .i64 65535] rfl (by (try simp only [List.map_toArray, List.map_cons, List.map_nil]); first | done | rfl | (simp only [List.length_drop, List.length_take]; rfl)) ?_; (with_reducible refine (parse_small.calls a2 65535 t126 t127 _ ?side1 A13.out).mono ?_); (case side1 => exact Laid.below hL (by repeat (first | (with_reducible first | exact HB.out | apply below_alloc | apply pw_below_drewN | apply below_drew1 | refine below_set ?_ (IsS86.ge HI0.out)) | exact HB.out))); rintro e w14 ⟨rfl, hb⟩; refine ⟨_, rfl, ?_⟩; have n0_ := Aside0.mk (IsS86.below (by repeat (first | (with_reducible first | exact HI0.out | apply IsS86.alloc | apply IsS86.drewN | apply IsS86.drew | apply IsS86.set_0 | apply IsS86.set_1 | apply IsS86.set_2 | apply IsS86.set_3 | apply IsS86.set_4 | apply IsS86.set_5 | apply IsS86.set_6 | apply IsS86.set_7) | exact HI0.out)) hb); have n1_ := Aside0.mk (KeepBut.trans (by repeat (first | (with_reducible first | exact HK.out | apply KeepBut.set_ | apply keep_drewN | apply keep_drew | apply keep_alloc) | exact HK.out)) (KeepBut.of_below hb g none) (.inl rfl)); have n2_ := Aside0.mk (below_step (by repeat (first | (with_reducible first | exact HB.out | apply below_alloc | apply pw_below_drewN | apply below_drew1 | refine below_set ?_ (IsS86.ge HI0.out)) | exact HB.out)) hb); clear HI0; clear HK; clear HB; have HI0 := n0_; have HK := n1_; have HB := n2_; clear n0_ n1_ n2_; (try clear hb); (try clear hb2); (try clear hk); (try clear hi); (try clear A13); obtain ⟨HGz15, hgz15⟩ := HI0.out; have hcz15_0 := cellS86_0 HGz15; have hcz15_1 := cellS86_1 HGz15; have hcz15_2 := cellS86_2 HGz15; have hcz15_3 := cellS86_3 HGz15; have hcz15_4 := cellS86_4 HGz15; have hcz15_5 := cellS86_5 HGz15; have hcz15_6 := cellS86_6 HGz15; have hcz15_7 := cellS86_7 HGz15; have hfz15_0 := blk_frozen HGz15 0; have hfz15_1 := blk_frozen HGz15 1; have hfz15_2 := blk_frozen HGz15 2; have hfz15_3 := blk_frozen HGz15 3; have hfz15_4 := blk_frozen HGz15 4; have hfz15_5 := blk_frozen HGz15 5; have hfz15_6 := blk_frozen HGz15 6; have hfz15_7 := blk_frozen HGz15 7; clear HGz15 hgz15))
        go_ret
        exact ⟨by first | rfl | (simp [errW_none, errW_some] <;> rfl) | (simp [*, errW_none, errW_some] <;> rfl), by repeat (first | (with_reducible first | exact HI0.out | apply IsS86.alloc | apply IsS86.drewN | apply IsS86.drew | apply IsS86.set_0 | apply IsS86.set_1 | apply IsS86.set_2 | apply IsS86.set_3 | apply IsS86.set_4 | apply IsS86.set_5 | apply IsS86.set_6 | apply IsS86.set_7) | exact HI0.out), by repeat (first | (with_reducible first | exact HB.out | apply below_alloc | apply pw_below_drewN | apply below_drew1 | refine below_set ?_ (IsS86.ge HI0.out)) | exact HB.out), by repeat (first | (with_reducible first | exact HK.out | apply KeepBut.set_ | apply keep_drewN | apply keep_drew | apply keep_alloc) | exact HK.out)⟩
      · rw [if_neg c12] at H
        have c12b0 : (a1.toList == ([86] : List UInt8)) = false := beq_eq_false_iff_ne.mpr c12
        have c12b1 : (a1.toList != ([86] : List UInt8)) = true := bne_iff_ne.mpr c12
        have HC16 := Aside0.mk H
        clear H
        go_enter Tryd.func52, Tryd.ntmps52
        go_upto_if 48 with (fail)
        go_cut [48] (fun v48 wc => ∃ (kq : Nat) (x48_15 : Bool), v48 = .bool x48_15 ∧ Aside0 (parse_Cmd_read.j0 kq a1 a2 a1 x48_15 s0_0 s0_1 s0_2 s0_3 s0_4 s0_5 s0_6 s0_7 = some (r1, r2, r3, r4, r5, r6, r7, r8, r9)) ∧ Aside0 (kq ≤ k) ∧ Aside0 (IsS86 w0 wc g s0_0 s0_1 s0_2 s0_3 s0_4 s0_5 s0_6 s0_7) ∧ Aside0 (KeepBut w wc g none) ∧ Aside0 (Below w0.heap.size w0 wc))
        case first =>
          have H := HC16.out
          clear HC16
          by_cases c17 : a1.toList = ([77] : List UInt8)
          · rw [if_pos c17] at H
            have c17b0 : (a1.toList == ([77] : List UInt8)) = true := beq_iff_eq.mpr c17
            have c17b1 : (a1.toList != ([77] : List UInt8)) = false := bne_eq_false_iff_eq.mpr c17
            clear c17
            (first | rw [c17b0] | (simp only [i64_w, i32_w]; rw [c17b0]) | skip)
            have H' := Aside0.mk H
            clear H
            go_wp2
            go_meet
            case rel => exact ⟨_, ((a1.toList == ([77] : List UInt8))), (by first | rfl | (simp; done) | (simp [*]; done)), H', ⟨by first | omega | exact Nat.le_refl _⟩, ⟨by repeat (first | (with_reducible first | exact HI0.out | apply IsS86.alloc | apply IsS86.drewN | apply IsS86.drew | apply IsS86.set_0 | apply IsS86.set_1 | apply IsS86.set_2 | apply IsS86.set_3 | apply IsS86.set_4 | apply IsS86.set_5 | apply IsS86.set_6 | apply IsS86.set_7) | exact HI0.out)⟩, ⟨by repeat (first | (with_reducible first | exact HK.out | apply KeepBut.set_ | apply keep_drewN | apply keep_drew | apply keep_alloc) | exact HK.out)⟩, ⟨by repeat (first | (with_reducible first | exact HB.out | apply below_alloc | apply pw_below_drewN | apply below_drew1 | refine below_set ?_ (IsS86.ge HI0.out)) | exact HB.out)⟩⟩
          · rw [if_neg c17] at H
            have c17b0 : (a1.toList == ([77] : List UInt8)) = false := beq_eq_false_iff_ne.mpr c17
            have c17b1 : (a1.toList != ([77] : List UInt8)) = true := bne_iff_ne.mpr c17
            (first | rw [c17b0] | (simp only [i64_w, i32_w]; rw [c17b0]) | skip)
            have H' := Aside0.mk H
            clear H
            go_wp2
            go_meet
            case rel => exact ⟨_, ((a1.toList == ([84] : List UInt8))), (by first | rfl | (simp; done) | (simp [*]; done)), H', ⟨by first | omega | exact Nat.le_refl _⟩, ⟨by repeat (first | (with_reducible first | exact HI0.out | apply IsS86.alloc | apply IsS86.drewN | apply IsS86.drew | apply IsS86.set_0 | apply IsS86.set_1 | apply IsS86.set_2 | apply IsS86.set_3 | apply IsS86.set_4 | apply IsS86.set_5 | apply IsS86.set_6 | apply IsS86.set_7) | exact HI0.out)⟩, ⟨by repeat (first | (with_reducible first | exact HK.out | apply KeepBut.set_ | apply keep_drewN | apply keep_drew | apply keep_alloc) | exact HK.out)⟩, ⟨by repeat (first | (with_reducible first | exact HB.out | apply below_alloc | apply pw_below_drewN | apply below_drew1 | refine below_set ?_ (IsS86.ge HI0.out)) | exact HB.out)⟩⟩
        case rest =>
          clear HC16
          try clear c1
          try clear p2
          try clear c4
          try clear c4b0
          try clear c4b1
          try clear c5
          try clear c8
          try clear c8b0
          try clear c8b1
          try clear c12
          try clear c12b0
          try clear c12b1
          try clear c17
          try clear c17b0
          try clear c17b1
          try clear hcz11_0
          try clear hcz11_1
          try clear hcz11_2
          try clear hcz11_3
          try clear hcz11_4
          try clear hcz11_5
          try clear hcz11_6
          try clear hcz11_7
          try clear hcz15_0
          try clear hcz15_1
          try clear hcz15_2
          try clear hcz15_3
          try clear hcz15_4
          try clear hcz15_5
          try clear hcz15_6
          try clear hcz15_7
          try clear hcz7_0
          try clear hcz7_1
          try clear hcz7_2
          try clear hcz7_3
          try clear hcz7_4
          try clear hcz7_5
          try clear hcz7_6
          try clear hcz7_7
          try clear hfz11_0
          try clear hfz11_1
          try clear hfz11_2
          try clear hfz11_3
          try clear hfz11_4
          try clear hfz11_5
          try clear hfz11_6
          try clear hfz11_7
          try clear hfz15_0
          try clear hfz15_1
          try clear hfz15_2
          try clear hfz15_3
          try clear hfz15_4
          try clear hfz15_5
          try clear hfz15_6
          try clear hfz15_7
          try clear hfz7_0
          try clear hfz7_1
          try clear hfz7_2
          try clear hfz7_3
          try clear hfz7_4
          try clear hfz7_5
          try clear hfz7_6
          try clear hfz7_7
          obtain ⟨kq, x48_15, rfl, HA, HJ15, HI0, HK, HB⟩ := hcut
          cases kq with
          | zero => exact absurd HA.out (by simp [parse_Cmd_read.j0])
          | succ kj15 =>
            have H := HA.out
            clear HA
            simp only [parse_Cmd_read.j0] at H
            by_cases c18 : x48_15 = true
            · subst c18
              have H1 : ((parse_small.f a2 255).bind fun bt128 => (if a1.toList = ([77] : List UInt8) then (some (bt128.2, s0_0, s0_1, s0_2, s0_3, s0_4, (bt128.1) % 256, s0_6, s0_7)) else (some (bt128.2, s0_0, s0_1, s0_2, s0_3, s0_4, s0_5, (bt128.1) % 256, s0_7)))) = some (r1, r2, r3, r4, r5, r6, r7, r8, r9) := by rw [if_pos rfl] at H; exact H
              clear H
              have H := H1
              clear H1
              replace H := Option.bind_eq_some_iff.mp H
              obtain ⟨⟨t128, t129⟩, A190, H⟩ := H
              replace H : (if a1.toList = ([77] : List UInt8) then (some (t129, s0_0, s0_1, s0_2, s0_3, s0_4, (t128) % 256, s0_6, s0_7)) else (some (t129, s0_0, s0_1, s0_2, s0_3, s0_4, s0_5, (t128) % 256, s0_7))) = some (r1, r2, r3, r4, r5, r6, r7, r8, r9) := H
              have A19 := Aside0.mk A190
              clear A190
              by_cases c20 : a1.toList = ([77] : List UInt8)
              · rw [if_pos c20] at H
                have c20b0 : (a1.toList == ([77] : List UInt8)) = true := beq_iff_eq.mpr c20
                have c20b1 : (a1.toList != ([77] : List UInt8)) = false := bne_eq_false_iff_eq.mpr c20
                clear c20
                simp only [Option.some.injEq, Prod.mk.injEq] at H
                obtain ⟨rfl, rfl, rfl, rfl, rfl, rfl, rfl, rfl, rfl⟩ := H
                go_wp2_with (first | ((with_reducible refine gate_callee (f := 57) rfl ?_); refine goesL_ (some 53) rfl rfl Tryd.func57 (by kernel_rfl) rfl #[.string a2, .int .i64 255] rfl (by (try simp only [List.map_toArray, List.map_cons, List.map_nil]); first | done | rfl | (simp only [List.length_drop, List.length_take]; rfl)) ?_; (with_reducible refine (parse_small.calls a2 255 t128 t129 _ ?side1 A19.out).mono ?_); (case side1 => exact Laid.below hL (by repeat (first | (with_reducible first | exact HB.out | apply below_alloc | apply pw_below_drewN | apply below_drew1 | refine below_set ?_ (IsS86.ge HI0.out)) | exact HB.out))); rintro e w21 ⟨rfl, hb⟩; refine ⟨_, rfl, ?_⟩; have n0_ := Aside0.mk (IsS86.below (by repeat (first | (with_reducible first | exact HI0.out | apply IsS86.alloc | apply IsS86.drewN | apply IsS86.drew | apply IsS86.set_0 | apply IsS86.set_1 | apply IsS86.set_2 | apply IsS86.set_3 | apply IsS86.set_4 | apply IsS86.set_5 | apply IsS86.set_6 | apply IsS86.set_7) | exact HI0.out)) hb); have n1_ := Aside0.mk (KeepBut.trans (by repeat (first | (with_reducible first | exact HK.out | apply KeepBut.set_ | apply keep_drewN | apply keep_drew | apply keep_alloc) | exact HK.out)) (KeepBut.of_below hb g none) (.inl rfl)); have n2_ := Aside0.mk (below_step (by repeat (first | (with_reducible first | exact HB.out | apply below_alloc | apply pw_below_drewN | apply below_drew1 | refine below_set ?_ (IsS86.ge HI0.out)) | exact HB.out)) hb); clear HI0; clear HK; clear HB; have HI0 := n0_; have HK := n1_; have HB := n2_; clear n0_ n1_ n2_; (try clear hb); (try clear hb2); (try clear hk); (try clear hi); (try clear A19); obtain ⟨HGz22, hgz22⟩ := HI0.out; have hcz22_0 := cellS86_0 HGz22; have hcz22_1 := cellS86_1 HGz22; have hcz22_2 := cellS86_2 HGz22; have hcz22_3 := cellS86_3 HGz22; have hcz22_4 := cellS86_4 HGz22; have hcz22_5 := cellS86_5 HGz22; have hcz22_6 := cellS86_6 HGz22; have hcz22_7 := cellS86_7 HGz22; have hfz22_0 := blk_frozen HGz22 0; have hfz22_1 := blk_frozen HGz22 1; have hfz22_2 := blk_frozen HGz22 2; have hfz22_3 := blk_frozen HGz22 3; have hfz22_4 := blk_frozen HGz22 4; have hfz22_5 := blk_frozen HGz22 5; have hfz22_6 := blk_frozen HGz22 6; have hfz22_7 := blk_frozen HGz22 7; clear HGz22 hgz22))
                go_ret
                exact ⟨by first | rfl | (simp [errW_none, errW_some] <;> rfl) | (simp [*, errW_none, errW_some] <;> rfl), by repeat (first | (with_reducible first | exact HI0.out | apply IsS86.alloc | apply IsS86.drewN | apply IsS86.drew | apply IsS86.set_0 | apply IsS86.set_1 | apply IsS86.set_2 | apply IsS86.set_3 | apply IsS86.set_4 | apply IsS86.set_5 | apply IsS86.set_6 | apply IsS86.set_7) | exact HI0.out), by repeat (first | (with_reducible first | exact HB.out | apply below_alloc | apply pw_below_drewN | apply below_drew1 | refine below_set ?_ (IsS86.ge HI0.out)) | exact HB.out), by repeat (first | (with_reducible first | exact HK.out | apply KeepBut.set_ | apply keep_drewN | apply keep_drew | apply keep_alloc) | exact HK.out)⟩
              · rw [if_neg c20] at H
                have c20b0 : (a1.toList == ([77] : List UInt8)) = false := beq_eq_false_iff_ne.mpr c20
                have c20b1 : (a1.toList != ([77] : List UInt8)) = true := bne_iff_ne.mpr c20
                simp only [Option.some.injEq, Prod.mk.injEq] at H
                obtain ⟨rfl, rfl, rfl, rfl, rfl, rfl, rfl, rfl, rfl⟩ := H
                go_wp2_with (first | ((with_reducible refine gate_callee (f := 57) rfl ?_); refine goesL_ (some 53) rfl rfl Tryd.func57 (by kernel_rfl) rfl #[.string a2, .int .i64 255] rfl (by (try simp only [List.map_toArray, List.map_cons, List.map_nil]); first | done | rfl | (simp only [List.length_drop, List.length_take]; rfl)) ?_; (with_reducible refine (parse_small.calls a2 255 t128 t129 _ ?side1 A19.out).mono ?_); (case side1 => exact Laid.below hL (by repeat (first | (with_reducible first | exact HB.out | apply below_alloc | apply pw_below_drewN | apply below_drew1 | refine below_set ?_ (IsS86.ge HI0.out)) | exact HB.out))); rintro e w23 ⟨rfl, hb⟩; refine ⟨_, rfl, ?_⟩; have n0_ := Aside0.mk (IsS86.below (by repeat (first | (with_reducible first | exact HI0.out | apply IsS86.alloc | apply IsS86.drewN | apply IsS86.drew | apply IsS86.set_0 | apply IsS86.set_1 | apply IsS86.set_2 | apply IsS86.set_3 | apply IsS86.set_4 | apply IsS86.set_5 | apply IsS86.set_6 | apply IsS86.set_7) | exact HI0.out)) hb); have n1_ := Aside0.mk (KeepBut.trans (by repeat (first | (with_reducible first | exact HK.out | apply KeepBut.set_ | apply keep_drewN | apply keep_drew | apply keep_alloc) | exact HK.out)) (KeepBut.of_below hb g none) (.inl rfl)); have n2_ := Aside0.mk (below_step (by repeat (first | (with_reducible first | exact HB.out | apply below_alloc | apply pw_below_drewN | apply below_drew1 | refine below_set ?_ (IsS86.ge HI0.out)) | exact HB.out)) hb); clear HI0; clear HK; clear HB; have HI0 := n0_; have HK := n1_; have HB := n2_; clear n0_ n1_ n2_; (try clear hb); (try clear hb2); (try clear hk); (try clear hi); (try clear A19); obtain ⟨HGz24, hgz24⟩ := HI0.out; have hcz24_0 := cellS86_0 HGz24; have hcz24_1 := cellS86_1 HGz24; have hcz24_2 := cellS86_2 HGz24; have hcz24_3 := cellS86_3 HGz24; have hcz24_4 := cellS86_4 HGz24; have hcz24_5 := cellS86_5 HGz24; have hcz24_6 := cellS86_6 HGz24; have hcz24_7 := cellS86_7 HGz24; have hfz24_0 := blk_frozen HGz24 0; have hfz24_1 := blk_frozen HGz24 1; have hfz24_2 := blk_frozen HGz24 2; have hfz24_3 := blk_frozen HGz24 3; have hfz24_4 := blk_frozen HGz24 4; have hfz24_5 := blk_frozen HGz24 5; have hfz24_6 := blk_frozen HGz24 6; have hfz24_7 := blk_frozen HGz24 7; clear HGz24 hgz24))
                go_ret
                exact ⟨by first | rfl | (simp [errW_none, errW_some] <;> rfl) | (simp [*, errW_none, errW_some] <;> rfl), by repeat (first | (with_reducible first | exact HI0.out | apply IsS86.alloc | apply IsS86.drewN | apply IsS86.drew | apply IsS86.set_0 | apply IsS86.set_1 | apply IsS86.set_2 | apply IsS86.set_3 | apply IsS86.set_4 | apply IsS86.set_5 | apply IsS86.set_6 | apply IsS86.set_7) | exact HI0.out), by repeat (first | (with_reducible first | exact HB.out | apply below_alloc | apply pw_below_drewN | apply below_drew1 | refine below_set ?_ (IsS86.ge HI0.out)) | exact HB.out), by repeat (first | (with_reducible first | exact HK.out | apply KeepBut.set_ | apply keep_drewN | apply keep_drew | apply keep_alloc) | exact HK.out)⟩
            · replace c18 := Bool.eq_false_iff.mpr c18
              subst c18
              have H1 : (if a1.toList = ([65] : List UInt8) then ((mac_Parse.f kj15 a2).bind fun bt130 => (some ((bt130.2 == 0), s0_0, s0_1, s0_2, s0_3, s0_4, s0_5, s0_6, bt130.1))) else (some ((a2.toList == a1.toList), s0_0, s0_1, s0_2, s0_3, s0_4, s0_5, s0_6, s0_7))) = some (r1, r2, r3, r4, r5, r6, r7, r8, r9) := by rw [if_neg (show ¬ (false = true) by decide)] at H; exact H
              clear H
              have H := H1
              clear H1
              by_cases c25 : a1.toList = ([65] : List UInt8)
              · rw [if_pos c25] at H
                have c25b0 : (a1.toList == ([65] : List UInt8)) = true := beq_iff_eq.mpr c25
                have c25b1 : (a1.toList != ([65] : List UInt8)) = false := bne_eq_false_iff_eq.mpr c25
                clear c25
                replace H := Option.bind_eq_some_iff.mp H
                obtain ⟨⟨t130, t131⟩, A260, H⟩ := H
                replace H : (some ((t131 == 0), s0_0, s0_1, s0_2, s0_3, s0_4, s0_5, s0_6, t130)) = some (r1, r2, r3, r4, r5, r6, r7, r8, r9) := H
                have A26 := Aside0.mk A260
                clear A260
                simp only [Option.some.injEq, Prod.mk.injEq] at H
                obtain ⟨rfl, rfl, rfl, rfl, rfl, rfl, rfl, rfl, rfl⟩ := H
                go_wp2_with (first | ((with_reducible refine gate_callee (f := 58) rfl ?_); refine goesL_ (some 74) rfl rfl Tryd.func58 (by kernel_rfl) rfl #[.string a2] rfl (by (try simp only [List.map_toArray, List.map_cons, List.map_nil]); first | done | rfl | (simp only [List.length_drop, List.length_take]; rfl)) ?_; (with_reducible refine (mac_Parse.calls kj15 a2 t130 t131 _ ?side1 A26.out).mono ?_); (case side1 => exact Laid.below hL (by repeat (first | (with_reducible first | exact HB.out | apply below_alloc | apply pw_below_drewN | apply below_drew1 | refine below_set ?_ (IsS86.ge HI0.out)) | exact HB.out))); rintro e w27 ⟨rfl, hb⟩; refine ⟨_, rfl, ?_⟩; have n0_ := Aside0.mk (IsS86.below (by repeat (first | (with_reducible first | exact HI0.out | apply IsS86.alloc | apply IsS86.drewN | apply IsS86.drew | apply IsS86.set_0 | apply IsS86.set_1 | apply IsS86.set_2 | apply IsS86.set_3 | apply IsS86.set_4 | apply IsS86.set_5 | apply IsS86.set_6 | apply IsS86.set_7) | exact HI0.out)) hb); have n1_ := Aside0.mk (KeepBut.trans (by repeat (first | (with_reducible first | exact HK.out | apply KeepBut.set_ | apply keep_drewN | apply keep_drew | apply keep_alloc) | exact HK.out)) (KeepBut.of_below hb g none) (.inl rfl)); have n2_ := Aside0.mk (below_step (by repeat (first | (with_reducible first | exact HB.out | apply below_alloc | apply pw_below_drewN | apply below_drew1 | refine below_set ?_ (IsS86.ge HI0.out)) | exact HB.out)) hb); clear HI0; clear HK; clear HB; have HI0 := n0_; have HK := n1_; have HB := n2_; clear n0_ n1_ n2_; (try clear hb); (try clear hb2); (try clear hk); (try clear hi); (try clear A26); obtain ⟨HGz28, hgz28⟩ := HI0.out; have hcz28_0 := cellS86_0 HGz28; have hcz28_1 := cellS86_1 HGz28; have hcz28_2 := cellS86_2 HGz28; have hcz28_3 := cellS86_3 HGz28; have hcz28_4 := cellS86_4 HGz28; have hcz28_5 := cellS86_5 HGz28; have hcz28_6 := cellS86_6 HGz28; have hcz28_7 := cellS86_7 HGz28; have hfz28_0 := blk_frozen HGz28 0; have hfz28_1 := blk_frozen HGz28 1; have hfz28_2 := blk_frozen HGz28 2; have hfz28_3 := blk_frozen HGz28 3; have hfz28_4 := blk_frozen HGz28 4; have hfz28_5 := blk_frozen HGz28 5; have hfz28_6 := blk_frozen HGz28 6; have hfz28_7 := blk_frozen HGz28 7; clear HGz28 hgz28))
                go_ret
                exact ⟨by first | rfl | (simp [errW_none, errW_some] <;> rfl) | (simp [*, errW_none, errW_some] <;> rfl), by repeat (first | (with_reducible first | exact HI0.out | apply IsS86.alloc | apply IsS86.drewN | apply IsS86.drew | apply IsS86.set_0 | apply IsS86.set_1 | apply IsS86.set_2 | apply IsS86.set_3 | apply IsS86.set_4 | apply IsS86.set_5 | apply IsS86.set_6 | apply IsS86.set_7) | exact HI0.out), by repeat (first | (with_reducible first | exact HB.out | apply below_alloc | apply pw_below_drewN | apply below_drew1 | refine below_set ?_ (IsS86.ge HI0.out)) | exact HB.out), by repeat (first | (with_reducible first | exact HK.out | apply KeepBut.set_ | apply keep_drewN | apply keep_drew | apply keep_alloc) | exact HK.out)⟩
              · rw [if_neg c25] at H
                have c25b0 : (a1.toList == ([65] : List UInt8)) = false := beq_eq_false_iff_ne.mpr c25
                have c25b1 : (a1.toList != ([65] : List UInt8)) = true := bne_iff_ne.mpr c25
                simp only [Option.some.injEq, Prod.mk.injEq] at H
                obtain ⟨rfl, rfl, rfl, rfl, rfl, rfl, rfl, rfl, rfl⟩ := H
                go_wp2
                go_ret
                exact ⟨by first | rfl | (simp [errW_none, errW_some] <;> rfl) | (simp [*, errW_none, errW_some] <;> rfl), by repeat (first | (with_reducible first | exact HI0.out | apply IsS86.alloc | apply IsS86.drewN | apply IsS86.drew | apply IsS86.set_0 | apply IsS86.set_1 | apply IsS86.set_2 | apply IsS86.set_3 | apply IsS86.set_4 | apply IsS86.set_5 | apply IsS86.set_6 | apply IsS86.set_7) | exact HI0.out), by repeat (first | (with_reducible first | exact HB.out | apply below_alloc | apply pw_below_drewN | apply below_drew1 | refine below_set ?_ (IsS86.ge HI0.out)) | exact HB.out), by repeat (first | (with_reducible first | exact HK.out | apply KeepBut.set_ | apply keep_drewN | apply keep_drew | apply keep_alloc) | exact HK.out)⟩

/-! ### words_Text: function 9 -/
def words_Text.f (a0 : Int) : Option (ByteArray) := (strconv_Itoa.f a0).bind fun t132 => (some t132)
set_option maxHeartbeats 8000000 in
set_option maxRecDepth 100000 in
theorem words_Text.calls (a0 : Int) (r : ByteArray) (w : World) (hL : Laid w) (h : words_Text.f a0 = some r) :
    Calls Tryd.prog 9 #[.int .i64 a0] w fun e w' => e = .returned (.string r) ∧ Below w.heap.size w w' := by
  have HB := Aside0.mk (Below.refl w.heap.size w)
  have H : ((strconv_Itoa.f a0).bind fun t132 => (some t132)) = some r := h
  clear h
  replace H := Option.bind_eq_some_iff.mp H
  obtain ⟨t132, A20, H⟩ := H
  replace H : (some t132) = some r := H
  have A2 := Aside0.mk A20
  clear A20
  obtain rfl := Option.some.inj H
  go_enter Tryd.func9, Tryd.ntmps9
  go_wp2_with (first | ((with_reducible refine gate_callee (f := 18) rfl ?_); refine goesL_ (some 4) rfl rfl Tryd.func18 (by kernel_rfl) rfl #[.int .i64 a0] rfl (by (try simp only [List.map_toArray, List.map_cons, List.map_nil]); first | done | rfl | (simp only [List.length_drop, List.length_take]; rfl)) ?_; (with_reducible refine (strconv_Itoa.calls a0 t132 _ ?side1 A2.out).mono ?_); (case side1 => exact Laid.below hL (by repeat (first | (with_reducible first | exact HB.out | apply below_alloc | apply pw_below_drewN | apply below_drew1) | exact HB.out))); rintro e w3 ⟨rfl, hb⟩; refine ⟨_, rfl, ?_⟩; have n0_ := Aside0.mk (below_step (by repeat (first | (with_reducible first | exact HB.out | apply below_alloc | apply pw_below_drewN | apply below_drew1) | exact HB.out)) hb); clear HB; have HB := n0_; clear n0_; (try clear hb); (try clear hb2); (try clear hk); (try clear hi); (try clear A2)))
  go_ret
  exact ⟨by first | rfl | (simp [errW_none, errW_some] <;> rfl) | (simp [*, errW_none, errW_some] <;> rfl), by repeat (first | (with_reducible first | exact HB.out | apply below_alloc | apply pw_below_drewN | apply below_drew1) | exact HB.out)⟩

end Go.Proofs.YtjamaamkmfdnaaaDoor.X
