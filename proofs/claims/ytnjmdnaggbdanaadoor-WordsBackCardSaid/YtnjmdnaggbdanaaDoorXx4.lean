-- WRITTEN BY A PROGRAM OF THIS CLAIM'S SESSION (xprint.py, over the kit's print): functions, contracts. Lean checks it.
import Derived.Test.YtnjmdnaggbdanaaDoorXx0
import Derived.Test.YtnjmdnaggbdanaaDoorXx1
namespace Go.Proofs.YtnjmdnaggbdanaaDoor.X
open Go.RowKit Go.Proofs.YtnjmdnaggbdanaaDoorW.PrintWords Go.Proofs.YtnjmdnaggbdanaaDoorW.PrintLast Go.Proofs.YtnjmdnaggbdanaaDoorW.PrintMore
attribute [local go_sem] max2_int min2_int max_two min_two max_three min_three max_four min_four   -- for this text's walks alone
set_option linter.unusedVariables false
set_option linter.unusedSimpArgs false

/-! ### weirgatelaw21_WordsNums: function 5 -/
mutual
def weirgatelaw21_WordsNums.j0 : Nat → ByteArray → ByteArray → Bool → Option (Bool)
  | 0, _, _, _ => none
  | k + 1, x1, x6, x44 => if x44 = true then (some false) else (if 1 + x6.size ≤ 9223372036854775807 then ((words_Num.f ((⟨#[48]⟩ : ByteArray) ++ x6)).bind fun bt200 => ((words_Num.f ((⟨#[45]⟩ : ByteArray) ++ x6)).bind fun bt202 => (if x6.size + 1 ≤ 9223372036854775807 then ((words_Num.f (x6 ++ (⟨#[32]⟩ : ByteArray))).bind fun bt204 => ((words_Num.f ((⟨#[43]⟩ : ByteArray) ++ x6)).bind fun bt206 => (if bt200.2 = true then (weirgatelaw21_WordsNums.j1 k x1 true) else (if bt202.2 = true then (weirgatelaw21_WordsNums.j1 k x1 true) else (if bt204.2 = true then (weirgatelaw21_WordsNums.j1 k x1 true) else (weirgatelaw21_WordsNums.j1 k x1 bt206.2)))))) else (none)))) else (none))
def weirgatelaw21_WordsNums.j1 : Nat → ByteArray → Bool → Option (Bool)
  | 0, _, _ => none
  | k + 1, x1, x78 => if x78 = true then (some false) else ((words_Num.f x1).bind fun bt208 => (if bt208.2 = true then ((words_Text.f bt208.1).bind fun t210 => (if t210.toList = x1.toList then (if bt208.1 ≥ 0 then (if bt208.1 < 4294967296 then ((weirgatelaw21_wakes.f k).bind fun t211 => (some t211)) else (some false)) else (some false)) else (some false))) else ((weirgatelaw21_wakes.f k).bind fun t212 => (some t212))))
end
def weirgatelaw21_WordsNums.f (k : Nat) (a0 : Int) (a1 : ByteArray) : Option (Bool) := if (a1.size : Int) > 3000 then ((weirgatelaw21_wakes.f k).bind fun t196 => (some t196)) else ((words_Text.f (wrap64 (Int.tmod a0 1099511627776))).bind fun t197 => ((words_Num.f t197).bind fun bt198 => (if (bt198.2 != (decide ((wrap64 (Int.tmod a0 1099511627776)) < 4294967296))) = true then (weirgatelaw21_WordsNums.j0 k a1 t197 true) else (if bt198.2 = true then (weirgatelaw21_WordsNums.j0 k a1 t197 (bt198.1 != (wrap64 (Int.tmod a0 1099511627776)))) else (weirgatelaw21_WordsNums.j0 k a1 t197 false)))))
theorem weirgatelaw21_WordsNums.mono_l : ∀ k, (∀ y0 y1 y2, LeO (weirgatelaw21_WordsNums.j0 k y0 y1 y2) (weirgatelaw21_WordsNums.j0 (k + 1) y0 y1 y2)) ∧ (∀ y0 y1, LeO (weirgatelaw21_WordsNums.j1 k y0 y1) (weirgatelaw21_WordsNums.j1 (k + 1) y0 y1))
  | 0 => ⟨fun _ _ _ r h => by simp [weirgatelaw21_WordsNums.j0] at h, fun _ _ r h => by simp [weirgatelaw21_WordsNums.j1] at h⟩
  | k + 1 => by
    obtain ⟨ih0, ih1⟩ := weirgatelaw21_WordsNums.mono_l k
    refine ⟨?_, ?_⟩
    · intro y0 y1 y2
      unfold weirgatelaw21_WordsNums.j0
      repeat' first
      | (with_reducible exact ih0 _ _ _)
      | (with_reducible exact ih1 _ _)
      | (with_reducible exact weirgatelaw21_wakes.mono _)
      | (with_reducible exact LeO.refl _)
      | (with_reducible exact LeO.none _)
      | (with_reducible refine LeO.ite ?_ ?_)
      | (with_reducible refine LeO.bind ?_ (fun _ => ?_))
      | exact ih0 _ _ _
      | exact ih1 _ _
      | exact weirgatelaw21_wakes.mono _
      | exact LeO.none _
      | refine LeO.ite ?_ ?_
      | refine LeO.bind ?_ (fun _ => ?_)
    · intro y0 y1
      unfold weirgatelaw21_WordsNums.j1
      repeat' first
      | (with_reducible exact ih0 _ _ _)
      | (with_reducible exact ih1 _ _)
      | (with_reducible exact weirgatelaw21_wakes.mono _)
      | (with_reducible exact LeO.refl _)
      | (with_reducible exact LeO.none _)
      | (with_reducible refine LeO.ite ?_ ?_)
      | (with_reducible refine LeO.bind ?_ (fun _ => ?_))
      | exact ih0 _ _ _
      | exact ih1 _ _
      | exact weirgatelaw21_wakes.mono _
      | exact LeO.none _
      | refine LeO.ite ?_ ?_
      | refine LeO.bind ?_ (fun _ => ?_)
theorem weirgatelaw21_WordsNums.mono : ∀ a0 a1 k, LeO (weirgatelaw21_WordsNums.f k a0 a1) (weirgatelaw21_WordsNums.f (k + 1) a0 a1) := by
  intro a0 a1 k
  obtain ⟨ih0, ih1⟩ := weirgatelaw21_WordsNums.mono_l k
  unfold weirgatelaw21_WordsNums.f
  repeat' first
      | (with_reducible exact ih0 _ _ _)
      | (with_reducible exact ih1 _ _)
      | (with_reducible exact weirgatelaw21_wakes.mono _)
      | (with_reducible exact LeO.refl _)
      | (with_reducible exact LeO.none _)
      | (with_reducible refine LeO.ite ?_ ?_)
      | (with_reducible refine LeO.bind ?_ (fun _ => ?_))
      | exact ih0 _ _ _
      | exact ih1 _ _
      | exact weirgatelaw21_wakes.mono _
      | exact LeO.none _
      | refine LeO.ite ?_ ?_
      | refine LeO.bind ?_ (fun _ => ?_)
set_option maxHeartbeats 8000000 in
set_option maxRecDepth 100000 in
theorem weirgatelaw21_WordsNums.calls (k : Nat) (a0 : Int) (a1 : ByteArray) (r : Bool) (w : World) (hL : Laid w) (h : weirgatelaw21_WordsNums.f k a0 a1 = some r) :
    Calls Tryd.prog 5 #[.int .u64 a0, .string a1] w fun e w' => e = .returned (.bool r) ∧ Below w.heap.size w w' := by
  have HB := Aside0.mk (Below.refl w.heap.size w)
  have H : (if (a1.size : Int) > 3000 then ((weirgatelaw21_wakes.f k).bind fun t196 => (some t196)) else ((words_Text.f (wrap64 (Int.tmod a0 1099511627776))).bind fun t197 => ((words_Num.f t197).bind fun bt198 => (if (bt198.2 != (decide ((wrap64 (Int.tmod a0 1099511627776)) < 4294967296))) = true then (weirgatelaw21_WordsNums.j0 k a1 t197 true) else (if bt198.2 = true then (weirgatelaw21_WordsNums.j0 k a1 t197 (bt198.1 != (wrap64 (Int.tmod a0 1099511627776)))) else (weirgatelaw21_WordsNums.j0 k a1 t197 false)))))) = some r := h
  clear h
  by_cases c3 : (a1.size : Int) > 3000
  · rw [if_pos c3] at H
    have c3b0 : decide (3000 < (a1.size : Int)) = true := decide_eq_true c3
    have c3b1 : decide (3000 < a1.size) = true := decide_eq_true (by omega)
    clear c3
    replace H := Option.bind_eq_some_iff.mp H
    obtain ⟨t196, A40, H⟩ := H
    replace H : (some t196) = some r := H
    have A4 := Aside0.mk A40
    clear A40
    obtain rfl := Option.some.inj H
    go_enter Tryd.func5, Tryd.ntmps5
    go_wp2_with (first | ((with_reducible refine gate_callee (f := 7) rfl ?_); refine goesL_ (some 22) rfl rfl Tryd.func7 (by kernel_rfl) rfl #[] rfl (by (try simp only [List.map_toArray, List.map_cons, List.map_nil]); first | done | rfl | (simp only [List.length_drop, List.length_take]; rfl)) ?_; (with_reducible refine (weirgatelaw21_wakes.calls k  t196 _ ?side1 A4.out).mono ?_); (case side1 => exact Laid.below hL (by repeat (first | (with_reducible first | exact HB.out | apply below_alloc | apply pw_below_drewN | apply below_drew1) | exact HB.out))); rintro e w5 ⟨rfl, hb⟩; refine ⟨_, rfl, ?_⟩; have n0_ := Aside0.mk (below_step (by repeat (first | (with_reducible first | exact HB.out | apply below_alloc | apply pw_below_drewN | apply below_drew1) | exact HB.out)) hb); clear HB; have HB := n0_; clear n0_; (try clear hb); (try clear hb2); (try clear hk); (try clear hi); (try clear A4)))
    go_ret
    exact ⟨by first | rfl | (simp [errW_none, errW_some] <;> rfl) | (simp [*, errW_none, errW_some] <;> rfl), by repeat (first | (with_reducible first | exact HB.out | apply below_alloc | apply pw_below_drewN | apply below_drew1) | exact HB.out)⟩
  · rw [if_neg c3] at H
    have c3b0 : decide (3000 < (a1.size : Int)) = false := decide_eq_false c3
    have c3b1 : decide (3000 < a1.size) = false := decide_eq_false (by omega)
    clear c3
    replace H := Option.bind_eq_some_iff.mp H
    obtain ⟨t197, A60, H⟩ := H
    replace H : ((words_Num.f t197).bind fun bt198 => (if (bt198.2 != (decide ((wrap64 (Int.tmod a0 1099511627776)) < 4294967296))) = true then (weirgatelaw21_WordsNums.j0 k a1 t197 true) else (if bt198.2 = true then (weirgatelaw21_WordsNums.j0 k a1 t197 (bt198.1 != (wrap64 (Int.tmod a0 1099511627776)))) else (weirgatelaw21_WordsNums.j0 k a1 t197 false)))) = some r := H
    have A6 := Aside0.mk A60
    clear A60
    replace H := Option.bind_eq_some_iff.mp H
    obtain ⟨⟨t198, t199⟩, A70, H⟩ := H
    replace H : (if (t199 != (decide ((wrap64 (Int.tmod a0 1099511627776)) < 4294967296))) = true then (weirgatelaw21_WordsNums.j0 k a1 t197 true) else (if t199 = true then (weirgatelaw21_WordsNums.j0 k a1 t197 (t198 != (wrap64 (Int.tmod a0 1099511627776)))) else (weirgatelaw21_WordsNums.j0 k a1 t197 false))) = some r := H
    have A7 := Aside0.mk A70
    clear A70
    have HC8 := Aside0.mk H
    clear H
    go_enter Tryd.func5, Tryd.ntmps5
    go_upto_region 6 with (first | ((with_reducible refine gate_callee (f := 15) rfl ?_); refine goesL_ (some 27) rfl rfl Tryd.func15 (by kernel_rfl) rfl #[.int .i64 (wrap64 (Int.tmod a0 1099511627776))] rfl (by (try simp only [List.map_toArray, List.map_cons, List.map_nil]); first | done | rfl | (simp only [List.length_drop, List.length_take]; rfl)) ?_; (with_reducible refine (words_Text.calls (wrap64 (Int.tmod a0 1099511627776)) t197 _ ?side1 A6.out).mono ?_); (case side1 => exact Laid.below hL (by repeat (first | (with_reducible first | exact HB.out | apply below_alloc | apply pw_below_drewN | apply below_drew1) | exact HB.out))); rintro e w9 ⟨rfl, hb⟩; refine ⟨_, rfl, ?_⟩; have n0_ := Aside0.mk (below_step (by repeat (first | (with_reducible first | exact HB.out | apply below_alloc | apply pw_below_drewN | apply below_drew1) | exact HB.out)) hb); clear HB; have HB := n0_; clear n0_; (try clear hb); (try clear hb2); (try clear hk); (try clear hi); (try clear A6)) | ((with_reducible refine gate_callee (f := 8) rfl ?_); refine goesL_ (some 30) rfl rfl Tryd.func8 (by kernel_rfl) rfl #[.string t197] rfl (by (try simp only [List.map_toArray, List.map_cons, List.map_nil]); first | done | rfl | (simp only [List.length_drop, List.length_take]; rfl)) ?_; (with_reducible refine (words_Num.calls t197 t198 t199 _ ?side1 A7.out).mono ?_); (case side1 => exact Laid.below hL (by repeat (first | (with_reducible first | exact HB.out | apply below_alloc | apply pw_below_drewN | apply below_drew1) | exact HB.out))); rintro e w10 ⟨rfl, hb⟩; refine ⟨_, rfl, ?_⟩; have n0_ := Aside0.mk (below_step (by repeat (first | (with_reducible first | exact HB.out | apply below_alloc | apply pw_below_drewN | apply below_drew1) | exact HB.out)) hb); clear HB; have HB := n0_; clear n0_; (try clear hb); (try clear hb2); (try clear hk); (try clear hi); (try clear A7)))
    (try simp only [Act.put, List.setIfInBounds_toArray, List.set_cons_zero, List.set_cons_succ])
    go_cut [44] (fun v44 wc => ∃ (kq : Nat) (x44_7 : Bool), v44 = .bool x44_7 ∧ Aside0 (weirgatelaw21_WordsNums.j0 kq a1 t197 x44_7 = some r) ∧ Aside0 (kq ≤ k) ∧ Aside0 (Below w.heap.size w wc))
    case first =>
      have H := HC8.out
      clear HC8
      by_cases c11 : (t199 != (decide ((wrap64 (Int.tmod a0 1099511627776)) < 4294967296))) = true
      · rw [if_pos c11] at H
        have c11b0 : (t199 != (decide ((wrap64 (Int.tmod a0 1099511627776)) < 4294967296))) = true := c11
        (try (have c11b1 : decide (t199 = (decide ((wrap64 (Int.tmod a0 1099511627776)) < 4294967296))) = false := by simpa using c11))
        (try (have c11b2 : (t199 == (decide ((wrap64 (Int.tmod a0 1099511627776)) < 4294967296))) = false := by simpa using c11))
        (try (have c11b3 : ¬ (t199 = (decide ((wrap64 (Int.tmod a0 1099511627776)) < 4294967296))) := by simpa using c11))
        clear c11
        (first | rw [c11b0] | (simp only [i64_w, i32_w]; rw [c11b0]) | skip)
        have H' := Aside0.mk H
        clear H
        go_wp2
        go_meet
        case rel => exact ⟨_, (true), (by first | rfl | (simp; done) | (simp [*]; done)), H', ⟨by first | omega | exact Nat.le_refl _⟩, ⟨by repeat (first | (with_reducible first | exact HB.out | apply below_alloc | apply pw_below_drewN | apply below_drew1) | exact HB.out)⟩⟩
      · rw [if_neg c11] at H
        have c11b0 : (t199 != (decide ((wrap64 (Int.tmod a0 1099511627776)) < 4294967296))) = false := by simpa using c11
        (try (have c11b1 : decide (t199 = (decide ((wrap64 (Int.tmod a0 1099511627776)) < 4294967296))) = true := by simpa using c11))
        (try (have c11b2 : (t199 == (decide ((wrap64 (Int.tmod a0 1099511627776)) < 4294967296))) = true := by simpa using c11))
        clear c11
        (first | rw [c11b0] | (simp only [i64_w, i32_w]; rw [c11b0]) | skip)
        by_cases c12 : t199 = true
        · subst c12
          have H1 : (weirgatelaw21_WordsNums.j0 k a1 t197 (t198 != (wrap64 (Int.tmod a0 1099511627776)))) = some r := by rw [if_pos rfl] at H; exact H
          clear H
          have H := H1
          clear H1
          have H' := Aside0.mk H
          clear H
          go_wp2
          go_meet
          case rel => exact ⟨_, ((t198 != (wrap64 (Int.tmod a0 1099511627776)))), (by first | rfl | (simp; done) | (simp [*]; done)), H', ⟨by first | omega | exact Nat.le_refl _⟩, ⟨by repeat (first | (with_reducible first | exact HB.out | apply below_alloc | apply pw_below_drewN | apply below_drew1) | exact HB.out)⟩⟩
        · replace c12 := Bool.eq_false_iff.mpr c12
          subst c12
          have H1 : (weirgatelaw21_WordsNums.j0 k a1 t197 false) = some r := by rw [if_neg (show ¬ (false = true) by decide)] at H; exact H
          clear H
          have H := H1
          clear H1
          have H' := Aside0.mk H
          clear H
          go_wp2
          go_meet
          case rel => exact ⟨_, (false), (by first | rfl | (simp; done) | (simp [*]; done)), H', ⟨by first | omega | exact Nat.le_refl _⟩, ⟨by repeat (first | (with_reducible first | exact HB.out | apply below_alloc | apply pw_below_drewN | apply below_drew1) | exact HB.out)⟩⟩
    case rest =>
      clear HC8
      try clear c1
      try clear p2
      try clear c3
      try clear c3b0
      try clear c3b1
      try clear c5
      try clear p6
      try clear c7
      try clear c8
      try clear c11
      try clear c11b0
      try clear c11b1
      try clear c11b2
      try clear c12
      obtain ⟨kq, x44_7, rfl, HA, HJ7, HB⟩ := hcut
      cases kq with
      | zero => exact absurd HA.out (by simp [weirgatelaw21_WordsNums.j0])
      | succ kj7 =>
        have H := HA.out
        clear HA
        simp only [weirgatelaw21_WordsNums.j0] at H
        by_cases c13 : x44_7 = true
        · subst c13
          have H1 : (some false) = some r := by rw [if_pos rfl] at H; exact H
          clear H
          have H := H1
          clear H1
          obtain rfl := Option.some.inj H
          go_wp2
          go_ret
          exact ⟨by first | rfl | (simp [errW_none, errW_some] <;> rfl) | (simp [*, errW_none, errW_some] <;> rfl), by repeat (first | (with_reducible first | exact HB.out | apply below_alloc | apply pw_below_drewN | apply below_drew1) | exact HB.out)⟩
        · replace c13 := Bool.eq_false_iff.mpr c13
          subst c13
          have H1 : (if 1 + t197.size ≤ 9223372036854775807 then ((words_Num.f ((⟨#[48]⟩ : ByteArray) ++ t197)).bind fun bt200 => ((words_Num.f ((⟨#[45]⟩ : ByteArray) ++ t197)).bind fun bt202 => (if t197.size + 1 ≤ 9223372036854775807 then ((words_Num.f (t197 ++ (⟨#[32]⟩ : ByteArray))).bind fun bt204 => ((words_Num.f ((⟨#[43]⟩ : ByteArray) ++ t197)).bind fun bt206 => (if bt200.2 = true then (weirgatelaw21_WordsNums.j1 kj7 a1 true) else (if bt202.2 = true then (weirgatelaw21_WordsNums.j1 kj7 a1 true) else (if bt204.2 = true then (weirgatelaw21_WordsNums.j1 kj7 a1 true) else (weirgatelaw21_WordsNums.j1 kj7 a1 bt206.2)))))) else (none)))) else (none)) = some r := by rw [if_neg (show ¬ (false = true) by decide)] at H; exact H
          clear H
          have H := H1
          clear H1
          by_cases c14 : 1 + t197.size ≤ 9223372036854775807
          · rw [if_pos c14] at H
            have c14b0 := eq_true c14
            have c14b1 : decide (1 + t197.size ≤ 9223372036854775807) = true := decide_eq_true c14
            try have c14b2 : (9223372036854775807 < 1 + t197.size) = False := eq_false (Nat.not_lt.2 c14)
            replace H := Option.bind_eq_some_iff.mp H
            obtain ⟨⟨t200, t201⟩, A150, H⟩ := H
            replace H : ((words_Num.f ((⟨#[45]⟩ : ByteArray) ++ t197)).bind fun bt202 => (if t197.size + 1 ≤ 9223372036854775807 then ((words_Num.f (t197 ++ (⟨#[32]⟩ : ByteArray))).bind fun bt204 => ((words_Num.f ((⟨#[43]⟩ : ByteArray) ++ t197)).bind fun bt206 => (if t201 = true then (weirgatelaw21_WordsNums.j1 kj7 a1 true) else (if bt202.2 = true then (weirgatelaw21_WordsNums.j1 kj7 a1 true) else (if bt204.2 = true then (weirgatelaw21_WordsNums.j1 kj7 a1 true) else (weirgatelaw21_WordsNums.j1 kj7 a1 bt206.2)))))) else (none))) = some r := H
            have A15 := Aside0.mk A150
            clear A150
            replace H := Option.bind_eq_some_iff.mp H
            obtain ⟨⟨t202, t203⟩, A160, H⟩ := H
            replace H : (if t197.size + 1 ≤ 9223372036854775807 then ((words_Num.f (t197 ++ (⟨#[32]⟩ : ByteArray))).bind fun bt204 => ((words_Num.f ((⟨#[43]⟩ : ByteArray) ++ t197)).bind fun bt206 => (if t201 = true then (weirgatelaw21_WordsNums.j1 kj7 a1 true) else (if t203 = true then (weirgatelaw21_WordsNums.j1 kj7 a1 true) else (if bt204.2 = true then (weirgatelaw21_WordsNums.j1 kj7 a1 true) else (weirgatelaw21_WordsNums.j1 kj7 a1 bt206.2)))))) else (none)) = some r := H
            have A16 := Aside0.mk A160
            clear A160
            by_cases c17 : t197.size + 1 ≤ 9223372036854775807
            · rw [if_pos c17] at H
              have c17b0 := eq_true c17
              have c17b1 : decide (t197.size + 1 ≤ 9223372036854775807) = true := decide_eq_true c17
              try have c17b2 : (9223372036854775807 < t197.size + 1) = False := eq_false (Nat.not_lt.2 c17)
              replace H := Option.bind_eq_some_iff.mp H
              obtain ⟨⟨t204, t205⟩, A180, H⟩ := H
              replace H : ((words_Num.f ((⟨#[43]⟩ : ByteArray) ++ t197)).bind fun bt206 => (if t201 = true then (weirgatelaw21_WordsNums.j1 kj7 a1 true) else (if t203 = true then (weirgatelaw21_WordsNums.j1 kj7 a1 true) else (if t205 = true then (weirgatelaw21_WordsNums.j1 kj7 a1 true) else (weirgatelaw21_WordsNums.j1 kj7 a1 bt206.2))))) = some r := H
              have A18 := Aside0.mk A180
              clear A180
              replace H := Option.bind_eq_some_iff.mp H
              obtain ⟨⟨t206, t207⟩, A190, H⟩ := H
              replace H : (if t201 = true then (weirgatelaw21_WordsNums.j1 kj7 a1 true) else (if t203 = true then (weirgatelaw21_WordsNums.j1 kj7 a1 true) else (if t205 = true then (weirgatelaw21_WordsNums.j1 kj7 a1 true) else (weirgatelaw21_WordsNums.j1 kj7 a1 t207)))) = some r := H
              have A19 := Aside0.mk A190
              clear A190
              have HC20 := Aside0.mk H
              clear H
              go_upto_region 12 with (first | ((with_reducible refine gate_callee (f := 8) rfl ?_); refine goesL_ (some 48) rfl rfl Tryd.func8 (by kernel_rfl) rfl #[.string ((⟨#[48]⟩ : ByteArray) ++ t197)] rfl (by (try simp only [List.map_toArray, List.map_cons, List.map_nil]); first | done | rfl | (simp only [List.length_drop, List.length_take]; rfl)) ?_; (with_reducible refine (words_Num.calls ((⟨#[48]⟩ : ByteArray) ++ t197) t200 t201 _ ?side1 A15.out).mono ?_); (case side1 => exact Laid.below hL (by repeat (first | (with_reducible first | exact HB.out | apply below_alloc | apply pw_below_drewN | apply below_drew1) | exact HB.out))); rintro e w21 ⟨rfl, hb⟩; refine ⟨_, rfl, ?_⟩; have n0_ := Aside0.mk (below_step (by repeat (first | (with_reducible first | exact HB.out | apply below_alloc | apply pw_below_drewN | apply below_drew1) | exact HB.out)) hb); clear HB; have HB := n0_; clear n0_; (try clear hb); (try clear hb2); (try clear hk); (try clear hi); (try clear A15)) | ((with_reducible refine gate_callee (f := 8) rfl ?_); refine goesL_ (some 54) rfl rfl Tryd.func8 (by kernel_rfl) rfl #[.string ((⟨#[45]⟩ : ByteArray) ++ t197)] rfl (by (try simp only [List.map_toArray, List.map_cons, List.map_nil]); first | done | rfl | (simp only [List.length_drop, List.length_take]; rfl)) ?_; (with_reducible refine (words_Num.calls ((⟨#[45]⟩ : ByteArray) ++ t197) t202 t203 _ ?side1 A16.out).mono ?_); (case side1 => exact Laid.below hL (by repeat (first | (with_reducible first | exact HB.out | apply below_alloc | apply pw_below_drewN | apply below_drew1) | exact HB.out))); rintro e w22 ⟨rfl, hb⟩; refine ⟨_, rfl, ?_⟩; have n0_ := Aside0.mk (below_step (by repeat (first | (with_reducible first | exact HB.out | apply below_alloc | apply pw_below_drewN | apply below_drew1) | exact HB.out)) hb); clear HB; have HB := n0_; clear n0_; (try clear hb); (try clear hb2); (try clear hk); (try clear hi); (try clear A16)) | ((with_reducible refine gate_callee (f := 8) rfl ?_); refine goesL_ (some 60) rfl rfl Tryd.func8 (by kernel_rfl) rfl #[.string (t197 ++ (⟨#[32]⟩ : ByteArray))] rfl (by (try simp only [List.map_toArray, List.map_cons, List.map_nil]); first | done | rfl | (simp only [List.length_drop, List.length_take]; rfl)) ?_; (with_reducible refine (words_Num.calls (t197 ++ (⟨#[32]⟩ : ByteArray)) t204 t205 _ ?side1 A18.out).mono ?_); (case side1 => exact Laid.below hL (by repeat (first | (with_reducible first | exact HB.out | apply below_alloc | apply pw_below_drewN | apply below_drew1) | exact HB.out))); rintro e w23 ⟨rfl, hb⟩; refine ⟨_, rfl, ?_⟩; have n0_ := Aside0.mk (below_step (by repeat (first | (with_reducible first | exact HB.out | apply below_alloc | apply pw_below_drewN | apply below_drew1) | exact HB.out)) hb); clear HB; have HB := n0_; clear n0_; (try clear hb); (try clear hb2); (try clear hk); (try clear hi); (try clear A18)) | ((with_reducible refine gate_callee (f := 8) rfl ?_); refine goesL_ (some 66) rfl rfl Tryd.func8 (by kernel_rfl) rfl #[.string ((⟨#[43]⟩ : ByteArray) ++ t197)] rfl (by (try simp only [List.map_toArray, List.map_cons, List.map_nil]); first | done | rfl | (simp only [List.length_drop, List.length_take]; rfl)) ?_; (with_reducible refine (words_Num.calls ((⟨#[43]⟩ : ByteArray) ++ t197) t206 t207 _ ?side1 A19.out).mono ?_); (case side1 => exact Laid.below hL (by repeat (first | (with_reducible first | exact HB.out | apply below_alloc | apply pw_below_drewN | apply below_drew1) | exact HB.out))); rintro e w24 ⟨rfl, hb⟩; refine ⟨_, rfl, ?_⟩; have n0_ := Aside0.mk (below_step (by repeat (first | (with_reducible first | exact HB.out | apply below_alloc | apply pw_below_drewN | apply below_drew1) | exact HB.out)) hb); clear HB; have HB := n0_; clear n0_; (try clear hb); (try clear hb2); (try clear hk); (try clear hi); (try clear A19)))
              (try simp only [Act.put, List.setIfInBounds_toArray, List.set_cons_zero, List.set_cons_succ])
              go_cut [78] (fun v78 wc => ∃ (kq : Nat) (x78_19 : Bool), v78 = .bool x78_19 ∧ Aside0 (weirgatelaw21_WordsNums.j1 kq a1 x78_19 = some r) ∧ Aside0 (kq ≤ kj7) ∧ Aside0 (Below w.heap.size w wc))
              case first =>
                have H := HC20.out
                clear HC20
                by_cases c25 : t201 = true
                · subst c25
                  have H1 : (weirgatelaw21_WordsNums.j1 kj7 a1 true) = some r := by rw [if_pos rfl] at H; exact H
                  clear H
                  have H := H1
                  clear H1
                  have H' := Aside0.mk H
                  clear H
                  go_wp2
                  go_meet
                  case rel => exact ⟨_, (true), (by first | rfl | (simp; done) | (simp [*]; done)), H', ⟨by have := HJ7.out; first | omega | exact Nat.le_refl _⟩, ⟨by repeat (first | (with_reducible first | exact HB.out | apply below_alloc | apply pw_below_drewN | apply below_drew1) | exact HB.out)⟩⟩
                · replace c25 := Bool.eq_false_iff.mpr c25
                  subst c25
                  have H1 : (if t203 = true then (weirgatelaw21_WordsNums.j1 kj7 a1 true) else (if t205 = true then (weirgatelaw21_WordsNums.j1 kj7 a1 true) else (weirgatelaw21_WordsNums.j1 kj7 a1 t207))) = some r := by rw [if_neg (show ¬ (false = true) by decide)] at H; exact H
                  clear H
                  have H := H1
                  clear H1
                  by_cases c26 : t203 = true
                  · subst c26
                    have H1 : (weirgatelaw21_WordsNums.j1 kj7 a1 true) = some r := by rw [if_pos rfl] at H; exact H
                    clear H
                    have H := H1
                    clear H1
                    have H' := Aside0.mk H
                    clear H
                    go_wp2
                    go_meet
                    case rel => exact ⟨_, (true), (by first | rfl | (simp; done) | (simp [*]; done)), H', ⟨by have := HJ7.out; first | omega | exact Nat.le_refl _⟩, ⟨by repeat (first | (with_reducible first | exact HB.out | apply below_alloc | apply pw_below_drewN | apply below_drew1) | exact HB.out)⟩⟩
                  · replace c26 := Bool.eq_false_iff.mpr c26
                    subst c26
                    have H1 : (if t205 = true then (weirgatelaw21_WordsNums.j1 kj7 a1 true) else (weirgatelaw21_WordsNums.j1 kj7 a1 t207)) = some r := by rw [if_neg (show ¬ (false = true) by decide)] at H; exact H
                    clear H
                    have H := H1
                    clear H1
                    by_cases c27 : t205 = true
                    · subst c27
                      have H1 : (weirgatelaw21_WordsNums.j1 kj7 a1 true) = some r := by rw [if_pos rfl] at H; exact H
                      clear H
                      have H := H1
                      clear H1
                      have H' := Aside0.mk H
                      clear H
                      go_wp2
                      go_meet
                      case rel => exact ⟨_, (true), (by first | rfl | (simp; done) | (simp [*]; done)), H', ⟨by have := HJ7.out; first | omega | exact Nat.le_refl _⟩, ⟨by repeat (first | (with_reducible first | exact HB.out | apply below_alloc | apply pw_below_drewN | apply below_drew1) | exact HB.out)⟩⟩
                    · replace c27 := Bool.eq_false_iff.mpr c27
                      subst c27
                      have H1 : (weirgatelaw21_WordsNums.j1 kj7 a1 t207) = some r := by rw [if_neg (show ¬ (false = true) by decide)] at H; exact H
                      clear H
                      have H := H1
                      clear H1
                      have H' := Aside0.mk H
                      clear H
                      go_wp2
                      go_meet
                      case rel => exact ⟨_, (t207), (by first | rfl | (simp; done) | (simp [*]; done)), H', ⟨by have := HJ7.out; first | omega | exact Nat.le_refl _⟩, ⟨by repeat (first | (with_reducible first | exact HB.out | apply below_alloc | apply pw_below_drewN | apply below_drew1) | exact HB.out)⟩⟩
              case rest =>
                clear HC20
                try clear c1
                try clear c2
                try clear p2
                try clear c3
                try clear c3b0
                try clear c3b1
                try clear c5
                try clear p6
                try clear c7
                try clear c8
                try clear c11
                try clear c11b0
                try clear c11b1
                try clear c11b2
                try clear c12
                try clear c13
                try clear c14
                try clear c14b0
                try clear c14b1
                try clear c14b2
                try clear c15
                try clear c17
                try clear c17b0
                try clear c17b1
                try clear c17b2
                try clear c25
                try clear c26
                try clear c27
                try clear p2
                try clear p6
                obtain ⟨kq, x78_19, rfl, HA, HJ19, HB⟩ := hcut
                cases kq with
                | zero => exact absurd HA.out (by simp [weirgatelaw21_WordsNums.j1])
                | succ kj19 =>
                  have H := HA.out
                  clear HA
                  simp only [weirgatelaw21_WordsNums.j1] at H
                  by_cases c28 : x78_19 = true
                  · subst c28
                    have H1 : (some false) = some r := by rw [if_pos rfl] at H; exact H
                    clear H
                    have H := H1
                    clear H1
                    obtain rfl := Option.some.inj H
                    go_wp2
                    go_ret
                    exact ⟨by first | rfl | (simp [errW_none, errW_some] <;> rfl) | (simp [*, errW_none, errW_some] <;> rfl), by repeat (first | (with_reducible first | exact HB.out | apply below_alloc | apply pw_below_drewN | apply below_drew1) | exact HB.out)⟩
                  · replace c28 := Bool.eq_false_iff.mpr c28
                    subst c28
                    have H1 : ((words_Num.f a1).bind fun bt208 => (if bt208.2 = true then ((words_Text.f bt208.1).bind fun t210 => (if t210.toList = a1.toList then (if bt208.1 ≥ 0 then (if bt208.1 < 4294967296 then ((weirgatelaw21_wakes.f kj19).bind fun t211 => (some t211)) else (some false)) else (some false)) else (some false))) else ((weirgatelaw21_wakes.f kj19).bind fun t212 => (some t212)))) = some r := by rw [if_neg (show ¬ (false = true) by decide)] at H; exact H
                    clear H
                    have H := H1
                    clear H1
                    replace H := Option.bind_eq_some_iff.mp H
                    obtain ⟨⟨t208, t209⟩, A290, H⟩ := H
                    replace H : (if t209 = true then ((words_Text.f t208).bind fun t210 => (if t210.toList = a1.toList then (if t208 ≥ 0 then (if t208 < 4294967296 then ((weirgatelaw21_wakes.f kj19).bind fun t211 => (some t211)) else (some false)) else (some false)) else (some false))) else ((weirgatelaw21_wakes.f kj19).bind fun t212 => (some t212))) = some r := H
                    have A29 := Aside0.mk A290
                    clear A290
                    by_cases c30 : t209 = true
                    · subst c30
                      have H1 : ((words_Text.f t208).bind fun t210 => (if t210.toList = a1.toList then (if t208 ≥ 0 then (if t208 < 4294967296 then ((weirgatelaw21_wakes.f kj19).bind fun t211 => (some t211)) else (some false)) else (some false)) else (some false))) = some r := by rw [if_pos rfl] at H; exact H
                      clear H
                      have H := H1
                      clear H1
                      replace H := Option.bind_eq_some_iff.mp H
                      obtain ⟨t210, A310, H⟩ := H
                      replace H : (if t210.toList = a1.toList then (if t208 ≥ 0 then (if t208 < 4294967296 then ((weirgatelaw21_wakes.f kj19).bind fun t211 => (some t211)) else (some false)) else (some false)) else (some false)) = some r := H
                      have A31 := Aside0.mk A310
                      clear A310
                      by_cases c32 : t210.toList = a1.toList
                      · rw [if_pos c32] at H
                        have c32b0 : (t210.toList == a1.toList) = true := beq_iff_eq.mpr c32
                        have c32b1 : (t210.toList != a1.toList) = false := bne_eq_false_iff_eq.mpr c32
                        clear c32
                        by_cases c33 : t208 ≥ 0
                        · rw [if_pos c33] at H
                          have c33b0 : decide (0 ≤ t208) = true := decide_eq_true c33
                          clear c33
                          by_cases c34 : t208 < 4294967296
                          · rw [if_pos c34] at H
                            have c34b0 : decide (t208 < 4294967296) = true := decide_eq_true c34
                            clear c34
                            replace H := Option.bind_eq_some_iff.mp H
                            obtain ⟨t211, A350, H⟩ := H
                            replace H : (some t211) = some r := H
                            have A35 := Aside0.mk A350
                            clear A350
                            obtain rfl := Option.some.inj H
                            go_wp2_with (first | ((with_reducible refine gate_callee (f := 8) rfl ?_); refine goesL_ (some 81) rfl rfl Tryd.func8 (by kernel_rfl) rfl #[.string a1] rfl (by (try simp only [List.map_toArray, List.map_cons, List.map_nil]); first | done | rfl | (simp only [List.length_drop, List.length_take]; rfl)) ?_; (with_reducible refine (words_Num.calls a1 t208 true _ ?side1 A29.out).mono ?_); (case side1 => exact Laid.below hL (by repeat (first | (with_reducible first | exact HB.out | apply below_alloc | apply pw_below_drewN | apply below_drew1) | exact HB.out))); rintro e w36 ⟨rfl, hb⟩; refine ⟨_, rfl, ?_⟩; have n0_ := Aside0.mk (below_step (by repeat (first | (with_reducible first | exact HB.out | apply below_alloc | apply pw_below_drewN | apply below_drew1) | exact HB.out)) hb); clear HB; have HB := n0_; clear n0_; (try clear hb); (try clear hb2); (try clear hk); (try clear hi); (try clear A29)) | (go_at_call 15; (with_reducible refine (words_Text.calls t208 t210 _ ?side1 A31.out).mono ?_); (case side1 => exact Laid.below hL (by repeat (first | (with_reducible first | exact HB.out | apply below_alloc | apply pw_below_drewN | apply below_drew1) | exact HB.out))); rintro e w37 ⟨rfl, hb⟩; have n0_ := Aside0.mk (below_step (by repeat (first | (with_reducible first | exact HB.out | apply below_alloc | apply pw_below_drewN | apply below_drew1) | exact HB.out)) hb); clear HB; have HB := n0_; clear n0_; (try clear hb); (try clear hb2); (try clear hk); (try clear hi); (try clear A31)) | (go_at_call 7; (with_reducible refine (weirgatelaw21_wakes.calls kj19  t211 _ ?side1 A35.out).mono ?_); (case side1 => exact Laid.below hL (by repeat (first | (with_reducible first | exact HB.out | apply below_alloc | apply pw_below_drewN | apply below_drew1) | exact HB.out))); rintro e w38 ⟨rfl, hb⟩; have n0_ := Aside0.mk (below_step (by repeat (first | (with_reducible first | exact HB.out | apply below_alloc | apply pw_below_drewN | apply below_drew1) | exact HB.out)) hb); clear HB; have HB := n0_; clear n0_; (try clear hb); (try clear hb2); (try clear hk); (try clear hi); (try clear A35)))
                            go_ret
                            exact ⟨by first | rfl | (simp [errW_none, errW_some] <;> rfl) | (simp [*, errW_none, errW_some] <;> rfl), by repeat (first | (with_reducible first | exact HB.out | apply below_alloc | apply pw_below_drewN | apply below_drew1) | exact HB.out)⟩
                          · rw [if_neg c34] at H
                            have c34b0 : decide (t208 < 4294967296) = false := decide_eq_false c34
                            clear c34
                            obtain rfl := Option.some.inj H
                            go_wp2_with (first | ((with_reducible refine gate_callee (f := 8) rfl ?_); refine goesL_ (some 81) rfl rfl Tryd.func8 (by kernel_rfl) rfl #[.string a1] rfl (by (try simp only [List.map_toArray, List.map_cons, List.map_nil]); first | done | rfl | (simp only [List.length_drop, List.length_take]; rfl)) ?_; (with_reducible refine (words_Num.calls a1 t208 true _ ?side1 A29.out).mono ?_); (case side1 => exact Laid.below hL (by repeat (first | (with_reducible first | exact HB.out | apply below_alloc | apply pw_below_drewN | apply below_drew1) | exact HB.out))); rintro e w39 ⟨rfl, hb⟩; refine ⟨_, rfl, ?_⟩; have n0_ := Aside0.mk (below_step (by repeat (first | (with_reducible first | exact HB.out | apply below_alloc | apply pw_below_drewN | apply below_drew1) | exact HB.out)) hb); clear HB; have HB := n0_; clear n0_; (try clear hb); (try clear hb2); (try clear hk); (try clear hi); (try clear A29)) | (go_at_call 15; (with_reducible refine (words_Text.calls t208 t210 _ ?side1 A31.out).mono ?_); (case side1 => exact Laid.below hL (by repeat (first | (with_reducible first | exact HB.out | apply below_alloc | apply pw_below_drewN | apply below_drew1) | exact HB.out))); rintro e w40 ⟨rfl, hb⟩; have n0_ := Aside0.mk (below_step (by repeat (first | (with_reducible first | exact HB.out | apply below_alloc | apply pw_below_drewN | apply below_drew1) | exact HB.out)) hb); clear HB; have HB := n0_; clear n0_; (try clear hb); (try clear hb2); (try clear hk); (try clear hi); (try clear A31)))
                            go_ret
                            exact ⟨by first | rfl | (simp [errW_none, errW_some] <;> rfl) | (simp [*, errW_none, errW_some] <;> rfl), by repeat (first | (with_reducible first | exact HB.out | apply below_alloc | apply pw_below_drewN | apply below_drew1) | exact HB.out)⟩
                        · rw [if_neg c33] at H
                          have c33b0 : decide (0 ≤ t208) = false := decide_eq_false c33
                          clear c33
                          obtain rfl := Option.some.inj H
                          go_wp2_with (first | ((with_reducible refine gate_callee (f := 8) rfl ?_); refine goesL_ (some 81) rfl rfl Tryd.func8 (by kernel_rfl) rfl #[.string a1] rfl (by (try simp only [List.map_toArray, List.map_cons, List.map_nil]); first | done | rfl | (simp only [List.length_drop, List.length_take]; rfl)) ?_; (with_reducible refine (words_Num.calls a1 t208 true _ ?side1 A29.out).mono ?_); (case side1 => exact Laid.below hL (by repeat (first | (with_reducible first | exact HB.out | apply below_alloc | apply pw_below_drewN | apply below_drew1) | exact HB.out))); rintro e w41 ⟨rfl, hb⟩; refine ⟨_, rfl, ?_⟩; have n0_ := Aside0.mk (below_step (by repeat (first | (with_reducible first | exact HB.out | apply below_alloc | apply pw_below_drewN | apply below_drew1) | exact HB.out)) hb); clear HB; have HB := n0_; clear n0_; (try clear hb); (try clear hb2); (try clear hk); (try clear hi); (try clear A29)) | (go_at_call 15; (with_reducible refine (words_Text.calls t208 t210 _ ?side1 A31.out).mono ?_); (case side1 => exact Laid.below hL (by repeat (first | (with_reducible first | exact HB.out | apply below_alloc | apply pw_below_drewN | apply below_drew1) | exact HB.out))); rintro e w42 ⟨rfl, hb⟩; have n0_ := Aside0.mk (below_step (by repeat (first | (with_reducible first | exact HB.out | apply below_alloc | apply pw_below_drewN | apply below_drew1) | exact HB.out)) hb); clear HB; have HB := n0_; clear n0_; (try clear hb); (try clear hb2); (try clear hk); (try clear hi); (try clear A31)))
                          go_ret
                          exact ⟨by first | rfl | (simp [errW_none, errW_some] <;> rfl) | (simp [*, errW_none, errW_some] <;> rfl), by repeat (first | (with_reducible first | exact HB.out | apply below_alloc | apply pw_below_drewN | apply below_drew1) | exact HB.out)⟩
                      · rw [if_neg c32] at H
                        have c32b0 : (t210.toList == a1.toList) = false := beq_eq_false_iff_ne.mpr c32
                        have c32b1 : (t210.toList != a1.toList) = true := bne_iff_ne.mpr c32
                        obtain rfl := Option.some.inj H
                        go_wp2_with (first | ((with_reducible refine gate_callee (f := 8) rfl ?_); refine goesL_ (some 81) rfl rfl Tryd.func8 (by kernel_rfl) rfl #[.string a1] rfl (by (try simp only [List.map_toArray, List.map_cons, List.map_nil]); first | done | rfl | (simp only [List.length_drop, List.length_take]; rfl)) ?_; (with_reducible refine (words_Num.calls a1 t208 true _ ?side1 A29.out).mono ?_); (case side1 => exact Laid.below hL (by repeat (first | (with_reducible first | exact HB.out | apply below_alloc | apply pw_below_drewN | apply below_drew1) | exact HB.out))); rintro e w43 ⟨rfl, hb⟩; refine ⟨_, rfl, ?_⟩; have n0_ := Aside0.mk (below_step (by repeat (first | (with_reducible first | exact HB.out | apply below_alloc | apply pw_below_drewN | apply below_drew1) | exact HB.out)) hb); clear HB; have HB := n0_; clear n0_; (try clear hb); (try clear hb2); (try clear hk); (try clear hi); (try clear A29)) | (go_at_call 15; (with_reducible refine (words_Text.calls t208 t210 _ ?side1 A31.out).mono ?_); (case side1 => exact Laid.below hL (by repeat (first | (with_reducible first | exact HB.out | apply below_alloc | apply pw_below_drewN | apply below_drew1) | exact HB.out))); rintro e w44 ⟨rfl, hb⟩; have n0_ := Aside0.mk (below_step (by repeat (first | (with_reducible first | exact HB.out | apply below_alloc | apply pw_below_drewN | apply below_drew1) | exact HB.out)) hb); clear HB; have HB := n0_; clear n0_; (try clear hb); (try clear hb2); (try clear hk); (try clear hi); (try clear A31)))
                        go_ret
                        exact ⟨by first | rfl | (simp [errW_none, errW_some] <;> rfl) | (simp [*, errW_none, errW_some] <;> rfl), by repeat (first | (with_reducible first | exact HB.out | apply below_alloc | apply pw_below_drewN | apply below_drew1) | exact HB.out)⟩
                    · replace c30 := Bool.eq_false_iff.mpr c30
                      subst c30
                      have H1 : ((weirgatelaw21_wakes.f kj19).bind fun t212 => (some t212)) = some r := by rw [if_neg (show ¬ (false = true) by decide)] at H; exact H
                      clear H
                      have H := H1
                      clear H1
                      replace H := Option.bind_eq_some_iff.mp H
                      obtain ⟨t212, A450, H⟩ := H
                      replace H : (some t212) = some r := H
                      have A45 := Aside0.mk A450
                      clear A450
                      obtain rfl := Option.some.inj H
                      go_wp2_with (first | ((with_reducible refine gate_callee (f := 8) rfl ?_); refine goesL_ (some 81) rfl rfl Tryd.func8 (by kernel_rfl) rfl #[.string a1] rfl (by (try simp only [List.map_toArray, List.map_cons, List.map_nil]); first | done | rfl | (simp only [List.length_drop, List.length_take]; rfl)) ?_; (with_reducible refine (words_Num.calls a1 t208 false _ ?side1 A29.out).mono ?_); (case side1 => exact Laid.below hL (by repeat (first | (with_reducible first | exact HB.out | apply below_alloc | apply pw_below_drewN | apply below_drew1) | exact HB.out))); rintro e w46 ⟨rfl, hb⟩; refine ⟨_, rfl, ?_⟩; have n0_ := Aside0.mk (below_step (by repeat (first | (with_reducible first | exact HB.out | apply below_alloc | apply pw_below_drewN | apply below_drew1) | exact HB.out)) hb); clear HB; have HB := n0_; clear n0_; (try clear hb); (try clear hb2); (try clear hk); (try clear hi); (try clear A29)) | (go_at_call 7; (with_reducible refine (weirgatelaw21_wakes.calls kj19  t212 _ ?side1 A45.out).mono ?_); (case side1 => exact Laid.below hL (by repeat (first | (with_reducible first | exact HB.out | apply below_alloc | apply pw_below_drewN | apply below_drew1) | exact HB.out))); rintro e w47 ⟨rfl, hb⟩; have n0_ := Aside0.mk (below_step (by repeat (first | (with_reducible first | exact HB.out | apply below_alloc | apply pw_below_drewN | apply below_drew1) | exact HB.out)) hb); clear HB; have HB := n0_; clear n0_; (try clear hb); (try clear hb2); (try clear hk); (try clear hi); (try clear A45)))
                      go_ret
                      exact ⟨by first | rfl | (simp [errW_none, errW_some] <;> rfl) | (simp [*, errW_none, errW_some] <;> rfl), by repeat (first | (with_reducible first | exact HB.out | apply below_alloc | apply pw_below_drewN | apply below_drew1) | exact HB.out)⟩
            · rw [if_neg c17] at H
              exact absurd H (by simp)
          · rw [if_neg c14] at H
            exact absurd H (by simp)

end Go.Proofs.YtnjmdnaggbdanaaDoor.X
