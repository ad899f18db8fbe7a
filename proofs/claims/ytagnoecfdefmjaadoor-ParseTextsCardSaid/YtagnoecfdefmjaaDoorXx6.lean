-- WRITTEN BY A PROGRAM OF THIS CLAIM'S SESSION (xprint.py, over the kit's print): functions, contracts. Lean checks it.
-- INDENT: one space a step
import Derived.Test.YtagnoecfdefmjaaDoorXx0
import Derived.Test.YtagnoecfdefmjaaDoorXx5
namespace Go.Proofs.YtagnoecfdefmjaaDoor.X
open Go.RowKit Go.Proofs.YtagnoecfdefmjaaDoorW.PrintWords Go.Proofs.YtagnoecfdefmjaaDoorW.PrintLast Go.Proofs.YtagnoecfdefmjaaDoorW.PrintMore
attribute [local go_sem] max2_int min2_int max_two min_two max_three min_three max_four min_four   -- for this text's walks alone
set_option linter.unusedVariables false
set_option linter.unusedSimpArgs false

/-! ### weirgateref09_Text: function 25 -/
def weirgateref09_Text.l0 : Nat → List Int → ByteArray → Int → Option (ByteArray)
 | 0, _, _, _ => none
 | k + 1, x3, x4, x5 => if x5 < 6 then (if x5 > 0 then (if x4.size + 1 ≤ 9223372036854775807 then (if 0 ≤ x5 then (if x5 < (x3.length : Int) then (if 0 ≤ ((Int.tdiv (rd x3 x5) 16) % 256) then (if ((Int.tdiv (rd x3 x5) 16) % 256) ≤ ((((Int.tdiv (rd x3 x5) 16) % 256) + 1) % 256) then (if ((((Int.tdiv (rd x3 x5) 16) % 256) + 1) % 256) ≤ 16 then (if 0 ≤ (Int.tmod (rd x3 x5) 16) then (if (Int.tmod (rd x3 x5) 16) ≤ (((Int.tmod (rd x3 x5) 16) + 1) % 256) then (if (((Int.tmod (rd x3 x5) 16) + 1) % 256) ≤ 16 then (if ((⟨#[48, 49, 50, 51, 52, 53, 54, 55, 56, 57, 97, 98, 99, 100, 101, 102]⟩ : ByteArray).extract (((Int.tdiv (rd x3 x5) 16) % 256) : Int).toNat (((((Int.tdiv (rd x3 x5) 16) % 256) + 1) % 256) : Int).toNat).size + ((⟨#[48, 49, 50, 51, 52, 53, 54, 55, 56, 57, 97, 98, 99, 100, 101, 102]⟩ : ByteArray).extract ((Int.tmod (rd x3 x5) 16) : Int).toNat ((((Int.tmod (rd x3 x5) 16) + 1) % 256) : Int).toNat).size ≤ 9223372036854775807 then (if (x4 ++ (⟨#[58]⟩ : ByteArray)).size + (((⟨#[48, 49, 50, 51, 52, 53, 54, 55, 56, 57, 97, 98, 99, 100, 101, 102]⟩ : ByteArray).extract (((Int.tdiv (rd x3 x5) 16) % 256) : Int).toNat (((((Int.tdiv (rd x3 x5) 16) % 256) + 1) % 256) : Int).toNat) ++ ((⟨#[48, 49, 50, 51, 52, 53, 54, 55, 56, 57, 97, 98, 99, 100, 101, 102]⟩ : ByteArray).extract ((Int.tmod (rd x3 x5) 16) : Int).toNat ((((Int.tmod (rd x3 x5) 16) + 1) % 256) : Int).toNat)).size ≤ 9223372036854775807 then (weirgateref09_Text.l0 k x3 ((x4 ++ (⟨#[58]⟩ : ByteArray)) ++ (((⟨#[48, 49, 50, 51, 52, 53, 54, 55, 56, 57, 97, 98, 99, 100, 101, 102]⟩ : ByteArray).extract (((Int.tdiv (rd x3 x5) 16) % 256) : Int).toNat (((((Int.tdiv (rd x3 x5) 16) % 256) + 1) % 256) : Int).toNat) ++ ((⟨#[48, 49, 50, 51, 52, 53, 54, 55, 56, 57, 97, 98, 99, 100, 101, 102]⟩ : ByteArray).extract ((Int.tmod (rd x3 x5) 16) : Int).toNat ((((Int.tmod (rd x3 x5) 16) + 1) % 256) : Int).toNat))) (wrap64 (x5 + 1))) else (none)) else (none)) else (none)) else (none)) else (none)) else (none)) else (none)) else (none)) else (none)) else (none)) else (none)) else (if 0 ≤ x5 then (if x5 < (x3.length : Int) then (if 0 ≤ ((Int.tdiv (rd x3 x5) 16) % 256) then (if ((Int.tdiv (rd x3 x5) 16) % 256) ≤ ((((Int.tdiv (rd x3 x5) 16) % 256) + 1) % 256) then (if ((((Int.tdiv (rd x3 x5) 16) % 256) + 1) % 256) ≤ 16 then (if 0 ≤ (Int.tmod (rd x3 x5) 16) then (if (Int.tmod (rd x3 x5) 16) ≤ (((Int.tmod (rd x3 x5) 16) + 1) % 256) then (if (((Int.tmod (rd x3 x5) 16) + 1) % 256) ≤ 16 then (if ((⟨#[48, 49, 50, 51, 52, 53, 54, 55, 56, 57, 97, 98, 99, 100, 101, 102]⟩ : ByteArray).extract (((Int.tdiv (rd x3 x5) 16) % 256) : Int).toNat (((((Int.tdiv (rd x3 x5) 16) % 256) + 1) % 256) : Int).toNat).size + ((⟨#[48, 49, 50, 51, 52, 53, 54, 55, 56, 57, 97, 98, 99, 100, 101, 102]⟩ : ByteArray).extract ((Int.tmod (rd x3 x5) 16) : Int).toNat ((((Int.tmod (rd x3 x5) 16) + 1) % 256) : Int).toNat).size ≤ 9223372036854775807 then (if x4.size + (((⟨#[48, 49, 50, 51, 52, 53, 54, 55, 56, 57, 97, 98, 99, 100, 101, 102]⟩ : ByteArray).extract (((Int.tdiv (rd x3 x5) 16) % 256) : Int).toNat (((((Int.tdiv (rd x3 x5) 16) % 256) + 1) % 256) : Int).toNat) ++ ((⟨#[48, 49, 50, 51, 52, 53, 54, 55, 56, 57, 97, 98, 99, 100, 101, 102]⟩ : ByteArray).extract ((Int.tmod (rd x3 x5) 16) : Int).toNat ((((Int.tmod (rd x3 x5) 16) + 1) % 256) : Int).toNat)).size ≤ 9223372036854775807 then (weirgateref09_Text.l0 k x3 (x4 ++ (((⟨#[48, 49, 50, 51, 52, 53, 54, 55, 56, 57, 97, 98, 99, 100, 101, 102]⟩ : ByteArray).extract (((Int.tdiv (rd x3 x5) 16) % 256) : Int).toNat (((((Int.tdiv (rd x3 x5) 16) % 256) + 1) % 256) : Int).toNat) ++ ((⟨#[48, 49, 50, 51, 52, 53, 54, 55, 56, 57, 97, 98, 99, 100, 101, 102]⟩ : ByteArray).extract ((Int.tmod (rd x3 x5) 16) : Int).toNat ((((Int.tmod (rd x3 x5) 16) + 1) % 256) : Int).toNat))) (wrap64 (x5 + 1))) else (none)) else (none)) else (none)) else (none)) else (none)) else (none)) else (none)) else (none)) else (none)) else (none))) else (some x4)
def weirgateref09_Text.f (k : Nat) (a0 : Int) : Option (ByteArray) := (weirgateref09_Good.f a0).bind fun t249 => (if t249 = true then ((weirgateref09_Bytes.f a0).bind fun t250 => (weirgateref09_Text.l0 k t250 (⟨#[]⟩ : ByteArray) 0)) else (some (⟨#[]⟩ : ByteArray)))
theorem weirgateref09_Text.mono_l : ∀ k, (∀ y0 y1 y2, LeO (weirgateref09_Text.l0 k y0 y1 y2) (weirgateref09_Text.l0 (k + 1) y0 y1 y2))
 | 0 => fun _ _ _ r h => by simp [weirgateref09_Text.l0] at h
 | k + 1 => by
  have ih0 := weirgateref09_Text.mono_l k
  ·intro y0 y1 y2
   unfold weirgateref09_Text.l0
   repeat' first
   | (with_reducible exact ih0 _ _ _)
   | (with_reducible exact LeO.refl _)
   | (with_reducible exact LeO.none _)
   | (with_reducible refine LeO.ite ?_ ?_)
   | (with_reducible refine LeO.bind ?_ (fun _ => ?_))
   | exact ih0 _ _ _
   | exact LeO.none _
   | refine LeO.ite ?_ ?_
   | refine LeO.bind ?_ (fun _ => ?_)
theorem weirgateref09_Text.mono : ∀ a0 k, LeO (weirgateref09_Text.f k a0) (weirgateref09_Text.f (k + 1) a0) := by
 intro a0 k
 have ih0 := weirgateref09_Text.mono_l k
 unfold weirgateref09_Text.f
 repeat' first
   | (with_reducible exact ih0 _ _ _)
   | (with_reducible exact LeO.refl _)
   | (with_reducible exact LeO.none _)
   | (with_reducible refine LeO.ite ?_ ?_)
   | (with_reducible refine LeO.bind ?_ (fun _ => ?_))
   | exact ih0 _ _ _
   | exact LeO.none _
   | refine LeO.ite ?_ ?_
   | refine LeO.bind ?_ (fun _ => ?_)
set_option maxHeartbeats 8000000 in
set_option maxRecDepth 100000 in
theorem weirgateref09_Text.calls (k : Nat) (a0 : Int) (r : ByteArray) (w : World) (hL : Laid w) (h : weirgateref09_Text.f k a0 = some r) :
  Calls Tryd.prog 25 #[.int .u64 a0] w fun e w' => e = .returned (.string r) ∧ Below w.heap.size w w' := by
 have HB := Aside0.mk (Below.refl w.heap.size w)
 have H : ((weirgateref09_Good.f a0).bind fun t249 => (if t249 = true then ((weirgateref09_Bytes.f a0).bind fun t250 => (weirgateref09_Text.l0 k t250 (⟨#[]⟩ : ByteArray) 0)) else (some (⟨#[]⟩ : ByteArray)))) = some r := h
 clear h
 replace H := Option.bind_eq_some_iff.mp H
 obtain ⟨t249, A20, H⟩ := H
 replace H : (if t249 = true then ((weirgateref09_Bytes.f a0).bind fun t250 => (weirgateref09_Text.l0 k t250 (⟨#[]⟩ : ByteArray) 0)) else (some (⟨#[]⟩ : ByteArray))) = some r := H
 have A2 := Aside0.mk A20
 clear A20
 by_cases c3 : t249 = true
 ·subst c3
  have H1 : ((weirgateref09_Bytes.f a0).bind fun t250 => (weirgateref09_Text.l0 k t250 (⟨#[]⟩ : ByteArray) 0)) = some r := by rw [if_pos rfl] at H; exact H
  clear H
  have H := H1
  clear H1
  replace H := Option.bind_eq_some_iff.mp H
  obtain ⟨t250, A40, H⟩ := H
  replace H : (weirgateref09_Text.l0 k t250 (⟨#[]⟩ : ByteArray) 0) = some r := H
  have A4 := Aside0.mk A40
  clear A40
  have H' := Aside0.mk H
  clear H
  go_enter Tryd.func25, Tryd.ntmps25
  go_wp2_with (first | (go_at_call 36; (with_reducible refine (weirgateref09_Good.calls a0 true _ ?side1 A2.out).mono ?_); (case side1 => exact Laid.below hL (by repeat (first | (with_reducible first | exact HB.out | apply below_alloc | apply pw_below_drewN | apply below_drew1) | exact HB.out))); rintro e w' ⟨rfl, ⟨nd, rfl⟩⟩; (try clear A2); (try first | exact ⟨rfl, _, World.drewN_drewN _ _ _⟩ | exact ⟨rfl, _, Eq.trans (World.drewN_drewN _ _ _) (congrArg (World.drewN _) (Nat.add_assoc _ _ _))⟩)) | (go_at_call 37; (with_reducible refine (weirgateref09_Bytes.calls a0 t250 _ ?side1 A4.out).mono ?_); (case side1 => exact Laid.below hL (by repeat (first | (with_reducible first | exact HB.out | apply below_alloc | apply pw_below_drewN | apply below_drew1) | exact HB.out))); rintro e w5 ⟨v251, rfl, ho0, hb⟩; have n0_ := Aside0.mk (Kd.R_lower ho0 (below_size (by repeat (first | (with_reducible first | exact HB.out | apply below_alloc | apply pw_below_drewN | apply below_drew1) | exact HB.out)))); have n1_ := Aside0.mk (below_step (by repeat (first | (with_reducible first | exact HB.out | apply below_alloc | apply pw_below_drewN | apply below_drew1) | exact HB.out)) hb); clear HB; have HO252 := n0_; have HB := n1_; clear n0_ n1_; (try clear hb); (try clear hb2); (try clear hk); (try clear hi); (try clear ho0); (try clear A4)))
  repeat (go_quiet (first | (go_at_call 36; (with_reducible refine (weirgateref09_Good.calls a0 true _ ?side1 A2.out).mono ?_); (case side1 => exact Laid.below hL (by repeat (first | (with_reducible first | exact HB.out | apply below_alloc | apply pw_below_drewN | apply below_drew1) | exact HB.out))); rintro e w' ⟨rfl, ⟨nd, rfl⟩⟩; (try clear A2); (try first | exact ⟨rfl, _, World.drewN_drewN _ _ _⟩ | exact ⟨rfl, _, Eq.trans (World.drewN_drewN _ _ _) (congrArg (World.drewN _) (Nat.add_assoc _ _ _))⟩)) | (go_at_call 37; (with_reducible refine (weirgateref09_Bytes.calls a0 t250 _ ?side1 A4.out).mono ?_); (case side1 => exact Laid.below hL (by repeat (first | (with_reducible first | exact HB.out | apply below_alloc | apply pw_below_drewN | apply below_drew1) | exact HB.out))); rintro e w5 ⟨v251, rfl, ho0, hb⟩; have n0_ := Aside0.mk (Kd.R_lower ho0 (below_size (by repeat (first | (with_reducible first | exact HB.out | apply below_alloc | apply pw_below_drewN | apply below_drew1) | exact HB.out)))); have n1_ := Aside0.mk (below_step (by repeat (first | (with_reducible first | exact HB.out | apply below_alloc | apply pw_below_drewN | apply below_drew1) | exact HB.out)) hb); clear HB; have HO252 := n0_; have HB := n1_; clear n0_ n1_; (try clear hb); (try clear hb2); (try clear hk); (try clear hi); (try clear ho0); (try clear A4))); try go_wp2_with (first | (go_at_call 36; (with_reducible refine (weirgateref09_Good.calls a0 true _ ?side1 A2.out).mono ?_); (case side1 => exact Laid.below hL (by repeat (first | (with_reducible first | exact HB.out | apply below_alloc | apply pw_below_drewN | apply below_drew1) | exact HB.out))); rintro e w' ⟨rfl, ⟨nd, rfl⟩⟩; (try clear A2); (try first | exact ⟨rfl, _, World.drewN_drewN _ _ _⟩ | exact ⟨rfl, _, Eq.trans (World.drewN_drewN _ _ _) (congrArg (World.drewN _) (Nat.add_assoc _ _ _))⟩)) | (go_at_call 37; (with_reducible refine (weirgateref09_Bytes.calls a0 t250 _ ?side1 A4.out).mono ?_); (case side1 => exact Laid.below hL (by repeat (first | (with_reducible first | exact HB.out | apply below_alloc | apply pw_below_drewN | apply below_drew1) | exact HB.out))); rintro e w5 ⟨v251, rfl, ho0, hb⟩; have n0_ := Aside0.mk (Kd.R_lower ho0 (below_size (by repeat (first | (with_reducible first | exact HB.out | apply below_alloc | apply pw_below_drewN | apply below_drew1) | exact HB.out)))); have n1_ := Aside0.mk (below_step (by repeat (first | (with_reducible first | exact HB.out | apply below_alloc | apply pw_below_drewN | apply below_drew1) | exact HB.out)) hb); clear HB; have HO252 := n0_; have HB := n1_; clear n0_ n1_; (try clear hb); (try clear hb2); (try clear hk); (try clear hi); (try clear ho0); (try clear A4))))
  go_loopg [4, 5] k (fun kq v4 v5 w' => ∃ (x4_1 : ByteArray) (x5_1 : Int), v4 = .string x4_1 ∧ v5 = .int .i64 x5_1 ∧ Aside0 (weirgateref09_Text.l0 kq t250 x4_1 x5_1 = some r) ∧ Aside0 (kq ≤ k) ∧ Aside0 (Kd.R (Kd.int .u8) 5 w' w.heap.size (fun _ => True) v251 t250) ∧ Aside0 (Below w.heap.size w w'))
  case atStart => exact ⟨((⟨#[]⟩ : ByteArray)), (0), (by first | rfl | (simp; done) | (simp [*]; done)), (by first | rfl | (simp; done) | (simp [*]; done)), H', ⟨Nat.le_refl _⟩, ⟨by (with_reducible repeat (first | apply Kd.R_alloc | apply Kd.R_drewN | apply Kd.R_drew)); exact HO252.out⟩, ⟨by repeat (first | (with_reducible first | exact HB.out | apply below_alloc | apply pw_below_drewN | apply below_drew1) | exact HB.out)⟩⟩
  case round =>
   clear H'
   try clear c2
   try clear p2
   try clear c3
   obtain ⟨x4_1, x5_1, rfl, rfl, HA, HK1, HO_3, HB⟩ := hrel
   cases gk with
   | zero => exact absurd HA.out (by simp [weirgateref09_Text.l0])
   | succ k1 =>
    have H := HA.out
    clear HA
    simp only [weirgateref09_Text.l0] at H
    by_cases c6 : x5_1 < 6
    ·rw [if_pos c6] at H
     have c6b0 : decide (x5_1 < 6) = true := decide_eq_true c6
     clear c6
     by_cases c7 : x5_1 > 0
     ·rw [if_pos c7] at H
      have c7b0 : decide (0 < x5_1) = true := decide_eq_true c7
      clear c7
      by_cases c8 : x4_1.size + 1 ≤ 9223372036854775807
      ·rw [if_pos c8] at H
       have c8b0 := eq_true c8
       have c8b1 : decide (x4_1.size + 1 ≤ 9223372036854775807) = true := decide_eq_true c8
       try have c8b2 : (9223372036854775807 < x4_1.size + 1) = False := eq_false (Nat.not_lt.2 c8)
       by_cases c9 : 0 ≤ x5_1
       ·rw [if_pos c9] at H
        have c9b0 : decide (0 ≤ x5_1) = true := decide_eq_true c9
        clear c9
        by_cases c10 : x5_1 < (t250.length : Int)
        ·rw [if_pos c10] at H
         have c10b0 : decide (x5_1 < (t250.length : Int)) = true := decide_eq_true c10
         clear c10
         obtain ⟨ji11, hji11⟩ : ∃ j_ : Int, ((Int.tdiv (rd t250 x5_1) 16) % 256) = j_ := ⟨_, rfl⟩
         replace H : (if 0 ≤ (ji11) then (if (ji11) ≤ (((ji11) + 1) % 256) then (if (((ji11) + 1) % 256) ≤ 16 then (if 0 ≤ (Int.tmod (rd t250 x5_1) 16) then (if (Int.tmod (rd t250 x5_1) 16) ≤ (((Int.tmod (rd t250 x5_1) 16) + 1) % 256) then (if (((Int.tmod (rd t250 x5_1) 16) + 1) % 256) ≤ 16 then (if ((⟨#[48, 49, 50, 51, 52, 53, 54, 55, 56, 57, 97, 98, 99, 100, 101, 102]⟩ : ByteArray).extract ((ji11) : Int).toNat ((((ji11) + 1) % 256) : Int).toNat).size + ((⟨#[48, 49, 50, 51, 52, 53, 54, 55, 56, 57, 97, 98, 99, 100, 101, 102]⟩ : ByteArray).extract ((Int.tmod (rd t250 x5_1) 16) : Int).toNat ((((Int.tmod (rd t250 x5_1) 16) + 1) % 256) : Int).toNat).size ≤ 9223372036854775807 then (if (x4_1 ++ (⟨#[58]⟩ : ByteArray)).size + (((⟨#[48, 49, 50, 51, 52, 53, 54, 55, 56, 57, 97, 98, 99, 100, 101, 102]⟩ : ByteArray).extract ((ji11) : Int).toNat ((((ji11) + 1) % 256) : Int).toNat) ++ ((⟨#[48, 49, 50, 51, 52, 53, 54, 55, 56, 57, 97, 98, 99, 100, 101, 102]⟩ : ByteArray).extract ((Int.tmod (rd t250 x5_1) 16) : Int).toNat ((((Int.tmod (rd t250 x5_1) 16) + 1) % 256) : Int).toNat)).size ≤ 9223372036854775807 then (weirgateref09_Text.l0 k1 t250 ((x4_1 ++ (⟨#[58]⟩ : ByteArray)) ++ (((⟨#[48, 49, 50, 51, 52, 53, 54, 55, 56, 57, 97, 98, 99, 100, 101, 102]⟩ : ByteArray).extract ((ji11) : Int).toNat ((((ji11) + 1) % 256) : Int).toNat) ++ ((⟨#[48, 49, 50, 51, 52, 53, 54, 55, 56, 57, 97, 98, 99, 100, 101, 102]⟩ : ByteArray).extract ((Int.tmod (rd t250 x5_1) 16) : Int).toNat ((((Int.tmod (rd t250 x5_1) 16) + 1) % 256) : Int).toNat))) (wrap64 (x5_1 + 1))) else (none)) else (none)) else (none)) else (none)) else (none)) else (none)) else (none)) else (none)) = some r := by first | (rw [hji11] at H; exact H) | (simp only [hji11] at H ⊢; exact H)
         by_cases c12 : 0 ≤ (ji11)
         ·rw [if_pos c12] at H
          have c12b0 := eq_true c12
          have c12b1 : decide (0 ≤ (ji11)) = true := decide_eq_true c12
          clear c12
          by_cases c13 : (ji11) ≤ (((ji11) + 1) % 256)
          ·rw [if_pos c13] at H
           have c13b0 := eq_true c13
           have c13b1 : decide ((ji11) ≤ (((ji11) + 1) % 256)) = true := decide_eq_true c13
           by_cases c14 : (((ji11) + 1) % 256) ≤ 16
           ·rw [if_pos c14] at H
            have c14b0 := eq_true c14
            have c14b1 : decide ((((ji11) + 1) % 256) ≤ 16) = true := decide_eq_true c14
            obtain ⟨ji15, hji15⟩ : ∃ j_ : Int, (Int.tmod (rd t250 x5_1) 16) = j_ := ⟨_, rfl⟩
            replace H : (if 0 ≤ (ji15) then (if (ji15) ≤ (((ji15) + 1) % 256) then (if (((ji15) + 1) % 256) ≤ 16 then (if ((⟨#[48, 49, 50, 51, 52, 53, 54, 55, 56, 57, 97, 98, 99, 100, 101, 102]⟩ : ByteArray).extract ((ji11) : Int).toNat ((((ji11) + 1) % 256) : Int).toNat).size + ((⟨#[48, 49, 50, 51, 52, 53, 54, 55, 56, 57, 97, 98, 99, 100, 101, 102]⟩ : ByteArray).extract ((ji15) : Int).toNat ((((ji15) + 1) % 256) : Int).toNat).size ≤ 9223372036854775807 then (if (x4_1 ++ (⟨#[58]⟩ : ByteArray)).size + (((⟨#[48, 49, 50, 51, 52, 53, 54, 55, 56, 57, 97, 98, 99, 100, 101, 102]⟩ : ByteArray).extract ((ji11) : Int).toNat ((((ji11) + 1) % 256) : Int).toNat) ++ ((⟨#[48, 49, 50, 51, 52, 53, 54, 55, 56, 57, 97, 98, 99, 100, 101, 102]⟩ : ByteArray).extract ((ji15) : Int).toNat ((((ji15) + 1) % 256) : Int).toNat)).size ≤ 9223372036854775807 then (weirgateref09_Text.l0 k1 t250 ((x4_1 ++ (⟨#[58]⟩ : ByteArray)) ++ (((⟨#[48, 49, 50, 51, 52, 53, 54, 55, 56, 57, 97, 98, 99, 100, 101, 102]⟩ : ByteArray).extract ((ji11) : Int).toNat ((((ji11) + 1) % 256) : Int).toNat) ++ ((⟨#[48, 49, 50, 51, 52, 53, 54, 55, 56, 57, 97, 98, 99, 100, 101, 102]⟩ : ByteArray).extract ((ji15) : Int).toNat ((((ji15) + 1) % 256) : Int).toNat))) (wrap64 (x5_1 + 1))) else (none)) else (none)) else (none)) else (none)) else (none)) = some r := by first | (rw [hji15] at H; exact H) | (simp only [hji15] at H ⊢; exact H)
            by_cases c16 : 0 ≤ (ji15)
            ·rw [if_pos c16] at H
             have c16b0 := eq_true c16
             have c16b1 : decide (0 ≤ (ji15)) = true := decide_eq_true c16
             clear c16
             by_cases c17 : (ji15) ≤ (((ji15) + 1) % 256)
             ·rw [if_pos c17] at H
              have c17b0 := eq_true c17
              have c17b1 : decide ((ji15) ≤ (((ji15) + 1) % 256)) = true := decide_eq_true c17
              by_cases c18 : (((ji15) + 1) % 256) ≤ 16
              ·rw [if_pos c18] at H
               have c18b0 := eq_true c18
               have c18b1 : decide ((((ji15) + 1) % 256) ≤ 16) = true := decide_eq_true c18
               by_cases c19 : ((⟨#[48, 49, 50, 51, 52, 53, 54, 55, 56, 57, 97, 98, 99, 100, 101, 102]⟩ : ByteArray).extract ((ji11) : Int).toNat ((((ji11) + 1) % 256) : Int).toNat).size + ((⟨#[48, 49, 50, 51, 52, 53, 54, 55, 56, 57, 97, 98, 99, 100, 101, 102]⟩ : ByteArray).extract ((ji15) : Int).toNat ((((ji15) + 1) % 256) : Int).toNat).size ≤ 9223372036854775807
               ·rw [if_pos c19] at H
                have c19b0 := eq_true c19
                have c19b1 : decide (((⟨#[48, 49, 50, 51, 52, 53, 54, 55, 56, 57, 97, 98, 99, 100, 101, 102]⟩ : ByteArray).extract ((ji11) : Int).toNat ((((ji11) + 1) % 256) : Int).toNat).size + ((⟨#[48, 49, 50, 51, 52, 53, 54, 55, 56, 57, 97, 98, 99, 100, 101, 102]⟩ : ByteArray).extract ((ji15) : Int).toNat ((((ji15) + 1) % 256) : Int).toNat).size ≤ 9223372036854775807) = true := decide_eq_true c19
                try have c19b2 : (9223372036854775807 < ((⟨#[48, 49, 50, 51, 52, 53, 54, 55, 56, 57, 97, 98, 99, 100, 101, 102]⟩ : ByteArray).extract ((ji11) : Int).toNat ((((ji11) + 1) % 256) : Int).toNat).size + ((⟨#[48, 49, 50, 51, 52, 53, 54, 55, 56, 57, 97, 98, 99, 100, 101, 102]⟩ : ByteArray).extract ((ji15) : Int).toNat ((((ji15) + 1) % 256) : Int).toNat).size) = False := eq_false (Nat.not_lt.2 c19)
                by_cases c20 : (x4_1 ++ (⟨#[58]⟩ : ByteArray)).size + (((⟨#[48, 49, 50, 51, 52, 53, 54, 55, 56, 57, 97, 98, 99, 100, 101, 102]⟩ : ByteArray).extract ((ji11) : Int).toNat ((((ji11) + 1) % 256) : Int).toNat) ++ ((⟨#[48, 49, 50, 51, 52, 53, 54, 55, 56, 57, 97, 98, 99, 100, 101, 102]⟩ : ByteArray).extract ((ji15) : Int).toNat ((((ji15) + 1) % 256) : Int).toNat)).size ≤ 9223372036854775807
                ·rw [if_pos c20] at H
                 have c20b0 := eq_true c20
                 have c20b1 : decide ((x4_1 ++ (⟨#[58]⟩ : ByteArray)).size + (((⟨#[48, 49, 50, 51, 52, 53, 54, 55, 56, 57, 97, 98, 99, 100, 101, 102]⟩ : ByteArray).extract ((ji11) : Int).toNat ((((ji11) + 1) % 256) : Int).toNat) ++ ((⟨#[48, 49, 50, 51, 52, 53, 54, 55, 56, 57, 97, 98, 99, 100, 101, 102]⟩ : ByteArray).extract ((ji15) : Int).toNat ((((ji15) + 1) % 256) : Int).toNat)).size ≤ 9223372036854775807) = true := decide_eq_true c20
                 try have c20b2 : (9223372036854775807 < (x4_1 ++ (⟨#[58]⟩ : ByteArray)).size + (((⟨#[48, 49, 50, 51, 52, 53, 54, 55, 56, 57, 97, 98, 99, 100, 101, 102]⟩ : ByteArray).extract ((ji11) : Int).toNat ((((ji11) + 1) % 256) : Int).toNat) ++ ((⟨#[48, 49, 50, 51, 52, 53, 54, 55, 56, 57, 97, 98, 99, 100, 101, 102]⟩ : ByteArray).extract ((ji15) : Int).toNat ((((ji15) + 1) % 256) : Int).toNat)).size) = False := eq_false (Nat.not_lt.2 c20)
                 try (have c20b3 := c20; simp only [ByteArray.size_append] at c20b3; replace c20b3 := eq_false (Nat.not_lt.2 c20b3))
                 have H' := Aside0.mk H
                 clear H
                 obtain ⟨Ao21, co21, eo21⟩ := Kd.R_slice HO_3.out
                 subst eo21
                 have p253 : 0 ≤ (x5_1 : Int) := of_decide_eq_true (by first | (with_reducible assumption) | assumption)
                 have q253 : x5_1 < (t250.length : Int) := of_decide_eq_true (by first | (with_reducible assumption) | assumption)
                 obtain ⟨ad253, e253, hx253_0⟩ := Kd.at_int (Kd.R_reads' HO_3.out).2.2 x5_1 p253 q253
                 cases e253
                 replace p253 := eq_true p253
                 replace q253 := eq_true q253
                 have p254 : 0 ≤ (x5_1 : Int) := of_decide_eq_true (by first | (with_reducible assumption) | assumption)
                 have q254 : x5_1 < (t250.length : Int) := of_decide_eq_true (by first | (with_reducible assumption) | assumption)
                 obtain ⟨ad254, e254, hx254_0⟩ := Kd.at_int (Kd.R_reads' HO_3.out).2.2 x5_1 p254 q254
                 obtain rfl : ad253 = ad254 := (by injection e254)
                 replace p254 := eq_true p254
                 replace q254 := eq_true q254
                 have p255 : 0 ≤ (x5_1 : Int) := of_decide_eq_true (by first | (with_reducible assumption) | assumption)
                 have q255 : x5_1 < (t250.length : Int) := of_decide_eq_true (by first | (with_reducible assumption) | assumption)
                 obtain ⟨ad255, e255, hx255_0⟩ := Kd.at_int (Kd.R_reads' HO_3.out).2.2 x5_1 p255 q255
                 obtain rfl : ad253 = ad255 := (by injection e255)
                 replace p255 := eq_true p255
                 replace q255 := eq_true q255
                 have p256 : 0 ≤ (x5_1 : Int) := of_decide_eq_true (by first | (with_reducible assumption) | assumption)
                 have q256 : x5_1 < (t250.length : Int) := of_decide_eq_true (by first | (with_reducible assumption) | assumption)
                 obtain ⟨ad256, e256, hx256_0⟩ := Kd.at_int (Kd.R_reads' HO_3.out).2.2 x5_1 p256 q256
                 obtain rfl : ad253 = ad256 := (by injection e256)
                 replace p256 := eq_true p256
                 replace q256 := eq_true q256
                 have w11 := hji11; rw [← IntKind.wrap_u8] at w11
                 have v11 : IntKind.u8.wrap (ji11 + 1) = (ji11 + 1) % 256 := IntKind.wrap_u8 _
                 have v15 : IntKind.u8.wrap (ji15 + 1) = (ji15 + 1) % 256 := IntKind.wrap_u8 _
                 go_wp2
                 repeat (go_quiet (fail); try go_wp2)
                 go_roundg k1
                 case measure => have := HK1.out; omega
                 case rel => exact ⟨((x4_1 ++ (⟨#[58]⟩ : ByteArray)) ++ (((⟨#[48, 49, 50, 51, 52, 53, 54, 55, 56, 57, 97, 98, 99, 100, 101, 102]⟩ : ByteArray).extract ((ji11) : Int).toNat ((((ji11) + 1) % 256) : Int).toNat) ++ ((⟨#[48, 49, 50, 51, 52, 53, 54, 55, 56, 57, 97, 98, 99, 100, 101, 102]⟩ : ByteArray).extract ((ji15) : Int).toNat ((((ji15) + 1) % 256) : Int).toNat))), (wrap64 (x5_1 + 1)), (by first | rfl | (simp; done) | (simp only [← hji11, ← hji15] <;> (first | rfl | simp)) | (simp [*]; done)), (by first | rfl | (simp; done) | (simp [*]; done)), H', ⟨by have := HK1.out; omega⟩, ⟨by (with_reducible repeat (first | apply Kd.R_alloc | apply Kd.R_drewN | apply Kd.R_drew)); exact HO_3.out⟩, ⟨by repeat (first | (with_reducible first | exact HB.out | apply below_alloc | apply pw_below_drewN | apply below_drew1) | exact HB.out)⟩⟩
                ·rw [if_neg c20] at H
                 exact absurd H (by simp)
               ·rw [if_neg c19] at H
                exact absurd H (by simp)
              ·rw [if_neg c18] at H
               exact absurd H (by simp)
             ·rw [if_neg c17] at H
              exact absurd H (by simp)
            ·rw [if_neg c16] at H
             exact absurd H (by simp)
           ·rw [if_neg c14] at H
            exact absurd H (by simp)
          ·rw [if_neg c13] at H
           exact absurd H (by simp)
         ·rw [if_neg c12] at H
          exact absurd H (by simp)
        ·rw [if_neg c10] at H
         exact absurd H (by simp)
       ·rw [if_neg c9] at H
        exact absurd H (by simp)
      ·rw [if_neg c8] at H
       exact absurd H (by simp)
     ·rw [if_neg c7] at H
      have c7b0 : decide (0 < x5_1) = false := decide_eq_false c7
      clear c7
      by_cases c22 : 0 ≤ x5_1
      ·rw [if_pos c22] at H
       have c22b0 : decide (0 ≤ x5_1) = true := decide_eq_true c22
       clear c22
       by_cases c23 : x5_1 < (t250.length : Int)
       ·rw [if_pos c23] at H
        have c23b0 : decide (x5_1 < (t250.length : Int)) = true := decide_eq_true c23
        clear c23
        obtain ⟨ji24, hji24⟩ : ∃ j_ : Int, ((Int.tdiv (rd t250 x5_1) 16) % 256) = j_ := ⟨_, rfl⟩
        replace H : (if 0 ≤ (ji24) then (if (ji24) ≤ (((ji24) + 1) % 256) then (if (((ji24) + 1) % 256) ≤ 16 then (if 0 ≤ (Int.tmod (rd t250 x5_1) 16) then (if (Int.tmod (rd t250 x5_1) 16) ≤ (((Int.tmod (rd t250 x5_1) 16) + 1) % 256) then (if (((Int.tmod (rd t250 x5_1) 16) + 1) % 256) ≤ 16 then (if ((⟨#[48, 49, 50, 51, 52, 53, 54, 55, 56, 57, 97, 98, 99, 100, 101, 102]⟩ : ByteArray).extract ((ji24) : Int).toNat ((((ji24) + 1) % 256) : Int).toNat).size + ((⟨#[48, 49, 50, 51, 52, 53, 54, 55, 56, 57, 97, 98, 99, 100, 101, 102]⟩ : ByteArray).extract ((Int.tmod (rd t250 x5_1) 16) : Int).toNat ((((Int.tmod (rd t250 x5_1) 16) + 1) % 256) : Int).toNat).size ≤ 9223372036854775807 then (if x4_1.size + (((⟨#[48, 49, 50, 51, 52, 53, 54, 55, 56, 57, 97, 98, 99, 100, 101, 102]⟩ : ByteArray).extract ((ji24) : Int).toNat ((((ji24) + 1) % 256) : Int).toNat) ++ ((⟨#[48, 49, 50, 51, 52, 53, 54, 55, 56, 57, 97, 98, 99, 100, 101, 102]⟩ : ByteArray).extract ((Int.tmod (rd t250 x5_1) 16) : Int).toNat ((((Int.tmod (rd t250 x5_1) 16) + 1) % 256) : Int).toNat)).size ≤ 9223372036854775807 then (weirgateref09_Text.l0 k1 t250 (x4_1 ++ (((⟨#[48, 49, 50, 51, 52, 53, 54, 55, 56, 57, 97, 98, 99, 100, 101, 102]⟩ : ByteArray).extract ((ji24) : Int).toNat ((((ji24) + 1) % 256) : Int).toNat) ++ ((⟨#[48, 49, 50, 51, 52, 53, 54, 55, 56, 57, 97, 98, 99, 100, 101, 102]⟩ : ByteArray).extract ((Int.tmod (rd t250 x5_1) 16) : Int).toNat ((((Int.tmod (rd t250 x5_1) 16) + 1) % 256) : Int).toNat))) (wrap64 (x5_1 + 1))) else (none)) else (none)) else (none)) else (none)) else (none)) else (none)) else (none)) else (none)) = some r := by first | (rw [hji24] at H; exact H) | (simp only [hji24] at H ⊢; exact H)
        by_cases c25 : 0 ≤ (ji24)
        ·rw [if_pos c25] at H
         have c25b0 := eq_true c25
         have c25b1 : decide (0 ≤ (ji24)) = true := decide_eq_true c25
         clear c25
         by_cases c26 : (ji24) ≤ (((ji24) + 1) % 256)
         ·rw [if_pos c26] at H
          have c26b0 := eq_true c26
          have c26b1 : decide ((ji24) ≤ (((ji24) + 1) % 256)) = true := decide_eq_true c26
          by_cases c27 : (((ji24) + 1) % 256) ≤ 16
          ·rw [if_pos c27] at H
           have c27b0 := eq_true c27
           have c27b1 : decide ((((ji24) + 1) % 256) ≤ 16) = true := decide_eq_true c27
           obtain ⟨ji28, hji28⟩ : ∃ j_ : Int, (Int.tmod (rd t250 x5_1) 16) = j_ := ⟨_, rfl⟩
           replace H : (if 0 ≤ (ji28) then (if (ji28) ≤ (((ji28) + 1) % 256) then (if (((ji28) + 1) % 256) ≤ 16 then (if ((⟨#[48, 49, 50, 51, 52, 53, 54, 55, 56, 57, 97, 98, 99, 100, 101, 102]⟩ : ByteArray).extract ((ji24) : Int).toNat ((((ji24) + 1) % 256) : Int).toNat).size + ((⟨#[48, 49, 50, 51, 52, 53, 54, 55, 56, 57, 97, 98, 99, 100, 101, 102]⟩ : ByteArray).extract ((ji28) : Int).toNat ((((ji28) + 1) % 256) : Int).toNat).size ≤ 9223372036854775807 then (if x4_1.size + (((⟨#[48, 49, 50, 51, 52, 53, 54, 55, 56, 57, 97, 98, 99, 100, 101, 102]⟩ : ByteArray).extract ((ji24) : Int).toNat ((((ji24) + 1) % 256) : Int).toNat) ++ ((⟨#[48, 49, 50, 51, 52, 53, 54, 55, 56, 57, 97, 98, 99, 100, 101, 102]⟩ : ByteArray).extract ((ji28) : Int).toNat ((((ji28) + 1) % 256) : Int).toNat)).size ≤ 9223372036854775807 then (weirgateref09_Text.l0 k1 t250 (x4_1 ++ (((⟨#[48, 49, 50, 51, 52, 53, 54, 55, 56, 57, 97, 98, 99, 100, 101, 102]⟩ : ByteArray).extract ((ji24) : Int).toNat ((((ji24) + 1) % 256) : Int).toNat) ++ ((⟨#[48, 49, 50, 51, 52, 53, 54, 55, 56, 57, 97, 98, 99, 100, 101, 102]⟩ : ByteArray).extract ((ji28) : Int).toNat ((((ji28) + 1) % 256) : Int).toNat))) (wrap64 (x5_1 + 1))) else (none)) else (none)) else (none)) else (none)) else (none)) = some r := by first | (rw [hji28] at H; exact H) | (simp only [hji28] at H ⊢; exact H)
           by_cases c29 : 0 ≤ (ji28)
           ·rw [if_pos c29] at H
            have c29b0 := eq_true c29
            have c29b1 : decide (0 ≤ (ji28)) = true := decide_eq_true c29
            clear c29
            by_cases c30 : (ji28) ≤ (((ji28) + 1) % 256)
            ·rw [if_pos c30] at H
             have c30b0 := eq_true c30
             have c30b1 : decide ((ji28) ≤ (((ji28) + 1) % 256)) = true := decide_eq_true c30
             by_cases c31 : (((ji28) + 1) % 256) ≤ 16
             ·rw [if_pos c31] at H
              have c31b0 := eq_true c31
              have c31b1 : decide ((((ji28) + 1) % 256) ≤ 16) = true := decide_eq_true c31
              by_cases c32 : ((⟨#[48, 49, 50, 51, 52, 53, 54, 55, 56, 57, 97, 98, 99, 100, 101, 102]⟩ : ByteArray).extract ((ji24) : Int).toNat ((((ji24) + 1) % 256) : Int).toNat).size + ((⟨#[48, 49, 50, 51, 52, 53, 54, 55, 56, 57, 97, 98, 99, 100, 101, 102]⟩ : ByteArray).extract ((ji28) : Int).toNat ((((ji28) + 1) % 256) : Int).toNat).size ≤ 9223372036854775807
              ·rw [if_pos c32] at H
               have c32b0 := eq_true c32
               have c32b1 : decide (((⟨#[48, 49, 50, 51, 52, 53, 54, 55, 56, 57, 97, 98, 99, 100, 101, 102]⟩ : ByteArray).extract ((ji24) : Int).toNat ((((ji24) + 1) % 256) : Int).toNat).size + ((⟨#[48, 49, 50, 51, 52, 53, 54, 55, 56, 57, 97, 98, 99, 100, 101, 102]⟩ : ByteArray).extract ((ji28) : Int).toNat ((((ji28) + 1) % 256) : Int).toNat).size ≤ 9223372036854775807) = true := decide_eq_true c32
               try have c32b2 : (9223372036854775807 < ((⟨#[48, 49, 50, 51, 52, 53, 54, 55, 56, 57, 97, 98, 99, 100, 101, 102]⟩ : ByteArray).extract ((ji24) : Int).toNat ((((ji24) + 1) % 256) : Int).toNat).size + ((⟨#[48, 49, 50, 51, 52, 53, 54, 55, 56, 57, 97, 98, 99, 100, 101, 102]⟩ : ByteArray).extract ((ji28) : Int).toNat ((((ji28) + 1) % 256) : Int).toNat).size) = False := eq_false (Nat.not_lt.2 c32)
               by_cases c33 : x4_1.size + (((⟨#[48, 49, 50, 51, 52, 53, 54, 55, 56, 57, 97, 98, 99, 100, 101, 102]⟩ : ByteArray).extract ((ji24) : Int).toNat ((((ji24) + 1) % 256) : Int).toNat) ++ ((⟨#[48, 49, 50, 51, 52, 53, 54, 55, 56, 57, 97, 98, 99, 100, 101, 102]⟩ : ByteArray).extract ((ji28) : Int).toNat ((((ji28) + 1) % 256) : Int).toNat)).size ≤ 9223372036854775807
               ·rw [if_pos c33] at H
                have c33b0 := eq_true c33
                have c33b1 : decide (x4_1.size + (((⟨#[48, 49, 50, 51, 52, 53, 54, 55, 56, 57, 97, 98, 99, 100, 101, 102]⟩ : ByteArray).extract ((ji24) : Int).toNat ((((ji24) + 1) % 256) : Int).toNat) ++ ((⟨#[48, 49, 50, 51, 52, 53, 54, 55, 56, 57, 97, 98, 99, 100, 101, 102]⟩ : ByteArray).extract ((ji28) : Int).toNat ((((ji28) + 1) % 256) : Int).toNat)).size ≤ 9223372036854775807) = true := decide_eq_true c33
                try have c33b2 : (9223372036854775807 < x4_1.size + (((⟨#[48, 49, 50, 51, 52, 53, 54, 55, 56, 57, 97, 98, 99, 100, 101, 102]⟩ : ByteArray).extract ((ji24) : Int).toNat ((((ji24) + 1) % 256) : Int).toNat) ++ ((⟨#[48, 49, 50, 51, 52, 53, 54, 55, 56, 57, 97, 98, 99, 100, 101, 102]⟩ : ByteArray).extract ((ji28) : Int).toNat ((((ji28) + 1) % 256) : Int).toNat)).size) = False := eq_false (Nat.not_lt.2 c33)
                try (have c33b3 := c33; simp only [ByteArray.size_append] at c33b3; replace c33b3 := eq_false (Nat.not_lt.2 c33b3))
                have H' := Aside0.mk H
                clear H
                obtain ⟨Ao34, co34, eo34⟩ := Kd.R_slice HO_3.out
                subst eo34
                have p257 : 0 ≤ (x5_1 : Int) := of_decide_eq_true (by first | (with_reducible assumption) | assumption)
                have q257 : x5_1 < (t250.length : Int) := of_decide_eq_true (by first | (with_reducible assumption) | assumption)
                obtain ⟨ad257, e257, hx257_0⟩ := Kd.at_int (Kd.R_reads' HO_3.out).2.2 x5_1 p257 q257
                cases e257
                replace p257 := eq_true p257
                replace q257 := eq_true q257
                have p258 : 0 ≤ (x5_1 : Int) := of_decide_eq_true (by first | (with_reducible assumption) | assumption)
                have q258 : x5_1 < (t250.length : Int) := of_decide_eq_true (by first | (with_reducible assumption) | assumption)
                obtain ⟨ad258, e258, hx258_0⟩ := Kd.at_int (Kd.R_reads' HO_3.out).2.2 x5_1 p258 q258
                obtain rfl : ad257 = ad258 := (by injection e258)
                replace p258 := eq_true p258
                replace q258 := eq_true q258
                have p259 : 0 ≤ (x5_1 : Int) := of_decide_eq_true (by first | (with_reducible assumption) | assumption)
                have q259 : x5_1 < (t250.length : Int) := of_decide_eq_true (by first | (with_reducible assumption) | assumption)
                obtain ⟨ad259, e259, hx259_0⟩ := Kd.at_int (Kd.R_reads' HO_3.out).2.2 x5_1 p259 q259
                obtain rfl : ad257 = ad259 := (by injection e259)
                replace p259 := eq_true p259
                replace q259 := eq_true q259
                have p260 : 0 ≤ (x5_1 : Int) := of_decide_eq_true (by first | (with_reducible assumption) | assumption)
                have q260 : x5_1 < (t250.length : Int) := of_decide_eq_true (by first | (with_reducible assumption) | assumption)
                obtain ⟨ad260, e260, hx260_0⟩ := Kd.at_int (Kd.R_reads' HO_3.out).2.2 x5_1 p260 q260
                obtain rfl : ad257 = ad260 := (by injection e260)
                replace p260 := eq_true p260
                replace q260 := eq_true q260
                have w24 := hji24; rw [← IntKind.wrap_u8] at w24
                have v24 : IntKind.u8.wrap (ji24 + 1) = (ji24 + 1) % 256 := IntKind.wrap_u8 _
                have v28 : IntKind.u8.wrap (ji28 + 1) = (ji28 + 1) % 256 := IntKind.wrap_u8 _
                go_wp2
                repeat (go_quiet (fail); try go_wp2)
                go_roundg k1
                case measure => have := HK1.out; omega
                case rel => exact ⟨(x4_1 ++ (((⟨#[48, 49, 50, 51, 52, 53, 54, 55, 56, 57, 97, 98, 99, 100, 101, 102]⟩ : ByteArray).extract ((ji24) : Int).toNat ((((ji24) + 1) % 256) : Int).toNat) ++ ((⟨#[48, 49, 50, 51, 52, 53, 54, 55, 56, 57, 97, 98, 99, 100, 101, 102]⟩ : ByteArray).extract ((ji28) : Int).toNat ((((ji28) + 1) % 256) : Int).toNat))), (wrap64 (x5_1 + 1)), (by first | rfl | (simp; done) | (simp only [← hji24, ← hji28] <;> (first | rfl | simp)) | (simp [*]; done)), (by first | rfl | (simp; done) | (simp [*]; done)), H', ⟨by have := HK1.out; omega⟩, ⟨by (with_reducible repeat (first | apply Kd.R_alloc | apply Kd.R_drewN | apply Kd.R_drew)); exact HO_3.out⟩, ⟨by repeat (first | (with_reducible first | exact HB.out | apply below_alloc | apply pw_below_drewN | apply below_drew1) | exact HB.out)⟩⟩
               ·rw [if_neg c33] at H
                exact absurd H (by simp)
              ·rw [if_neg c32] at H
               exact absurd H (by simp)
             ·rw [if_neg c31] at H
              exact absurd H (by simp)
            ·rw [if_neg c30] at H
             exact absurd H (by simp)
           ·rw [if_neg c29] at H
            exact absurd H (by simp)
          ·rw [if_neg c27] at H
           exact absurd H (by simp)
         ·rw [if_neg c26] at H
          exact absurd H (by simp)
        ·rw [if_neg c25] at H
         exact absurd H (by simp)
       ·rw [if_neg c23] at H
        exact absurd H (by simp)
      ·rw [if_neg c22] at H
       exact absurd H (by simp)
    ·rw [if_neg c6] at H
     have c6b0 : decide (x5_1 < 6) = false := decide_eq_false c6
     clear c6
     obtain rfl := Option.some.inj H
     go_wp2
     repeat (go_quiet (fail); try go_wp2)
     go_ret
     exact ⟨by first | rfl | (simp [errW_none, errW_some] <;> rfl) | (simp [*, errW_none, errW_some] <;> rfl), by repeat (first | (with_reducible first | exact HB.out | apply below_alloc | apply pw_below_drewN | apply below_drew1) | exact HB.out)⟩
 ·replace c3 := Bool.eq_false_iff.mpr c3
  subst c3
  have H1 : (some (⟨#[]⟩ : ByteArray)) = some r := by rw [if_neg (show ¬ (false = true) by decide)] at H; exact H
  clear H
  have H := H1
  clear H1
  obtain rfl := Option.some.inj H
  go_enter Tryd.func25, Tryd.ntmps25
  go_wp2_with (first | (go_at_call 36; (with_reducible refine (weirgateref09_Good.calls a0 false _ ?side1 A2.out).mono ?_); (case side1 => exact Laid.below hL (by repeat (first | (with_reducible first | exact HB.out | apply below_alloc | apply pw_below_drewN | apply below_drew1) | exact HB.out))); rintro e w' ⟨rfl, ⟨nd, rfl⟩⟩; (try clear A2); (try first | exact ⟨rfl, _, World.drewN_drewN _ _ _⟩ | exact ⟨rfl, _, Eq.trans (World.drewN_drewN _ _ _) (congrArg (World.drewN _) (Nat.add_assoc _ _ _))⟩)))
  repeat (go_quiet (first | (go_at_call 36; (with_reducible refine (weirgateref09_Good.calls a0 false _ ?side1 A2.out).mono ?_); (case side1 => exact Laid.below hL (by repeat (first | (with_reducible first | exact HB.out | apply below_alloc | apply pw_below_drewN | apply below_drew1) | exact HB.out))); rintro e w' ⟨rfl, ⟨nd, rfl⟩⟩; (try clear A2); (try first | exact ⟨rfl, _, World.drewN_drewN _ _ _⟩ | exact ⟨rfl, _, Eq.trans (World.drewN_drewN _ _ _) (congrArg (World.drewN _) (Nat.add_assoc _ _ _))⟩))); try go_wp2_with (first | (go_at_call 36; (with_reducible refine (weirgateref09_Good.calls a0 false _ ?side1 A2.out).mono ?_); (case side1 => exact Laid.below hL (by repeat (first | (with_reducible first | exact HB.out | apply below_alloc | apply pw_below_drewN | apply below_drew1) | exact HB.out))); rintro e w' ⟨rfl, ⟨nd, rfl⟩⟩; (try clear A2); (try first | exact ⟨rfl, _, World.drewN_drewN _ _ _⟩ | exact ⟨rfl, _, Eq.trans (World.drewN_drewN _ _ _) (congrArg (World.drewN _) (Nat.add_assoc _ _ _))⟩))))
  go_ret
  exact ⟨by first | rfl | (simp [errW_none, errW_some] <;> rfl) | (simp [*, errW_none, errW_some] <;> rfl), by repeat (first | (with_reducible first | exact HB.out | apply below_alloc | apply pw_below_drewN | apply below_drew1) | exact HB.out)⟩

/-! ### weirgateref09_Parse: function 19 -/
mutual
def weirgateref09_Parse.l0 : Nat → ByteArray → Int → Int → Option (Int × Int)
 | 0, _, _, _ => none
 | k + 1, x0, x4, x5 => if x5 < 17 then (if (Int.tmod x5 3) = 2 then (weirgateref09_Parse.l0 k x0 x4 (wrap64 (x5 + 1))) else (weirgateref09_Parse.l1 k x0 x4 x5 (-1) 0)) else ((weirgateref09_Text.f k x4).bind fun t261 => (if t261.toList = x0.toList then (some (x4, 0)) else (some (0, 11))))
def weirgateref09_Parse.l1 : Nat → ByteArray → Int → Int → Int → Int → Option (Int × Int)
 | 0, _, _, _, _, _ => none
 | k + 1, x0, x4, x5, x6, x7 => if x7 < 16 then (if 0 ≤ x7 then (if 0 ≤ x5 then (if x5 < (x0.size : Int) then (if (bt (⟨#[48, 49, 50, 51, 52, 53, 54, 55, 56, 57, 97, 98, 99, 100, 101, 102]⟩ : ByteArray) x7) = (bt x0 x5) then (weirgateref09_Parse.l1 k x0 x4 x5 x7 (wrap64 (x7 + 1))) else (weirgateref09_Parse.l1 k x0 x4 x5 x6 (wrap64 (x7 + 1)))) else (none)) else (none)) else (none)) else (if x6 < 0 then (some (0, 11)) else (weirgateref09_Parse.l0 k x0 (IntKind.u64.wrap ((IntKind.u64.wrap (x4 * 16)) + (IntKind.u64.wrap (x6)))) (wrap64 (x5 + 1))))
end
def weirgateref09_Parse.f (k : Nat) (a0 : ByteArray) : Option (Int × Int) := if (a0.size : Int) = 17 then (weirgateref09_Parse.l0 k a0 0 0) else (some (0, 11))
theorem weirgateref09_Parse.mono_l : ∀ k, (∀ y0 y1 y2, LeO (weirgateref09_Parse.l0 k y0 y1 y2) (weirgateref09_Parse.l0 (k + 1) y0 y1 y2)) ∧ (∀ y0 y1 y2 y3 y4, LeO (weirgateref09_Parse.l1 k y0 y1 y2 y3 y4) (weirgateref09_Parse.l1 (k + 1) y0 y1 y2 y3 y4))
 | 0 => ⟨fun _ _ _ r h => by simp [weirgateref09_Parse.l0] at h, fun _ _ _ _ _ r h => by simp [weirgateref09_Parse.l1] at h⟩
 | k + 1 => by
  obtain ⟨ih0, ih1⟩ := weirgateref09_Parse.mono_l k
  refine ⟨?_, ?_⟩
  ·intro y0 y1 y2
   unfold weirgateref09_Parse.l0
   repeat' first
   | (with_reducible exact ih0 _ _ _)
   | (with_reducible exact ih1 _ _ _ _ _)
   | (with_reducible exact weirgateref09_Text.mono _ _)
   | (with_reducible exact LeO.refl _)
   | (with_reducible exact LeO.none _)
   | (with_reducible refine LeO.ite ?_ ?_)
   | (with_reducible refine LeO.bind ?_ (fun _ => ?_))
   | exact ih0 _ _ _
   | exact ih1 _ _ _ _ _
   | exact weirgateref09_Text.mono _ _
   | exact LeO.none _
   | refine LeO.ite ?_ ?_
   | refine LeO.bind ?_ (fun _ => ?_)
  ·intro y0 y1 y2 y3 y4
   unfold weirgateref09_Parse.l1
   repeat' first
   | (with_reducible exact ih0 _ _ _)
   | (with_reducible exact ih1 _ _ _ _ _)
   | (with_reducible exact weirgateref09_Text.mono _ _)
   | (with_reducible exact LeO.refl _)
   | (with_reducible exact LeO.none _)
   | (with_reducible refine LeO.ite ?_ ?_)
   | (with_reducible refine LeO.bind ?_ (fun _ => ?_))
   | exact ih0 _ _ _
   | exact ih1 _ _ _ _ _
   | exact weirgateref09_Text.mono _ _
   | exact LeO.none _
   | refine LeO.ite ?_ ?_
   | refine LeO.bind ?_ (fun _ => ?_)
theorem weirgateref09_Parse.mono : ∀ a0 k, LeO (weirgateref09_Parse.f k a0) (weirgateref09_Parse.f (k + 1) a0) := by
 intro a0 k
 obtain ⟨ih0, ih1⟩ := weirgateref09_Parse.mono_l k
 unfold weirgateref09_Parse.f
 repeat' first
   | (with_reducible exact ih0 _ _ _)
   | (with_reducible exact ih1 _ _ _ _ _)
   | (with_reducible exact weirgateref09_Text.mono _ _)
   | (with_reducible exact LeO.refl _)
   | (with_reducible exact LeO.none _)
   | (with_reducible refine LeO.ite ?_ ?_)
   | (with_reducible refine LeO.bind ?_ (fun _ => ?_))
   | exact ih0 _ _ _
   | exact ih1 _ _ _ _ _
   | exact weirgateref09_Text.mono _ _
   | exact LeO.none _
   | refine LeO.ite ?_ ?_
   | refine LeO.bind ?_ (fun _ => ?_)
set_option maxHeartbeats 8000000 in
set_option maxRecDepth 100000 in
theorem weirgateref09_Parse.calls (k : Nat) (a0 : ByteArray) (r1 : Int) (r2 : Int) (w : World) (hL : Laid w) (h : weirgateref09_Parse.f k a0 = some (r1, r2)) :
  Calls Tryd.prog 19 #[.string a0] w fun e w' => e = .returned (.tuple #[.int .u64 r1, .int .i64 r2]) ∧ Below w.heap.size w w' := by
 have HB := Aside0.mk (Below.refl w.heap.size w)
 have H : (if (a0.size : Int) = 17 then (weirgateref09_Parse.l0 k a0 0 0) else (some (0, 11))) = some (r1, r2) := h
 clear h
 by_cases c2 : (a0.size : Int) = 17
 ·rw [if_pos c2] at H
  have c2b0 : ((a0.size : Int) == 17) = true := beq_iff_eq.mpr c2
  have c2b1 : ((a0.size : Int) != 17) = false := bne_eq_false_iff_eq.mpr c2
  clear c2
  have H' := Aside0.mk H
  clear H
  go_enter Tryd.func19, Tryd.ntmps19
  go_wp2
  repeat (go_quiet (fail); try go_wp2)
  go_loopg [4, 5] k (fun kq v4 v5 w' => ∃ (x4_1 : Int) (x5_1 : Int), v4 = .int .u64 x4_1 ∧ v5 = .int .i64 x5_1 ∧ Aside0 (weirgateref09_Parse.l0 kq a0 x4_1 x5_1 = some (r1, r2)) ∧ Aside0 (kq ≤ k) ∧ Aside0 (Below w.heap.size w w'))
  case atStart => exact ⟨(0), (0), (by first | rfl | (simp; done) | (simp [*]; done)), (by first | rfl | (simp; done) | (simp [*]; done)), H', ⟨Nat.le_refl _⟩, ⟨by repeat (first | (with_reducible first | exact HB.out | apply below_alloc | apply pw_below_drewN | apply below_drew1) | exact HB.out)⟩⟩
  case round =>
   clear H'
   try clear c1
   try clear c2
   try clear c2b0
   try clear c2b1
   try clear p2
   obtain ⟨x4_1, x5_1, rfl, rfl, HA, HK1, HB⟩ := hrel
   cases gk with
   | zero => exact absurd HA.out (by simp [weirgateref09_Parse.l0])
   | succ k1 =>
    have H := HA.out
    clear HA
    simp only [weirgateref09_Parse.l0] at H
    by_cases c3 : x5_1 < 17
    ·rw [if_pos c3] at H
     have c3b0 : decide (x5_1 < 17) = true := decide_eq_true c3
     clear c3
     by_cases c4 : (Int.tmod x5_1 3) = 2
     ·rw [if_pos c4] at H
      have c4b0 : ((Int.tmod x5_1 3) == 2) = true := beq_iff_eq.mpr c4
      have c4b1 : ((Int.tmod x5_1 3) != 2) = false := bne_eq_false_iff_eq.mpr c4
      clear c4
      have H' := Aside0.mk H
      clear H
      go_wp2
      repeat (go_quiet (fail); try go_wp2)
      go_roundg k1
      case measure => have := HK1.out; omega
      case rel => exact ⟨(x4_1), (wrap64 (x5_1 + 1)), (by first | rfl | (simp; done) | (simp [*]; done)), (by first | rfl | (simp; done) | (simp [*]; done)), H', ⟨by have := HK1.out; omega⟩, ⟨by repeat (first | (with_reducible first | exact HB.out | apply below_alloc | apply pw_below_drewN | apply below_drew1) | exact HB.out)⟩⟩
     ·rw [if_neg c4] at H
      have c4b0 : ((Int.tmod x5_1 3) == 2) = false := beq_eq_false_iff_ne.mpr c4
      have c4b1 : ((Int.tmod x5_1 3) != 2) = true := bne_iff_ne.mpr c4
      have H' := Aside0.mk H
      clear H
      go_wp2
      repeat (go_quiet (fail); try go_wp2)
      go_loopg [6, 7] k1 (fun kq v6 v7 w' => ∃ (x6_2 : Int) (x7_2 : Int), v6 = .int .i64 x6_2 ∧ v7 = .int .i64 x7_2 ∧ Aside0 (weirgateref09_Parse.l1 kq a0 x4_1 x5_1 x6_2 x7_2 = some (r1, r2)) ∧ Aside0 (kq ≤ k1) ∧ Aside0 (Below w.heap.size w w'))
      case atStart => exact ⟨((-1)), (0), (by first | rfl | (simp; done) | (simp [*]; done)), (by first | rfl | (simp; done) | (simp [*]; done)), H', ⟨Nat.le_refl _⟩, ⟨by repeat (first | (with_reducible first | exact HB.out | apply below_alloc | apply pw_below_drewN | apply below_drew1) | exact HB.out)⟩⟩
      case round =>
       clear H'
       try clear c1
       try clear c2
       try clear c2b0
       try clear c2b1
       try clear p2
       try clear c3
       try clear c3b0
       try clear c4
       try clear c4b0
       try clear c4b1
       try clear p2
       obtain ⟨x6_2, x7_2, rfl, rfl, HA, HK2, HB⟩ := hrel
       cases gk with
       | zero => exact absurd HA.out (by simp [weirgateref09_Parse.l1])
       | succ k2 =>
        have H := HA.out
        clear HA
        simp only [weirgateref09_Parse.l1] at H
        by_cases c5 : x7_2 < 16
        ·rw [if_pos c5] at H
         have c5b0 : decide (x7_2 < 16) = true := decide_eq_true c5
         clear c5
         by_cases c6 : 0 ≤ x7_2
         ·rw [if_pos c6] at H
          have c6b0 : decide (0 ≤ x7_2) = true := decide_eq_true c6
          clear c6
          by_cases c8 : 0 ≤ x5_1
          ·rw [if_pos c8] at H
           have c8b0 : decide (0 ≤ x5_1) = true := decide_eq_true c8
           clear c8
           by_cases c9 : x5_1 < (a0.size : Int)
           ·rw [if_pos c9] at H
            have c9b0 : decide (x5_1 < (a0.size : Int)) = true := decide_eq_true c9
            clear c9
            by_cases c11 : (bt (⟨#[48, 49, 50, 51, 52, 53, 54, 55, 56, 57, 97, 98, 99, 100, 101, 102]⟩ : ByteArray) x7_2) = (bt a0 x5_1)
            ·rw [if_pos c11] at H
             have c11b0 : ((bt (⟨#[48, 49, 50, 51, 52, 53, 54, 55, 56, 57, 97, 98, 99, 100, 101, 102]⟩ : ByteArray) x7_2) == (bt a0 x5_1)) = true := beq_iff_eq.mpr c11
             have c11b1 : ((bt (⟨#[48, 49, 50, 51, 52, 53, 54, 55, 56, 57, 97, 98, 99, 100, 101, 102]⟩ : ByteArray) x7_2) != (bt a0 x5_1)) = false := bne_eq_false_iff_eq.mpr c11
             clear c11
             have H' := Aside0.mk H
             clear H
             have p7 : 0 ≤ (x7_2 : Int) := of_decide_eq_true (by first | (with_reducible assumption) | assumption)
             have q7 : x7_2 < (16 : Int) := of_decide_eq_true (by first | (with_reducible assumption) | assumption)
             have hx7 := bt_at (⟨#[48, 49, 50, 51, 52, 53, 54, 55, 56, 57, 97, 98, 99, 100, 101, 102]⟩ : ByteArray) x7_2
             replace p7 := eq_true p7
             replace q7 := eq_true q7
             have p10 : 0 ≤ (x5_1 : Int) := of_decide_eq_true (by first | (with_reducible assumption) | assumption)
             have q10 : x5_1 < (a0.size : Int) := of_decide_eq_true (by first | (with_reducible assumption) | assumption)
             have hx10 := bt_at a0 x5_1
             replace p10 := eq_true p10
             replace q10 := eq_true q10
             go_wp2
             repeat (go_quiet (fail); try go_wp2)
             go_roundg k2
             case measure => have := HK1.out; have := HK2.out; omega
             case rel => exact ⟨(x7_2), (wrap64 (x7_2 + 1)), (by first | rfl | (simp; done) | (simp [*]; done)), (by first | rfl | (simp; done) | (simp [*]; done)), H', ⟨by have := HK1.out; have := HK2.out; omega⟩, ⟨by repeat (first | (with_reducible first | exact HB.out | apply below_alloc | apply pw_below_drewN | apply below_drew1) | exact HB.out)⟩⟩
            ·rw [if_neg c11] at H
             have c11b0 : ((bt (⟨#[48, 49, 50, 51, 52, 53, 54, 55, 56, 57, 97, 98, 99, 100, 101, 102]⟩ : ByteArray) x7_2) == (bt a0 x5_1)) = false := beq_eq_false_iff_ne.mpr c11
             have c11b1 : ((bt (⟨#[48, 49, 50, 51, 52, 53, 54, 55, 56, 57, 97, 98, 99, 100, 101, 102]⟩ : ByteArray) x7_2) != (bt a0 x5_1)) = true := bne_iff_ne.mpr c11
             have H' := Aside0.mk H
             clear H
             have p7 : 0 ≤ (x7_2 : Int) := of_decide_eq_true (by first | (with_reducible assumption) | assumption)
             have q7 : x7_2 < (16 : Int) := of_decide_eq_true (by first | (with_reducible assumption) | assumption)
             have hx7 := bt_at (⟨#[48, 49, 50, 51, 52, 53, 54, 55, 56, 57, 97, 98, 99, 100, 101, 102]⟩ : ByteArray) x7_2
             replace p7 := eq_true p7
             replace q7 := eq_true q7
             have p10 : 0 ≤ (x5_1 : Int) := of_decide_eq_true (by first | (with_reducible assumption) | assumption)
             have q10 : x5_1 < (a0.size : Int) := of_decide_eq_true (by first | (with_reducible assumption) | assumption)
             have hx10 := bt_at a0 x5_1
             replace p10 := eq_true p10
             replace q10 := eq_true q10
             go_wp2
             repeat (go_quiet (fail); try go_wp2)
             go_roundg k2
             case measure => have := HK1.out; have := HK2.out; omega
             case rel => exact ⟨(x6_2), (wrap64 (x7_2 + 1)), (by first | rfl | (simp; done) | (simp [*]; done)), (by first | rfl | (simp; done) | (simp [*]; done)), H', ⟨by have := HK1.out; have := HK2.out; omega⟩, ⟨by repeat (first | (with_reducible first | exact HB.out | apply below_alloc | apply pw_below_drewN | apply below_drew1) | exact HB.out)⟩⟩
           ·rw [if_neg c9] at H
            exact absurd H (by simp)
          ·rw [if_neg c8] at H
           exact absurd H (by simp)
         ·rw [if_neg c6] at H
          exact absurd H (by simp)
        ·rw [if_neg c5] at H
         have c5b0 : decide (x7_2 < 16) = false := decide_eq_false c5
         clear c5
         by_cases c12 : x6_2 < 0
         ·rw [if_pos c12] at H
          have c12b0 : decide (x6_2 < 0) = true := decide_eq_true c12
          clear c12
          simp only [Option.some.injEq, Prod.mk.injEq] at H
          obtain ⟨rfl, rfl⟩ := H
          go_wp2
          repeat (go_quiet (fail); try go_wp2)
          go_ret2
          exact ⟨by first | rfl | (simp [errW_none, errW_some] <;> rfl) | (simp [*, errW_none, errW_some] <;> rfl), by repeat (first | (with_reducible first | exact HB.out | apply below_alloc | apply pw_below_drewN | apply below_drew1) | exact HB.out)⟩
         ·rw [if_neg c12] at H
          have c12b0 : decide (x6_2 < 0) = false := decide_eq_false c12
          clear c12
          have H' := Aside0.mk H
          clear H
          go_wp2
          repeat (go_quiet (fail); try go_wp2)
          go_roundg k2
          case measure => have := HK1.out; have := HK2.out; omega
          case rel => exact ⟨(IntKind.u64.wrap ((IntKind.u64.wrap (x4_1 * 16)) + (IntKind.u64.wrap (x6_2)))), (wrap64 (x5_1 + 1)), (by first | rfl | (simp; done) | (simp [*]; done)), (by first | rfl | (simp; done) | (simp [*]; done)), H', ⟨by have := HK1.out; have := HK2.out; omega⟩, ⟨by repeat (first | (with_reducible first | exact HB.out | apply below_alloc | apply pw_below_drewN | apply below_drew1) | exact HB.out)⟩⟩
    ·rw [if_neg c3] at H
     have c3b0 : decide (x5_1 < 17) = false := decide_eq_false c3
     clear c3
     replace H := Option.bind_eq_some_iff.mp H
     obtain ⟨t261, A130, H⟩ := H
     replace H : (if t261.toList = a0.toList then (some (x4_1, 0)) else (some (0, 11))) = some (r1, r2) := H
     have A13 := Aside0.mk A130
     clear A130
     by_cases c14 : t261.toList = a0.toList
     ·rw [if_pos c14] at H
      have c14b0 : (t261.toList == a0.toList) = true := beq_iff_eq.mpr c14
      have c14b1 : (t261.toList != a0.toList) = false := bne_eq_false_iff_eq.mpr c14
      clear c14
      simp only [Option.some.injEq, Prod.mk.injEq] at H
      obtain ⟨rfl, rfl⟩ := H
      go_wp2_with (first | (go_at_call 25; (with_reducible refine (weirgateref09_Text.calls k1 x4_1 t261 _ ?side1 A13.out).mono ?_); (case side1 => exact Laid.below hL (by repeat (first | (with_reducible first | exact HB.out | apply below_alloc | apply pw_below_drewN | apply below_drew1) | exact HB.out))); rintro e w15 ⟨rfl, hb⟩; have n0_ := Aside0.mk (below_step (by repeat (first | (with_reducible first | exact HB.out | apply below_alloc | apply pw_below_drewN | apply below_drew1) | exact HB.out)) hb); clear HB; have HB := n0_; clear n0_; (try clear hb); (try clear hb2); (try clear hk); (try clear hi); (try clear A13)))
      repeat (go_quiet (first | (go_at_call 25; (with_reducible refine (weirgateref09_Text.calls k1 x4_1 t261 _ ?side1 A13.out).mono ?_); (case side1 => exact Laid.below hL (by repeat (first | (with_reducible first | exact HB.out | apply below_alloc | apply pw_below_drewN | apply below_drew1) | exact HB.out))); rintro e w15 ⟨rfl, hb⟩; have n0_ := Aside0.mk (below_step (by repeat (first | (with_reducible first | exact HB.out | apply below_alloc | apply pw_below_drewN | apply below_drew1) | exact HB.out)) hb); clear HB; have HB := n0_; clear n0_; (try clear hb); (try clear hb2); (try clear hk); (try clear hi); (try clear A13))); try go_wp2_with (first | (go_at_call 25; (with_reducible refine (weirgateref09_Text.calls k1 x4_1 t261 _ ?side1 A13.out).mono ?_); (case side1 => exact Laid.below hL (by repeat (first | (with_reducible first | exact HB.out | apply below_alloc | apply pw_below_drewN | apply below_drew1) | exact HB.out))); rintro e w15 ⟨rfl, hb⟩; have n0_ := Aside0.mk (below_step (by repeat (first | (with_reducible first | exact HB.out | apply below_alloc | apply pw_below_drewN | apply below_drew1) | exact HB.out)) hb); clear HB; have HB := n0_; clear n0_; (try clear hb); (try clear hb2); (try clear hk); (try clear hi); (try clear A13))))
      go_ret2
      exact ⟨by first | rfl | (simp [errW_none, errW_some] <;> rfl) | (simp [*, errW_none, errW_some] <;> rfl), by repeat (first | (with_reducible first | exact HB.out | apply below_alloc | apply pw_below_drewN | apply below_drew1) | exact HB.out)⟩
     ·rw [if_neg c14] at H
      have c14b0 : (t261.toList == a0.toList) = false := beq_eq_false_iff_ne.mpr c14
      have c14b1 : (t261.toList != a0.toList) = true := bne_iff_ne.mpr c14
      simp only [Option.some.injEq, Prod.mk.injEq] at H
      obtain ⟨rfl, rfl⟩ := H
      go_wp2_with (first | (go_at_call 25; (with_reducible refine (weirgateref09_Text.calls k1 x4_1 t261 _ ?side1 A13.out).mono ?_); (case side1 => exact Laid.below hL (by repeat (first | (with_reducible first | exact HB.out | apply below_alloc | apply pw_below_drewN | apply below_drew1) | exact HB.out))); rintro e w16 ⟨rfl, hb⟩; have n0_ := Aside0.mk (below_step (by repeat (first | (with_reducible first | exact HB.out | apply below_alloc | apply pw_below_drewN | apply below_drew1) | exact HB.out)) hb); clear HB; have HB := n0_; clear n0_; (try clear hb); (try clear hb2); (try clear hk); (try clear hi); (try clear A13)))
      repeat (go_quiet (first | (go_at_call 25; (with_reducible refine (weirgateref09_Text.calls k1 x4_1 t261 _ ?side1 A13.out).mono ?_); (case side1 => exact Laid.below hL (by repeat (first | (with_reducible first | exact HB.out | apply below_alloc | apply pw_below_drewN | apply below_drew1) | exact HB.out))); rintro e w16 ⟨rfl, hb⟩; have n0_ := Aside0.mk (below_step (by repeat (first | (with_reducible first | exact HB.out | apply below_alloc | apply pw_below_drewN | apply below_drew1) | exact HB.out)) hb); clear HB; have HB := n0_; clear n0_; (try clear hb); (try clear hb2); (try clear hk); (try clear hi); (try clear A13))); try go_wp2_with (first | (go_at_call 25; (with_reducible refine (weirgateref09_Text.calls k1 x4_1 t261 _ ?side1 A13.out).mono ?_); (case side1 => exact Laid.below hL (by repeat (first | (with_reducible first | exact HB.out | apply below_alloc | apply pw_below_drewN | apply below_drew1) | exact HB.out))); rintro e w16 ⟨rfl, hb⟩; have n0_ := Aside0.mk (below_step (by repeat (first | (with_reducible first | exact HB.out | apply below_alloc | apply pw_below_drewN | apply below_drew1) | exact HB.out)) hb); clear HB; have HB := n0_; clear n0_; (try clear hb); (try clear hb2); (try clear hk); (try clear hi); (try clear A13))))
      go_ret2
      exact ⟨by first | rfl | (simp [errW_none, errW_some] <;> rfl) | (simp [*, errW_none, errW_some] <;> rfl), by repeat (first | (with_reducible first | exact HB.out | apply below_alloc | apply pw_below_drewN | apply below_drew1) | exact HB.out)⟩
 ·rw [if_neg c2] at H
  have c2b0 : ((a0.size : Int) == 17) = false := beq_eq_false_iff_ne.mpr c2
  have c2b1 : ((a0.size : Int) != 17) = true := bne_iff_ne.mpr c2
  simp only [Option.some.injEq, Prod.mk.injEq] at H
  obtain ⟨rfl, rfl⟩ := H
  go_enter Tryd.func19, Tryd.ntmps19
  go_wp2
  repeat (go_quiet (fail); try go_wp2)
  go_ret2
  exact ⟨by first | rfl | (simp [errW_none, errW_some] <;> rfl) | (simp [*, errW_none, errW_some] <;> rfl), by repeat (first | (with_reducible first | exact HB.out | apply below_alloc | apply pw_below_drewN | apply below_drew1) | exact HB.out)⟩

end Go.Proofs.YtagnoecfdefmjaaDoor.X
