/- The walk of MacBack: it answers true; no condition but the ranges. -/
import Derived.Test.YtdelhnpolibjmaaDoorMacSix
namespace Go.Proofs.YtdelhnpolibjmaaDoor.P
open Go.RowKit Go.Proofs.YtdelhnpolibjmaaDoorW.PrintWords Go.Proofs.YtdelhnpolibjmaaDoor.X Go.Proofs.YtdelhnpolibjmaaDoor.Plain Go.Proofs.YtdelhnpolibjmaaDoor
set_option linter.unusedVariables false
set_option linter.unusedSimpArgs false

theorem C_of6 (n : Nat) (h : n < 281474976710656) (A : Option Addr) (w : World) (hC : Kd.C (Kd.int .u8) w A 6 [(n : Int) / 1099511627776 % 256, (n : Int) / 4294967296 % 256, (n : Int) / 16777216 % 256, (n : Int) / 65536 % 256, (n : Int) / 256 % 256, (n : Int) % 256]) (hL : Laid w) :
    Calls Tryd.prog 9 #[.slice A 6 6] w fun e w' => e = .returned (.tuple #[.int .u64 (n : Int), .int .i64 0]) ∧ Drawn0 w w' := by
  obtain ⟨k, hk⟩ := (of_ev (macBytes n) (macBytes_lt n)).rounds
  have e : ofB (macBytes n) = ((n : Int), 0) := by unfold ofB; rw [if_pos (six n), bval_macBytes h]
  rw [e] at hk
  have hl : (ints (macBytes n)).length = 6 := by rw [ints_length, six]
  rw [← ints_macBytes] at hC
  have c := mac_Of.calls k A 6 (ints (macBytes n)) (n : Int) 0 w (by rw [hl]; exact hC) (by rw [hl]; exact Nat.le_refl 6) hL hk
  rw [hl] at c
  exact c

set_option maxHeartbeats 8000000 in
theorem MacBack_walk (a b : Int) (s : ByteArray) (h0 : 0 ≤ a) (h1 : a ≤ 18446744073709551615) (k0 : 0 ≤ b) (k1 : b ≤ 18446744073709551615) (w : World) (hL : Laid w) :
    Calls Tryd.prog 4 #[.int .u64 a, .int .u64 b, .string s] w fun e w' => e = .returned (.bool true) ∧ Below w.heap.size w w' := by
  have HB := Aside0.mk (Below.refl w.heap.size w)
  by_cases hs : s.size ≤ 100
  · obtain ⟨n, hn⟩ : ∃ n : Nat, a % 281474976710656 = (n : Int) := ⟨(a % 281474976710656).toNat, by omega⟩
    have n1 : n < 281474976710656 := by omega
    obtain ⟨m, hm⟩ : ∃ m : Nat, b % 281474976710656 = (m : Int) := ⟨(b % 281474976710656).toNat, by omega⟩
    have m1 : m < 281474976710656 := by omega
    have G1 := C_bytes n (by omega)
    have G2 := C_of6 n n1
    have G3 := C_text n (by omega)
    have G4 := C_text m (by omega)
    have G5 := C_parse (B (macText n)) (by rw [B_size, macText_length]; decide)
    have G6 := C_parse s (by omega)
    rw [textOf, if_pos n1] at G3
    rw [textOf, if_pos m1] at G4
    rw [B_data, macParse_text n1] at G5
    unfold bytesV at G1
    have hz1 : decide (100 < s.size) = false := decide_eq_false (by omega)
    have hz2 : decide (100 < (s.size : Int)) = false := decide_eq_false (by omega)
    obtain ⟨q, Q1, Q2, Q3⟩ : ∃ q : Bool, ((B (macText n)).toList == (B (macText m)).toList) = q ∧ ((n : Int) == (m : Int)) = q ∧ (n == m) = q := by
      refine ⟨n == m, ?_, ?_, rfl⟩
      · rw [B_toList, B_toList, Bool.eq_iff_iff]
        simp only [beq_iff_eq]
        exact ⟨fun h => macText_inj n1 m1 h, fun h => by rw [h]⟩
      · rw [Bool.eq_iff_iff]
        simp only [beq_iff_eq]
        omega
    have hcase : (∃ p : Nat, p < 281474976710656 ∧ s.toList = macText p ∧ macParse s.data.toList = ((p : Int), 0)) ∨ macParse s.data.toList = (0, 11) := by
      rcases macParse_cases s.data.toList with ⟨p, p1, p2, p3⟩ | ⟨_, p2⟩
      · exact Or.inl ⟨p, p1, by rw [toList_data]; exact p2, p3⟩
      · exact Or.inr p2
    rcases hcase with ⟨p, p1, p2, p3⟩ | p3
    · have G7 := C_text p (by omega)
      rw [textOf, if_pos p1] at G7
      have E1 : ((B (macText p)).toList == s.toList) = true := by rw [B_toList, p2, beq_self_eq_true]
      have E2 : ((B (macText p)).toList != s.toList) = false := by rw [B_toList, p2]; simp
      rw [p3] at G6
      clear p2 p3
      cases q
      all_goals
        go_enter Tryd.func4, Tryd.ntmps4
        go_wp2_with (first
          | (go_at_call 21; (first | (with_reducible refine (G3 _ (Laid.below hL (by repeat (first | (with_reducible first | exact HB.out | apply below_alloc | apply pw_below_drewN | apply below_drew1) | exact HB.out)))).mono ?_) | (with_reducible refine (G4 _ (Laid.below hL (by repeat (first | (with_reducible first | exact HB.out | apply below_alloc | apply pw_below_drewN | apply below_drew1) | exact HB.out)))).mono ?_) | (with_reducible refine (G7 _ (Laid.below hL (by repeat (first | (with_reducible first | exact HB.out | apply below_alloc | apply pw_below_drewN | apply below_drew1) | exact HB.out)))).mono ?_)); rintro e w' ⟨rfl, hb⟩; (have n0_ := Aside0.mk (below_step (by repeat (first | (with_reducible first | exact HB.out | apply below_alloc | apply pw_below_drewN | apply below_drew1) | exact HB.out)) hb); clear HB; have HB := n0_; clear n0_ hb))
          | (go_at_call 8; (with_reducible refine (G1 _).mono ?_); rintro e w' ⟨rfl, hb⟩; (have n0_ := Aside0.mk (below_step (by repeat (first | (with_reducible first | exact HB.out | apply below_alloc | apply pw_below_drewN | apply below_drew1) | exact HB.out)) hb); clear HB; have HB := n0_; clear n0_ hb))
          | (go_at_call 9; (with_reducible refine (G2 _ _ (C_six _ _ _ _ _ _ _ _) (Laid.below hL (by repeat (first | (with_reducible first | exact HB.out | apply below_alloc | apply pw_below_drewN | apply below_drew1) | exact HB.out)))).mono ?_); rintro e w' ⟨rfl, ⟨nd, rfl⟩⟩)
          | (go_at_call 11; (first | (with_reducible refine (G5 _ (Laid.below hL (by repeat (first | (with_reducible first | exact HB.out | apply below_alloc | apply pw_below_drewN | apply below_drew1) | exact HB.out)))).mono ?_) | (with_reducible refine (G6 _ (Laid.below hL (by repeat (first | (with_reducible first | exact HB.out | apply below_alloc | apply pw_below_drewN | apply below_drew1) | exact HB.out)))).mono ?_)); rintro e w' ⟨rfl, hb⟩; (have n0_ := Aside0.mk (below_step (by repeat (first | (with_reducible first | exact HB.out | apply below_alloc | apply pw_below_drewN | apply below_drew1) | exact HB.out)) hb); clear HB; have HB := n0_; clear n0_ hb))
          | (go_at_call 7; with_reducible refine (C_wakes _ (Laid.below hL (by repeat (first | (with_reducible first | exact HB.out | apply below_alloc | apply pw_below_drewN | apply below_drew1) | exact HB.out)))).mono ?_; rintro e w' ⟨rfl, hb⟩; (have n0_ := Aside0.mk (below_step (by repeat (first | (with_reducible first | exact HB.out | apply below_alloc | apply pw_below_drewN | apply below_drew1) | exact HB.out)) hb); clear HB; have HB := n0_; clear n0_ hb)))
        go_ret
        exact ⟨rfl, HB.out⟩
    · rw [p3] at G6
      cases q
      all_goals
        go_enter Tryd.func4, Tryd.ntmps4
        go_wp2_with (first
          | (go_at_call 21; (first | (with_reducible refine (G3 _ (Laid.below hL (by repeat (first | (with_reducible first | exact HB.out | apply below_alloc | apply pw_below_drewN | apply below_drew1) | exact HB.out)))).mono ?_) | (with_reducible refine (G4 _ (Laid.below hL (by repeat (first | (with_reducible first | exact HB.out | apply below_alloc | apply pw_below_drewN | apply below_drew1) | exact HB.out)))).mono ?_)); rintro e w' ⟨rfl, hb⟩; (have n0_ := Aside0.mk (below_step (by repeat (first | (with_reducible first | exact HB.out | apply below_alloc | apply pw_below_drewN | apply below_drew1) | exact HB.out)) hb); clear HB; have HB := n0_; clear n0_ hb))
          | (go_at_call 8; (with_reducible refine (G1 _).mono ?_); rintro e w' ⟨rfl, hb⟩; (have n0_ := Aside0.mk (below_step (by repeat (first | (with_reducible first | exact HB.out | apply below_alloc | apply pw_below_drewN | apply below_drew1) | exact HB.out)) hb); clear HB; have HB := n0_; clear n0_ hb))
          | (go_at_call 9; (with_reducible refine (G2 _ _ (C_six _ _ _ _ _ _ _ _) (Laid.below hL (by repeat (first | (with_reducible first | exact HB.out | apply below_alloc | apply pw_below_drewN | apply below_drew1) | exact HB.out)))).mono ?_); rintro e w' ⟨rfl, ⟨nd, rfl⟩⟩)
          | (go_at_call 11; (first | (with_reducible refine (G5 _ (Laid.below hL (by repeat (first | (with_reducible first | exact HB.out | apply below_alloc | apply pw_below_drewN | apply below_drew1) | exact HB.out)))).mono ?_) | (with_reducible refine (G6 _ (Laid.below hL (by repeat (first | (with_reducible first | exact HB.out | apply below_alloc | apply pw_below_drewN | apply below_drew1) | exact HB.out)))).mono ?_)); rintro e w' ⟨rfl, hb⟩; (have n0_ := Aside0.mk (below_step (by repeat (first | (with_reducible first | exact HB.out | apply below_alloc | apply pw_below_drewN | apply below_drew1) | exact HB.out)) hb); clear HB; have HB := n0_; clear n0_ hb))
          | (go_at_call 7; with_reducible refine (C_wakes _ (Laid.below hL (by repeat (first | (with_reducible first | exact HB.out | apply below_alloc | apply pw_below_drewN | apply below_drew1) | exact HB.out)))).mono ?_; rintro e w' ⟨rfl, hb⟩; (have n0_ := Aside0.mk (below_step (by repeat (first | (with_reducible first | exact HB.out | apply below_alloc | apply pw_below_drewN | apply below_drew1) | exact HB.out)) hb); clear HB; have HB := n0_; clear n0_ hb)))
        go_ret
        exact ⟨rfl, HB.out⟩
  · have hz1 : decide (100 < s.size) = true := decide_eq_true (by omega)
    have hz2 : decide (100 < (s.size : Int)) = true := decide_eq_true (by omega)
    go_enter Tryd.func4, Tryd.ntmps4
    go_wp2_with (first
      | (go_at_call 7; with_reducible refine (C_wakes _ (Laid.below hL (by repeat (first | (with_reducible first | exact HB.out | apply below_alloc | apply pw_below_drewN | apply below_drew1) | exact HB.out)))).mono ?_; rintro e w' ⟨rfl, hb⟩; (have n0_ := Aside0.mk (below_step (by repeat (first | (with_reducible first | exact HB.out | apply below_alloc | apply pw_below_drewN | apply below_drew1) | exact HB.out)) hb); clear HB; have HB := n0_; clear n0_ hb)))
    go_ret
    exact ⟨rfl, HB.out⟩
end Go.Proofs.YtdelhnpolibjmaaDoor.P
