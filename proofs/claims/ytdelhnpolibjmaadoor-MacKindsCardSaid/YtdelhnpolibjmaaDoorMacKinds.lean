/- The walk of MacKinds: it answers true; no condition but the range. -/
import Derived.Test.YtdelhnpolibjmaaDoorMacCalls
namespace Go.Proofs.YtdelhnpolibjmaaDoor.P
open Go.RowKit Go.Proofs.YtdelhnpolibjmaaDoorW.PrintWords Go.Proofs.YtdelhnpolibjmaaDoor.X Go.Proofs.YtdelhnpolibjmaaDoor.Plain Go.Proofs.YtdelhnpolibjmaaDoor
set_option linter.unusedVariables false
set_option linter.unusedSimpArgs false
set_option maxHeartbeats 8000000 in
theorem MacKinds_walk (a : Int) (h0 : 0 ≤ a) (h1 : a ≤ 18446744073709551615) (w : World) (hL : Laid w) :
    Calls Tryd.prog 5 #[.int .u64 a] w fun e w' => e = .returned (.bool true) ∧ Below w.heap.size w w' := by
  have HB := Aside0.mk (Below.refl w.heap.size w)
  obtain ⟨n, hn⟩ : ∃ n : Nat, a % 281474976710656 = (n : Int) := ⟨(a % 281474976710656).toNat, by omega⟩
  have n1 : n < 281474976710656 := by omega
  obtain ⟨x, hx, x1, x2⟩ := xor_40 n n1
  have hm : IntKind.u64.wrap ((n : Int) + 281474976710656) = ((n + 281474976710656 : Nat) : Int) := by rw [wraps_u64 _ (by omega) (by omega)]; omega
  have m1 : n + 281474976710656 < 18446744073709551616 := by omega
  have G1 := C_good n
  have G2 := C_good (n + 281474976710656)
  have G3 := C_group n (by omega)
  have G4 := C_group x (by omega)
  have G5 := C_group (n + 281474976710656) (by omega)
  have G6 := C_kept n (by omega)
  have G7 := C_kept (n + 281474976710656) (by omega)
  have G8 := C_text n (by omega)
  have G9 := C_text (n + 281474976710656) (by omega)
  have G10 := C_bytes n (by omega)
  have G11 := C_bytes (n + 281474976710656) (by omega)
  rw [gd, decide_eq_true n1] at G1
  rw [gd, decide_eq_false (show ¬ n + 281474976710656 < 281474976710656 by omega)] at G2
  rw [x2] at G4
  rw [gr, gd, decide_eq_false (show ¬ n + 281474976710656 < 281474976710656 by omega), Bool.false_and] at G5
  rw [kp, decide_eq_false (by omega)] at G7
  rw [textOf, if_pos n1] at G8
  rw [textOf, if_neg (show ¬ n + 281474976710656 < 281474976710656 by omega)] at G9
  have E1 : ∀ (x y : Operand) (W : World), (eqGuard .eql 25 x y (bytesV n) (bytesV n)).run Tryd.prog W = .ok () W := fun x y W => bytes_guard x y _ _ W
  have E2 : ∀ (W : World), (binOp .eql 25 (bytesV n) (bytesV n)).run Tryd.prog W = .ok (.bool true) W := fun W => bytes_eql _ _ _ _ _ _ W
  have hbb : bytesV (n + 281474976710656) = bytesV n := by
    unfold bytesV
    rw [show ((n + 281474976710656 : Nat) : Int) / 1099511627776 % 256 = (n : Int) / 1099511627776 % 256 by omega, show ((n + 281474976710656 : Nat) : Int) / 4294967296 % 256 = (n : Int) / 4294967296 % 256 by omega, show ((n + 281474976710656 : Nat) : Int) / 16777216 % 256 = (n : Int) / 16777216 % 256 by omega,
      show ((n + 281474976710656 : Nat) : Int) / 65536 % 256 = (n : Int) / 65536 % 256 by omega, show ((n + 281474976710656 : Nat) : Int) / 256 % 256 = (n : Int) / 256 % 256 by omega, show ((n + 281474976710656 : Nat) : Int) % 256 = (n : Int) % 256 by omega]
  rw [hbb] at G11
  have hs17 : (B (macText n)).size = 17 := by rw [B_size, macText_length]
  have hs0 : (B []).toList = [] := B_toList _
  have hkg : kp n = true → gr n = true := by
    unfold kp gr gd
    rw [decide_eq_true n1]
    simp only [decide_eq_true_eq, Bool.true_and]
    omega
  generalize hM : n + 281474976710656 = m at hm m1 G2 G5 G7 G9 G11
  generalize kp n = kv at hkg G6
  generalize gr n = gv at hkg G3 G4
  clear hM x2 hbb
  have hcases : (kv = true ∧ gv = true) ∨ (kv = false ∧ gv = true) ∨ (kv = false ∧ gv = false) := by
    cases kv <;> cases gv <;> simp_all
  clear hkg
  rcases hcases with ⟨rfl, rfl⟩ | ⟨rfl, rfl⟩ | ⟨rfl, rfl⟩
  · go_enter Tryd.func5, Tryd.ntmps5
    go_wp2_with (first
      | (go_at_call 17; (first | (with_reducible refine (G6 _ (Laid.below hL (by repeat (first | (with_reducible first | exact HB.out | apply below_alloc | apply pw_below_drewN | apply below_drew1) | exact HB.out)))).mono ?_) | (with_reducible refine (G7 _ (Laid.below hL (by repeat (first | (with_reducible first | exact HB.out | apply below_alloc | apply pw_below_drewN | apply below_drew1) | exact HB.out)))).mono ?_)); rintro e w' ⟨rfl, ⟨nd, rfl⟩⟩)
      | (go_at_call 15; (first | (with_reducible refine (G3 _ (Laid.below hL (by repeat (first | (with_reducible first | exact HB.out | apply below_alloc | apply pw_below_drewN | apply below_drew1) | exact HB.out)))).mono ?_) | (with_reducible refine (G4 _ (Laid.below hL (by repeat (first | (with_reducible first | exact HB.out | apply below_alloc | apply pw_below_drewN | apply below_drew1) | exact HB.out)))).mono ?_) | (with_reducible refine (G5 _ (Laid.below hL (by repeat (first | (with_reducible first | exact HB.out | apply below_alloc | apply pw_below_drewN | apply below_drew1) | exact HB.out)))).mono ?_)); rintro e w' ⟨rfl, ⟨nd, rfl⟩⟩)
      | (go_at_call 13; (first | (with_reducible refine (G1 _ (Laid.below hL (by repeat (first | (with_reducible first | exact HB.out | apply below_alloc | apply pw_below_drewN | apply below_drew1) | exact HB.out)))).mono ?_) | (with_reducible refine (G2 _ (Laid.below hL (by repeat (first | (with_reducible first | exact HB.out | apply below_alloc | apply pw_below_drewN | apply below_drew1) | exact HB.out)))).mono ?_)); rintro e w' ⟨rfl, ⟨nd, rfl⟩⟩)
      | (go_at_call 21; (first | (with_reducible refine (G8 _ (Laid.below hL (by repeat (first | (with_reducible first | exact HB.out | apply below_alloc | apply pw_below_drewN | apply below_drew1) | exact HB.out)))).mono ?_) | (with_reducible refine (G9 _ (Laid.below hL (by repeat (first | (with_reducible first | exact HB.out | apply below_alloc | apply pw_below_drewN | apply below_drew1) | exact HB.out)))).mono ?_)); rintro e w' ⟨rfl, hb⟩; (have n0_ := Aside0.mk (below_step (by repeat (first | (with_reducible first | exact HB.out | apply below_alloc | apply pw_below_drewN | apply below_drew1) | exact HB.out)) hb); clear HB; have HB := n0_; clear n0_ hb))
      | (go_at_call 8; (first | (with_reducible refine (G10 _).mono ?_) | (with_reducible refine (G11 _).mono ?_)); rintro e w' ⟨rfl, hb⟩; (have n0_ := Aside0.mk (below_step (by repeat (first | (with_reducible first | exact HB.out | apply below_alloc | apply pw_below_drewN | apply below_drew1) | exact HB.out)) hb); clear HB; have HB := n0_; clear n0_ hb))
      | (go_at_call 7; with_reducible refine (C_wakes _ (Laid.below hL (by repeat (first | (with_reducible first | exact HB.out | apply below_alloc | apply pw_below_drewN | apply below_drew1) | exact HB.out)))).mono ?_; rintro e w' ⟨rfl, hb⟩; (have n0_ := Aside0.mk (below_step (by repeat (first | (with_reducible first | exact HB.out | apply below_alloc | apply pw_below_drewN | apply below_drew1) | exact HB.out)) hb); clear HB; have HB := n0_; clear n0_ hb)))
    go_ret
    exact ⟨rfl, HB.out⟩
  · go_enter Tryd.func5, Tryd.ntmps5
    go_wp2_with (first
      | (go_at_call 17; (first | (with_reducible refine (G6 _ (Laid.below hL (by repeat (first | (with_reducible first | exact HB.out | apply below_alloc | apply pw_below_drewN | apply below_drew1) | exact HB.out)))).mono ?_) | (with_reducible refine (G7 _ (Laid.below hL (by repeat (first | (with_reducible first | exact HB.out | apply below_alloc | apply pw_below_drewN | apply below_drew1) | exact HB.out)))).mono ?_)); rintro e w' ⟨rfl, ⟨nd, rfl⟩⟩)
      | (go_at_call 15; (first | (with_reducible refine (G3 _ (Laid.below hL (by repeat (first | (with_reducible first | exact HB.out | apply below_alloc | apply pw_below_drewN | apply below_drew1) | exact HB.out)))).mono ?_) | (with_reducible refine (G4 _ (Laid.below hL (by repeat (first | (with_reducible first | exact HB.out | apply below_alloc | apply pw_below_drewN | apply below_drew1) | exact HB.out)))).mono ?_) | (with_reducible refine (G5 _ (Laid.below hL (by repeat (first | (with_reducible first | exact HB.out | apply below_alloc | apply pw_below_drewN | apply below_drew1) | exact HB.out)))).mono ?_)); rintro e w' ⟨rfl, ⟨nd, rfl⟩⟩)
      | (go_at_call 13; (first | (with_reducible refine (G1 _ (Laid.below hL (by repeat (first | (with_reducible first | exact HB.out | apply below_alloc | apply pw_below_drewN | apply below_drew1) | exact HB.out)))).mono ?_) | (with_reducible refine (G2 _ (Laid.below hL (by repeat (first | (with_reducible first | exact HB.out | apply below_alloc | apply pw_below_drewN | apply below_drew1) | exact HB.out)))).mono ?_)); rintro e w' ⟨rfl, ⟨nd, rfl⟩⟩)
      | (go_at_call 21; (first | (with_reducible refine (G8 _ (Laid.below hL (by repeat (first | (with_reducible first | exact HB.out | apply below_alloc | apply pw_below_drewN | apply below_drew1) | exact HB.out)))).mono ?_) | (with_reducible refine (G9 _ (Laid.below hL (by repeat (first | (with_reducible first | exact HB.out | apply below_alloc | apply pw_below_drewN | apply below_drew1) | exact HB.out)))).mono ?_)); rintro e w' ⟨rfl, hb⟩; (have n0_ := Aside0.mk (below_step (by repeat (first | (with_reducible first | exact HB.out | apply below_alloc | apply pw_below_drewN | apply below_drew1) | exact HB.out)) hb); clear HB; have HB := n0_; clear n0_ hb))
      | (go_at_call 8; (first | (with_reducible refine (G10 _).mono ?_) | (with_reducible refine (G11 _).mono ?_)); rintro e w' ⟨rfl, hb⟩; (have n0_ := Aside0.mk (below_step (by repeat (first | (with_reducible first | exact HB.out | apply below_alloc | apply pw_below_drewN | apply below_drew1) | exact HB.out)) hb); clear HB; have HB := n0_; clear n0_ hb))
      | (go_at_call 7; with_reducible refine (C_wakes _ (Laid.below hL (by repeat (first | (with_reducible first | exact HB.out | apply below_alloc | apply pw_below_drewN | apply below_drew1) | exact HB.out)))).mono ?_; rintro e w' ⟨rfl, hb⟩; (have n0_ := Aside0.mk (below_step (by repeat (first | (with_reducible first | exact HB.out | apply below_alloc | apply pw_below_drewN | apply below_drew1) | exact HB.out)) hb); clear HB; have HB := n0_; clear n0_ hb)))
    go_ret
    exact ⟨rfl, HB.out⟩
  · go_enter Tryd.func5, Tryd.ntmps5
    go_wp2_with (first
      | (go_at_call 17; (first | (with_reducible refine (G6 _ (Laid.below hL (by repeat (first | (with_reducible first | exact HB.out | apply below_alloc | apply pw_below_drewN | apply below_drew1) | exact HB.out)))).mono ?_) | (with_reducible refine (G7 _ (Laid.below hL (by repeat (first | (with_reducible first | exact HB.out | apply below_alloc | apply pw_below_drewN | apply below_drew1) | exact HB.out)))).mono ?_)); rintro e w' ⟨rfl, ⟨nd, rfl⟩⟩)
      | (go_at_call 15; (first | (with_reducible refine (G3 _ (Laid.below hL (by repeat (first | (with_reducible first | exact HB.out | apply below_alloc | apply pw_below_drewN | apply below_drew1) | exact HB.out)))).mono ?_) | (with_reducible refine (G4 _ (Laid.below hL (by repeat (first | (with_reducible first | exact HB.out | apply below_alloc | apply pw_below_drewN | apply below_drew1) | exact HB.out)))).mono ?_) | (with_reducible refine (G5 _ (Laid.below hL (by repeat (first | (with_reducible first | exact HB.out | apply below_alloc | apply pw_below_drewN | apply below_drew1) | exact HB.out)))).mono ?_)); rintro e w' ⟨rfl, ⟨nd, rfl⟩⟩)
      | (go_at_call 13; (first | (with_reducible refine (G1 _ (Laid.below hL (by repeat (first | (with_reducible first | exact HB.out | apply below_alloc | apply pw_below_drewN | apply below_drew1) | exact HB.out)))).mono ?_) | (with_reducible refine (G2 _ (Laid.below hL (by repeat (first | (with_reducible first | exact HB.out | apply below_alloc | apply pw_below_drewN | apply below_drew1) | exact HB.out)))).mono ?_)); rintro e w' ⟨rfl, ⟨nd, rfl⟩⟩)
      | (go_at_call 21; (first | (with_reducible refine (G8 _ (Laid.below hL (by repeat (first | (with_reducible first | exact HB.out | apply below_alloc | apply pw_below_drewN | apply below_drew1) | exact HB.out)))).mono ?_) | (with_reducible refine (G9 _ (Laid.below hL (by repeat (first | (with_reducible first | exact HB.out | apply below_alloc | apply pw_below_drewN | apply below_drew1) | exact HB.out)))).mono ?_)); rintro e w' ⟨rfl, hb⟩; (have n0_ := Aside0.mk (below_step (by repeat (first | (with_reducible first | exact HB.out | apply below_alloc | apply pw_below_drewN | apply below_drew1) | exact HB.out)) hb); clear HB; have HB := n0_; clear n0_ hb))
      | (go_at_call 8; (first | (with_reducible refine (G10 _).mono ?_) | (with_reducible refine (G11 _).mono ?_)); rintro e w' ⟨rfl, hb⟩; (have n0_ := Aside0.mk (below_step (by repeat (first | (with_reducible first | exact HB.out | apply below_alloc | apply pw_below_drewN | apply below_drew1) | exact HB.out)) hb); clear HB; have HB := n0_; clear n0_ hb))
      | (go_at_call 7; with_reducible refine (C_wakes _ (Laid.below hL (by repeat (first | (with_reducible first | exact HB.out | apply below_alloc | apply pw_below_drewN | apply below_drew1) | exact HB.out)))).mono ?_; rintro e w' ⟨rfl, hb⟩; (have n0_ := Aside0.mk (below_step (by repeat (first | (with_reducible first | exact HB.out | apply below_alloc | apply pw_below_drewN | apply below_drew1) | exact HB.out)) hb); clear HB; have HB := n0_; clear n0_ hb)))
    go_ret
    exact ⟨rfl, HB.out⟩
end Go.Proofs.YtdelhnpolibjmaaDoor.P
