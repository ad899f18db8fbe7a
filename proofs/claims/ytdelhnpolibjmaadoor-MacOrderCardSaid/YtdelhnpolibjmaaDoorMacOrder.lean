/- The walk of MacOrder: it answers true; no condition but the ranges. -/
import Derived.Test.YtdelhnpolibjmaaDoorMacSix
import Derived.Test.YtdelhnpolibjmaaDoorMacLess
namespace Go.Proofs.YtdelhnpolibjmaaDoor.P
open Go.RowKit Go.Proofs.YtdelhnpolibjmaaDoorW.PrintWords Go.Proofs.YtdelhnpolibjmaaDoor.X Go.Proofs.YtdelhnpolibjmaaDoor.Plain Go.Proofs.YtdelhnpolibjmaaDoor
set_option linter.unusedVariables false
set_option linter.unusedSimpArgs false

set_option maxHeartbeats 8000000 in
theorem MacOrder_walk (a b : Int) (h0 : 0 ≤ a) (h1 : a ≤ 18446744073709551615) (k0 : 0 ≤ b) (k1 : b ≤ 18446744073709551615) (w : World) (hL : Laid w) :
    Calls Tryd.prog 6 #[.int .u64 a, .int .u64 b] w fun e w' => e = .returned (.bool true) ∧ Below w.heap.size w w' := by
  have HB := Aside0.mk (Below.refl w.heap.size w)
  obtain ⟨n, hn⟩ : ∃ n : Nat, a % 281474976710656 = (n : Int) := ⟨(a % 281474976710656).toNat, by omega⟩
  have n1 : n < 281474976710656 := by omega
  obtain ⟨m, hm⟩ : ∃ m : Nat, b % 281474976710656 = (m : Int) := ⟨(b % 281474976710656).toNat, by omega⟩
  have m1 : m < 281474976710656 := by omega
  have G1 := C_bytes n (by omega)
  have G2 := C_bytes m (by omega)
  have G3 := C_text n (by omega)
  have G4 := C_text m (by omega)
  unfold bytesV at G1 G2
  rw [textOf, if_pos n1] at G3
  rw [textOf, if_pos m1] at G4
  go_enter Tryd.func6, Tryd.ntmps6
  go_wp2_with (first
    | (go_at_call 21; (first | (with_reducible refine (G3 _ (Laid.below hL (by repeat (first | (with_reducible first | exact HB.out | apply below_alloc | apply pw_below_drewN | apply below_drew1) | exact HB.out)))).mono ?_) | (with_reducible refine (G4 _ (Laid.below hL (by repeat (first | (with_reducible first | exact HB.out | apply below_alloc | apply pw_below_drewN | apply below_drew1) | exact HB.out)))).mono ?_)); rintro e w' ⟨rfl, hb⟩; (have n0_ := Aside0.mk (below_step (by repeat (first | (with_reducible first | exact HB.out | apply below_alloc | apply pw_below_drewN | apply below_drew1) | exact HB.out)) hb); clear HB; have HB := n0_; clear n0_ hb))
    | (go_at_call 8; (first | (with_reducible refine (G1 _).mono ?_) | (with_reducible refine (G2 _).mono ?_)); rintro e w' ⟨rfl, hb⟩; (have n0_ := Aside0.mk (below_step (by repeat (first | (with_reducible first | exact HB.out | apply below_alloc | apply pw_below_drewN | apply below_drew1) | exact HB.out)) hb); clear HB; have HB := n0_; clear n0_ hb))
    | (go_at_call 7; with_reducible refine (C_wakes _ (Laid.below hL (by repeat (first | (with_reducible first | exact HB.out | apply below_alloc | apply pw_below_drewN | apply below_drew1) | exact HB.out)))).mono ?_; rintro e w' ⟨rfl, hb⟩; (have n0_ := Aside0.mk (below_step (by repeat (first | (with_reducible first | exact HB.out | apply below_alloc | apply pw_below_drewN | apply below_drew1) | exact HB.out)) hb); clear HB; have HB := n0_; clear n0_ hb)))
  have CA := Kd.C_alloc (C_six w' 25 ((n : Int) / 1099511627776 % 256) ((n : Int) / 4294967296 % 256) ((n : Int) / 16777216 % 256) ((n : Int) / 65536 % 256) ((n : Int) / 256 % 256) ((n : Int) % 256)) (.cells #[.int .u8 ((m : Int) / 1099511627776 % 256), .int .u8 ((m : Int) / 4294967296 % 256), .int .u8 ((m : Int) / 16777216 % 256), .int .u8 ((m : Int) / 65536 % 256), .int .u8 ((m : Int) / 256 % 256), .int .u8 ((m : Int) % 256)] 25)
  have CB := C_six (w'.alloc (.cells #[.int .u8 ((n : Int) / 1099511627776 % 256), .int .u8 ((n : Int) / 4294967296 % 256), .int .u8 ((n : Int) / 16777216 % 256), .int .u8 ((n : Int) / 65536 % 256), .int .u8 ((n : Int) / 256 % 256), .int .u8 ((n : Int) % 256)] 25)) 25 ((m : Int) / 1099511627776 % 256) ((m : Int) / 4294967296 % 256) ((m : Int) / 16777216 % 256) ((m : Int) / 65536 % 256) ((m : Int) / 256 % 256) ((m : Int) % 256)
  rw [World.size_alloc] at CB
  rw [← ints_macBytes] at CA CB
  have HB1 := Aside0.mk (below_alloc (below_alloc HB.out (.cells #[.int .u8 ((n : Int) / 1099511627776 % 256), .int .u8 ((n : Int) / 4294967296 % 256), .int .u8 ((n : Int) / 16777216 % 256), .int .u8 ((n : Int) / 65536 % 256), .int .u8 ((n : Int) / 256 % 256), .int .u8 ((n : Int) % 256)] 25)) (.cells #[.int .u8 ((m : Int) / 1099511627776 % 256), .int .u8 ((m : Int) / 4294967296 % 256), .int .u8 ((m : Int) / 16777216 % 256), .int .u8 ((m : Int) / 65536 % 256), .int .u8 ((m : Int) / 256 % 256), .int .u8 ((m : Int) % 256)] 25))
  clear G1 G2
  generalize (w'.alloc (Obj.cells #[Value.int .u8 ((n : Int) / 1099511627776 % 256), Value.int .u8 ((n : Int) / 4294967296 % 256), Value.int .u8 ((n : Int) / 16777216 % 256), Value.int .u8 ((n : Int) / 65536 % 256), Value.int .u8 ((n : Int) / 256 % 256), Value.int .u8 ((n : Int) % 256)] 25)).alloc (Obj.cells #[Value.int .u8 ((m : Int) / 1099511627776 % 256), Value.int .u8 ((m : Int) / 4294967296 % 256), Value.int .u8 ((m : Int) / 16777216 % 256), Value.int .u8 ((m : Int) / 65536 % 256), Value.int .u8 ((m : Int) / 256 % 256), Value.int .u8 ((m : Int) % 256)] 25) = W at CA CB HB1 ⊢
  clear HB
  have HB := HB1
  clear HB1
  have CA := Aside0.mk CA
  have CB := Aside0.mk CB
  obtain ⟨ls, LN, LT, LI, LB⟩ : ∃ ls : Bool, decide (n < m) = ls ∧ Op.bytesLess (B (macText n)).toList (B (macText m)).toList = ls ∧ decide ((n : Int) < (m : Int)) = ls ∧ Op.bytesLess (strOfNums (ints (macBytes n))).toList (strOfNums (ints (macBytes m))).toList = ls :=
    ⟨decide (n < m), rfl, by rw [B_toList, B_toList]; exact less_macText n1 m1, by by_cases h : n < m <;> simp [h], less_bytes n1 m1⟩
  cases ls
  · refine wp_region_any (by kernel_rfl) ?_
    try (change wpAny _ _ _ _ _ _ _ (World.drew _))
    refine wpAny_take (i := 0) (v := ?vf0) rfl (by kernel_rfl) (by kernel_rfl) (by kernel_rfl) (fun _ _ _ h => h) (Or.inl ⟨by kernel_rfl, ?hyf0⟩) ?restf0
    case hyf0 => (intro w; first | (go_simp; done) | (go_simp; with_reducible rfl))
    refine wpAny_take (i := 2) (v := ?vf2) rfl (by kernel_rfl) (by kernel_rfl) (by kernel_rfl) (fun _ _ _ h => h) (Or.inl ⟨by kernel_rfl, ?hyf2⟩) ?restf2
    case hyf2 => (intro w; first | (go_simp; done) | (go_simp; with_reducible rfl))
    refine wpAny_take (i := 5) (v := ?vf5) rfl (by kernel_rfl) (by kernel_rfl) (by kernel_rfl) (fun _ _ _ h => h) (Or.inl ⟨by kernel_rfl, ?hyf5⟩) ?restf5
    case hyf5 => (intro w; first | (go_simp; done) | (go_simp; with_reducible rfl))
    refine wpAny_take (i := 6) (v := ?vf6) rfl (by kernel_rfl) (by kernel_rfl) (by kernel_rfl) (fun _ _ _ h => h) (Or.inl ⟨by kernel_rfl, ?hyf6⟩) ?restf6
    case hyf6 => (intro w; first | (go_simp; done) | (go_simp; with_reducible rfl))
    refine wpAny_take (i := 7) (v := ?vf7) rfl (by kernel_rfl) (by kernel_rfl) (by kernel_rfl) (fun _ _ _ h => h) (Or.inl ⟨by kernel_rfl, ?hyf7⟩) ?restf7
    case hyf7 => (intro w; first | (go_simp; done) | (go_simp; with_reducible rfl))
    refine wpAny_ready (rs := [1]) (by kernel_rfl) (by simp) ?_
    refine AllReady.cons rfl (fun K hK => ?_) AllReady.nil
    go_simp
    go_wp2_with (first | (go_at_call 21; (first | (with_reducible refine (G3 _ (Laid.below hL (by repeat (first | (with_reducible first | exact HB.out | apply below_alloc | apply pw_below_drewN | apply below_drew1) | exact HB.out)))).mono ?_) | (with_reducible refine (G4 _ (Laid.below hL (by repeat (first | (with_reducible first | exact HB.out | apply below_alloc | apply pw_below_drewN | apply below_drew1) | exact HB.out)))).mono ?_)); rintro e w'' ⟨rfl, hb⟩; (have n1_ := Aside0.mk (Kd.C_below (by repeat (first | exact CA.out | (with_reducible refine Kd.C_alloc ?_ _) | (with_reducible refine Kd.C_drewN ?_ _) | (with_reducible refine Kd.C_drew ?_))) hb); have n2_ := Aside0.mk (Kd.C_below (by repeat (first | exact CB.out | (with_reducible refine Kd.C_alloc ?_ _) | (with_reducible refine Kd.C_drewN ?_ _) | (with_reducible refine Kd.C_drew ?_))) hb); clear CA CB; have CA := n1_; have CB := n2_; clear n1_ n2_; have cvA := Kd.C_string (P := Tryd.prog) (c := 6) Tryd.underlying23 Tryd.underlying5 Tryd.underlying9 CA.out; have cvB := Kd.C_string (P := Tryd.prog) (c := 6) Tryd.underlying23 Tryd.underlying5 Tryd.underlying9 CB.out); (have n0_ := Aside0.mk (below_step (by repeat (first | (with_reducible first | exact HB.out | apply below_alloc | apply pw_below_drewN | apply below_drew1) | exact HB.out)) hb); clear HB; have HB := n0_; clear n0_ hb)) | (go_at_call 7; with_reducible refine (C_wakes _ (Laid.below hL (by repeat (first | (with_reducible first | exact HB.out | apply below_alloc | apply pw_below_drewN | apply below_drew1) | exact HB.out)))).mono ?_; rintro e w'' ⟨rfl, hb⟩; (have n0_ := Aside0.mk (below_step (by repeat (first | (with_reducible first | exact HB.out | apply below_alloc | apply pw_below_drewN | apply below_drew1) | exact HB.out)) hb); clear HB; have HB := n0_; clear n0_ hb)))
    (first | (refine hK _ _ ?_; clear hK K) | skip)
    refine wpAny_ready (rs := [3]) (by kernel_rfl) (by simp) ?_
    refine AllReady.cons rfl (fun K hK => ?_) AllReady.nil
    go_simp
    go_wp2_with (first | (go_at_call 21; (first | (with_reducible refine (G3 _ (Laid.below hL (by repeat (first | (with_reducible first | exact HB.out | apply below_alloc | apply pw_below_drewN | apply below_drew1) | exact HB.out)))).mono ?_) | (with_reducible refine (G4 _ (Laid.below hL (by repeat (first | (with_reducible first | exact HB.out | apply below_alloc | apply pw_below_drewN | apply below_drew1) | exact HB.out)))).mono ?_)); rintro e w'' ⟨rfl, hb⟩; (have n1_ := Aside0.mk (Kd.C_below (by repeat (first | exact CA.out | (with_reducible refine Kd.C_alloc ?_ _) | (with_reducible refine Kd.C_drewN ?_ _) | (with_reducible refine Kd.C_drew ?_))) hb); have n2_ := Aside0.mk (Kd.C_below (by repeat (first | exact CB.out | (with_reducible refine Kd.C_alloc ?_ _) | (with_reducible refine Kd.C_drewN ?_ _) | (with_reducible refine Kd.C_drew ?_))) hb); clear CA CB; have CA := n1_; have CB := n2_; clear n1_ n2_; have cvA := Kd.C_string (P := Tryd.prog) (c := 6) Tryd.underlying23 Tryd.underlying5 Tryd.underlying9 CA.out; have cvB := Kd.C_string (P := Tryd.prog) (c := 6) Tryd.underlying23 Tryd.underlying5 Tryd.underlying9 CB.out); (have n0_ := Aside0.mk (below_step (by repeat (first | (with_reducible first | exact HB.out | apply below_alloc | apply pw_below_drewN | apply below_drew1) | exact HB.out)) hb); clear HB; have HB := n0_; clear n0_ hb)) | (go_at_call 7; with_reducible refine (C_wakes _ (Laid.below hL (by repeat (first | (with_reducible first | exact HB.out | apply below_alloc | apply pw_below_drewN | apply below_drew1) | exact HB.out)))).mono ?_; rintro e w'' ⟨rfl, hb⟩; (have n0_ := Aside0.mk (below_step (by repeat (first | (with_reducible first | exact HB.out | apply below_alloc | apply pw_below_drewN | apply below_drew1) | exact HB.out)) hb); clear HB; have HB := n0_; clear n0_ hb)))
    (first | (refine hK _ _ ?_; clear hK K) | skip)
    refine wpAny_take (i := 4) (v := ?vf4) rfl (by kernel_rfl) (by kernel_rfl) (by kernel_rfl) (fun _ _ _ h => h) (Or.inl ⟨by kernel_rfl, ?hyf4⟩) ?restf4
    case hyf4 => (intro w; first | (go_simp; done) | (go_simp; with_reducible rfl))
    refine wpAny_take (i := 8) (v := ?vf8) rfl (by kernel_rfl) (by kernel_rfl) (by kernel_rfl) (fun _ _ _ h => h) (Or.inl ⟨by kernel_rfl, ?hyf8⟩) ?restf8
    case hyf8 => (intro w; first | (go_simp; done) | (go_simp; with_reducible rfl))
    refine wpAny_take (i := 9) (v := ?vf9) rfl (by kernel_rfl) (by kernel_rfl) (by kernel_rfl) (fun _ _ _ h => h) (Or.inl ⟨by kernel_rfl, ?hyf9⟩) ?restf9
    case hyf9 => (intro w; first | (go_simp; done) | (go_simp; with_reducible rfl))
    refine wpAny_take (i := 10) (v := ?vf10) rfl (by kernel_rfl) (by kernel_rfl) (by kernel_rfl) (fun _ _ _ h => h) (Or.inl ⟨by kernel_rfl, ?hyf10⟩) ?restf10
    case hyf10 => (intro w; first | (go_simp; done) | (go_simp; with_reducible rfl))
    refine wpAny_take (i := 12) (v := ?vf12) rfl (by kernel_rfl) (by kernel_rfl) (by kernel_rfl) (fun _ _ _ h => h) (Or.inl ⟨by kernel_rfl, ?hyf12⟩) ?restf12
    case hyf12 => (intro w; first | (go_simp; done) | (go_simp; with_reducible rfl))
    refine wpAny_take (i := 15) (v := ?vf15) rfl (by kernel_rfl) (by kernel_rfl) (by kernel_rfl) (fun _ _ _ h => h) (Or.inl ⟨by kernel_rfl, ?hyf15⟩) ?restf15
    case hyf15 => (intro w; first | (go_simp; done) | (go_simp; with_reducible rfl))
    refine wpAny_take (i := 16) (v := ?vf16) rfl (by kernel_rfl) (by kernel_rfl) (by kernel_rfl) (fun _ _ _ h => h) (Or.inl ⟨by kernel_rfl, ?hyf16⟩) ?restf16
    case hyf16 => (intro w; first | (go_simp; done) | (go_simp; with_reducible rfl))
    refine wpAny_take (i := 17) (v := ?vf17) rfl (by kernel_rfl) (by kernel_rfl) (by kernel_rfl) (fun _ _ _ h => h) (Or.inl ⟨by kernel_rfl, ?hyf17⟩) ?restf17
    case hyf17 => (intro w; first | (go_simp; done) | (go_simp; with_reducible rfl))
    refine wpAny_ready (rs := [11, 13]) (by kernel_rfl) (by simp) ?_
    refine AllReady.cons rfl (fun K hK => ?_) (AllReady.cons rfl (fun K hK => ?_) AllReady.nil)
    · go_simp
      (first | (refine hK _ _ ?_; clear hK K) | skip)
      refine wpAny_ready (rs := [13]) (by kernel_rfl) (by simp) ?_
      refine AllReady.cons rfl (fun K hK => ?_) AllReady.nil
      go_simp
      (first | (refine hK _ _ ?_; clear hK K) | skip)
      refine wpAny_take (i := 14) (v := ?vfa14) rfl (by kernel_rfl) (by kernel_rfl) (by kernel_rfl) (fun _ _ _ h => h) (Or.inl ⟨by kernel_rfl, ?hyfa14⟩) ?restfa14
      case hyfa14 => (intro w; first | (go_simp; done) | (go_simp; with_reducible rfl))
      refine wpAny_take (i := 18) (v := ?vfa18) rfl (by kernel_rfl) (by kernel_rfl) (by kernel_rfl) (fun _ _ _ h => h) (Or.inl ⟨by kernel_rfl, ?hyfa18⟩) ?restfa18
      case hyfa18 => (intro w; first | (go_simp; done) | (go_simp; with_reducible rfl))
      refine wpAny_take (i := 19) (v := ?vfa19) rfl (by kernel_rfl) (by kernel_rfl) (by kernel_rfl) (fun _ _ _ h => h) (Or.inl ⟨by kernel_rfl, ?hyfa19⟩) ?restfa19
      case hyfa19 => (intro w; first | (go_simp; done) | (go_simp; with_reducible rfl))
      refine wpAny_take (i := 20) (v := ?vfa20) rfl (by kernel_rfl) (by kernel_rfl) (by kernel_rfl) (fun _ _ _ h => h) (Or.inl ⟨by kernel_rfl, ?hyfa20⟩) ?restfa20
      case hyfa20 => (intro w; first | (go_simp; done) | (go_simp; with_reducible rfl))
      refine wpAny_ready (rs := [21]) (by kernel_rfl) (by simp) ?_
      refine AllReady.cons rfl (fun K hK => ?_) AllReady.nil
      go_simp
      go_wp2_with (first | (go_at_call 21; (first | (with_reducible refine (G3 _ (Laid.below hL (by repeat (first | (with_reducible first | exact HB.out | apply below_alloc | apply pw_below_drewN | apply below_drew1) | exact HB.out)))).mono ?_) | (with_reducible refine (G4 _ (Laid.below hL (by repeat (first | (with_reducible first | exact HB.out | apply below_alloc | apply pw_below_drewN | apply below_drew1) | exact HB.out)))).mono ?_)); rintro e w'' ⟨rfl, hb⟩; (have n1_ := Aside0.mk (Kd.C_below (by repeat (first | exact CA.out | (with_reducible refine Kd.C_alloc ?_ _) | (with_reducible refine Kd.C_drewN ?_ _) | (with_reducible refine Kd.C_drew ?_))) hb); have n2_ := Aside0.mk (Kd.C_below (by repeat (first | exact CB.out | (with_reducible refine Kd.C_alloc ?_ _) | (with_reducible refine Kd.C_drewN ?_ _) | (with_reducible refine Kd.C_drew ?_))) hb); clear CA CB; have CA := n1_; have CB := n2_; clear n1_ n2_; have cvA := Kd.C_string (P := Tryd.prog) (c := 6) Tryd.underlying23 Tryd.underlying5 Tryd.underlying9 CA.out; have cvB := Kd.C_string (P := Tryd.prog) (c := 6) Tryd.underlying23 Tryd.underlying5 Tryd.underlying9 CB.out); (have n0_ := Aside0.mk (below_step (by repeat (first | (with_reducible first | exact HB.out | apply below_alloc | apply pw_below_drewN | apply below_drew1) | exact HB.out)) hb); clear HB; have HB := n0_; clear n0_ hb)) | (go_at_call 7; with_reducible refine (C_wakes _ (Laid.below hL (by repeat (first | (with_reducible first | exact HB.out | apply below_alloc | apply pw_below_drewN | apply below_drew1) | exact HB.out)))).mono ?_; rintro e w'' ⟨rfl, hb⟩; (have n0_ := Aside0.mk (below_step (by repeat (first | (with_reducible first | exact HB.out | apply below_alloc | apply pw_below_drewN | apply below_drew1) | exact HB.out)) hb); clear HB; have HB := n0_; clear n0_ hb)))
      (first | (refine hK _ _ ?_; clear hK K) | skip)
      refine wpAny_take (i := 22) (v := ?vfa22) rfl (by kernel_rfl) (by kernel_rfl) (by kernel_rfl) (fun _ _ _ h => h) (Or.inl ⟨by kernel_rfl, ?hyfa22⟩) ?restfa22
      case hyfa22 => (intro w; first | (go_simp; done) | (go_simp; with_reducible rfl))
      refine wpAny_take (i := 23) (v := ?vfa23) rfl (by kernel_rfl) (by kernel_rfl) (by kernel_rfl) (fun _ _ _ h => h) (Or.inl ⟨by kernel_rfl, ?hyfa23⟩) ?restfa23
      case hyfa23 => (intro w; first | (go_simp; done) | (go_simp; with_reducible rfl))
      refine wpAny_done (by kernel_rfl) ?_ _
      go_wp2
      go_ret
      exact ⟨rfl, HB.out⟩
    · go_simp
      (first | (refine hK _ _ ?_; clear hK K) | skip)
      refine wpAny_ready (rs := [11]) (by kernel_rfl) (by simp) ?_
      refine AllReady.cons rfl (fun K hK => ?_) AllReady.nil
      go_simp
      (first | (refine hK _ _ ?_; clear hK K) | skip)
      refine wpAny_take (i := 14) (v := ?vfb14) rfl (by kernel_rfl) (by kernel_rfl) (by kernel_rfl) (fun _ _ _ h => h) (Or.inl ⟨by kernel_rfl, ?hyfb14⟩) ?restfb14
      case hyfb14 => (intro w; first | (go_simp; done) | (go_simp; with_reducible rfl))
      refine wpAny_take (i := 18) (v := ?vfb18) rfl (by kernel_rfl) (by kernel_rfl) (by kernel_rfl) (fun _ _ _ h => h) (Or.inl ⟨by kernel_rfl, ?hyfb18⟩) ?restfb18
      case hyfb18 => (intro w; first | (go_simp; done) | (go_simp; with_reducible rfl))
      refine wpAny_take (i := 19) (v := ?vfb19) rfl (by kernel_rfl) (by kernel_rfl) (by kernel_rfl) (fun _ _ _ h => h) (Or.inl ⟨by kernel_rfl, ?hyfb19⟩) ?restfb19
      case hyfb19 => (intro w; first | (go_simp; done) | (go_simp; with_reducible rfl))
      refine wpAny_take (i := 20) (v := ?vfb20) rfl (by kernel_rfl) (by kernel_rfl) (by kernel_rfl) (fun _ _ _ h => h) (Or.inl ⟨by kernel_rfl, ?hyfb20⟩) ?restfb20
      case hyfb20 => (intro w; first | (go_simp; done) | (go_simp; with_reducible rfl))
      refine wpAny_ready (rs := [21]) (by kernel_rfl) (by simp) ?_
      refine AllReady.cons rfl (fun K hK => ?_) AllReady.nil
      go_simp
      go_wp2_with (first | (go_at_call 21; (first | (with_reducible refine (G3 _ (Laid.below hL (by repeat (first | (with_reducible first | exact HB.out | apply below_alloc | apply pw_below_drewN | apply below_drew1) | exact HB.out)))).mono ?_) | (with_reducible refine (G4 _ (Laid.below hL (by repeat (first | (with_reducible first | exact HB.out | apply below_alloc | apply pw_below_drewN | apply below_drew1) | exact HB.out)))).mono ?_)); rintro e w'' ⟨rfl, hb⟩; (have n1_ := Aside0.mk (Kd.C_below (by repeat (first | exact CA.out | (with_reducible refine Kd.C_alloc ?_ _) | (with_reducible refine Kd.C_drewN ?_ _) | (with_reducible refine Kd.C_drew ?_))) hb); have n2_ := Aside0.mk (Kd.C_below (by repeat (first | exact CB.out | (with_reducible refine Kd.C_alloc ?_ _) | (with_reducible refine Kd.C_drewN ?_ _) | (with_reducible refine Kd.C_drew ?_))) hb); clear CA CB; have CA := n1_; have CB := n2_; clear n1_ n2_; have cvA := Kd.C_string (P := Tryd.prog) (c := 6) Tryd.underlying23 Tryd.underlying5 Tryd.underlying9 CA.out; have cvB := Kd.C_string (P := Tryd.prog) (c := 6) Tryd.underlying23 Tryd.underlying5 Tryd.underlying9 CB.out); (have n0_ := Aside0.mk (below_step (by repeat (first | (with_reducible first | exact HB.out | apply below_alloc | apply pw_below_drewN | apply below_drew1) | exact HB.out)) hb); clear HB; have HB := n0_; clear n0_ hb)) | (go_at_call 7; with_reducible refine (C_wakes _ (Laid.below hL (by repeat (first | (with_reducible first | exact HB.out | apply below_alloc | apply pw_below_drewN | apply below_drew1) | exact HB.out)))).mono ?_; rintro e w'' ⟨rfl, hb⟩; (have n0_ := Aside0.mk (below_step (by repeat (first | (with_reducible first | exact HB.out | apply below_alloc | apply pw_below_drewN | apply below_drew1) | exact HB.out)) hb); clear HB; have HB := n0_; clear n0_ hb)))
      (first | (refine hK _ _ ?_; clear hK K) | skip)
      refine wpAny_take (i := 22) (v := ?vfb22) rfl (by kernel_rfl) (by kernel_rfl) (by kernel_rfl) (fun _ _ _ h => h) (Or.inl ⟨by kernel_rfl, ?hyfb22⟩) ?restfb22
      case hyfb22 => (intro w; first | (go_simp; done) | (go_simp; with_reducible rfl))
      refine wpAny_take (i := 23) (v := ?vfb23) rfl (by kernel_rfl) (by kernel_rfl) (by kernel_rfl) (fun _ _ _ h => h) (Or.inl ⟨by kernel_rfl, ?hyfb23⟩) ?restfb23
      case hyfb23 => (intro w; first | (go_simp; done) | (go_simp; with_reducible rfl))
      refine wpAny_done (by kernel_rfl) ?_ _
      go_wp2
      go_ret
      exact ⟨rfl, HB.out⟩
  · refine wp_region_any (by kernel_rfl) ?_
    try (change wpAny _ _ _ _ _ _ _ (World.drew _))
    refine wpAny_take (i := 0) (v := ?vt0) rfl (by kernel_rfl) (by kernel_rfl) (by kernel_rfl) (fun _ _ _ h => h) (Or.inl ⟨by kernel_rfl, ?hyt0⟩) ?restt0
    case hyt0 => (intro w; first | (go_simp; done) | (go_simp; with_reducible rfl))
    refine wpAny_take (i := 2) (v := ?vt2) rfl (by kernel_rfl) (by kernel_rfl) (by kernel_rfl) (fun _ _ _ h => h) (Or.inl ⟨by kernel_rfl, ?hyt2⟩) ?restt2
    case hyt2 => (intro w; first | (go_simp; done) | (go_simp; with_reducible rfl))
    refine wpAny_take (i := 5) (v := ?vt5) rfl (by kernel_rfl) (by kernel_rfl) (by kernel_rfl) (fun _ _ _ h => h) (Or.inl ⟨by kernel_rfl, ?hyt5⟩) ?restt5
    case hyt5 => (intro w; first | (go_simp; done) | (go_simp; with_reducible rfl))
    refine wpAny_take (i := 6) (v := ?vt6) rfl (by kernel_rfl) (by kernel_rfl) (by kernel_rfl) (fun _ _ _ h => h) (Or.inl ⟨by kernel_rfl, ?hyt6⟩) ?restt6
    case hyt6 => (intro w; first | (go_simp; done) | (go_simp; with_reducible rfl))
    refine wpAny_take (i := 7) (v := ?vt7) rfl (by kernel_rfl) (by kernel_rfl) (by kernel_rfl) (fun _ _ _ h => h) (Or.inl ⟨by kernel_rfl, ?hyt7⟩) ?restt7
    case hyt7 => (intro w; first | (go_simp; done) | (go_simp; with_reducible rfl))
    refine wpAny_ready (rs := [1]) (by kernel_rfl) (by simp) ?_
    refine AllReady.cons rfl (fun K hK => ?_) AllReady.nil
    go_simp
    go_wp2_with (first | (go_at_call 21; (first | (with_reducible refine (G3 _ (Laid.below hL (by repeat (first | (with_reducible first | exact HB.out | apply below_alloc | apply pw_below_drewN | apply below_drew1) | exact HB.out)))).mono ?_) | (with_reducible refine (G4 _ (Laid.below hL (by repeat (first | (with_reducible first | exact HB.out | apply below_alloc | apply pw_below_drewN | apply below_drew1) | exact HB.out)))).mono ?_)); rintro e w'' ⟨rfl, hb⟩; (have n1_ := Aside0.mk (Kd.C_below (by repeat (first | exact CA.out | (with_reducible refine Kd.C_alloc ?_ _) | (with_reducible refine Kd.C_drewN ?_ _) | (with_reducible refine Kd.C_drew ?_))) hb); have n2_ := Aside0.mk (Kd.C_below (by repeat (first | exact CB.out | (with_reducible refine Kd.C_alloc ?_ _) | (with_reducible refine Kd.C_drewN ?_ _) | (with_reducible refine Kd.C_drew ?_))) hb); clear CA CB; have CA := n1_; have CB := n2_; clear n1_ n2_; have cvA := Kd.C_string (P := Tryd.prog) (c := 6) Tryd.underlying23 Tryd.underlying5 Tryd.underlying9 CA.out; have cvB := Kd.C_string (P := Tryd.prog) (c := 6) Tryd.underlying23 Tryd.underlying5 Tryd.underlying9 CB.out); (have n0_ := Aside0.mk (below_step (by repeat (first | (with_reducible first | exact HB.out | apply below_alloc | apply pw_below_drewN | apply below_drew1) | exact HB.out)) hb); clear HB; have HB := n0_; clear n0_ hb)) | (go_at_call 7; with_reducible refine (C_wakes _ (Laid.below hL (by repeat (first | (with_reducible first | exact HB.out | apply below_alloc | apply pw_below_drewN | apply below_drew1) | exact HB.out)))).mono ?_; rintro e w'' ⟨rfl, hb⟩; (have n0_ := Aside0.mk (below_step (by repeat (first | (with_reducible first | exact HB.out | apply below_alloc | apply pw_below_drewN | apply below_drew1) | exact HB.out)) hb); clear HB; have HB := n0_; clear n0_ hb)))
    (first | (refine hK _ _ ?_; clear hK K) | skip)
    refine wpAny_ready (rs := [3]) (by kernel_rfl) (by simp) ?_
    refine AllReady.cons rfl (fun K hK => ?_) AllReady.nil
    go_simp
    go_wp2_with (first | (go_at_call 21; (first | (with_reducible refine (G3 _ (Laid.below hL (by repeat (first | (with_reducible first | exact HB.out | apply below_alloc | apply pw_below_drewN | apply below_drew1) | exact HB.out)))).mono ?_) | (with_reducible refine (G4 _ (Laid.below hL (by repeat (first | (with_reducible first | exact HB.out | apply below_alloc | apply pw_below_drewN | apply below_drew1) | exact HB.out)))).mono ?_)); rintro e w'' ⟨rfl, hb⟩; (have n1_ := Aside0.mk (Kd.C_below (by repeat (first | exact CA.out | (with_reducible refine Kd.C_alloc ?_ _) | (with_reducible refine Kd.C_drewN ?_ _) | (with_reducible refine Kd.C_drew ?_))) hb); have n2_ := Aside0.mk (Kd.C_below (by repeat (first | exact CB.out | (with_reducible refine Kd.C_alloc ?_ _) | (with_reducible refine Kd.C_drewN ?_ _) | (with_reducible refine Kd.C_drew ?_))) hb); clear CA CB; have CA := n1_; have CB := n2_; clear n1_ n2_; have cvA := Kd.C_string (P := Tryd.prog) (c := 6) Tryd.underlying23 Tryd.underlying5 Tryd.underlying9 CA.out; have cvB := Kd.C_string (P := Tryd.prog) (c := 6) Tryd.underlying23 Tryd.underlying5 Tryd.underlying9 CB.out); (have n0_ := Aside0.mk (below_step (by repeat (first | (with_reducible first | exact HB.out | apply below_alloc | apply pw_below_drewN | apply below_drew1) | exact HB.out)) hb); clear HB; have HB := n0_; clear n0_ hb)) | (go_at_call 7; with_reducible refine (C_wakes _ (Laid.below hL (by repeat (first | (with_reducible first | exact HB.out | apply below_alloc | apply pw_below_drewN | apply below_drew1) | exact HB.out)))).mono ?_; rintro e w'' ⟨rfl, hb⟩; (have n0_ := Aside0.mk (below_step (by repeat (first | (with_reducible first | exact HB.out | apply below_alloc | apply pw_below_drewN | apply below_drew1) | exact HB.out)) hb); clear HB; have HB := n0_; clear n0_ hb)))
    (first | (refine hK _ _ ?_; clear hK K) | skip)
    refine wpAny_take (i := 4) (v := ?vt4) rfl (by kernel_rfl) (by kernel_rfl) (by kernel_rfl) (fun _ _ _ h => h) (Or.inl ⟨by kernel_rfl, ?hyt4⟩) ?restt4
    case hyt4 => (intro w; first | (go_simp; done) | (go_simp; with_reducible rfl))
    refine wpAny_take (i := 8) (v := ?vt8) rfl (by kernel_rfl) (by kernel_rfl) (by kernel_rfl) (fun _ _ _ h => h) (Or.inl ⟨by kernel_rfl, ?hyt8⟩) ?restt8
    case hyt8 => (intro w; first | (go_simp; done) | (go_simp; with_reducible rfl))
    refine wpAny_take (i := 9) (v := ?vt9) rfl (by kernel_rfl) (by kernel_rfl) (by kernel_rfl) (fun _ _ _ h => h) (Or.inl ⟨by kernel_rfl, ?hyt9⟩) ?restt9
    case hyt9 => (intro w; first | (go_simp; done) | (go_simp; with_reducible rfl))
    refine wpAny_take (i := 10) (v := ?vt10) rfl (by kernel_rfl) (by kernel_rfl) (by kernel_rfl) (fun _ _ _ h => h) (Or.inl ⟨by kernel_rfl, ?hyt10⟩) ?restt10
    case hyt10 => (intro w; first | (go_simp; done) | (go_simp; with_reducible rfl))
    refine wpAny_take (i := 12) (v := ?vt12) rfl (by kernel_rfl) (by kernel_rfl) (by kernel_rfl) (fun _ _ _ h => h) (Or.inl ⟨by kernel_rfl, ?hyt12⟩) ?restt12
    case hyt12 => (intro w; first | (go_simp; done) | (go_simp; with_reducible rfl))
    refine wpAny_take (i := 15) (v := ?vt15) rfl (by kernel_rfl) (by kernel_rfl) (by kernel_rfl) (fun _ _ _ h => h) (Or.inl ⟨by kernel_rfl, ?hyt15⟩) ?restt15
    case hyt15 => (intro w; first | (go_simp; done) | (go_simp; with_reducible rfl))
    refine wpAny_take (i := 16) (v := ?vt16) rfl (by kernel_rfl) (by kernel_rfl) (by kernel_rfl) (fun _ _ _ h => h) (Or.inl ⟨by kernel_rfl, ?hyt16⟩) ?restt16
    case hyt16 => (intro w; first | (go_simp; done) | (go_simp; with_reducible rfl))
    refine wpAny_take (i := 17) (v := ?vt17) rfl (by kernel_rfl) (by kernel_rfl) (by kernel_rfl) (fun _ _ _ h => h) (Or.inl ⟨by kernel_rfl, ?hyt17⟩) ?restt17
    case hyt17 => (intro w; first | (go_simp; done) | (go_simp; with_reducible rfl))
    refine wpAny_ready (rs := [11, 13]) (by kernel_rfl) (by simp) ?_
    refine AllReady.cons rfl (fun K hK => ?_) (AllReady.cons rfl (fun K hK => ?_) AllReady.nil)
    · go_simp
      (first | (refine hK _ _ ?_; clear hK K) | skip)
      refine wpAny_ready (rs := [13]) (by kernel_rfl) (by simp) ?_
      refine AllReady.cons rfl (fun K hK => ?_) AllReady.nil
      go_simp
      (first | (refine hK _ _ ?_; clear hK K) | skip)
      refine wpAny_take (i := 14) (v := ?vta14) rfl (by kernel_rfl) (by kernel_rfl) (by kernel_rfl) (fun _ _ _ h => h) (Or.inl ⟨by kernel_rfl, ?hyta14⟩) ?restta14
      case hyta14 => (intro w; first | (go_simp; done) | (go_simp; with_reducible rfl))
      refine wpAny_take (i := 18) (v := ?vta18) rfl (by kernel_rfl) (by kernel_rfl) (by kernel_rfl) (fun _ _ _ h => h) (Or.inl ⟨by kernel_rfl, ?hyta18⟩) ?restta18
      case hyta18 => (intro w; first | (go_simp; done) | (go_simp; with_reducible rfl))
      refine wpAny_take (i := 19) (v := ?vta19) rfl (by kernel_rfl) (by kernel_rfl) (by kernel_rfl) (fun _ _ _ h => h) (Or.inl ⟨by kernel_rfl, ?hyta19⟩) ?restta19
      case hyta19 => (intro w; first | (go_simp; done) | (go_simp; with_reducible rfl))
      refine wpAny_take (i := 20) (v := ?vta20) rfl (by kernel_rfl) (by kernel_rfl) (by kernel_rfl) (fun _ _ _ h => h) (Or.inl ⟨by kernel_rfl, ?hyta20⟩) ?restta20
      case hyta20 => (intro w; first | (go_simp; done) | (go_simp; with_reducible rfl))
      refine wpAny_ready (rs := [21]) (by kernel_rfl) (by simp) ?_
      refine AllReady.cons rfl (fun K hK => ?_) AllReady.nil
      go_simp
      go_wp2_with (first | (go_at_call 21; (first | (with_reducible refine (G3 _ (Laid.below hL (by repeat (first | (with_reducible first | exact HB.out | apply below_alloc | apply pw_below_drewN | apply below_drew1) | exact HB.out)))).mono ?_) | (with_reducible refine (G4 _ (Laid.below hL (by repeat (first | (with_reducible first | exact HB.out | apply below_alloc | apply pw_below_drewN | apply below_drew1) | exact HB.out)))).mono ?_)); rintro e w'' ⟨rfl, hb⟩; (have n1_ := Aside0.mk (Kd.C_below (by repeat (first | exact CA.out | (with_reducible refine Kd.C_alloc ?_ _) | (with_reducible refine Kd.C_drewN ?_ _) | (with_reducible refine Kd.C_drew ?_))) hb); have n2_ := Aside0.mk (Kd.C_below (by repeat (first | exact CB.out | (with_reducible refine Kd.C_alloc ?_ _) | (with_reducible refine Kd.C_drewN ?_ _) | (with_reducible refine Kd.C_drew ?_))) hb); clear CA CB; have CA := n1_; have CB := n2_; clear n1_ n2_; have cvA := Kd.C_string (P := Tryd.prog) (c := 6) Tryd.underlying23 Tryd.underlying5 Tryd.underlying9 CA.out; have cvB := Kd.C_string (P := Tryd.prog) (c := 6) Tryd.underlying23 Tryd.underlying5 Tryd.underlying9 CB.out); (have n0_ := Aside0.mk (below_step (by repeat (first | (with_reducible first | exact HB.out | apply below_alloc | apply pw_below_drewN | apply below_drew1) | exact HB.out)) hb); clear HB; have HB := n0_; clear n0_ hb)) | (go_at_call 7; with_reducible refine (C_wakes _ (Laid.below hL (by repeat (first | (with_reducible first | exact HB.out | apply below_alloc | apply pw_below_drewN | apply below_drew1) | exact HB.out)))).mono ?_; rintro e w'' ⟨rfl, hb⟩; (have n0_ := Aside0.mk (below_step (by repeat (first | (with_reducible first | exact HB.out | apply below_alloc | apply pw_below_drewN | apply below_drew1) | exact HB.out)) hb); clear HB; have HB := n0_; clear n0_ hb)))
      (first | (refine hK _ _ ?_; clear hK K) | skip)
      refine wpAny_take (i := 22) (v := ?vta22) rfl (by kernel_rfl) (by kernel_rfl) (by kernel_rfl) (fun _ _ _ h => h) (Or.inl ⟨by kernel_rfl, ?hyta22⟩) ?restta22
      case hyta22 => (intro w; first | (go_simp; done) | (go_simp; with_reducible rfl))
      refine wpAny_take (i := 23) (v := ?vta23) rfl (by kernel_rfl) (by kernel_rfl) (by kernel_rfl) (fun _ _ _ h => h) (Or.inl ⟨by kernel_rfl, ?hyta23⟩) ?restta23
      case hyta23 => (intro w; first | (go_simp; done) | (go_simp; with_reducible rfl))
      refine wpAny_done (by kernel_rfl) ?_ _
      go_wp2
      go_ret
      exact ⟨rfl, HB.out⟩
    · go_simp
      (first | (refine hK _ _ ?_; clear hK K) | skip)
      refine wpAny_ready (rs := [11]) (by kernel_rfl) (by simp) ?_
      refine AllReady.cons rfl (fun K hK => ?_) AllReady.nil
      go_simp
      (first | (refine hK _ _ ?_; clear hK K) | skip)
      refine wpAny_take (i := 14) (v := ?vtb14) rfl (by kernel_rfl) (by kernel_rfl) (by kernel_rfl) (fun _ _ _ h => h) (Or.inl ⟨by kernel_rfl, ?hytb14⟩) ?resttb14
      case hytb14 => (intro w; first | (go_simp; done) | (go_simp; with_reducible rfl))
      refine wpAny_take (i := 18) (v := ?vtb18) rfl (by kernel_rfl) (by kernel_rfl) (by kernel_rfl) (fun _ _ _ h => h) (Or.inl ⟨by kernel_rfl, ?hytb18⟩) ?resttb18
      case hytb18 => (intro w; first | (go_simp; done) | (go_simp; with_reducible rfl))
      refine wpAny_take (i := 19) (v := ?vtb19) rfl (by kernel_rfl) (by kernel_rfl) (by kernel_rfl) (fun _ _ _ h => h) (Or.inl ⟨by kernel_rfl, ?hytb19⟩) ?resttb19
      case hytb19 => (intro w; first | (go_simp; done) | (go_simp; with_reducible rfl))
      refine wpAny_take (i := 20) (v := ?vtb20) rfl (by kernel_rfl) (by kernel_rfl) (by kernel_rfl) (fun _ _ _ h => h) (Or.inl ⟨by kernel_rfl, ?hytb20⟩) ?resttb20
      case hytb20 => (intro w; first | (go_simp; done) | (go_simp; with_reducible rfl))
      refine wpAny_ready (rs := [21]) (by kernel_rfl) (by simp) ?_
      refine AllReady.cons rfl (fun K hK => ?_) AllReady.nil
      go_simp
      go_wp2_with (first | (go_at_call 21; (first | (with_reducible refine (G3 _ (Laid.below hL (by repeat (first | (with_reducible first | exact HB.out | apply below_alloc | apply pw_below_drewN | apply below_drew1) | exact HB.out)))).mono ?_) | (with_reducible refine (G4 _ (Laid.below hL (by repeat (first | (with_reducible first | exact HB.out | apply below_alloc | apply pw_below_drewN | apply below_drew1) | exact HB.out)))).mono ?_)); rintro e w'' ⟨rfl, hb⟩; (have n1_ := Aside0.mk (Kd.C_below (by repeat (first | exact CA.out | (with_reducible refine Kd.C_alloc ?_ _) | (with_reducible refine Kd.C_drewN ?_ _) | (with_reducible refine Kd.C_drew ?_))) hb); have n2_ := Aside0.mk (Kd.C_below (by repeat (first | exact CB.out | (with_reducible refine Kd.C_alloc ?_ _) | (with_reducible refine Kd.C_drewN ?_ _) | (with_reducible refine Kd.C_drew ?_))) hb); clear CA CB; have CA := n1_; have CB := n2_; clear n1_ n2_; have cvA := Kd.C_string (P := Tryd.prog) (c := 6) Tryd.underlying23 Tryd.underlying5 Tryd.underlying9 CA.out; have cvB := Kd.C_string (P := Tryd.prog) (c := 6) Tryd.underlying23 Tryd.underlying5 Tryd.underlying9 CB.out); (have n0_ := Aside0.mk (below_step (by repeat (first | (with_reducible first | exact HB.out | apply below_alloc | apply pw_below_drewN | apply below_drew1) | exact HB.out)) hb); clear HB; have HB := n0_; clear n0_ hb)) | (go_at_call 7; with_reducible refine (C_wakes _ (Laid.below hL (by repeat (first | (with_reducible first | exact HB.out | apply below_alloc | apply pw_below_drewN | apply below_drew1) | exact HB.out)))).mono ?_; rintro e w'' ⟨rfl, hb⟩; (have n0_ := Aside0.mk (below_step (by repeat (first | (with_reducible first | exact HB.out | apply below_alloc | apply pw_below_drewN | apply below_drew1) | exact HB.out)) hb); clear HB; have HB := n0_; clear n0_ hb)))
      (first | (refine hK _ _ ?_; clear hK K) | skip)
      refine wpAny_take (i := 22) (v := ?vtb22) rfl (by kernel_rfl) (by kernel_rfl) (by kernel_rfl) (fun _ _ _ h => h) (Or.inl ⟨by kernel_rfl, ?hytb22⟩) ?resttb22
      case hytb22 => (intro w; first | (go_simp; done) | (go_simp; with_reducible rfl))
      refine wpAny_take (i := 23) (v := ?vtb23) rfl (by kernel_rfl) (by kernel_rfl) (by kernel_rfl) (fun _ _ _ h => h) (Or.inl ⟨by kernel_rfl, ?hytb23⟩) ?resttb23
      case hytb23 => (intro w; first | (go_simp; done) | (go_simp; with_reducible rfl))
      refine wpAny_done (by kernel_rfl) ?_ _
      go_wp2
      go_ret
      exact ⟨rfl, HB.out⟩
end Go.Proofs.YtdelhnpolibjmaaDoor.P
