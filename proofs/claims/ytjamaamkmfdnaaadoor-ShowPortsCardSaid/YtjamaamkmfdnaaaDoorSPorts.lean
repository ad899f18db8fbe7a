/- The law ShowPorts, walked by hand; conditions: ranges alone. -/
import Derived.Test.YtjamaamkmfdnaaaDoorWakes24
import Derived.Test.YtjamaamkmfdnaaaDoorXx7
import Derived.RegionTactic
import Derived.ChangeAlike
import Derived.BigRegion
import Derived.Deep.RegionHeld3
namespace Go.Proofs.YtjamaamkmfdnaaaDoor.P
open Go.RowKit Go.Proofs.YtjamaamkmfdnaaaDoorW.PrintWords Go.Proofs.YtjamaamkmfdnaaaDoorW.PrintLast Go.Proofs.YtjamaamkmfdnaaaDoorW.PrintMore Go.Proofs.YtjamaamkmfdnaaaDoor.X Go.Proofs.YtjamaamkmfdnaaaDoor.Plain Go.Proofs.YtjamaamkmfdnaaaDoor
set_option linter.unusedVariables false
set_option linter.unusedSimpArgs false
theorem wp_open {P : Program} {c : Code} {K : Exit → Act → World → Prop} {a : Act} {W : World} (h : ∀ W', W' = W → Code.wp P c K a W') : Code.wp P c K a W := h W rfl
theorem k_open {F : Exit → Act → World → Prop} {e : Exit} {a : Act} {W : World} (h : ∀ W', W' = W → F e a W') : F e a W := h W rfl
theorem heap_drewN (w : World) (n : Nat) : (w.drewN n).heap = w.heap := rfl
def rolesA : Array Value := #[.string (⟨#[100, 105, 115, 97, 98, 108, 101, 100]⟩ : ByteArray), .string (⟨#[97, 108, 116, 101, 114, 110, 97, 116, 101]⟩ : ByteArray), .string (⟨#[114, 111, 111, 116]⟩ : ByteArray), .string (⟨#[100, 101, 115, 105, 103, 110, 97, 116, 101, 100]⟩ : ByteArray), .string (⟨#[98, 97, 99, 107, 117, 112]⟩ : ByteArray)]
def statesA : Array Value := #[.string (⟨#[100, 105, 115, 99, 97, 114, 100, 105, 110, 103]⟩ : ByteArray), .string (⟨#[108, 101, 97, 114, 110, 105, 110, 103]⟩ : ByteArray), .string (⟨#[102, 111, 114, 119, 97, 114, 100, 105, 110, 103]⟩ : ByteArray)]
theorem roles_at (r : Nat) (h : r < 5) : rolesA[r]? = some (.string (B (roleN r))) := by
  rcases r with _ | _ | _ | _ | _ | r <;> first | rfl | omega
theorem states_at (r : Nat) (h : r < 3) : statesA[r]? = some (.string (B (stateN r))) := by
  rcases r with _ | _ | _ | r <;> first | rfl | omega
set_option maxHeartbeats 16000000 in
set_option maxRecDepth 100000 in
theorem ports_walk (k n x y r s root cost bridge : Nat) (port : Int) (D0 D1 D2 D3 P1 P2 R Q : ByteArray) (hR : rolesA[r]? = some (.string R)) (hQ : statesA[s]? = some (.string Q)) (z0 : D0.size ≤ 20) (z1 : D1.size ≤ 20) (z2 : D2.size ≤ 20) (z3 : D3.size ≤ 20) (zR : R.size ≤ 20) (zQ : Q.size ≤ 20) (w : World) (hL : Laid w) (hn : n < 256) (hx : x < 256) (hy : y < 256) (hr : x % 5 = r) (hs : y % 3 = s) (hr5 : r < 5) (hs3 : s < 3) (h1 : root < 18446744073709551616) (h2 : bridge < 18446744073709551616) (h3 : cost < 4294967296)
    (hA0 : weirgatelaw24_dec.f k n = some D0) (hA1 : weirgatelaw24_dec.f k root = some D1) (hA2 : weirgatelaw24_dec.f k bridge = some D2) (hA3 : weirgatelaw24_dec.f k cost = some D3)
    (hA4 : show_Port.f k n false 0 false 0 0 0 0 0 0 r s 0 false = some P1) (hA5 : show_Port.f k n false 0 true root cost bridge port 0 0 r s 0 false = some P2)
    (HEAD1 : P1 = ((((((⟨#[112, 111, 114, 116, 32]⟩ : ByteArray) ++ D0) ++ (⟨#[32]⟩ : ByteArray)) ++ R) ++ (⟨#[32]⟩ : ByteArray)) ++ Q) ++ (⟨#[32, 115, 105, 108, 101, 110, 116]⟩ : ByteArray)) (HEAD2 : P2 = ((((((((((((⟨#[112, 111, 114, 116, 32]⟩ : ByteArray) ++ D0) ++ (⟨#[32]⟩ : ByteArray)) ++ R) ++ (⟨#[32]⟩ : ByteArray)) ++ Q) ++ (⟨#[32, 114, 111, 111, 116, 32]⟩ : ByteArray)) ++ D1) ++ (⟨#[32, 102, 114, 111, 109, 32]⟩ : ByteArray)) ++ D2) ++ (⟨#[32, 99, 111, 115, 116, 32]⟩ : ByteArray)) ++ D3)) :
    Calls Tryd.prog 3 #[.int .u8 n, .agg #[.int .u8 x, .int .u8 y], .agg #[.int .u64 root, .int .u32 cost, .int .u64 bridge, .int .i64 port]] w fun e w' => e = .returned (.bool true) ∧ Below w.heap.size w w' := by
  have HB := Aside0.mk (Below.refl w.heap.size w)
  have v0 : (9223372036854775807 < 5 + D0.size) = False := eq_false (by omega)
  have v1 : (9223372036854775807 < 5 + D0.size + 1) = False := eq_false (by omega)
  have v2 : (9223372036854775807 < 5 + D0.size + 1 + R.size) = False := eq_false (by omega)
  have v3 : (9223372036854775807 < 5 + D0.size + 1 + R.size + 1) = False := eq_false (by omega)
  have v4 : (9223372036854775807 < 5 + D0.size + 1 + R.size + 1 + Q.size) = False := eq_false (by omega)
  have v5 : (9223372036854775807 < 5 + D0.size + 1 + R.size + 1 + Q.size + 7) = False := eq_false (by omega)
  have v6 : (9223372036854775807 < 5 + D0.size + 1 + R.size + 1 + Q.size + 6) = False := eq_false (by omega)
  have v7 : (9223372036854775807 < 5 + D0.size + 1 + R.size + 1 + Q.size + 6 + D1.size) = False := eq_false (by omega)
  have v8 : (9223372036854775807 < 5 + D0.size + 1 + R.size + 1 + Q.size + 6 + D1.size + 6) = False := eq_false (by omega)
  have v9 : (9223372036854775807 < 5 + D0.size + 1 + R.size + 1 + Q.size + 6 + D1.size + 6 + D2.size) = False := eq_false (by omega)
  have v10 : (9223372036854775807 < 5 + D0.size + 1 + R.size + 1 + Q.size + 6 + D1.size + 6 + D2.size + 6) = False := eq_false (by omega)
  have v11 : (9223372036854775807 < 5 + D0.size + 1 + R.size + 1 + Q.size + 6 + D1.size + 6 + D2.size + 6 + D3.size) = False := eq_false (by omega)
  have er : (x : Int) % 5 = (r : Int) := by omega
  have es : (y : Int) % 3 = (s : Int) := by omega
  have A0 := Aside0.mk hA0
  have A1 := Aside0.mk hA1
  have A2 := Aside0.mk hA2
  have A3 := Aside0.mk hA3
  have A4 := Aside0.mk hA4
  have A5 := Aside0.mk hA5
  have A6 := Aside0.mk HEAD1
  have A7 := Aside0.mk HEAD2
  clear hA0 hA1 hA2 hA3 hA4 hA5 HEAD1 HEAD2
  go_enter Tryd.func3, Tryd.ntmps3
  go_wp2
  go_quiet (fail)
  go_wp2
  simp only [er, es]
  refine wp_open ?_
  intro W0 hW
  have hsz : W0.heap.size = w.heap.size + 1 + 1 + 1 + 1 + 1 := by subst hW; simp only [alloc_size24, heap_drewN]
  replace HB := Aside0.mk (show Below w.heap.size w W0 by subst hW; repeat (first | exact Below.refl _ _ | apply below_alloc | apply pw_below_drewN))
  have b0 : W0.heap[w.heap.size]? = some (.cells #[.int .u8 x, .int .u8 y] 22 (0, 0)) := by
    subst hW
    refine blk_alloc (blk_alloc (blk_alloc (blk_drewN (blk_alloc ?_ _) _) _) _) _
    first | exact blk_new _ _ | (refine Eq.trans (congrArg (fun q => _[q]?) ?_) (blk_new _ _); simp only [alloc_size24, heap_drewN])
  have b1 : W0.heap[w.heap.size + 1]? = some (.cells #[.int .u64 root, .int .u32 cost, .int .u64 bridge, .int .i64 port] 26 (0, 0)) := by
    subst hW
    refine blk_alloc (blk_alloc (blk_alloc (blk_drewN ?_ _) _) _) _
    first | exact blk_new _ _ | (refine Eq.trans (congrArg (fun q => _[q]?) ?_) (blk_new _ _); simp only [alloc_size24, heap_drewN])
  have b2 : W0.heap[w.heap.size + 1 + 1]? = some (.cells #[.string (⟨#[100, 105, 115, 97, 98, 108, 101, 100]⟩ : ByteArray), .string (⟨#[97, 108, 116, 101, 114, 110, 97, 116, 101]⟩ : ByteArray), .string (⟨#[114, 111, 111, 116]⟩ : ByteArray), .string (⟨#[100, 101, 115, 105, 103, 110, 97, 116, 101, 100]⟩ : ByteArray), .string (⟨#[98, 97, 99, 107, 117, 112]⟩ : ByteArray)] 9 (0, 0)) := by
    subst hW
    refine blk_alloc (blk_alloc ?_ _) _
    first | exact blk_new _ _ | (refine Eq.trans (congrArg (fun q => _[q]?) ?_) (blk_new _ _); simp only [alloc_size24, heap_drewN])
  have b3 : W0.heap[w.heap.size + 1 + 1 + 1]? = some (.cells #[.string (⟨#[100, 105, 115, 99, 97, 114, 100, 105, 110, 103]⟩ : ByteArray), .string (⟨#[108, 101, 97, 114, 110, 105, 110, 103]⟩ : ByteArray), .string (⟨#[102, 111, 114, 119, 97, 114, 100, 105, 110, 103]⟩ : ByteArray)] 9 (0, 0)) := by
    subst hW
    refine blk_alloc ?_ _
    first | exact blk_new _ _ | (refine Eq.trans (congrArg (fun q => _[q]?) ?_) (blk_new _ _); simp only [alloc_size24, heap_drewN])
  have b4 : W0.heap[w.heap.size + 1 + 1 + 1 + 1]? = some (.cells #[.bool false, .int .u32 0, .bool false, .int .u64 0, .int .u32 0, .int .u64 0, .int .i64 0, .int .i64 0, .int .i64 0, .int .i64 r, .int .i64 s, .int .i64 0, .bool false] 33 (0, 0)) := by
    subst hW
    refine ?_
    first | exact blk_new _ _ | (refine Eq.trans (congrArg (fun q => _[q]?) ?_) (blk_new _ _); simp only [alloc_size24, heap_drewN])
  clear hW
  have K := Aside0.mk (fun (W : World) (h : Below W0.heap.size W0 W) => (⟨h, (blk_cell (blk_below b2 h) r).trans hR, (blk_cell (blk_below b3 h) s).trans hQ⟩ : Below W0.heap.size W0 W ∧ World.cell? W ⟨w.heap.size + 1 + 1, r, none⟩ = some (.string (R)) ∧ World.cell? W ⟨w.heap.size + 1 + 1 + 1, s, none⟩ = some (.string (Q))))
  have wn : IntKind.u64.wrap (n : Int) = (n : Int) := by rw [IntKind.wrap_u64]; omega
  have wc : IntKind.u64.wrap (cost : Int) = (cost : Int) := by rw [IntKind.wrap_u64]; omega
  have r0 : (0 : Int) ≤ (r : Int) := Int.natCast_nonneg _
  have r1 : (r : Int) < 5 := by omega
  have s0 : (0 : Int) ≤ (s : Int) := Int.natCast_nonneg _
  have s1 : (s : Int) < 3 := by omega
  go_region_held3 (fun W => Below W0.heap.size W0 W ∧ World.cell? W ⟨w.heap.size + 1 + 1, r, none⟩ = some (.string (R)) ∧ World.cell? W ⟨w.heap.size + 1 + 1 + 1, s, none⟩ = some (.string (Q))) (first | exact K.out _ (by first | assumption | exact below_drew1 (Below.refl _ _) | exact below_drew1 (by assumption) | exact below_step (below_drew1 (Below.refl _ _)) hb | exact below_step (And.left (by assumption)) hb))
    (first | (go_at_call 4; (try rw [wn]); (try rw [wc]); (with_reducible refine (weirgatelaw24_dec.calls k n D0 _ ?s1 A0.out).mono ?_); (case s1 => exact Laid.below (Laid.below hL HB.out) (by first | exact (And.left (by assumption)) | exact below_drew1 (Below.refl _ _))); rintro e w1 ⟨rfl, hb⟩))
  have F : Below W0.heap.size W0 w1 := below_step (below_drew1 (Below.refl _ _)) hb
  clear hb
  replace HB := Aside0.mk (below_step HB.out F)
  have hsz1 : w.heap.size + 5 ≤ w1.heap.size := by have := F.size; omega
  replace b0 := blk_below b0 F
  replace b1 := blk_below b1 F
  replace b2 := blk_below b2 F
  replace b3 := blk_below b3 F
  replace b4 := blk_below b4 F
  clear F K hsz
  have hp0 : w1.cell? ⟨w.heap.size + 1 + 1 + 1 + 1, 0, none⟩ = some (.bool false) := (blk_cell b4 0).trans rfl
  have hp1 : w1.cell? ⟨w.heap.size + 1 + 1 + 1 + 1, 1, none⟩ = some (.int .u32 0) := (blk_cell b4 1).trans rfl
  have hp2 : w1.cell? ⟨w.heap.size + 1 + 1 + 1 + 1, 2, none⟩ = some (.bool false) := (blk_cell b4 2).trans rfl
  have hp3 : w1.cell? ⟨w.heap.size + 1 + 1 + 1 + 1, 3, none⟩ = some (.int .u64 0) := (blk_cell b4 3).trans rfl
  have hp4 : w1.cell? ⟨w.heap.size + 1 + 1 + 1 + 1, 4, none⟩ = some (.int .u32 0) := (blk_cell b4 4).trans rfl
  have hp5 : w1.cell? ⟨w.heap.size + 1 + 1 + 1 + 1, 5, none⟩ = some (.int .u64 0) := (blk_cell b4 5).trans rfl
  have hp6 : w1.cell? ⟨w.heap.size + 1 + 1 + 1 + 1, 6, none⟩ = some (.int .i64 0) := (blk_cell b4 6).trans rfl
  have hp7 : w1.cell? ⟨w.heap.size + 1 + 1 + 1 + 1, 7, none⟩ = some (.int .i64 0) := (blk_cell b4 7).trans rfl
  have hp8 : w1.cell? ⟨w.heap.size + 1 + 1 + 1 + 1, 8, none⟩ = some (.int .i64 0) := (blk_cell b4 8).trans rfl
  have hp9 : w1.cell? ⟨w.heap.size + 1 + 1 + 1 + 1, 9, none⟩ = some (.int .i64 r) := (blk_cell b4 9).trans rfl
  have hp10 : w1.cell? ⟨w.heap.size + 1 + 1 + 1 + 1, 10, none⟩ = some (.int .i64 s) := (blk_cell b4 10).trans rfl
  have hp11 : w1.cell? ⟨w.heap.size + 1 + 1 + 1 + 1, 11, none⟩ = some (.int .i64 0) := (blk_cell b4 11).trans rfl
  have hp12 : w1.cell? ⟨w.heap.size + 1 + 1 + 1 + 1, 12, none⟩ = some (.bool false) := (blk_cell b4 12).trans rfl
  go_wp2_with (first | (go_at_call 5; (with_reducible refine (show_Port.calls k n false 0 false 0 0 0 0 0 0 r s 0 false P1 _ ?s1 A4.out).mono ?_); (case s1 => exact Laid.below hL HB.out); rintro e w2 ⟨rfl, hb⟩))
  replace HB := Aside0.mk (below_step HB.out hb)
  replace b0 := blk_below b0 hb
  replace b1 := blk_below b1 hb
  replace b2 := blk_below b2 hb
  replace b3 := blk_below b3 hb
  replace b4 := blk_below b4 hb
  have hsz2 : w.heap.size + 5 ≤ w2.heap.size := by have := hb.size; omega
  clear hb hp0 hp1 hp2 hp3 hp4 hp5 hp6 hp7 hp8 hp9 hp10 hp11 hp12
  have hp0 : w2.cell? ⟨w.heap.size + 1 + 1 + 1 + 1, 0, none⟩ = some (.bool false) := (blk_cell b4 0).trans rfl
  have hp1 : w2.cell? ⟨w.heap.size + 1 + 1 + 1 + 1, 1, none⟩ = some (.int .u32 0) := (blk_cell b4 1).trans rfl
  have hp2 : w2.cell? ⟨w.heap.size + 1 + 1 + 1 + 1, 2, none⟩ = some (.bool false) := (blk_cell b4 2).trans rfl
  have hp3 : w2.cell? ⟨w.heap.size + 1 + 1 + 1 + 1, 3, none⟩ = some (.int .u64 0) := (blk_cell b4 3).trans rfl
  have hp4 : w2.cell? ⟨w.heap.size + 1 + 1 + 1 + 1, 4, none⟩ = some (.int .u32 0) := (blk_cell b4 4).trans rfl
  have hp5 : w2.cell? ⟨w.heap.size + 1 + 1 + 1 + 1, 5, none⟩ = some (.int .u64 0) := (blk_cell b4 5).trans rfl
  have hp6 : w2.cell? ⟨w.heap.size + 1 + 1 + 1 + 1, 6, none⟩ = some (.int .i64 0) := (blk_cell b4 6).trans rfl
  have hp7 : w2.cell? ⟨w.heap.size + 1 + 1 + 1 + 1, 7, none⟩ = some (.int .i64 0) := (blk_cell b4 7).trans rfl
  have hp8 : w2.cell? ⟨w.heap.size + 1 + 1 + 1 + 1, 8, none⟩ = some (.int .i64 0) := (blk_cell b4 8).trans rfl
  have hp9 : w2.cell? ⟨w.heap.size + 1 + 1 + 1 + 1, 9, none⟩ = some (.int .i64 r) := (blk_cell b4 9).trans rfl
  have hp10 : w2.cell? ⟨w.heap.size + 1 + 1 + 1 + 1, 10, none⟩ = some (.int .i64 s) := (blk_cell b4 10).trans rfl
  have hp11 : w2.cell? ⟨w.heap.size + 1 + 1 + 1 + 1, 11, none⟩ = some (.int .i64 0) := (blk_cell b4 11).trans rfl
  have hp12 : w2.cell? ⟨w.heap.size + 1 + 1 + 1 + 1, 12, none⟩ = some (.bool false) := (blk_cell b4 12).trans rfl
  have hv0 : w2.cell? ⟨w.heap.size + 1, 0, none⟩ = some (.int .u64 root) := (blk_cell b1 0).trans rfl
  have hv1 : w2.cell? ⟨w.heap.size + 1, 1, none⟩ = some (.int .u32 cost) := (blk_cell b1 1).trans rfl
  have hv2 : w2.cell? ⟨w.heap.size + 1, 2, none⟩ = some (.int .u64 bridge) := (blk_cell b1 2).trans rfl
  have hv3 : w2.cell? ⟨w.heap.size + 1, 3, none⟩ = some (.int .i64 port) := (blk_cell b1 3).trans rfl
  have i4 : w.heap.size + 1 + 1 + 1 + 1 < w2.heap.size := by omega
  have i1 : w.heap.size + 1 < w2.heap.size := by omega
  have hf2 : w2.frozen? ⟨w.heap.size + 1 + 1 + 1 + 1, 2, none⟩ = false := blk_frozen b4 2
  have hf3 : w2.frozen? ⟨w.heap.size + 1 + 1 + 1 + 1, 3, none⟩ = false := blk_frozen b4 3
  have hf4 : w2.frozen? ⟨w.heap.size + 1 + 1 + 1 + 1, 4, none⟩ = false := blk_frozen b4 4
  have hf5 : w2.frozen? ⟨w.heap.size + 1 + 1 + 1 + 1, 5, none⟩ = false := blk_frozen b4 5
  have hf6 : w2.frozen? ⟨w.heap.size + 1 + 1 + 1 + 1, 6, none⟩ = false := blk_frozen b4 6
  go_region
  clear hp0 hp1 hp2 hp3 hp4 hp5 hp6 hp7 hp8 hp9 hp10 hp11 hp12 hv0 hv1 hv2 hv3 hf2 hf3 hf4 hf5 hf6
  refine k_open ?_
  intro W3 hW3
  have b1' : W3.heap[w.heap.size + 1]? = some (.cells #[.int .u64 root, .int .u32 cost, .int .u64 bridge, .int .i64 port] 26 (0, 0)) := by
    subst hW3
    refine blk_drew ?_
    refine blk_far ?_ (by show _ ≠ _; simp only []; omega) _
    refine blk_far ?_ (by show _ ≠ _; simp only []; omega) _
    refine blk_far ?_ (by show _ ≠ _; simp only []; omega) _
    refine blk_far ?_ (by show _ ≠ _; simp only []; omega) _
    exact blk_far b1 (by show _ ≠ _; simp only []; omega) _
  have b4' : W3.heap[w.heap.size + 1 + 1 + 1 + 1]? = some (.cells #[.bool false, .int .u32 0, .bool true, .int .u64 root, .int .u32 cost, .int .u64 bridge, .int .i64 port, .int .i64 0, .int .i64 0, .int .i64 r, .int .i64 s, .int .i64 0, .bool false] 33 (0, 0)) := by
    subst hW3
    exact blk_drew (blk_put (blk_put (blk_put (blk_put (blk_put b4 2 _ rfl) 3 _ rfl) 4 _ rfl) 5 _ rfl) 6 _ rfl)
  replace HB := Aside0.mk (show Below w.heap.size w W3 by
    subst hW3
    exact below_drew1 (below_set (below_set (below_set (below_set (below_set HB.out (by omega)) (by omega)) (by omega)) (by omega)) (by omega)))
  clear hW3 b0 b2 b3 b1 b4 i1 i4
  have hp0 : W3.cell? ⟨w.heap.size + 1 + 1 + 1 + 1, 0, none⟩ = some (.bool false) := (blk_cell b4' 0).trans rfl
  have hp1 : W3.cell? ⟨w.heap.size + 1 + 1 + 1 + 1, 1, none⟩ = some (.int .u32 0) := (blk_cell b4' 1).trans rfl
  have hp2 : W3.cell? ⟨w.heap.size + 1 + 1 + 1 + 1, 2, none⟩ = some (.bool true) := (blk_cell b4' 2).trans rfl
  have hp3 : W3.cell? ⟨w.heap.size + 1 + 1 + 1 + 1, 3, none⟩ = some (.int .u64 root) := (blk_cell b4' 3).trans rfl
  have hp4 : W3.cell? ⟨w.heap.size + 1 + 1 + 1 + 1, 4, none⟩ = some (.int .u32 cost) := (blk_cell b4' 4).trans rfl
  have hp5 : W3.cell? ⟨w.heap.size + 1 + 1 + 1 + 1, 5, none⟩ = some (.int .u64 bridge) := (blk_cell b4' 5).trans rfl
  have hp6 : W3.cell? ⟨w.heap.size + 1 + 1 + 1 + 1, 6, none⟩ = some (.int .i64 port) := (blk_cell b4' 6).trans rfl
  have hp7 : W3.cell? ⟨w.heap.size + 1 + 1 + 1 + 1, 7, none⟩ = some (.int .i64 0) := (blk_cell b4' 7).trans rfl
  have hp8 : W3.cell? ⟨w.heap.size + 1 + 1 + 1 + 1, 8, none⟩ = some (.int .i64 0) := (blk_cell b4' 8).trans rfl
  have hp9 : W3.cell? ⟨w.heap.size + 1 + 1 + 1 + 1, 9, none⟩ = some (.int .i64 r) := (blk_cell b4' 9).trans rfl
  have hp10 : W3.cell? ⟨w.heap.size + 1 + 1 + 1 + 1, 10, none⟩ = some (.int .i64 s) := (blk_cell b4' 10).trans rfl
  have hp11 : W3.cell? ⟨w.heap.size + 1 + 1 + 1 + 1, 11, none⟩ = some (.int .i64 0) := (blk_cell b4' 11).trans rfl
  have hp12 : W3.cell? ⟨w.heap.size + 1 + 1 + 1 + 1, 12, none⟩ = some (.bool false) := (blk_cell b4' 12).trans rfl
  go_wp2_with (first | (go_at_call 5; (with_reducible refine (show_Port.calls k n false 0 true root cost bridge port 0 0 r s 0 false P2 _ ?s1 A5.out).mono ?_); (case s1 => exact Laid.below hL HB.out); rintro e w4 ⟨rfl, hb⟩))
  replace HB := Aside0.mk (below_step HB.out hb)
  replace b1 := blk_below b1' hb
  clear hb b4' b1' hp0 hp1 hp2 hp3 hp4 hp5 hp6 hp7 hp8 hp9 hp10 hp11 hp12
  obtain rfl := A6.out
  obtain rfl := A7.out
  clear A6 A7 A4 A5
  have K := Aside0.mk (fun (W : World) (h : Below w4.heap.size w4 W) => (⟨h, (blk_cell (blk_below b1 h) 0).trans rfl, (blk_cell (blk_below b1 h) 1).trans rfl, (blk_cell (blk_below b1 h) 2).trans rfl⟩ : Below w4.heap.size w4 W ∧ World.cell? W ⟨w.heap.size + 1, 0, none⟩ = some (.int .u64 root) ∧ World.cell? W ⟨w.heap.size + 1, 1, none⟩ = some (.int .u32 cost) ∧ World.cell? W ⟨w.heap.size + 1, 2, none⟩ = some (.int .u64 bridge)))
  go_region_held3 (fun W => Below w4.heap.size w4 W ∧ World.cell? W ⟨w.heap.size + 1, 0, none⟩ = some (.int .u64 root) ∧ World.cell? W ⟨w.heap.size + 1, 1, none⟩ = some (.int .u32 cost) ∧ World.cell? W ⟨w.heap.size + 1, 2, none⟩ = some (.int .u64 bridge)) (first | exact K.out _ (by first | assumption | exact below_drew1 (Below.refl _ _) | exact below_drew1 (by assumption) | exact below_step (below_drew1 (Below.refl _ _)) hb | exact below_step (And.left (by assumption)) hb))
    (first | (go_at_call 4; (try rw [wn]); (try rw [wc]); (with_reducible refine (weirgatelaw24_dec.calls k root D1 _ ?s1 A1.out).mono ?_); (case s1 => exact Laid.below (Laid.below hL HB.out) (by first | exact (And.left (by assumption)) | exact below_drew1 (Below.refl _ _))); rintro e w1 ⟨rfl, hb⟩) | (go_at_call 4; (try rw [wn]); (try rw [wc]); (with_reducible refine (weirgatelaw24_dec.calls k bridge D2 _ ?s1 A2.out).mono ?_); (case s1 => exact Laid.below (Laid.below hL HB.out) (by first | exact (And.left (by assumption)) | exact below_drew1 (Below.refl _ _))); rintro e w1 ⟨rfl, hb⟩) | (go_at_call 4; (try rw [wn]); (try rw [wc]); (with_reducible refine (weirgatelaw24_dec.calls k cost D3 _ ?s1 A3.out).mono ?_); (case s1 => exact Laid.below (Laid.below hL HB.out) (by first | exact (And.left (by assumption)) | exact below_drew1 (Below.refl _ _))); rintro e w1 ⟨rfl, hb⟩) | (go_at_call 6; (with_reducible refine (wakes_all _ ?s1).mono ?_); (case s1 => exact Laid.below (Laid.below hL HB.out) (by first | exact (And.left (by assumption)) | exact below_drew1 (Below.refl _ _))); rintro e w1 ⟨rfl, hb⟩))
  have F10 : Below w4.heap.size w4 w1 := And.left (by assumption)
  replace HB := Aside0.mk (below_step HB.out F10)
  go_wp2
  go_ret
  exact ⟨rfl, HB.out⟩
end Go.Proofs.YtjamaamkmfdnaaaDoor.P
