/- Contract of mac.Text: an address as six pairs of hexadecimal digits with colons between, nothing for what is no address; no condition. -/
import Derived.Test.YtjamaamkmfdnaaaDoorMacBytes
import Derived.Deep.RegionLaw
import Derived.Laws.DeepStrings4
namespace Go.Proofs.YtjamaamkmfdnaaaDoor
open Go.RowKit Go.Proofs.YtjamaamkmfdnaaaDoorW.PrintWords

theorem infoStr : (Tryd.prog.info? 9).map (fun i => (i.zero, i.size, i.bytes)) = some (some (.string ⟨#[]⟩), 1, 16) := by kernel_rfl

/-- The hexadecimal digits. -/
def hexDigits : ByteArray := ⟨#[48, 49, 50, 51, 52, 53, 54, 55, 56, 57, 97, 98, 99, 100, 101, 102]⟩
/-- One of them, as a text. -/
def hexOne (x : Int) : ByteArray := hexDigits.extract x.toNat (x + 1).toNat

set_option maxRecDepth 10000 in
theorem and_low : ∀ n : Nat, n < 256 → bits BinOp.and IntKind.u8 (n : Int) 15 = ((n % 16 : Nat) : Int) := by decide
theorem and_15 {b : Int} (h0 : 0 ≤ b) (h1 : b ≤ 255) : bits BinOp.and IntKind.u8 b 15 = b % 16 := by
  obtain ⟨n, rfl⟩ := Int.eq_ofNat_of_zero_le h0
  rw [and_low n (by omega)]
  omega
theorem wrap_u8 {x : Int} (h0 : 0 ≤ x) (h1 : x ≤ 255) : IntKind.u8.wrap x = x := by rw [IntKind.wrap_u8]; omega
theorem slice_hex (x : Int) (h0 : 0 ≤ x) (h1 : x ≤ 15) (W : World) :
    (Instr.slice 9 (.string ⟨#[48, 49, 50, 51, 52, 53, 54, 55, 56, 57, 97, 98, 99, 100, 101, 102]⟩) (some (.int .u8 x)) (some (.int .u8 (x + 1))) none).run Tryd.prog W = .ok (.string (hexOne x)) W := by
  rw [run_slice_string_if W _ _ _ _ _ _ Tryd.underlying9, if_pos ⟨by omega, by show x + 1 ≤ ((16 : Nat) : Int); omega⟩, if_pos ⟨h0, by omega⟩]
  rfl
theorem hexOne_size (x : Int) (h0 : 0 ≤ x) (h1 : x ≤ 15) : (hexOne x).size = 1 := by
  unfold hexOne
  rw [ByteArray.size_extract]
  have : hexDigits.size = 16 := rfl
  omega

/-- A byte in two of them. -/
def hexTwo (b : Int) : ByteArray := hexOne (b / 16) ++ hexOne (b % 16)
def hexd (n : Nat) : UInt8 := if n < 10 then UInt8.ofNat (48 + n) else UInt8.ofNat (87 + n)
theorem hexOne_nat : ∀ n : Nat, n < 16 → hexOne (n : Int) = ⟨#[hexd n]⟩ := by decide
theorem hexOne_is {x : Int} (h0 : 0 ≤ x) (h1 : x ≤ 15) : hexOne x = ⟨#[hexd x.toNat]⟩ := by
  obtain ⟨n, rfl⟩ := Int.eq_ofNat_of_zero_le h0
  exact hexOne_nat n (by omega)
/-- Two hexadecimal digits of a byte. -/
def two (n : Nat) : List UInt8 := [hexd (n / 16), hexd (n % 16)]
theorem hexTwo_data {b : Int} (h0 : 0 ≤ b) (h1 : b ≤ 255) : (hexTwo b).data.toList = two b.toNat := by
  unfold hexTwo two
  rw [hexOne_is (x := b / 16) (by omega) (by omega), hexOne_is (x := b % 16) (by omega) (by omega), show (b / 16).toNat = b.toNat / 16 by omega, show (b % 16).toNat = b.toNat % 16 by omega]
  simp
/-- An address's bytes. -/
def macBytes (a : Nat) : List Nat := [a / 1099511627776 % 256, a / 4294967296 % 256, a / 16777216 % 256, a / 65536 % 256, a / 256 % 256, a % 256]
/-- An address's text. -/
def macText (a : Nat) : List UInt8 := Lib.join ((macBytes a).map two) [58]
def mac_Text.f (a : Int) : Option ByteArray := if 0 ≤ a ∧ a ≤ 18446744073709551615 then some (if a < 281474976710656 then ⟨(macText a.toNat).toArray⟩ else ⟨#[]⟩) else none

theorem mac_Text_none (a : Int) (h0 : 281474976710656 ≤ a) (h1 : a ≤ 18446744073709551615) (w : World) :
    Calls Tryd.prog 20 #[.int .u64 a] w fun e w' => e = .returned (.string ⟨#[]⟩) ∧ Below w.heap.size w w' := by
  have hd : (a / 281474976710656 == 0) = false := by rw [beq_eq_false_iff_ne]; omega
  go_enter Tryd.func20, Tryd.ntmps20
  go_wp2_with (go_at_call 27; go_in)
  go_ret
  exact ⟨rfl, Below.refl _ _⟩

set_option maxHeartbeats 8000000 in
theorem mac_Text_walk (a b0 b1 b2 b3 b4 b5 : Int) (h0 : 0 ≤ a) (h1 : a < 281474976710656) (q0 : a / 1099511627776 % 256 = b0) (q1 : a / 4294967296 % 256 = b1) (q2 : a / 16777216 % 256 = b2) (q3 : a / 65536 % 256 = b3) (q4 : a / 256 % 256 = b4) (q5 : a % 256 = b5) (w : World) (hL : Laid w) :
    Calls Tryd.prog 20 #[.int .u64 a] w fun e w' => e = .returned (.string ⟨(Lib.join ([hexTwo b0, hexTwo b1, hexTwo b2, hexTwo b3, hexTwo b4, hexTwo b5].map (·.data.toList)) [58]).toArray⟩) ∧ Below w.heap.size w w' := by
  have HB0 := mac_Bytes.calls a h0 (by omega)
  rw [q0, q1, q2, q3, q4, q5] at HB0
  have HB1 := Lib.hid HB0
  clear HB0
  have hd : a / 281474976710656 = 0 := by omega
  have c0 : 0 ≤ b0 ∧ b0 ≤ 255 := by omega
  have c1 : 0 ≤ b1 ∧ b1 ≤ 255 := by omega
  have c2 : 0 ≤ b2 ∧ b2 ≤ 255 := by omega
  have c3 : 0 ≤ b3 ∧ b3 ≤ 255 := by omega
  have c4 : 0 ≤ b4 ∧ b4 ≤ 255 := by omega
  have c5 : 0 ≤ b5 ∧ b5 ≤ 255 := by omega
  go_enter Tryd.func20, Tryd.ntmps20
  go_wp2_with (first | (go_at_call 27; go_in) | (go_at_call 28; refine (HB1.out _).mono ?_; rintro e w1 ⟨rfl, hb⟩))
  clear HB1 hd h0 h1 q0 q1 q2 q3 q4 q5
  have HO := Aside0.mk (Kd.R_nil Kd.string 9 w1 w.heap.size (fun _ => True))
  have HB := Aside0.mk hb
  clear hb
  obtain ⟨v0, hv0⟩ : ∃ v, v = Value.slice none 0 0 := ⟨_, rfl⟩
  refine wp_loop_rounds 7 ?_
  rw [rounds_succ]
  have i0 : ∀ (x0 x1 x2 x3 x4 x5 : Value) (w : World), (Instr.index 80 (.agg #[x0, x1, x2, x3, x4, x5]) (.int .i64 0)).run Tryd.prog w = .ok x0 w := fun _ _ _ _ _ _ _ => by kernel_rfl
  have e1 := and_15 c0.1 c0.2
  have e2 := wrap_u8 (x := b0 / 16 + 1) (by omega) (by omega)
  have e3 := wrap_u8 (x := b0 % 16 + 1) (by omega) (by omega)
  have s1 := slice_hex (b0 / 16) (by omega) (by omega)
  have s2 := slice_hex (b0 % 16) (by omega) (by omega)
  have z1 := hexOne_size (b0 / 16) (by omega) (by omega)
  have z2 := hexOne_size (b0 % 16) (by omega) (by omega)
  go_wp2
  go_region_law (refine Kd.R_append_step Kd.string (w0 := w) (W := w1.drew) w.heap.size rfl (.tmp 14) (.tmp 28) 27 9 (.string ⟨#[]⟩) 16 rfl Tryd.underlying27 infoStr rfl (by decide) (by omega) (.slice none 0 0) [] (hexOne (b0 / 16) ++ hexOne (b0 % 16)) [.string (hexOne (b0 / 16) ++ hexOne (b0 % 16))] (fun _ => True) (fun _ => False) rfl rfl rfl (fun _ hk => hk.elim) (fun _ _ => trivial) (Kd.R_nil _ _ _ _ _) (by repeat (first | (with_reducible first | exact HB.out | apply below_alloc | apply pw_below_drewN | apply below_drew1) | exact HB.out)) (below_size (by repeat (first | (with_reducible first | exact HB.out | apply below_alloc | apply pw_below_drewN | apply below_drew1) | exact HB.out))) (by simp) ?_; intro v1 w2 ho hb hg hat)
  clear HO HB hg hat e1 e2 e3 s1 s2 z1 z2 i0
  have HO : Aside0 (Kd.R Kd.string 9 w2 w.heap.size (fun _ => True) v1 [hexTwo b0]) := ⟨ho⟩
  have HB := Aside0.mk hb
  clear ho hb
  go_wp2
  rw [rounds_succ]
  have i1 : ∀ (x0 x1 x2 x3 x4 x5 : Value) (w : World), (Instr.index 80 (.agg #[x0, x1, x2, x3, x4, x5]) (.int .i64 1)).run Tryd.prog w = .ok x1 w := fun _ _ _ _ _ _ _ => by kernel_rfl
  have e1 := and_15 c1.1 c1.2
  have e2 := wrap_u8 (x := b1 / 16 + 1) (by omega) (by omega)
  have e3 := wrap_u8 (x := b1 % 16 + 1) (by omega) (by omega)
  have s1 := slice_hex (b1 / 16) (by omega) (by omega)
  have s2 := slice_hex (b1 % 16) (by omega) (by omega)
  have z1 := hexOne_size (b1 / 16) (by omega) (by omega)
  have z2 := hexOne_size (b1 % 16) (by omega) (by omega)
  go_wp2
  go_region_law (refine Kd.R_append_step Kd.string (w0 := w) (W := w2.drew) w.heap.size rfl (.tmp 14) (.tmp 28) 27 9 (.string ⟨#[]⟩) 16 rfl Tryd.underlying27 infoStr rfl (by decide) (by omega) v1 [hexTwo b0] (hexOne (b1 / 16) ++ hexOne (b1 % 16)) [.string (hexOne (b1 / 16) ++ hexOne (b1 % 16))] (fun _ => True) (fun _ => False) rfl rfl rfl (fun _ hk => hk.elim) (fun _ _ => trivial) (by (with_reducible repeat (first | apply Kd.R_alloc | apply Kd.R_drewN | apply Kd.R_drew)); exact HO.out) (by repeat (first | (with_reducible first | exact HB.out | apply below_alloc | apply pw_below_drewN | apply below_drew1) | exact HB.out)) (below_size (by repeat (first | (with_reducible first | exact HB.out | apply below_alloc | apply pw_below_drewN | apply below_drew1) | exact HB.out))) (by simp) ?_; intro v2 w3 ho hb hg hat)
  clear HO HB hg hat e1 e2 e3 s1 s2 z1 z2 i1
  have HO : Aside0 (Kd.R Kd.string 9 w3 w.heap.size (fun _ => True) v2 [hexTwo b0, hexTwo b1]) := ⟨ho⟩
  have HB := Aside0.mk hb
  clear ho hb
  go_wp2
  rw [rounds_succ]
  have i2 : ∀ (x0 x1 x2 x3 x4 x5 : Value) (w : World), (Instr.index 80 (.agg #[x0, x1, x2, x3, x4, x5]) (.int .i64 2)).run Tryd.prog w = .ok x2 w := fun _ _ _ _ _ _ _ => by kernel_rfl
  have e1 := and_15 c2.1 c2.2
  have e2 := wrap_u8 (x := b2 / 16 + 1) (by omega) (by omega)
  have e3 := wrap_u8 (x := b2 % 16 + 1) (by omega) (by omega)
  have s1 := slice_hex (b2 / 16) (by omega) (by omega)
  have s2 := slice_hex (b2 % 16) (by omega) (by omega)
  have z1 := hexOne_size (b2 / 16) (by omega) (by omega)
  have z2 := hexOne_size (b2 % 16) (by omega) (by omega)
  go_wp2
  go_region_law (refine Kd.R_append_step Kd.string (w0 := w) (W := w3.drew) w.heap.size rfl (.tmp 14) (.tmp 28) 27 9 (.string ⟨#[]⟩) 16 rfl Tryd.underlying27 infoStr rfl (by decide) (by omega) v2 [hexTwo b0, hexTwo b1] (hexOne (b2 / 16) ++ hexOne (b2 % 16)) [.string (hexOne (b2 / 16) ++ hexOne (b2 % 16))] (fun _ => True) (fun _ => False) rfl rfl rfl (fun _ hk => hk.elim) (fun _ _ => trivial) (by (with_reducible repeat (first | apply Kd.R_alloc | apply Kd.R_drewN | apply Kd.R_drew)); exact HO.out) (by repeat (first | (with_reducible first | exact HB.out | apply below_alloc | apply pw_below_drewN | apply below_drew1) | exact HB.out)) (below_size (by repeat (first | (with_reducible first | exact HB.out | apply below_alloc | apply pw_below_drewN | apply below_drew1) | exact HB.out))) (by simp) ?_; intro v3 w4 ho hb hg hat)
  clear HO HB hg hat e1 e2 e3 s1 s2 z1 z2 i2
  have HO : Aside0 (Kd.R Kd.string 9 w4 w.heap.size (fun _ => True) v3 [hexTwo b0, hexTwo b1, hexTwo b2]) := ⟨ho⟩
  have HB := Aside0.mk hb
  clear ho hb
  go_wp2
  rw [rounds_succ]
  have i3 : ∀ (x0 x1 x2 x3 x4 x5 : Value) (w : World), (Instr.index 80 (.agg #[x0, x1, x2, x3, x4, x5]) (.int .i64 3)).run Tryd.prog w = .ok x3 w := fun _ _ _ _ _ _ _ => by kernel_rfl
  have e1 := and_15 c3.1 c3.2
  have e2 := wrap_u8 (x := b3 / 16 + 1) (by omega) (by omega)
  have e3 := wrap_u8 (x := b3 % 16 + 1) (by omega) (by omega)
  have s1 := slice_hex (b3 / 16) (by omega) (by omega)
  have s2 := slice_hex (b3 % 16) (by omega) (by omega)
  have z1 := hexOne_size (b3 / 16) (by omega) (by omega)
  have z2 := hexOne_size (b3 % 16) (by omega) (by omega)
  go_wp2
  go_region_law (refine Kd.R_append_step Kd.string (w0 := w) (W := w4.drew) w.heap.size rfl (.tmp 14) (.tmp 28) 27 9 (.string ⟨#[]⟩) 16 rfl Tryd.underlying27 infoStr rfl (by decide) (by omega) v3 [hexTwo b0, hexTwo b1, hexTwo b2] (hexOne (b3 / 16) ++ hexOne (b3 % 16)) [.string (hexOne (b3 / 16) ++ hexOne (b3 % 16))] (fun _ => True) (fun _ => False) rfl rfl rfl (fun _ hk => hk.elim) (fun _ _ => trivial) (by (with_reducible repeat (first | apply Kd.R_alloc | apply Kd.R_drewN | apply Kd.R_drew)); exact HO.out) (by repeat (first | (with_reducible first | exact HB.out | apply below_alloc | apply pw_below_drewN | apply below_drew1) | exact HB.out)) (below_size (by repeat (first | (with_reducible first | exact HB.out | apply below_alloc | apply pw_below_drewN | apply below_drew1) | exact HB.out))) (by simp) ?_; intro v4 w5 ho hb hg hat)
  clear HO HB hg hat e1 e2 e3 s1 s2 z1 z2 i3
  have HO : Aside0 (Kd.R Kd.string 9 w5 w.heap.size (fun _ => True) v4 [hexTwo b0, hexTwo b1, hexTwo b2, hexTwo b3]) := ⟨ho⟩
  have HB := Aside0.mk hb
  clear ho hb
  go_wp2
  rw [rounds_succ]
  have i4 : ∀ (x0 x1 x2 x3 x4 x5 : Value) (w : World), (Instr.index 80 (.agg #[x0, x1, x2, x3, x4, x5]) (.int .i64 4)).run Tryd.prog w = .ok x4 w := fun _ _ _ _ _ _ _ => by kernel_rfl
  have e1 := and_15 c4.1 c4.2
  have e2 := wrap_u8 (x := b4 / 16 + 1) (by omega) (by omega)
  have e3 := wrap_u8 (x := b4 % 16 + 1) (by omega) (by omega)
  have s1 := slice_hex (b4 / 16) (by omega) (by omega)
  have s2 := slice_hex (b4 % 16) (by omega) (by omega)
  have z1 := hexOne_size (b4 / 16) (by omega) (by omega)
  have z2 := hexOne_size (b4 % 16) (by omega) (by omega)
  go_wp2
  go_region_law (refine Kd.R_append_step Kd.string (w0 := w) (W := w5.drew) w.heap.size rfl (.tmp 14) (.tmp 28) 27 9 (.string ⟨#[]⟩) 16 rfl Tryd.underlying27 infoStr rfl (by decide) (by omega) v4 [hexTwo b0, hexTwo b1, hexTwo b2, hexTwo b3] (hexOne (b4 / 16) ++ hexOne (b4 % 16)) [.string (hexOne (b4 / 16) ++ hexOne (b4 % 16))] (fun _ => True) (fun _ => False) rfl rfl rfl (fun _ hk => hk.elim) (fun _ _ => trivial) (by (with_reducible repeat (first | apply Kd.R_alloc | apply Kd.R_drewN | apply Kd.R_drew)); exact HO.out) (by repeat (first | (with_reducible first | exact HB.out | apply below_alloc | apply pw_below_drewN | apply below_drew1) | exact HB.out)) (below_size (by repeat (first | (with_reducible first | exact HB.out | apply below_alloc | apply pw_below_drewN | apply below_drew1) | exact HB.out))) (by simp) ?_; intro v5 w6 ho hb hg hat)
  clear HO HB hg hat e1 e2 e3 s1 s2 z1 z2 i4
  have HO : Aside0 (Kd.R Kd.string 9 w6 w.heap.size (fun _ => True) v5 [hexTwo b0, hexTwo b1, hexTwo b2, hexTwo b3, hexTwo b4]) := ⟨ho⟩
  have HB := Aside0.mk hb
  clear ho hb
  go_wp2
  rw [rounds_succ]
  have i5 : ∀ (x0 x1 x2 x3 x4 x5 : Value) (w : World), (Instr.index 80 (.agg #[x0, x1, x2, x3, x4, x5]) (.int .i64 5)).run Tryd.prog w = .ok x5 w := fun _ _ _ _ _ _ _ => by kernel_rfl
  have e1 := and_15 c5.1 c5.2
  have e2 := wrap_u8 (x := b5 / 16 + 1) (by omega) (by omega)
  have e3 := wrap_u8 (x := b5 % 16 + 1) (by omega) (by omega)
  have s1 := slice_hex (b5 / 16) (by omega) (by omega)
  have s2 := slice_hex (b5 % 16) (by omega) (by omega)
  have z1 := hexOne_size (b5 / 16) (by omega) (by omega)
  have z2 := hexOne_size (b5 % 16) (by omega) (by omega)
  go_wp2
  go_region_law (refine Kd.R_append_step Kd.string (w0 := w) (W := w6.drew) w.heap.size rfl (.tmp 14) (.tmp 28) 27 9 (.string ⟨#[]⟩) 16 rfl Tryd.underlying27 infoStr rfl (by decide) (by omega) v5 [hexTwo b0, hexTwo b1, hexTwo b2, hexTwo b3, hexTwo b4] (hexOne (b5 / 16) ++ hexOne (b5 % 16)) [.string (hexOne (b5 / 16) ++ hexOne (b5 % 16))] (fun _ => True) (fun _ => False) rfl rfl rfl (fun _ hk => hk.elim) (fun _ _ => trivial) (by (with_reducible repeat (first | apply Kd.R_alloc | apply Kd.R_drewN | apply Kd.R_drew)); exact HO.out) (by repeat (first | (with_reducible first | exact HB.out | apply below_alloc | apply pw_below_drewN | apply below_drew1) | exact HB.out)) (below_size (by repeat (first | (with_reducible first | exact HB.out | apply below_alloc | apply pw_below_drewN | apply below_drew1) | exact HB.out))) (by simp) ?_; intro v6 w7 ho hb hg hat)
  clear HO HB hg hat e1 e2 e3 s1 s2 z1 z2 i5
  have HO : Aside0 (Kd.R Kd.string 9 w7 w.heap.size (fun _ => True) v6 [hexTwo b0, hexTwo b1, hexTwo b2, hexTwo b3, hexTwo b4, hexTwo b5]) := ⟨ho⟩
  have HB := Aside0.mk hb
  clear ho hb
  go_wp2
  rw [rounds_succ]
  obtain ⟨Ao, co, ev⟩ := Kd.R_slice HO.out
  subst ev
  go_wp2_with (go_at_call 17; refine (strings_Join.calls _ _ [hexTwo b0, hexTwo b1, hexTwo b2, hexTwo b3, hexTwo b4, hexTwo b5] (⟨#[58]⟩ : ByteArray) _ _ (Kd.R_reads' HO.out).2.2 (Kd.R_reads' HO.out).2.1 (Laid.below hL HB.out) (if_pos ⟨?j1, ?j2⟩)).mono ?_; rintro e w9 ⟨rfl, hb9⟩)
  case j1 => simp
  case j2 =>
    simp only [hexTwo_data c0.1 c0.2, hexTwo_data c1.1 c1.2, hexTwo_data c2.1 c2.2, hexTwo_data c3.1 c3.2, hexTwo_data c4.1 c4.2, hexTwo_data c5.1 c5.2]
    simp [Lib.join, two, List.intercalate]
  go_ret
  exact ⟨rfl, below_step HB.out hb9⟩

theorem mac_Text.calls (a0 : Int) (r : ByteArray) (w : World) (hL : Laid w) (h : mac_Text.f a0 = some r) :
    Calls Tryd.prog 20 #[.int .u64 a0] w fun e w' => e = .returned (.string r) ∧ Below w.heap.size w w' := by
  unfold mac_Text.f at h
  split at h
  · rename_i hc
    obtain rfl := Option.some.inj h
    by_cases hs : a0 < 281474976710656
    · rw [if_pos hs]
      have := mac_Text_walk a0 _ _ _ _ _ _ hc.1 hs rfl rfl rfl rfl rfl rfl w hL
      simp only [List.map_cons, List.map_nil] at this
      rw [hexTwo_data (b := a0 / 1099511627776 % 256) (by omega) (by omega), hexTwo_data (b := a0 / 4294967296 % 256) (by omega) (by omega), hexTwo_data (b := a0 / 16777216 % 256) (by omega) (by omega), hexTwo_data (b := a0 / 65536 % 256) (by omega) (by omega), hexTwo_data (b := a0 / 256 % 256) (by omega) (by omega), hexTwo_data (b := a0 % 256) (by omega) (by omega)] at this
      have e : macText a0.toNat = Lib.join [two (a0 / 1099511627776 % 256).toNat, two (a0 / 4294967296 % 256).toNat, two (a0 / 16777216 % 256).toNat, two (a0 / 65536 % 256).toNat, two (a0 / 256 % 256).toNat, two (a0 % 256).toNat] [58] := by
        unfold macText macBytes
        simp only [List.map_cons, List.map_nil]
        rw [show a0.toNat / 1099511627776 % 256 = (a0 / 1099511627776 % 256).toNat by omega, show a0.toNat / 4294967296 % 256 = (a0 / 4294967296 % 256).toNat by omega, show a0.toNat / 16777216 % 256 = (a0 / 16777216 % 256).toNat by omega,
          show a0.toNat / 65536 % 256 = (a0 / 65536 % 256).toNat by omega, show a0.toNat / 256 % 256 = (a0 / 256 % 256).toNat by omega, show a0.toNat % 256 = (a0 % 256).toNat by omega]
      rw [e]
      exact this
    · rw [if_neg hs]
      exact mac_Text_none a0 (by omega) hc.2 w
  · cases h
end Go.Proofs.YtjamaamkmfdnaaaDoor
