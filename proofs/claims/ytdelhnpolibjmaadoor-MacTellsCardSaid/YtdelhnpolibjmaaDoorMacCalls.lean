/- The contracts that the laws of mac use, in plain words; conditions: ranges alone. -/
import Derived.Test.YtdelhnpolibjmaaDoorMacEv2
import Derived.ChangeKeysEq
namespace Go.Proofs.YtdelhnpolibjmaaDoor.P
open Go.RowKit Go.Proofs.YtdelhnpolibjmaaDoorW.PrintWords Go.Proofs.YtdelhnpolibjmaaDoor.X Go.Proofs.YtdelhnpolibjmaaDoor.Plain Go.Proofs.YtdelhnpolibjmaaDoor
set_option linter.unusedVariables false
set_option linter.unusedSimpArgs false

theorem C_good (a : Nat) (w : World) (hL : Laid w) : Calls Tryd.prog 13 #[.int .u64 (a : Int)] w fun e w' => e = .returned (.bool (gd a)) ∧ Drawn0 w w' := mac_Good.calls _ _ w hL (good_now a)
theorem C_goodref (a : Nat) (w : World) (hL : Laid w) : Calls Tryd.prog 14 #[.int .u64 (a : Int)] w fun e w' => e = .returned (.bool (gd a)) ∧ Drawn0 w w' := weirgateref09_Good.calls _ _ w hL (goodref_now a)
theorem C_group (a : Nat) (h : a < 18446744073709551616) (w : World) (hL : Laid w) : Calls Tryd.prog 15 #[.int .u64 (a : Int)] w fun e w' => e = .returned (.bool (gr a)) ∧ Drawn0 w w' := mac_Group.calls _ _ w hL (group_now a h)
theorem C_groupref (a : Nat) (h : a < 18446744073709551616) (w : World) (hL : Laid w) : Calls Tryd.prog 16 #[.int .u64 (a : Int)] w fun e w' => e = .returned (.bool (gr a)) ∧ Drawn0 w w' := weirgateref09_Group.calls _ _ w hL (groupref_now a h)
theorem C_kept (a : Nat) (h : a < 18446744073709551616) (w : World) (hL : Laid w) : Calls Tryd.prog 17 #[.int .u64 (a : Int)] w fun e w' => e = .returned (.bool (kp a)) ∧ Drawn0 w w' := mac_Kept.calls _ _ w hL (kept_now a h)
theorem C_keptref (a : Nat) (w : World) (hL : Laid w) : Calls Tryd.prog 18 #[.int .u64 (a : Int)] w fun e w' => e = .returned (.bool (kp a)) ∧ Drawn0 w w' := weirgateref09_Kept.calls _ _ w hL (keptref_now a)
theorem C_text (a : Nat) (h : a < 18446744073709551616) (w : World) (hL : Laid w) : Calls Tryd.prog 21 #[.int .u64 (a : Int)] w fun e w' => e = .returned (.string (B (textOf a))) ∧ Below w.heap.size w w' := mac_Text.calls _ _ w hL (text_now a h)
theorem C_textref (a : Nat) (w : World) (hL : Laid w) : Calls Tryd.prog 22 #[.int .u64 (a : Int)] w fun e w' => e = .returned (.string (B (textOf a))) ∧ Below w.heap.size w w' := by
  obtain ⟨k, hk⟩ := (textref_ev a).rounds
  exact weirgateref09_Text.calls k _ _ w hL hk
theorem C_wakes (w : World) (hL : Laid w) : Calls Tryd.prog 7 #[] w fun e w' => e = .returned (.bool true) ∧ Below w.heap.size w w' := by
  obtain ⟨k, hk⟩ := wakes_ev.rounds
  exact weirgatelaw09_wakes.calls k _ w hL hk
theorem C_parse (s : ByteArray) (h : s.size < 4294967281) (w : World) (hL : Laid w) : Calls Tryd.prog 11 #[.string s] w fun e w' => e = .returned (.tuple #[.int .u64 (macParse s.data.toList).1, .int .i64 (macParse s.data.toList).2]) ∧ Below w.heap.size w w' := by
  obtain ⟨k, hk⟩ := (parse_ev s h).rounds
  exact mac_Parse.calls k _ _ _ w hL hk
theorem C_parseref (s : ByteArray) (w : World) (hL : Laid w) : Calls Tryd.prog 12 #[.string s] w fun e w' => e = .returned (.tuple #[.int .u64 (macParse s.data.toList).1, .int .i64 (macParse s.data.toList).2]) ∧ Below w.heap.size w w' := by
  obtain ⟨k, hk⟩ := (parseref_ev s).rounds
  exact weirgateref09_Parse.calls k _ _ _ w hL hk
/-- An address's bytes, as a value. -/
def bytesV (a : Nat) : Value := .agg #[.int .u8 ((a : Int) / 1099511627776 % 256), .int .u8 ((a : Int) / 4294967296 % 256), .int .u8 ((a : Int) / 16777216 % 256), .int .u8 ((a : Int) / 65536 % 256), .int .u8 ((a : Int) / 256 % 256), .int .u8 ((a : Int) % 256)]
theorem C_bytes (a : Nat) (h : a < 18446744073709551616) (w : World) : Calls Tryd.prog 8 #[.int .u64 (a : Int)] w fun e w' => e = .returned (bytesV a) ∧ Below w.heap.size w w' := mac_Bytes.calls _ (by omega) (by omega) w

theorem info_u8 : ∃ i, Tryd.prog.info? 5 = some i := Option.isSome_iff_exists.1 (by kernel_rfl : (Tryd.prog.info? 5).isSome = true)
theorem bytes_eql (p0 p1 p2 p3 p4 p5 : Int) (W : World) : (binOp .eql 25 (.agg #[Value.int .u8 p0, Value.int .u8 p1, Value.int .u8 p2, Value.int .u8 p3, Value.int .u8 p4, Value.int .u8 p5]) (.agg #[Value.int .u8 p0, Value.int .u8 p1, Value.int .u8 p2, Value.int .u8 p3, Value.int .u8 p4, Value.int .u8 p5])).run Tryd.prog W = .ok (.bool true) W := by
  obtain ⟨i, hi⟩ := info_u8
  have q0 : (part 5 #[Value.int .u8 p0, Value.int .u8 p1, Value.int .u8 p2, Value.int .u8 p3, Value.int .u8 p4, Value.int .u8 p5] (0 * Tryd.prog.cellsOf 5)).run Tryd.prog W = .ok (.int .u8 p0) W := by kernel_rfl
  have q1 : (part 5 #[Value.int .u8 p0, Value.int .u8 p1, Value.int .u8 p2, Value.int .u8 p3, Value.int .u8 p4, Value.int .u8 p5] (1 * Tryd.prog.cellsOf 5)).run Tryd.prog W = .ok (.int .u8 p1) W := by kernel_rfl
  have q2 : (part 5 #[Value.int .u8 p0, Value.int .u8 p1, Value.int .u8 p2, Value.int .u8 p3, Value.int .u8 p4, Value.int .u8 p5] (2 * Tryd.prog.cellsOf 5)).run Tryd.prog W = .ok (.int .u8 p2) W := by kernel_rfl
  have q3 : (part 5 #[Value.int .u8 p0, Value.int .u8 p1, Value.int .u8 p2, Value.int .u8 p3, Value.int .u8 p4, Value.int .u8 p5] (3 * Tryd.prog.cellsOf 5)).run Tryd.prog W = .ok (.int .u8 p3) W := by kernel_rfl
  have q4 : (part 5 #[Value.int .u8 p0, Value.int .u8 p1, Value.int .u8 p2, Value.int .u8 p3, Value.int .u8 p4, Value.int .u8 p5] (4 * Tryd.prog.cellsOf 5)).run Tryd.prog W = .ok (.int .u8 p4) W := by kernel_rfl
  have q5 : (part 5 #[Value.int .u8 p0, Value.int .u8 p1, Value.int .u8 p2, Value.int .u8 p3, Value.int .u8 p4, Value.int .u8 p5] (5 * Tryd.prog.cellsOf 5)).run Tryd.prog W = .ok (.int .u8 p5) W := by kernel_rfl
  have e : ∀ p : Int, (Op.equalIn 9999 5 (.int .u8 p) (.int .u8 p)).run Tryd.prog W = .ok true W := by
    intro p
    rw [run_equalIn_int (P := Tryd.prog) W 9998 5 .u8 .u8 p p Tryd.underlying5, beq_self_eq_true]
  rw [run_eql_struct, run_equalIn_array W 9999 _ _ Tryd.underlying25 hi, show List.range 6 = [0, 1, 2, 3, 4, 5] from rfl]
  simp only [Op.eqItems, Sem.run_bind, q0, e, Result.andThen_ok, Bool.not_true, Bool.false_eq_true, if_false, q1, q2, q3, q4, q5]
  simp
theorem bytes_guard (x y : Operand) (xs ys : Array Value) (W : World) : (eqGuard .eql 25 x y (.agg xs) (.agg ys)).run Tryd.prog W = .ok () W := run_eqGuard_agg W .eql 25 x y xs ys (by kernel_rfl)
theorem xor_40 (n : Nat) (h : n < 281474976710656) : ∃ x : Nat, Go.bits .xor .u64 (n : Int) 1099511627776 = (x : Int) ∧ x < 281474976710656 ∧ gr x = !gr n := by
  have e : Go.bits .xor .u64 (n : Int) 1099511627776 = IntKind.u64.wrap ((BitVec.ofInt 64 (n : Int) ^^^ BitVec.ofInt 64 1099511627776).toNat : Int) := rfl
  have hx : n ^^^ 1099511627776 < 281474976710656 := Nat.xor_lt_two_pow (n := 48) h (by decide)
  refine ⟨n ^^^ 1099511627776, ?_, hx, ?_⟩
  · rw [e, BitVec.toNat_xor, BitVec.ofInt_natCast, BitVec.toNat_ofNat, Nat.mod_eq_of_lt (by omega), show (BitVec.ofInt 64 1099511627776).toNat = 1099511627776 by decide, wraps_u64 _ (by omega) (by omega)]
  · unfold gr gd
    rw [decide_eq_true hx, decide_eq_true h, Bool.true_and, Bool.true_and]
    have t := Nat.testBit_xor n 1099511627776 40
    rw [show Nat.testBit 1099511627776 40 = true by decide, Nat.testBit_eq_decide_div_mod_eq, Nat.testBit_eq_decide_div_mod_eq, Bool.xor_true] at t
    exact t

end Go.Proofs.YtdelhnpolibjmaaDoor.P
