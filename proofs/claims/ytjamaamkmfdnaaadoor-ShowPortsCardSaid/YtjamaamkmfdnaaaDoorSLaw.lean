/- ShowPorts holds: the walk with what its functions come to. -/
import Derived.Test.YtjamaamkmfdnaaaDoorSPorts
namespace Go.Proofs.YtjamaamkmfdnaaaDoor.P
open Go.RowKit Go.Proofs.YtjamaamkmfdnaaaDoorW.PrintWords Go.Proofs.YtjamaamkmfdnaaaDoorW.PrintLast Go.Proofs.YtjamaamkmfdnaaaDoorW.PrintMore Go.Proofs.YtjamaamkmfdnaaaDoor.X Go.Proofs.YtjamaamkmfdnaaaDoor.Plain Go.Proofs.YtjamaamkmfdnaaaDoor
set_option linter.unusedVariables false
set_option linter.unusedSimpArgs false
set_option maxRecDepth 100000
theorem short_line (a b c d : L) : B (line ([a, b, c, d] ++ [[115, 105, 108, 101, 110, 116]])) = (((((B a ++ B [32]) ++ B b) ++ B [32]) ++ B c) ++ B [32]) ++ B d ++ B [32, 115, 105, 108, 101, 110, 116] := by
  simp [line, B_append]
theorem known_line (a b c d r e f : L) : B (line ([a, b, c, d] ++ [[114, 111, 111, 116], r, [102, 114, 111, 109], e, [99, 111, 115, 116], f])) = ((((((((((((B a ++ B [32]) ++ B b) ++ B [32]) ++ B c) ++ B [32]) ++ B d) ++ B [32, 114, 111, 111, 116, 32]) ++ B r) ++ B [32, 102, 114, 111, 109, 32]) ++ B e) ++ B [32, 99, 111, 115, 116, 32]) ++ B f) := by
  simp [line, B_append]
theorem ports (n x y : Nat) (root cost bridge : Nat) (port : Int) (w : World) (hL : Laid w) (hn : n < 256) (hx : x < 256) (hy : y < 256) (h1 : root < 18446744073709551616) (h2 : bridge < 18446744073709551616) (h3 : cost < 4294967296) :
    Calls Tryd.prog 3 #[.int .u8 n, .agg #[.int .u8 x, .int .u8 y], .agg #[.int .u64 root, .int .u32 cost, .int .u64 bridge, .int .i64 port]] w fun e w' => e = .returned (.bool true) ∧ Below w.heap.size w w' := by
  have hr5 : x % 5 < 5 := by omega
  have hs3 : y % 3 < 3 := by omega
  have hn' : n < 18446744073709551616 := by omega
  have hn2 : n < 9223372036854775808 := by omega
  have h3' : cost < 18446744073709551616 := by omega
  obtain ⟨K0, q0⟩ := dec_ev n hn'
  obtain ⟨K1, q1⟩ := dec_ev root h1
  obtain ⟨K2, q2⟩ := dec_ev bridge h2
  obtain ⟨K3, q3⟩ := dec_ev cost h3'
  obtain ⟨K4, q4⟩ := port_ev n (x % 5) (y % 3) hn2 hr5 hs3 false 0 0 0 0 0 0 0 0 false
  obtain ⟨K5, q5⟩ := port_known_ev n (x % 5) (y % 3) root bridge cost hn2 hr5 hs3 h1 h2 h3 false 0 port 0 0 0 false
  have z : ∀ u : Nat, u < 18446744073709551616 → (B (Lib.decDigits u)).size ≤ 20 := fun u hu => by rw [B_size]; exact dec_length u hu
  refine ports_walk (K0 + K1 + K2 + K3 + K4 + K5) n x y (x % 5) (y % 3) root cost bridge port (B (Lib.decDigits n)) (B (Lib.decDigits root)) (B (Lib.decDigits bridge)) (B (Lib.decDigits cost)) (B (line (headW n (x % 5) (y % 3) ++ tailW none))) (B (line (headW n (x % 5) (y % 3) ++ tailW (some (root, bridge, cost))))) (B (roleN (x % 5))) (B (stateN (y % 3))) (roles_at _ hr5) (states_at _ hs3) (z n hn') (z root h1) (z bridge h2) (z cost h3') (by rw [B_size]; exact (roleN_fine _).2) (by rw [B_size]; exact (stateN_fine _).2) w hL hn hx hy rfl rfl hr5 hs3 h1 h2 h3 (q0 _ (by omega)) (q1 _ (by omega)) (q2 _ (by omega)) (q3 _ (by omega)) (q4 _ (by omega)) (q5 _ (by omega)) ?_ ?_
  · simp only [headW, tailW]
    rw [short_line]
    have e : B [112, 111, 114, 116] ++ B [32] = B [112, 111, 114, 116, 32] := by rw [B_append]; rfl
    rw [e]; rfl
  · simp only [headW, tailW]
    rw [known_line]
    have e : B [112, 111, 114, 116] ++ B [32] = B [112, 111, 114, 116, 32] := by rw [B_append]; rfl
    rw [e]; rfl
theorem ports_int (n x y root cost bridge port : Int) (w : World) (hL : Laid w) (hn : 0 ≤ n ∧ n ≤ 255) (hx : 0 ≤ x ∧ x ≤ 255) (hy : 0 ≤ y ∧ y ≤ 255) (h1 : 0 ≤ root ∧ root ≤ 18446744073709551615) (h3 : 0 ≤ cost ∧ cost ≤ 4294967295) (h2 : 0 ≤ bridge ∧ bridge ≤ 18446744073709551615) :
    Calls Tryd.prog 3 #[.int .u8 n, .agg #[.int .u8 x, .int .u8 y], .agg #[.int .u64 root, .int .u32 cost, .int .u64 bridge, .int .i64 port]] w fun e w' => e = .returned (.bool true) ∧ Below w.heap.size w w' := by
  obtain ⟨n, rfl⟩ := Int.eq_ofNat_of_zero_le hn.1
  obtain ⟨x, rfl⟩ := Int.eq_ofNat_of_zero_le hx.1
  obtain ⟨y, rfl⟩ := Int.eq_ofNat_of_zero_le hy.1
  obtain ⟨root, rfl⟩ := Int.eq_ofNat_of_zero_le h1.1
  obtain ⟨cost, rfl⟩ := Int.eq_ofNat_of_zero_le h3.1
  obtain ⟨bridge, rfl⟩ := Int.eq_ofNat_of_zero_le h2.1
  have e1 : n < 256 := by omega
  have e2 : x < 256 := by omega
  have e3 : y < 256 := by omega
  have e4 : root < 18446744073709551616 := by omega
  have e5 : bridge < 18446744073709551616 := by omega
  have e6 : cost < 4294967296 := by omega
  exact ports n x y root cost bridge port w hL e1 e2 e3 e4 e5 e6
end Go.Proofs.YtjamaamkmfdnaaaDoor.P
