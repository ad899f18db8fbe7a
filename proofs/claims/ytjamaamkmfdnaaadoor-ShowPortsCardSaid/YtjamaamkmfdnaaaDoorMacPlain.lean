/- Addresses and their texts, in plain words: a text is an address's or it is none; no program; no condition. -/
import Derived.Test.YtjamaamkmfdnaaaDoorMacText
import Derived.Test.YtjamaamkmfdnaaaDoorPlain
namespace Go.Proofs.YtjamaamkmfdnaaaDoor.Plain
open Go.Proofs.YtjamaamkmfdnaaaDoor

def hexList : L := [48, 49, 50, 51, 52, 53, 54, 55, 56, 57, 97, 98, 99, 100, 101, 102]
/-- A hexadecimal digit's number; -1 for what is none. -/
def hv (b : UInt8) : Int := Lib.indexByte hexList b
def hvOk (b : UInt8) : Bool := hv b == -1 || (decide (0 ≤ hv b) && decide (hv b < 16) && hexd (hv b).toNat == b)
set_option maxRecDepth 20000 in
theorem hv_all : ∀ n : Nat, n < 256 → hvOk (UInt8.ofNat n) = true := by decide
theorem hv_cases (b : UInt8) : hv b = -1 ∨ (0 ≤ hv b ∧ hv b < 16 ∧ hexd (hv b).toNat = b) := by
  have h := hv_all b.toNat (by have := b.toNat_lt; omega)
  rw [UInt8.ofNat_toNat] at h
  unfold hvOk at h
  simp only [Bool.or_eq_true, Bool.and_eq_true, beq_iff_eq, decide_eq_true_eq] at h
  rcases h with h | ⟨⟨h1, h2⟩, h3⟩
  · exact Or.inl h
  · exact Or.inr ⟨h1, h2, h3⟩
theorem hv_hexd : ∀ n : Nat, n < 16 → hv (hexd n) = (n : Int) := by decide
theorem hexd_58 : ∀ n : Nat, n < 16 → ¬ (hexd n = 58) := by decide

/-- The value of bytes, the highest first. -/
def bval (acc : Nat) : List Nat → Nat
  | [] => acc
  | b :: r => bval (acc * 256 + b) r
theorem bval_six (a b c d e f : Nat) : bval 0 [a, b, c, d, e, f] = ((((a * 256 + b) * 256 + c) * 256 + d) * 256 + e) * 256 + f := by
  unfold bval; unfold bval; unfold bval; unfold bval; unfold bval; unfold bval; unfold bval; omega
theorem bval_macBytes {a : Nat} (h : a < 281474976710656) : bval 0 (macBytes a) = a := by
  unfold macBytes
  rw [bval_six]
  omega
theorem macBytes_six {a b c d e f : Nat} (ha : a < 256) (hb : b < 256) (hc : c < 256) (hd : d < 256) (he : e < 256) (hf : f < 256) :
    macBytes (((((a * 256 + b) * 256 + c) * 256 + d) * 256 + e) * 256 + f) = [a, b, c, d, e, f] := by
  unfold macBytes
  simp only [List.cons.injEq, and_true]
  refine ⟨?_, ?_, ?_, ?_, ?_, ?_⟩ <;> omega

/-- One part of a text as a byte. -/
def part : L → Option Nat
  | [x, y] => if hv x < 0 ∨ hv y < 0 then none else some ((hv x).toNat * 16 + (hv y).toNat)
  | _ => none
theorem part_two {n : Nat} (h : n < 256) : part (two n) = some n := by
  unfold part two
  simp only
  rw [hv_hexd _ (by omega), hv_hexd _ (by omega), if_neg (by omega)]
  congr 1
  omega
theorem part_some {p : L} {n : Nat} (h : part p = some n) : n < 256 ∧ p = two n := by
  unfold part at h
  split at h
  · rename_i x y
    split at h
    · cases h
    · rename_i hc
      injection h with h
      rcases hv_cases x with hx | ⟨hx0, hx1, hx2⟩
      · omega
      rcases hv_cases y with hy | ⟨hy0, hy1, hy2⟩
      · omega
      refine ⟨by omega, ?_⟩
      unfold two
      rw [← h, show ((hv x).toNat * 16 + (hv y).toNat) / 16 = (hv x).toNat by omega, show ((hv x).toNat * 16 + (hv y).toNat) % 16 = (hv y).toNat by omega, hx2, hy2]
  · cases h
/-- All parts. -/
def parts : List L → Option (List Nat)
  | [] => some []
  | p :: r => (part p).bind fun n => (parts r).map (n :: ·)
theorem parts_some : ∀ {ps : List L} {bs : List Nat}, parts ps = some bs → ps = bs.map two ∧ ∀ b ∈ bs, b < 256
  | [], bs, h => by
    injection h with h
    subst h
    simp
  | p :: r, bs, h => by
    unfold parts at h
    obtain ⟨n, hn, h⟩ := Option.bind_eq_some_iff.mp h
    obtain ⟨q, hq, h⟩ := Option.map_eq_some_iff.mp h
    subst h
    obtain ⟨e1, e2⟩ := parts_some hq
    obtain ⟨f1, f2⟩ := part_some hn
    refine ⟨by rw [List.map_cons, ← e1, ← f2], ?_⟩
    intro b hb
    rcases List.mem_cons.1 hb with rfl | hb
    · exact f1
    · exact e2 b hb
theorem parts_two : ∀ {bs : List Nat}, (∀ b ∈ bs, b < 256) → parts (bs.map two) = some bs
  | [], _ => rfl
  | b :: r, h => by
    rw [List.map_cons]
    unfold parts
    rw [part_two (h b List.mem_cons_self), parts_two fun c hc => h c (List.mem_cons_of_mem _ hc)]
    rfl

theorem join_pieces (c : UInt8) : ∀ l : L, Lib.join (pieces c l) [c] = l
  | [] => by simp [pieces, Lib.join, List.intercalate]
  | b :: l => by
    have ih := join_pieces c l
    unfold pieces
    cases hp : pieces c l with
    | nil => exact absurd hp (pieces_ne c l)
    | cons p ps =>
      rw [hp] at ih
      rw [Lib.join_cons] at ih
      split
      · rename_i hb
        rw [Lib.join_cons, Lib.joinTail, List.map_cons, List.flatten_cons, ← hb]
        show b :: (p ++ Lib.joinTail [b] ps) = b :: l
        rw [hb, ih]
      · show Lib.join ((b :: p) :: ps) [c] = b :: l
        rw [Lib.join_cons, List.cons_append, ih]

theorem two_58 {n : Nat} (h : n < 256) : (58 : UInt8) ∉ two n := by
  unfold two
  simp only [List.mem_cons, List.not_mem_nil, or_false, not_or]
  exact ⟨fun e => hexd_58 _ (by omega) e.symm, fun e => hexd_58 _ (by omega) e.symm⟩
theorem macText_now (a : Nat) : macText a = two (a / 1099511627776 % 256) ++ 58 :: (two (a / 4294967296 % 256) ++ 58 :: (two (a / 16777216 % 256) ++ 58 :: (two (a / 65536 % 256) ++ 58 :: (two (a / 256 % 256) ++ 58 :: two (a % 256))))) := by
  unfold macText macBytes
  simp [Lib.join, List.intercalate]
theorem pieces_macText (a : Nat) : pieces 58 (macText a) = (macBytes a).map two := by
  rw [macText_now, pieces_front 58 _ _ (two_58 (by omega)), pieces_front 58 _ _ (two_58 (by omega)), pieces_front 58 _ _ (two_58 (by omega)), pieces_front 58 _ _ (two_58 (by omega)), pieces_front 58 _ _ (two_58 (by omega)), pieces_none 58 _ (two_58 (by omega))]
  rfl
theorem macBytes_lt (a : Nat) : ∀ b ∈ macBytes a, b < 256 := by
  unfold macBytes
  intro b hb
  simp only [List.mem_cons, List.not_mem_nil, or_false] at hb
  omega
theorem macText_length (a : Nat) : (macText a).length = 17 := by
  rw [macText_now]
  simp [two]

/-- The address of bytes. -/
def ofB (bs : List Nat) : Int × Int := if bs.length = 6 then ((bval 0 bs : Nat), 0) else (0, 11)
/-- The address of a text. -/
def macParse (s : L) : Int × Int := match parts (pieces 58 s) with
  | some bs => ofB bs
  | none => (0, 11)
theorem macParse_text {a : Nat} (h : a < 281474976710656) : macParse (macText a) = ((a : Int), 0) := by
  unfold macParse
  rw [pieces_macText, parts_two (macBytes_lt a)]
  show ofB (macBytes a) = _
  unfold ofB
  rw [if_pos (show (macBytes a).length = 6 from rfl), bval_macBytes h]
theorem macParse_cases (s : L) : (∃ a : Nat, a < 281474976710656 ∧ s = macText a ∧ macParse s = ((a : Int), 0)) ∨ ((∀ a : Nat, a < 281474976710656 → ¬ s = macText a) ∧ macParse s = (0, 11)) := by
  by_cases h : ∃ a : Nat, a < 281474976710656 ∧ s = macText a
  · obtain ⟨a, h1, h2⟩ := h
    exact Or.inl ⟨a, h1, h2, by rw [h2]; exact macParse_text h1⟩
  · refine Or.inr ⟨fun a h1 h2 => h ⟨a, h1, h2⟩, ?_⟩
    unfold macParse
    split
    · rename_i bs hb
      unfold ofB
      split
      · rename_i hl
        refine absurd ?_ h
        obtain ⟨e1, e2⟩ := parts_some hb
        match bs, hl with
        | [a, b, c, d, e, f], _ =>
          have ha := e2 a (by simp)
          have hb := e2 b (by simp)
          have hc := e2 c (by simp)
          have hd := e2 d (by simp)
          have he := e2 e (by simp)
          have hf := e2 f (by simp)
          refine ⟨((((a * 256 + b) * 256 + c) * 256 + d) * 256 + e) * 256 + f, by omega, ?_⟩
          unfold macText
          rw [macBytes_six ha hb hc hd he hf, ← e1, join_pieces]
      · rfl
    · rfl
theorem macText_inj {a b : Nat} (ha : a < 281474976710656) (hb : b < 281474976710656) (h : macText a = macText b) : a = b := by
  have h1 := macParse_text ha
  rw [h, macParse_text hb] at h1
  injection h1 with h1
  omega

/-! ### the reference's -/
/-- Its loop: the place modulo 3, the number till now. -/
def rp : Nat → Nat → L → Option Nat
  | _, v, [] => some v
  | 0, v, c :: l => if hv c < 0 then none else rp 1 (v * 16 + (hv c).toNat) l
  | 1, v, c :: l => if hv c < 0 then none else rp 2 (v * 16 + (hv c).toNat) l
  | _ + 2, v, _ :: l => rp 0 v l
theorem rp_0 (v : Nat) (c : UInt8) (l : L) : rp 0 v (c :: l) = if hv c < 0 then none else rp 1 (v * 16 + (hv c).toNat) l := by rw [rp]
theorem rp_1 (v : Nat) (c : UInt8) (l : L) : rp 1 v (c :: l) = if hv c < 0 then none else rp 2 (v * 16 + (hv c).toNat) l := by rw [rp]
theorem rp_2 (v : Nat) (c : UInt8) (l : L) : rp 2 v (c :: l) = rp 0 v l := by rw [rp]
theorem rp_nil (p v : Nat) : rp p v [] = some v := by rw [rp]
theorem rp_two {n : Nat} (h : n < 256) (v : Nat) (l : L) : rp 0 v (two n ++ l) = rp 2 (v * 256 + n) l := by
  unfold two
  rw [List.cons_append, List.cons_append, List.nil_append, rp_0, hv_hexd _ (by omega), if_neg (by omega), rp_1, hv_hexd _ (by omega), if_neg (by omega)]
  congr 1
  omega
theorem rp_macText {a : Nat} (h : a < 281474976710656) : rp 0 0 (macText a) = some a := by
  rw [macText_now, rp_two (by omega), rp_2, rp_two (by omega), rp_2, rp_two (by omega), rp_2, rp_two (by omega), rp_2, rp_two (by omega), rp_2, ← List.append_nil (two (a % 256)), rp_two (by omega), rp_nil]
  congr 1
  omega
theorem rp_lt : ∀ (n v : Nat) (l : L) (r : Nat), l.length = 3 * n + 2 → rp 0 v l = some r → r < (v + 1) * 256 ^ (n + 1)
  | n, v, x :: y :: l, r, hl, h => by
    rw [rp_0] at h
    split at h
    · cases h
    rw [rp_1] at h
    split at h
    · cases h
    rename_i hx hy
    have h1 : (hv x).toNat < 16 := by rcases hv_cases x with e | e <;> omega
    have h2 : (hv y).toNat < 16 := by rcases hv_cases y with e | e <;> omega
    cases n with
    | zero =>
      obtain rfl : l = [] := List.eq_nil_of_length_eq_zero (by simp only [List.length_cons] at hl; omega)
      rw [rp_nil] at h
      injection h with h
      simp only [Nat.zero_add, Nat.pow_one]
      omega
    | succ n =>
      match l, hl, h with
      | z :: l, hl, h =>
        rw [rp_2] at h
        have := rp_lt n _ l r (by simp only [List.length_cons] at hl; omega) h
        refine Nat.lt_of_lt_of_le this ?_
        rw [Nat.pow_succ 256 (n + 1), Nat.mul_comm (256 ^ (n + 1)) 256, ← Nat.mul_assoc]
        exact Nat.mul_le_mul_right _ (by omega)
/-- Its answer. -/
def refParse (s : L) : Int × Int := if s.length = 17 then (match rp 0 0 s with | some v => if macText v = s then ((v : Int), 0) else (0, 11) | none => (0, 11)) else (0, 11)
theorem refParse_is (s : L) : refParse s = macParse s := by
  unfold refParse
  rcases macParse_cases s with ⟨a, h1, h2, h3⟩ | ⟨h1, h2⟩
  · rw [h3, h2, if_pos (macText_length a), rp_macText h1]
    simp
  · rw [h2]
    split
    · rename_i hl
      split
      · rename_i v hv
        have := rp_lt 5 0 s v hl hv
        rw [if_neg fun e => h1 v (by simpa using this) e.symm]
      · rfl
    · rfl
end Go.Proofs.YtjamaamkmfdnaaaDoor.Plain
