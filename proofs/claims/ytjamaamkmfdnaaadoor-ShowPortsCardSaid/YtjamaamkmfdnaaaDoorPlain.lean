/- Plain facts on lists of bytes: cutting at a byte, putting together, decimal digits; no program; no condition. -/
import Derived.Lib.Split
import Derived.Lib.Join
import Derived.Lib.ItoaNum
import Derived.Lib.ItoaMem
import Derived.Lib.AtoiAll
import Derived.Lib.IndexBytes
import Derived.Lib.IndexMore
import Derived.Lib.CountLaws
namespace Go.Proofs.YtjamaamkmfdnaaaDoor.Plain
open Go.Lib

abbrev L := List UInt8
def B (l : L) : ByteArray := ⟨l.toArray⟩
theorem B_data (l : L) : (B l).data.toList = l := by simp [B]
theorem data_B (s : ByteArray) : B s.data.toList = s := by simp [B]
theorem B_inj {a b : L} (h : B a = B b) : a = b := by rw [← B_data a, ← B_data b, h]
theorem ext_data {a b : ByteArray} (h : a.data.toList = b.data.toList) : a = b := by rw [← data_B a, ← data_B b, h]
theorem map_data_inj : ∀ {a b : List ByteArray}, a.map (·.data.toList) = b.map (·.data.toList) → a = b
  | [], [], _ => rfl
  | [], _ :: _, h => by simp at h
  | _ :: _, [], h => by simp at h
  | x :: a, y :: b, h => by
    simp only [List.map_cons, List.cons.injEq] at h
    rw [ext_data h.1, map_data_inj h.2]

/-! ### cutting at a byte -/
def pieces (c : UInt8) : L → List L
  | [] => [[]]
  | b :: l => if b = c then [] :: pieces c l else match pieces c l with
    | [] => [[b]]
    | p :: ps => (b :: p) :: ps

theorem pieces_ne (c : UInt8) (l : L) : pieces c l ≠ [] := by
  cases l with
  | nil => simp [pieces]
  | cons b l =>
    unfold pieces
    split
    · simp
    · split <;> simp

theorem pieces_hit (c : UInt8) (l : L) : pieces c (c :: l) = [] :: pieces c l := by simp [pieces]

theorem pieces_front (c : UInt8) : ∀ (p r : L), c ∉ p → pieces c (p ++ c :: r) = p :: pieces c r
  | [], r, _ => pieces_hit c r
  | b :: p, r, h => by
    have hb : ¬ b = c := fun e => h (by rw [e]; exact List.mem_cons_self)
    have hp : c ∉ p := fun e => h (List.mem_cons_of_mem _ e)
    simp only [List.cons_append, pieces, if_neg hb, pieces_front c p r hp]

theorem pieces_none (c : UInt8) : ∀ (p : L), c ∉ p → pieces c p = [p]
  | [], _ => rfl
  | b :: p, h => by
    have hb : ¬ b = c := fun e => h (by rw [e]; exact List.mem_cons_self)
    have hp : c ∉ p := fun e => h (List.mem_cons_of_mem _ e)
    simp only [pieces, if_neg hb, pieces_none c p hp]

theorem pieces_mem (c : UInt8) : ∀ (l p : L), p ∈ pieces c l → c ∉ p
  | [], p, h => by
    simp only [pieces, List.mem_singleton] at h
    subst h
    simp
  | b :: l, p, h => by
    unfold pieces at h
    split at h
    · rcases List.mem_cons.1 h with rfl | h
      · simp
      · exact pieces_mem c l p h
    · rename_i hb
      split at h
      · rw [List.mem_singleton.1 h]
        intro e
        exact hb (List.mem_singleton.1 e).symm
      · rename_i q qs he
        rcases List.mem_cons.1 h with rfl | h
        · intro e
          rcases List.mem_cons.1 e with e | e
          · exact hb e.symm
          · exact pieces_mem c l q (by rw [he]; exact List.mem_cons_self) e
        · exact pieces_mem c l p (by rw [he]; exact List.mem_cons_of_mem _ h)

theorem pieces_length (c : UInt8) : ∀ (l : L), (pieces c l).length ≤ l.length + 1
  | [] => by simp [pieces]
  | b :: l => by
    have ih := pieces_length c l
    unfold pieces
    split
    · simp only [List.length_cons]; omega
    · split
      · simp
      · rename_i q qs he
        rw [he] at ih
        simp only [List.length_cons] at ih ⊢; omega

theorem index_cons_hit (c : UInt8) (l : L) : index (c :: l) [c] = 0 := by simp [index, List.isPrefixOf]
theorem index_cons_miss (b c : UInt8) (l : L) (h : ¬ b = c) : index (b :: l) [c] = if index l [c] == -1 then -1 else index l [c] + 1 := by
  have : ¬ c = b := fun e => h e.symm
  simp [index, List.isPrefixOf, this]

theorem count_cons_hit (c : UInt8) (l : L) : count (c :: l) [c] = 1 + count l [c] := by
  rw [count_hit (i := 0) (by simp) (index_cons_hit c l)]
  simp
theorem count_cons_miss (b c : UInt8) (l : L) (h : ¬ b = c) : count (b :: l) [c] = count l [c] := by
  by_cases hm : index l [c] = -1
  · rw [count_miss hm, count_miss (by rw [index_cons_miss b c l h, hm]; rfl)]
  · have hge := index_ge l [c]
    obtain ⟨i, hi⟩ := Int.eq_ofNat_of_zero_le (show 0 ≤ index l [c] by omega)
    have hi2 : index (b :: l) [c] = ((i + 1 : Nat) : Int) := by
      rw [index_cons_miss b c l h, if_neg (by simpa using hm), hi]
      rfl
    rw [count_hit (by simp) hi, count_hit (by simp) hi2]
    rfl

theorem splitK_pieces (c : UInt8) : ∀ (l : L), splitK [c] 0 (count l [c]) l = pieces c l
  | [] => by
    rw [count_miss (by simp [index])]
    rfl
  | b :: l => by
    have ih := splitK_pieces c l
    by_cases hb : b = c
    · subst hb
      rw [count_cons_hit, Nat.add_comm, splitK, index_cons_hit, if_neg (by decide), pieces_hit]
      simpa using ih
    · rw [count_cons_miss b c l hb]
      by_cases hm : index l [c] = -1
      · rw [count_miss hm] at ih ⊢
        simp only [splitK] at ih ⊢
        simp only [pieces, if_neg hb, ← ih]
      · have hge := index_ge l [c]
        obtain ⟨i, hi⟩ := Int.eq_ofNat_of_zero_le (show 0 ≤ index l [c] by omega)
        have hi2 : index (b :: l) [c] = ((i + 1 : Nat) : Int) := by
          rw [index_cons_miss b c l hb, if_neg (by simpa using hm), hi]
          rfl
        rw [count_hit (by simp) hi, Nat.add_comm, splitK, if_neg (by simpa using hm), hi] at ih
        rw [count_hit (by simp) hi, Nat.add_comm, splitK, hi2, if_neg (by intro e; have := eq_of_beq e; omega)]
        simp only [pieces, if_neg hb, ← ih]
        simp

theorem splitB_pieces (c : UInt8) (sep s : ByteArray) (hsep : sep.data.toList = [c]) : (splitB sep 0 (countB s sep) s).map (·.data.toList) = pieces c s.data.toList := by
  rw [splitB_data, hsep]
  have : countB s sep = count s.data.toList [c] := by unfold countB; rw [hsep]
  rw [this]
  exact splitK_pieces c _

/-! ### the words of a line -/
def cut (l : L) : List L := (pieces 32 l).filter (fun p => !p.isEmpty)

theorem cut_front (p r : L) (h : (32 : UInt8) ∉ p) : cut (p ++ 32 :: r) = (if p.isEmpty then [] else [p]) ++ cut r := by
  unfold cut
  rw [pieces_front 32 p r h, List.filter_cons]
  cases p <;> simp
theorem cut_none (p : L) (h : (32 : UInt8) ∉ p) : cut p = if p.isEmpty then [] else [p] := by
  unfold cut
  rw [pieces_none 32 p h, List.filter_cons]
  cases p <;> simp
theorem cut_mem (l p : L) (h : p ∈ cut l) : p ≠ [] ∧ (32 : UInt8) ∉ p := by
  obtain ⟨h1, h2⟩ := List.mem_filter.1 h
  exact ⟨by simpa using h2, pieces_mem 32 l p h1⟩
theorem cut_length (l : L) : (cut l).length ≤ l.length + 1 := Nat.le_trans (List.length_filter_le _ _) (pieces_length 32 l)

theorem pieces_append (c : UInt8) : ∀ (l r : L), pieces c (l ++ c :: r) = pieces c l ++ pieces c r
  | [], r => pieces_hit c r
  | b :: l, r => by
    simp only [List.cons_append, pieces]
    rw [pieces_append c l r]
    split
    · rfl
    · cases hp : pieces c l with
      | nil => exact absurd hp (pieces_ne c l)
      | cons p ps => rfl
theorem cut_append (l r : L) : cut (l ++ 32 :: r) = cut l ++ cut r := by
  unfold cut
  rw [pieces_append, List.filter_append]
theorem cut_nil : cut [] = [] := rfl
theorem cut_behind (l : L) : cut (l ++ [32, 32]) = cut l := by
  rw [show l ++ [32, 32] = (l ++ 32 :: ([] : L)) ++ 32 :: ([] : L) by simp, cut_append, cut_append, cut_nil]
  simp

/-- A blank between two. -/
def line : List L → L
  | [] => []
  | [p] => p
  | p :: q :: r => p ++ 32 :: line (q :: r)

theorem line_cons (p : L) (r : List L) (h : r ≠ []) : line (p :: r) = p ++ 32 :: line r := by
  cases r with
  | nil => exact absurd rfl h
  | cons q r => rfl
theorem line_snoc : ∀ (r : List L) (p : L), r ≠ [] → line (r ++ [p]) = line r ++ 32 :: p
  | [], _, h => absurd rfl h
  | [x], p, _ => rfl
  | x :: y :: r, p, _ => by
    rw [List.cons_append, line_cons _ _ (by simp), line_cons _ _ (by simp), line_snoc (y :: r) p (by simp)]
    simp
theorem line_ne {r : List L} (h : r ≠ []) (hp : ∀ p ∈ r, p ≠ []) : line r ≠ [] := by
  match r, h with
  | [p], _ => exact hp p (by simp)
  | p :: q :: r, _ =>
    rw [line_cons _ _ (by simp)]
    simp
theorem join_line (r : List L) : join r [32] = line r := by
  match r with
  | [] => rfl
  | p :: r =>
    rw [join_cons]
    induction r generalizing p with
    | nil => simp [joinTail, line]
    | cons q r ih =>
      rw [line_cons _ _ (by simp), ← ih q]
      simp [joinTail]
theorem cut_line : ∀ (r : List L), (∀ p ∈ r, p ≠ [] ∧ (32 : UInt8) ∉ p) → cut (line r) = r
  | [], _ => rfl
  | [p], h => by
    have hp := h p (by simp)
    rw [show line [p] = p from rfl, cut_none p hp.2, if_neg (by simpa using hp.1)]
  | p :: q :: r, h => by
    have hp := h p (by simp)
    rw [line_cons _ _ (by simp), cut_front p _ hp.2, if_neg (by simpa using hp.1), cut_line (q :: r) (fun x hx => h x (List.mem_cons_of_mem _ hx))]
    rfl
theorem cut_line_cut (l : L) : cut (line (cut l)) = cut l := cut_line _ (cut_mem l)
theorem line_length : ∀ (r : List L), (line r).length ≤ (r.map (fun p => p.length + 1)).sum
  | [] => by simp [line]
  | [p] => by simp [line]
  | p :: q :: r => by
    have := line_length (q :: r)
    rw [line_cons _ _ (by simp)]
    simp only [List.length_append, List.length_cons, List.map_cons, List.sum_cons] at this ⊢
    omega
theorem cut_sum (l : L) : ((cut l).map (fun p => p.length + 1)).sum ≤ l.length + 1 := by
  have key : ∀ (l : L), ((pieces 32 l).map (fun p => p.length + 1)).sum = l.length + 1 := by
    intro l
    induction l with
    | nil => simp [pieces]
    | cons b l ih =>
      unfold pieces
      split
      · simp only [List.map_cons, List.sum_cons, List.length_nil, List.length_cons, ih]; omega
      · split
        · rename_i he
          exact absurd he (pieces_ne 32 l)
        · rename_i q qs he
          rw [he] at ih
          simp only [List.map_cons, List.sum_cons, List.length_cons] at ih ⊢
          omega
  have le : ∀ (q : List L), ((q.filter (fun p => !p.isEmpty)).map (fun p => p.length + 1)).sum ≤ (q.map (fun p => p.length + 1)).sum := by
    intro q
    induction q with
    | nil => simp
    | cons x q ih =>
      rw [List.filter_cons]
      split <;> simp only [List.map_cons, List.sum_cons] <;> omega
  exact key l ▸ le (pieces 32 l)
theorem line_cut_length (l : L) : (line (cut l)).length ≤ l.length + 1 := Nat.le_trans (line_length _) (cut_sum l)

/-! ### decimal digits -/
def isDig (b : UInt8) : Prop := 48 ≤ b.toNat ∧ b.toNat ≤ 57
theorem dig_toNat {u : Nat} (h : u < 10) : (UInt8.ofNat (48 + u)).toNat = 48 + u := by
  rw [UInt8.toNat_ofNat']; omega
theorem decDigits_small {u : Nat} (h : u < 10) : decDigits u = [UInt8.ofNat (48 + u)] := decDigits_one h
theorem decDigits_big {u : Nat} (h : ¬ u < 10) : decDigits u = decDigits (u / 10) ++ [UInt8.ofNat (48 + u % 10)] := by rw [decDigits, dif_neg h]
theorem decDigits_dig (u : Nat) : ∀ b ∈ decDigits u, isDig b := by
  induction u using Nat.strongRecOn with
  | _ u ih =>
    intro b hb
    by_cases h : u < 10
    · rw [decDigits_small h] at hb
      rw [List.mem_singleton.1 hb]
      have := dig_toNat h
      unfold isDig
      omega
    · rw [decDigits_big h] at hb
      rcases List.mem_append.1 hb with hb | hb
      · exact ih (u / 10) (by omega) b hb
      · rw [List.mem_singleton.1 hb]
        have := dig_toNat (show u % 10 < 10 by omega)
        unfold isDig
        omega
theorem decDigits_ne (u : Nat) : decDigits u ≠ [] := by
  by_cases h : u < 10
  · rw [decDigits_small h]; simp
  · rw [decDigits_big h]; simp
/-- A numeral begins with a nought only if it is that nought. -/
theorem decDigits_head (u : Nat) (r : L) (h : decDigits u = 48 :: r) : u = 0 ∧ r = [] := by
  induction u using Nat.strongRecOn generalizing r with
  | _ u ih =>
    by_cases hu : u < 10
    · rw [decDigits_small hu] at h
      injection h with h1 h2
      have e := congrArg UInt8.toNat h1
      rw [dig_toNat hu] at e
      have : (48 : UInt8).toNat = 48 := rfl
      exact ⟨by omega, h2.symm⟩
    · rw [decDigits_big hu] at h
      cases hd : decDigits (u / 10) with
      | nil => exact absurd hd (decDigits_ne _)
      | cons x xs =>
        rw [hd, List.cons_append] at h
        injection h with h1 h2
        subst h1
        have := ih (u / 10) (by omega) xs hd
        omega

/-- What digits spell, behind acc. -/
def val (acc : Nat) : L → Nat
  | [] => acc
  | c :: r => val (acc * 10 + (c.toNat - 48)) r
theorem val_nil (acc : Nat) : val acc [] = acc := by unfold val; rfl
theorem val_cons (acc : Nat) (c : UInt8) (r : L) : val acc (c :: r) = val (acc * 10 + (c.toNat - 48)) r := by
  conv => lhs; unfold val
theorem val_append (a : L) (b : UInt8) : ∀ acc, val acc (a ++ [b]) = val acc a * 10 + (b.toNat - 48) := by
  induction a with
  | nil => intro acc; rw [List.nil_append, val_cons, val_nil, val_nil]
  | cons c a ih => intro acc; rw [List.cons_append, val_cons, val_cons]; exact ih _
theorem val_le (l : L) : ∀ acc, acc ≤ val acc l := by
  induction l with
  | nil => intro acc; rw [val_nil]; exact Nat.le_refl _
  | cons c l ih => intro acc; rw [val_cons]; exact Nat.le_trans (by omega) (ih _)
theorem val_one (b : UInt8) : val 0 [b] = b.toNat - 48 := by
  rw [val_cons, val_nil]
  omega
theorem val_decDigits (u : Nat) : val 0 (decDigits u) = u := by
  induction u using Nat.strongRecOn with
  | _ u ih =>
    by_cases h : u < 10
    · rw [decDigits_small h]
      rw [val_one, dig_toNat h, Nat.add_sub_cancel_left]
    · rw [decDigits_big h, val_append, ih (u / 10) (by omega), dig_toNat (by omega)]; omega
theorem decDigits_inj {u v : Nat} (h : decDigits u = decDigits v) : u = v := by rw [← val_decDigits u, ← val_decDigits v, h]
theorem parse_digits (l : L) : ∀ (acc : Nat), (∀ b ∈ l, isDig b) → val acc l < 18446744073709551616 → parseUint10 acc l = .ok (val acc l) := by
  induction l with
  | nil => intro acc _ _; rw [val_nil]; simp [parseUint10]
  | cons c r ih =>
    intro acc hd hv
    have hc : 48 ≤ c.toNat ∧ c.toNat ≤ 57 := hd c List.mem_cons_self
    have hle := val_le r (acc * 10 + (c.toNat - 48))
    rw [val_cons] at hv ⊢
    unfold parseUint10
    rw [if_pos hc, if_neg (by omega), if_neg (by omega)]
    exact ih _ (fun b hb => hd b (List.mem_cons_of_mem _ hb)) hv
theorem itoa_nat (u : Nat) : itoa (u : Int) = decDigits u := itoa_nonneg u
theorem itoa_pos {n : Int} (h : 0 ≤ n) : itoa n = decDigits n.toNat := by unfold itoa; rw [if_neg (by omega)]
theorem itoa_minus {n : Int} (h : n < 0) : itoa n = 45 :: decDigits n.natAbs := by unfold itoa; rw [if_pos h]
theorem atoi_itoa (u : Nat) (h : u < 9223372036854775808) : atoiAll (decDigits u) = .ok (u : Int) := by
  have hd := decDigits_dig u
  cases hl : decDigits u with
  | nil => exact absurd hl (decDigits_ne u)
  | cons c r =>
    have hc : isDig c := hd c (by rw [hl]; exact List.mem_cons_self)
    have h1 : ¬ (c.toNat = 43 ∨ c.toNat = 45) := by unfold isDig at hc; omega
    have h2 : ¬ c.toNat = 45 := by unfold isDig at hc; omega
    have hm : parseMag (c :: r) = .ok u := by
      unfold parseMag
      rw [if_neg (by simp), ← hl, parse_digits _ 0 hd (by rw [val_decDigits]; omega), val_decDigits]
    unfold atoiAll
    simp only [if_neg h1, hm]
    rw [if_neg (by omega), if_neg (by omega), if_neg h2]
theorem decDigits_length_lt (u : Nat) (h : u < 4294967296) : (decDigits u).length ≤ 10 := by
  have pow : ∀ (k u : Nat), u < 10 ^ (k + 1) → (decDigits u).length ≤ k + 1 := by
    intro k
    induction k with
    | zero =>
      intro u hu
      rw [decDigits_small (by simpa using hu)]
      simp
    | succ k ih =>
      intro u hu
      by_cases hs : u < 10
      · rw [decDigits_small hs]; simp
      · rw [decDigits_big hs, List.length_append]
        have := ih (u / 10) (by rw [Nat.pow_succ] at hu; omega)
        simp only [List.length_singleton]
        omega
  exact pow 9 u (by omega)

/-- What words.Num tells. -/
def num (l : L) : Int × Bool :=
  match atoiAll l with
  | .ok v => if 0 ≤ v ∧ v ≤ 4294967295 ∧ itoa v = l then (v, true) else (0, false)
  | _ => (0, false)
theorem num_digits (u : Nat) (h : u < 4294967296) : num (decDigits u) = ((u : Int), true) := by
  unfold num
  rw [atoi_itoa u (by omega)]
  simp only
  rw [if_pos ⟨by omega, by omega, itoa_nat u⟩]
theorem num_yes {l : L} {v : Int} (h : num l = (v, true)) : 0 ≤ v ∧ v ≤ 4294967295 ∧ itoa v = l := by
  unfold num at h
  split at h
  · split at h
    · rename_i hc
      cases h
      exact hc
    · cases h
  · cases h
theorem num_no {l : L} (h : ∀ u : Nat, u < 4294967296 → decDigits u ≠ l) : num l = (0, false) := by
  have key : ∀ p, num l = p → p = (0, false) := by
    intro p hp
    obtain ⟨v, b⟩ := p
    cases b with
    | true =>
      obtain ⟨h1, h2, h3⟩ := num_yes hp
      rw [itoa_pos h1] at h3
      exact absurd h3 (h v.toNat (by omega))
    | false =>
      unfold num at hp
      split at hp
      · split at hp
        · cases hp
        · exact hp.symm
      · exact hp.symm
  exact key _ rfl
theorem num_cases (l : L) : (∃ u : Nat, u < 4294967296 ∧ l = decDigits u ∧ num l = ((u : Int), true)) ∨ ((∀ u : Nat, u < 4294967296 → decDigits u ≠ l) ∧ num l = (0, false)) := by
  by_cases h : ∃ u : Nat, u < 4294967296 ∧ decDigits u = l
  · obtain ⟨u, hu, rfl⟩ := h
    exact .inl ⟨u, hu, rfl, num_digits u hu⟩
  · have h' : ∀ u : Nat, u < 4294967296 → decDigits u ≠ l := fun u hu e => h ⟨u, hu, e⟩
    exact .inr ⟨h', num_no h'⟩
theorem val_mono (l : L) : ∀ {a b : Nat}, a ≤ b → val a l ≤ val b l := by
  induction l with
  | nil => intro a b h; rw [val_nil, val_nil]; exact h
  | cons c l ih => intro a b h; rw [val_cons, val_cons]; exact ih (by omega)
theorem val_lt (l : L) : ∀ acc, (∀ b ∈ l, isDig b) → val acc l < (acc + 1) * 10 ^ l.length := by
  induction l with
  | nil => intro acc _; rw [val_nil]; simp
  | cons c l ih =>
    intro acc hd
    have hc : 48 ≤ c.toNat ∧ c.toNat ≤ 57 := hd c List.mem_cons_self
    have := ih (acc * 10 + (c.toNat - 48)) (fun b hb => hd b (List.mem_cons_of_mem _ hb))
    rw [val_cons, List.length_cons, Nat.pow_succ]
    have h2 : (acc * 10 + (c.toNat - 48) + 1) * 10 ^ l.length ≤ ((acc + 1) * 10) * 10 ^ l.length := Nat.mul_le_mul_right _ (by omega)
    have h3 : (acc + 1) * (10 ^ l.length * 10) = ((acc + 1) * 10) * 10 ^ l.length := by
      rw [Nat.mul_comm (10 ^ l.length) 10, Nat.mul_assoc]
    omega
/-- Digits without a nought ahead are a number's text. -/
theorem canon (r : L) : ∀ (c : UInt8), isDig c → 49 ≤ c.toNat → (∀ b ∈ r, isDig b) → decDigits (val 0 (c :: r)) = c :: r := by
  have key : ∀ (n : Nat) (r : L), r.length = n → ∀ (c : UInt8), isDig c → 49 ≤ c.toNat → (∀ b ∈ r, isDig b) → decDigits (val 0 (c :: r)) = c :: r := by
    intro n
    induction n with
    | zero =>
      intro r hr c hc h1 _
      obtain rfl := List.eq_nil_of_length_eq_zero hr
      have hc' : 48 ≤ c.toNat ∧ c.toNat ≤ 57 := hc
      rw [val_one, decDigits_small (by omega)]
      congr 1
      rw [show 48 + (c.toNat - 48) = c.toNat by omega]
      exact UInt8.ofNat_toNat
    | succ n ih =>
      intro r hr c hc h1 hd
      have hne : r ≠ [] := by intro e; rw [e] at hr; simp at hr
      obtain ⟨q, d, rfl⟩ : ∃ q d, r = q ++ [d] := ⟨r.dropLast, r.getLast hne, (List.dropLast_concat_getLast hne).symm⟩
      have hd1 : 48 ≤ d.toNat ∧ d.toNat ≤ 57 := hd d (by simp)
      have hq := ih q (by simpa using hr) c hc h1 (fun b hb => hd b (by simp [hb]))
      have e : c :: (q ++ [d]) = (c :: q) ++ [d] := rfl
      have hpos : 1 ≤ val 0 (c :: q) := by
        rw [val_cons]
        exact Nat.le_trans (by omega) (val_le q _)
      rw [e, val_append]
      generalize hv : val 0 (c :: q) = v at hq hpos
      rw [decDigits_big (by omega), show (v * 10 + (d.toNat - 48)) / 10 = v by omega, show (v * 10 + (d.toNat - 48)) % 10 = d.toNat - 48 by omega, hq, show 48 + (d.toNat - 48) = d.toNat by omega, UInt8.ofNat_toNat]
  intro c
  exact key r.length r rfl c
end Go.Proofs.YtjamaamkmfdnaaaDoor.Plain
