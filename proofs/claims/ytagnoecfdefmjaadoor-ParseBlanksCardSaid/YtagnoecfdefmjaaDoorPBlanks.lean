/- ParseBlanks, in plain words: blanks ahead of, behind and between words change nothing; one word more, a tab behind, make none. Conditions: ranges alone. -/
import Derived.Test.YtagnoecfdefmjaaDoorPWakes
import Derived.Test.YtagnoecfdefmjaaDoorXxLParseBlanks
namespace Go.Proofs.YtagnoecfdefmjaaDoor.P
open Go.RowKit Go.Proofs.YtagnoecfdefmjaaDoorW.PrintWords Go.Proofs.YtagnoecfdefmjaaDoor.X Go.Proofs.YtagnoecfdefmjaaDoor.Plain Go.Proofs.YtagnoecfdefmjaaDoor
set_option linter.unusedVariables false
set_option linter.unusedSimpArgs false

theorem inner_loop (c : Cm) (n : Int) (m : Nat) (hm3 : m ≤ 3) (hm : Int.tmod (wrap64 n) 4 = (m : Int)) (s : ByteArray) (i : Nat) (hi : i < 1000) (R : Bool) : ∀ (d j : Nat) (x : L), j + d = m → x.length + m ≤ 1000 + j →
    Ev (fun k => weirgatelaw22_ParseBlanks.l0 k n s (B (x ++ List.replicate d 32)) ((i + 1 : Nat) : Int) c.w c.k c.p c.n c.v c.m c.t c.a) R →
    Ev (fun k => weirgatelaw22_ParseBlanks.l1 k n s (B x) (i : Int) (j : Int) c.w c.k c.p c.n c.v c.m c.t c.a) R
  | 0, j, x, hj, hx, h => by
    refine Ev.step (f := fun k => weirgatelaw22_ParseBlanks.l0 k n s (B x) ((i + 1 : Nat) : Int) c.w c.k c.p c.n c.v c.m c.t c.a) (fun k => ?_) (by simpa using h)
    simp only [weirgatelaw22_ParseBlanks.l1]
    rw [hm, if_neg (by omega), wrap_up (by omega) (by omega)]
    rfl
  | d + 1, j, x, hj, hx, h => by
    have IH := inner_loop c n m hm3 hm s i hi R d (j + 1) (x ++ [32]) (by omega) (by simp only [List.length_append, List.length_singleton]; omega) (by
      rw [List.append_assoc]
      exact h)
    refine Ev.step (f := fun k => weirgatelaw22_ParseBlanks.l1 k n s (B (x ++ [32])) (i : Int) ((j + 1 : Nat) : Int) c.w c.k c.p c.n c.v c.m c.t c.a) (fun k => ?_) IH
    simp only [weirgatelaw22_ParseBlanks.l1]
    rw [hm, if_pos (by omega), if_pos (by rw [B_size]; omega), wrap_up (by omega) (by omega), show B x ++ (⟨#[32]⟩ : ByteArray) = B (x ++ [32]) from B_append x [32]]
    rfl
theorem infl_length (m : Nat) (hm : m ≤ 3) : ∀ l : L, (infl m l).length ≤ 4 * l.length
  | [] => by simp [infl]
  | b :: r => by
    have := infl_length m hm r
    rw [infl]
    split <;> simp only [List.length_cons, List.length_append, List.length_replicate, List.nil_append] <;> omega
theorem extract_one (t : L) (i : Nat) (h : i < t.length) : (B t).extract ((i : Nat) : Int).toNat (((i + 1 : Nat) : Int)).toNat = B [t[i]] := by
  refine ext_data ?_
  rw [Int.toNat_natCast, Int.toNat_natCast, ByteArray.data_extract, Array.toList_extract, B_data]
  rw [B_data, List.extract_eq_take_drop, show i + 1 - i = 1 by omega, List.drop_eq_getElem_cons h]
  rfl
theorem outer_loop (c : Cm) (h : c.Ok) (n : Int) (m : Nat) (hm3 : m ≤ 3) (hm : Int.tmod (wrap64 n) 4 = (m : Int)) (t : L) (ht : textP c = some t) : ∀ (d i : Nat), i + d = t.length →
    Ev (fun k => weirgatelaw22_ParseBlanks.l0 k n (B t) (B (infl m (t.take i))) (i : Int) c.w c.k c.p c.n c.v c.m c.t c.a) true
  | 0, i, hi => by
    obtain rfl : i = t.length := by omega
    rw [List.take_length]
    have h108 := (text_line ht).1
    obtain ⟨h130, hl1⟩ := blanks ht m hm3
    have hl2 := one_more ht
    have hl3 := tab_behind ht
    have e1 := line_ev (B ([32, 32] ++ infl m t ++ [32])) (by rw [B_size]; simp only [List.length_append, List.length_cons, List.length_nil]; omega)
    have e2 := line_ev (B (t ++ [32, 120])) (by rw [B_size]; simp only [List.length_append, List.length_cons, List.length_nil]; omega)
    have e3 := line_ev (B (t ++ [9])) (by rw [B_size]; simp only [List.length_append, List.length_cons, List.length_nil]; omega)
    rw [B_data, hl1] at e1
    rw [B_data, hl2] at e2
    rw [B_data, hl3] at e3
    have W : Ev (fun k => (weirgatelaw22_wakes.f k).bind fun t => some t) true := wakes_ev.bind (Ev.now _)
    have z8 : ((0 : Int) == 0 && ((0 : Int) == 0 && ((0 : Int) == 0 && ((0 : Int) == 0 && ((0 : Int) == 0 && ((0 : Int) == 0 && ((0 : Int) == 0 && ((0 : Int) == 0)))))))) = true := by decide
    refine Ev.step (fun k => rfl) ?_
    simp only [weirgatelaw22_ParseBlanks.l0]
    have p1 : ¬ ((t.length : Int) < ((B t).size : Int)) := by rw [B_size]; omega
    have p2 : 2 + (B (infl m t)).size ≤ 9223372036854775807 := by rw [B_size]; omega
    have p3 : ((⟨#[32, 32]⟩ : ByteArray) ++ B (infl m t)).size + 1 ≤ 9223372036854775807 := by
      rw [show (⟨#[32, 32]⟩ : ByteArray) ++ B (infl m t) = B ([32, 32] ++ infl m t) from B_append [32, 32] _, B_size]
      simp only [List.length_append, List.length_cons, List.length_nil]
      omega
    have p4 : (B t).size + 2 ≤ 9223372036854775807 := by rw [B_size]; omega
    have p5 : (B t).size + 1 ≤ 9223372036854775807 := by rw [B_size]; omega
    simp only [p1, p2, p3, p4, p5, if_true, if_false]
    rw [show ((⟨#[32, 32]⟩ : ByteArray) ++ B (infl m t)) ++ (⟨#[32]⟩ : ByteArray) = B ([32, 32] ++ infl m t ++ [32]) by rw [show (⟨#[32, 32]⟩ : ByteArray) ++ B (infl m t) = B ([32, 32] ++ infl m t) from B_append [32, 32] _]; exact B_append _ [32], show B t ++ (⟨#[32, 120]⟩ : ByteArray) = B (t ++ [32, 120]) from B_append t [32, 120], show B t ++ (⟨#[9]⟩ : ByteArray) = B (t ++ [9]) from B_append t [9]]
    refine e1.bind (e2.bind (e3.bind ?_))
    exact Ev.congr (fun k => (if_pos rfl).trans ((if_pos ((Cm.eqb_iff c c).2 rfl)).trans ((if_pos rfl).trans ((if_pos z8).trans ((if_pos rfl).trans (if_pos z8)))))) W
  | d + 1, i, hi => by
    have h108 := (text_line ht).1
    have hlt : i < t.length := by omega
    have IH := outer_loop c h n m hm3 hm t ht d (i + 1) (by omega)
    have htk : t.take (i + 1) = t.take i ++ [t[i]] := List.take_succ_eq_append_getElem hlt
    have hil := infl_length m hm3 (t.take i)
    have htl : (t.take i).length ≤ 108 := by rw [List.length_take]; omega
    have hbt : bt (B t) (i : Int) = ((t[i]).toNat : Int) := by
      have := bt_at_data (s := B t) (i := i) (by rw [B_data]; exact hlt)
      rw [this]
      simp only [B_data]
    have hi1000 : i < 1000 := by omega
    have hin : (i : Int) < 9223372036854775807 := by omega
    have hx4 : (infl m (t.take i)).length ≤ 432 := by omega
    have hx5 : (infl m (t.take i) ++ [32]).length + m ≤ 1000 + 0 := by simp only [List.length_append, List.length_singleton]; omega
    have hx6 : (infl m (t.take i)).length + 1 ≤ 9223372036854775807 := by omega
    have hsz : (B t).size = t.length := B_size t
    have q1 : (i : Int) < ((B t).size : Int) := by rw [hsz]; exact Int.ofNat_lt.2 hlt
    have q3 : ((i + 1 : Nat) : Int) ≤ ((B t).size : Int) := by rw [hsz]; exact Int.ofNat_le.2 hlt
    have q5 : (i : Int) ≤ ((i + 1 : Nat) : Int) := Int.ofNat_le.2 (Nat.le_succ i)
    have q6 : (0 : Int) ≤ (i : Int) := Int.natCast_nonneg i
    have q4 : (B (infl m (t.take i))).size + (B [t[i]]).size ≤ 9223372036854775807 := by
      rw [B_size, B_size, List.length_singleton]
      exact hx6
    have q2 : wrap64 ((i : Int) + 1) = ((i + 1 : Nat) : Int) := wrap_up q6 hin
    by_cases h32 : t[i] = 32
    · have e : infl m (t.take (i + 1)) = (infl m (t.take i) ++ [32]) ++ List.replicate m 32 := by
        rw [htk, infl_append, h32]
        simp [infl]
      rw [e] at IH
      have J := inner_loop c n m hm3 hm (B t) i hi1000 true m 0 (infl m (t.take i) ++ [32]) (Nat.zero_add m) hx5 IH
      refine Ev.step (f := fun k => weirgatelaw22_ParseBlanks.l1 k n (B t) (B (infl m (t.take i) ++ [32])) (i : Int) ((0 : Nat) : Int) c.w c.k c.p c.n c.v c.m c.t c.a) (fun k => ?_) J
      simp only [weirgatelaw22_ParseBlanks.l0]
      rw [if_pos q1, if_pos q6, q2, if_pos q5, if_pos q3, extract_one t i hlt, if_pos q4, hbt, h32, if_pos (by decide), B_append]
      rfl
    · have e : infl m (t.take (i + 1)) = infl m (t.take i) ++ [t[i]] := by
        rw [htk, infl_append]
        simp [infl, h32]
      rw [e] at IH
      refine Ev.step (f := fun k => weirgatelaw22_ParseBlanks.l0 k n (B t) (B (infl m (t.take i) ++ [t[i]])) ((i + 1 : Nat) : Int) c.w c.k c.p c.n c.v c.m c.t c.a) (fun k => ?_) IH
      simp only [weirgatelaw22_ParseBlanks.l0]
      rw [if_pos q1, if_pos q6, q2, if_pos q5, if_pos q3, extract_one t i hlt, if_pos q4, hbt, if_neg (fun e => h32 (by
        have e2 : (t[i]).toNat = 32 := Int.ofNat_inj.1 e
        exact UInt8.toNat_inj.1 e2)), B_append]
theorem blank (c : Cm) (h : c.Ok) (n : Int) (h0 : 0 ≤ n) (h1 : n ≤ 255) : ∃ k, weirgatelaw22_ParseBlanks.f k c.w c.k c.p c.n c.v c.m c.t c.a n = some true := by
  refine Ev.rounds ?_
  have W : Ev (fun k => (weirgatelaw22_wakes.f k).bind fun t => some t) true := wakes_ev.bind (Ev.now _)
  obtain ⟨m, hm⟩ := Int.eq_ofNat_of_zero_le (show 0 ≤ Int.tmod (wrap64 n) 4 by rw [show wrap64 n = n by unfold wrap64; omega, Int.tmod_eq_emod_of_nonneg h0]; omega)
  have hm3 : m ≤ 3 := by
    rw [show wrap64 n = n by unfold wrap64; omega, Int.tmod_eq_emod_of_nonneg h0] at hm
    omega
  unfold weirgatelaw22_ParseBlanks.f
  have e1 := text_ev c h
  cases ht : textP c with
  | none =>
    rw [ht] at e1
    refine e1.bind ?_
    exact Ev.congr (fun k => (if_neg (by simp [outX])).trans (if_pos (by rw [show outX none = (B [], 11) from rfl, B_toList]))) W
  | some t =>
    rw [ht] at e1
    refine e1.bind ?_
    have O := outer_loop c h n m hm3 hm t ht t.length 0 (by omega)
    exact Ev.congr (fun k => if_pos rfl) O
end Go.Proofs.YtagnoecfdefmjaaDoor.P
