/- The three laws of words, as pure statements over what was printed: each is true; conditions: the arguments' own sizes alone. -/
import Derived.Test.YtnjmdnaggbdanaaDoorText
namespace Go.Proofs.YtnjmdnaggbdanaaDoor.P
open Go.RowKit Go.Proofs.YtnjmdnaggbdanaaDoorW.PrintWords Go.Proofs.YtnjmdnaggbdanaaDoor.X Go.Proofs.YtnjmdnaggbdanaaDoor.Plain
set_option linter.unusedVariables false
set_option linter.unusedSimpArgs false

theorem digits_4294967295 : Lib.decDigits 4294967295 = [52, 50, 57, 52, 57, 54, 55, 50, 57, 53] := by
  have h := canon [50, 57, 52, 57, 54, 55, 50, 57, 53] 52 (by unfold isDig; decide) (by decide) (by unfold isDig; decide)
  have e : val 0 [52, 50, 57, 52, 57, 54, 55, 50, 57, 53] = 4294967295 := by decide
  rwa [e] at h
theorem digits_12 : Lib.decDigits 12 = [49, 50] := by
  have h := canon [50] 49 (by unfold isDig; decide) (by decide) (by unfold isDig; decide)
  have e : val 0 [49, 50] = 12 := by decide
  rwa [e] at h
theorem num_007 : Plain.num [48, 48, 55] = (0, false) := num_no fun u _ e => by
  have := (decDigits_head u _ e).2
  cases this

theorem wakes_ev : Ev (fun k => weirgatelaw21_wakes.f k) true := by
  obtain ⟨K1, h1⟩ := cut_ev (⟨#[32, 32, 112, 111, 114, 116, 32, 49, 32]⟩ : ByteArray) (by decide)
  obtain ⟨K2, h2⟩ := texts_same [B [112, 111, 114, 116], B [49]] (by decide)
  obtain ⟨K3, h3⟩ := join_ev [(⟨#[97]⟩ : ByteArray), (⟨#[]⟩ : ByteArray), (⟨#[98]⟩ : ByteArray)] (by decide) (by decide)
  refine ⟨K1 + K2 + K3, fun k hk => ?_⟩
  have e1 := h1 k (by omega)
  have e2 := h2 k (by omega)
  have e3 := h3 k (by omega)
  have n1 : words_Num.f (⟨#[52, 50, 57, 52, 57, 54, 55, 50, 57, 53]⟩ : ByteArray) = some (4294967295, true) := by
    rw [num_now _ (by decide)]
    have := num_digits 4294967295 (by omega)
    rw [digits_4294967295] at this
    exact congrArg some this
  have n2 : words_Num.f (⟨#[48, 48, 55]⟩ : ByteArray) = some (0, false) := by
    rw [num_now _ (by decide)]
    exact congrArg some num_007
  have t1 : words_Text.f (-12) = some (B [45, 49, 50]) := by
    rw [text_now _ (by decide) (by decide), itoa_minus (by decide)]
    have e : ((-12 : Int)).natAbs = 12 := rfl
    rw [e, digits_12]
  have c1 : (cut (⟨#[32, 32, 112, 111, 114, 116, 32, 49, 32]⟩ : ByteArray).data.toList).map B = [B [112, 111, 114, 116], B [49]] := by decide
  have c2 : line (ne [(⟨#[97]⟩ : ByteArray), (⟨#[]⟩ : ByteArray), (⟨#[98]⟩ : ByteArray)]) = [97, 32, 98] := by decide
  simp only at e1 e2 e3
  rw [c1] at e1
  rw [c2] at e3
  unfold weirgatelaw21_wakes.f
  simp only [n1, n2, e1, Option.bind_some]
  rw [show ([(⟨#[112, 111, 114, 116]⟩ : ByteArray), (⟨#[49]⟩ : ByteArray)] : List ByteArray) = [B [112, 111, 114, 116], B [49]] from rfl]
  simp only [e2, t1, e3, Option.bind_some, B_toList]
  rfl

/-! ### WordsTell -/
theorem take_fair {l : List ByteArray} (hl : l.length ≤ 50) (hs : ∀ x ∈ l, x.size ≤ 300) (i : Nat) : (line (ne (l.take i))).length ≤ 140737488355328 := by
  have := ne_line_length (l := l.take i) (by rw [List.length_take]; omega) (fun x hx => hs x (List.mem_of_mem_take hx))
  omega

theorem tell (a0 : ByteArray) (l1 : List ByteArray) (a2 : Int) (hl : l1.length ≤ 9223372036854775807) (h0 : -9223372036854775808 ≤ a2) (h1 : a2 ≤ 9223372036854775807) :
    ∃ k, weirgatelaw21_WordsTell.f k a0 l1 a2 = some true := by
  obtain ⟨Kw, hw0⟩ := wakes_ev
  have hw : ∀ k, Kw ≤ k → weirgatelaw21_wakes.f k = some true := hw0
  have skip : ∀ k, Kw ≤ k → weirgatelaw21_WordsTell.j0 (k + 1) a0 l1 a2 true = some true := by
    intro k hk
    simp only [weirgatelaw21_WordsTell.j0]
    rw [if_pos trivial, hw k hk]
    rfl
  by_cases hb : (a0.size : Int) > 3000
  · refine ⟨Kw + 1, ?_⟩
    unfold weirgatelaw21_WordsTell.f
    rw [if_pos hb]
    exact skip Kw (Nat.le_refl _)
  obtain ⟨Kf, hf⟩ := fair_ev l1 hl
  cases hfair : fairB l1 with
  | false =>
    refine ⟨Kw + Kf + 1, ?_⟩
    have e := hf (Kw + Kf + 1) (by omega)
    simp only at e
    unfold weirgatelaw21_WordsTell.f
    rw [if_neg hb, e, hfair]
    exact skip _ (by omega)
  | true =>
    obtain ⟨hn, hs⟩ := fair_size hfair
    have hlen := ne_line_length hn hs
    obtain ⟨K1, h1'⟩ := numref_ev a0 (by omega)
    obtain ⟨K2, h2⟩ := cut_ev a0 (by omega)
    obtain ⟨K3, h3⟩ := cutref_ev a0 (by omega)
    obtain ⟨K4, h4⟩ := texts_same ((cut a0.data.toList).map B) (by have := cut_length a0.data.toList; have := size_data a0; rw [List.length_map]; omega)
    obtain ⟨K5, h5⟩ := join_ev l1 (by omega) (by omega)
    obtain ⟨K6, h6⟩ := joinref_ev l1 (by omega) (take_fair hn hs) (fun x hx => by have := hs x hx; omega)
    obtain ⟨K7, h7⟩ := textref_ev a2 h0 h1
    refine ⟨Kw + Kf + K1 + K2 + K3 + K4 + K5 + K6 + K7 + 1, ?_⟩
    generalize hk : Kw + Kf + K1 + K2 + K3 + K4 + K5 + K6 + K7 = k
    have e0 := hf (k + 1) (by omega)
    have e1 := h1' k (by omega)
    have e2 := h2 k (by omega)
    have e3 := h3 k (by omega)
    have e4 := h4 k (by omega)
    have e5 := h5 k (by omega)
    have e6 := h6 k (by omega)
    have e7 := h7 k (by omega)
    have e8 := hw k (by omega)
    simp only at e0 e1 e2 e3 e4 e5 e6 e7 e8
    unfold weirgatelaw21_WordsTell.f
    rw [if_neg hb, e0, hfair]
    simp only [Option.bind_some, Bool.not_true, weirgatelaw21_WordsTell.j0]
    rw [if_neg (by decide), num_now a0 (by omega)]
    simp only [Option.bind_some, e1, e2, e3, e4, List.nil_append, if_true]
    rw [if_pos (by simp only [List.length_nil]; omega), e5]
    simp only [Option.bind_some, e6, if_true]
    rw [text_now a2 h0 h1]
    simp only [Option.bind_some, e7, if_true, e8, beq_self_eq_true]

/-! ### WordsBack -/
theorem mem_le_sum {p : L} : ∀ {l : List L}, p ∈ l → p.length + 1 ≤ (l.map (fun p => p.length + 1)).sum
  | [], h => by cases h
  | x :: l, h => by
    rw [List.map_cons, List.sum_cons]
    rcases List.mem_cons.1 h with rfl | h
    · omega
    · have := mem_le_sum h
      omega
theorem back (a0 : ByteArray) (a1 : Int) (l2 : List ByteArray) (hl : l2.length ≤ 9223372036854775807) (h0 : 0 ≤ a1) (h1 : a1 ≤ 4294967295) :
    ∃ k, weirgatelaw21_WordsBack.f k a0 a1 l2 = some true := by
  obtain ⟨Kw, hw0⟩ := wakes_ev
  have hw : ∀ k, Kw ≤ k → weirgatelaw21_wakes.f k = some true := hw0
  have skip : ∀ k, Kw ≤ k → weirgatelaw21_WordsBack.j0 (k + 1) a0 a1 l2 true = some true := by
    intro k hk
    simp only [weirgatelaw21_WordsBack.j0]
    rw [if_pos trivial, hw k hk]
    rfl
  by_cases hb : (a0.size : Int) > 3000
  · refine ⟨Kw + 1, ?_⟩
    unfold weirgatelaw21_WordsBack.f
    rw [if_pos hb]
    exact skip Kw (Nat.le_refl _)
  obtain ⟨Kf, hf⟩ := fair_ev l2 hl
  cases hfair : fairB l2 with
  | false =>
    refine ⟨Kw + Kf + 1, ?_⟩
    have e := hf (Kw + Kf + 1) (by omega)
    simp only at e
    unfold weirgatelaw21_WordsBack.f
    rw [if_neg hb, e, hfair]
    exact skip _ (by omega)
  | true =>
    obtain ⟨hn, hs⟩ := fair_size hfair
    have hlen := ne_line_length hn hs
    have hsz := size_data a0
    -- the loop over the words of the line
    have cw : ∀ p ∈ cut a0.data.toList, p ≠ [] ∧ (32 : UInt8) ∉ p := fun p hp => cut_mem _ p hp
    have cl := cut_length a0.data.toList
    have clen : ∀ p ∈ cut a0.data.toList, p.length ≤ 3001 := by
      intro p hp
      have h2 := cut_sum a0.data.toList
      have h3 : p.length + 1 ≤ ((cut a0.data.toList).map (fun p => p.length + 1)).sum := mem_le_sum hp
      omega
    generalize hc : cut a0.data.toList = c at cw cl clen
    have e7 : Ev (fun k => (words_Join.f k l2)) (B (line (ne l2))) := join_ev l2 (by omega) (by omega)
    have final : Ev (fun k => ((words_Text.f (wrap64 (a1))).bind fun t182 => ((words_Num.f t182).bind fun bt183 => (if bt183.2 = true then (if bt183.1 = (wrap64 (a1)) then ((words_Join.f k l2).bind fun t185 => ((words_Cut.f k t185).bind fun t186 => ((words_Join.f k t186).bind fun t189 => ((words_Join.f k l2).bind fun t190 => (if t190.size + 2 ≤ 9223372036854775807 then ((words_Cut.f k (t190 ++ (⟨#[32, 32]⟩ : ByteArray))).bind fun t191 => ((words_Join.f k t191).bind fun t194 => (if t189.toList = t194.toList then ((weirgatelaw21_wakes.f k).bind fun t195 => (some t195)) else (some false)))) else (none)))))) else (some false)) else (some false))))) true := by
      obtain ⟨K1, h1'⟩ := join_ev l2 (by omega) (by omega)
      have hB : (B (line (ne l2))).size ≤ 15050 := by rw [B_size]; exact hlen
      obtain ⟨K2, h2⟩ := cut_ev (B (line (ne l2))) (by omega)
      have hx : ∀ x : L, ne ((cut x).map B) = cut x := by
        intro x
        unfold ne
        rw [List.map_map, show ((fun s : ByteArray => s.data.toList) ∘ B) = id from funext fun l => B_data l, List.map_id]
        refine List.filter_eq_self.2 (fun p hp => ?_)
        simpa using (cut_mem x p hp).1
      have hcl := cut_length (line (ne l2))
      have hll := line_cut_length (line (ne l2))
      obtain ⟨K3, h3⟩ := join_ev ((cut (line (ne l2))).map B) (by rw [List.length_map]; omega) (by rw [hx]; omega)
      have hA : B (line (ne l2)) ++ (⟨#[32, 32]⟩ : ByteArray) = B (line (ne l2) ++ [32, 32]) := ext_data (by simp [B])
      obtain ⟨K4, h4⟩ := cut_ev (B (line (ne l2) ++ [32, 32])) (by rw [B_size, List.length_append]; simp only [List.length_cons, List.length_nil]; omega)
      refine ⟨K1 + K2 + K3 + K4 + Kw, fun k hk => ?_⟩
      have e1 := h1' k (by omega)
      have e2 := h2 k (by omega)
      have e3 := h3 k (by omega)
      have e4 := h4 k (by omega)
      have e5 := hw k (by omega)
      simp only [B_data] at e1 e2 e3 e4 e5
      rw [cut_behind] at e4
      have ew : wrap64 a1 = ((a1.toNat : Nat) : Int) := by unfold wrap64; omega
      have en := num_digits a1.toNat (by omega)
      simp only [ew]
      rw [text_now _ (by omega) (by omega), itoa_nat]
      simp only [Option.bind_some]
      rw [num_now _ (by
        rw [B_size]
        have := decDigits_length_lt a1.toNat (by omega)
        omega), B_data, en]
      simp only [Option.bind_some, if_true, e1, e2, e3, hA]
      rw [if_pos (by omega), e4]
      simp only [Option.bind_some, e3, if_true, e5]
    have loop : ∀ (d i : Nat), i + d = c.length → Ev (fun k => weirgatelaw21_WordsBack.l0 k a1 l2 (c.map B) (i : Int)) true := by
      intro d
      induction d with
      | zero =>
        intro i hi
        refine Ev.step (fun k => ?_) final
        simp only [weirgatelaw21_WordsBack.l0]
        rw [if_neg (by rw [List.length_map]; omega)]
      | succ d ih =>
        intro i hi
        have hlt : i < c.length := by omega
        have hlt2 : i < (c.map B).length := by rw [List.length_map]; exact hlt
        have hrd : rdOf ByteArray.empty (c.map B) (i : Int) = B c[i] := by rw [rdOf_at hlt2, List.getElem_map]
        have hp := cw c[i] (List.getElem_mem hlt)
        have hpl := clen c[i] (List.getElem_mem hlt)
        have inner : ∀ (e j : Nat), j + e = (c[i]).length → Ev (fun k => weirgatelaw21_WordsBack.l1 k a1 l2 (c.map B) (i : Int) (j : Int)) true := by
          intro e
          induction e with
          | zero =>
            intro j hj
            refine Ev.step (fun k => ?_) (ih (i + 1) (by omega))
            simp only [weirgatelaw21_WordsBack.l1]
            rw [if_pos (by omega), if_pos (by rw [List.length_map]; omega), hrd, if_neg (by rw [B_size]; omega), wrap_up (by omega) (by omega)]
            rfl
          | succ e ihe =>
            intro j hj
            refine Ev.step (fun k => ?_) (ihe (j + 1) (by omega))
            have hjl : j < (B c[i]).data.toList.length := by rw [B_data]; omega
            have hbt := bt_at_data hjl
            have hj2 : (B c[i]).data.toList[j] ∈ c[i] := by
              have key : ∀ q : L, q = c[i] → ∀ h : j < q.length, q[j] ∈ c[i] := by
                rintro _ rfl h
                exact List.getElem_mem h
              exact key _ (B_data _) hjl
            simp only [weirgatelaw21_WordsBack.l1]
            rw [if_pos (by omega), if_pos (by rw [List.length_map]; omega), hrd, if_pos (by rw [B_size]; omega), if_pos (by omega), if_neg, wrap_up (by omega) (by omega)]
            · rfl
            · rw [hbt]
              intro e
              have : (B c[i]).data.toList[j] = 32 := toNat_eq.1 (by rw [e]; rfl)
              rw [this] at hj2
              exact hp.2 hj2
        refine Ev.step (fun k => ?_) (inner (c[i]).length 0 (by omega))
        simp only [weirgatelaw21_WordsBack.l0]
        rw [if_pos (by rw [List.length_map]; omega), if_pos (by omega), hrd, if_neg (by rw [B_toList]; exact hp.1)]
        rfl
    obtain ⟨K1, h1'⟩ := cut_ev a0 (by omega)
    have hne : ne (c.map B) = c := by
      unfold ne
      rw [List.map_map, show ((fun s : ByteArray => s.data.toList) ∘ B) = id from funext fun l => B_data l, List.map_id]
      refine List.filter_eq_self.2 (fun p hp => ?_)
      simpa using (cw p hp).1
    have hlc : (line c).length ≤ 3001 := by
      have := line_cut_length a0.data.toList
      rw [hc] at this
      omega
    obtain ⟨K2, h2⟩ := join_ev (c.map B) (by rw [List.length_map]; omega) (by rw [hne]; omega)
    obtain ⟨K3, h3⟩ := cut_ev (B (line c)) (by rw [B_size]; omega)
    obtain ⟨K4, h4⟩ := texts_same (c.map B) (by rw [List.length_map]; omega)
    obtain ⟨K5, h5⟩ := loop c.length 0 (by omega)
    refine ⟨Kw + Kf + K1 + K2 + K3 + K4 + K5 + 1, ?_⟩
    generalize hk : Kw + Kf + K1 + K2 + K3 + K4 + K5 = k
    have e0 := hf (k + 1) (by omega)
    have e1 := h1' k (by omega)
    have e2 := h2 k (by omega)
    have e3 := h3 k (by omega)
    have e4 := h4 k (by omega)
    have e5 := h5 k (by omega)
    simp only [B_data] at e0 e1 e2 e3 e4 e5
    rw [hc] at e1
    rw [hne] at e2
    rw [cut_line c cw] at e3
    unfold weirgatelaw21_WordsBack.f
    rw [if_neg hb, e0, hfair]
    simp only [Option.bind_some, Bool.not_true, weirgatelaw21_WordsBack.j0]
    rw [if_neg (by decide), e1]
    simp only [Option.bind_some, e2, e3, e4, if_true]
    exact e5

/-! ### WordsNums -/
theorem num_false_of_head (c : UInt8) (l : L) (hc : ¬ isDig c) : Plain.num (c :: l) = (0, false) := num_no fun u _ e => by
  have := decDigits_dig u c (by rw [e]; exact List.mem_cons_self)
  exact hc this
theorem nums (a0 : Int) (a1 : ByteArray) (h0 : 0 ≤ a0) (h1 : a0 ≤ 18446744073709551615) :
    ∃ k, weirgatelaw21_WordsNums.f k a0 a1 = some true := by
  obtain ⟨Kw, hw⟩ := wakes_ev
  by_cases hb : (a1.size : Int) > 3000
  · refine ⟨Kw, ?_⟩
    have e := hw Kw (Nat.le_refl _)
    simp only at e
    unfold weirgatelaw21_WordsNums.f
    rw [if_pos hb, e]
    rfl
  refine ⟨Kw + 2, ?_⟩
  have e := hw Kw (Nat.le_refl _)
  have j1 : weirgatelaw21_WordsNums.j1 (Kw + 1) a1 false = some true := by
    simp only [weirgatelaw21_WordsNums.j1]
    rw [if_neg (by decide), num_now a1 (by omega)]
    simp only [Option.bind_some, e]
    rcases num_cases a1.data.toList with ⟨u, hu, hs, hn⟩ | ⟨_, hn⟩
    · rw [hn]
      simp only [if_true]
      rw [text_now _ (by omega) (by omega), itoa_nat]
      simp only [Option.bind_some]
      rw [if_pos (by rw [B_toList, toList_data, hs]), if_pos (by omega), if_pos (by omega)]
    · rw [hn]
      rfl
  generalize hm : (a0 % 1099511627776).toNat = m
  have ew : wrap64 (Int.tmod a0 1099511627776) = (m : Int) := by
    rw [Int.tmod_eq_emod_of_nonneg h0]
    unfold wrap64
    omega
  have hm2 : m < 1099511627776 := by omega
  have hlen : (Lib.decDigits m).length ≤ 1000 := by
    have pow : ∀ (k u : Nat), u < 10 ^ (k + 1) → (Lib.decDigits u).length ≤ k + 1 := by
      intro k
      induction k with
      | zero =>
        intro u hu
        rw [decDigits_small (by simpa using hu)]
        simp
      | succ k ih =>
        intro u hu
        by_cases hs : u < 10
        · rw [decDigits_small hs]; simp
        · rw [decDigits_big hs, List.length_append]
          have := ih (u / 10) (by rw [Nat.pow_succ] at hu; omega)
          simp only [List.length_singleton]
          omega
    have := pow 12 m (by omega)
    omega
  have fin : weirgatelaw21_WordsNums.j0 (Kw + 2) a1 (B (Lib.decDigits m)) false = some true := by
    simp only [weirgatelaw21_WordsNums.j0]
    have a1' : (⟨#[48]⟩ : ByteArray) ++ B (Lib.decDigits m) = B (48 :: Lib.decDigits m) := ext_data (by simp [B])
    have a2' : (⟨#[45]⟩ : ByteArray) ++ B (Lib.decDigits m) = B (45 :: Lib.decDigits m) := ext_data (by simp [B])
    have a3' : B (Lib.decDigits m) ++ (⟨#[32]⟩ : ByteArray) = B (Lib.decDigits m ++ [32]) := ext_data (by simp [B])
    have a4' : (⟨#[43]⟩ : ByteArray) ++ B (Lib.decDigits m) = B (43 :: Lib.decDigits m) := ext_data (by simp [B])
    have n1 : Plain.num (48 :: Lib.decDigits m) = (0, false) := num_no fun u _ e => by
      have := (decDigits_head u _ e).2
      exact decDigits_ne m this
    have n2 : Plain.num (45 :: Lib.decDigits m) = (0, false) := num_false_of_head 45 _ (by unfold isDig; decide)
    have n3 : Plain.num (Lib.decDigits m ++ [32]) = (0, false) := num_no fun u _ e => by
      have := decDigits_dig u 32 (by rw [e]; simp)
      unfold isDig at this
      revert this
      decide
    have n4 : Plain.num (43 :: Lib.decDigits m) = (0, false) := num_false_of_head 43 _ (by unfold isDig; decide)
    rw [if_neg (by decide), if_pos (by rw [B_size]; omega), a1', a2', a3', a4',
      num_now _ (by rw [B_size, List.length_cons]; omega), num_now _ (by rw [B_size, List.length_cons]; omega)]
    simp only [Option.bind_some, B_data, n1, n2]
    rw [if_pos (by rw [B_size]; omega), num_now _ (by rw [B_size, List.length_append, List.length_singleton]; omega), num_now _ (by rw [B_size, List.length_cons]; omega)]
    simp only [Option.bind_some, B_data, n3, n4]
    exact j1
  unfold weirgatelaw21_WordsNums.f
  rw [if_neg hb, ew, text_now _ (by omega) (by omega), itoa_nat]
  simp only [Option.bind_some]
  rw [num_now _ (by rw [B_size]; omega), B_data]
  simp only [Option.bind_some]
  by_cases hs : m < 4294967296
  · rw [num_digits m hs]
    simp only
    rw [decide_eq_true (show ((m : Nat) : Int) < 4294967296 by omega), if_neg (by decide), if_pos trivial]
    have : (((m : Nat) : Int) != ((m : Nat) : Int)) = false := by simp
    rw [this]
    exact fin
  · have hn : Plain.num (Lib.decDigits m) = (0, false) := num_no fun u hu e => by
      have := decDigits_inj e
      omega
    rw [hn]
    simp only
    rw [decide_eq_false (show ¬ ((m : Nat) : Int) < 4294967296 by omega), if_neg (by decide), if_neg (by decide)]
    exact fin
end Go.Proofs.YtnjmdnaggbdanaaDoor.P
