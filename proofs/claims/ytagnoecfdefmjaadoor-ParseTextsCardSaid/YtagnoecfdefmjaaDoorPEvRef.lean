/- What the reference's words and addresses come to, in plain words; conditions: sizes and ranges alone. -/
import Derived.Test.YtagnoecfdefmjaaDoorXx8
import Derived.Test.YtagnoecfdefmjaaDoorPEv
namespace Go.Proofs.YtagnoecfdefmjaaDoor.P
open Go.RowKit Go.Proofs.YtagnoecfdefmjaaDoorW.PrintWords Go.Proofs.YtagnoecfdefmjaaDoor.X Go.Proofs.YtagnoecfdefmjaaDoor.Plain Go.Proofs.YtagnoecfdefmjaaDoor
set_option linter.unusedVariables false
set_option linter.unusedSimpArgs false

theorem cutref_ev (s : ByteArray) (h : s.size < 4294967281) : Ev (fun k => weirgateref21_Cut.f k s) ((cut s.data.toList).map B) := by
  have hsz := size_data s
  have loop : ∀ (d i fr : Nat) (out : List ByteArray) (p r : L), i + d = s.size → fr ≤ i → out.length + d + 1 < 8796093022208 → s.data.toList.drop i = r → (s.data.toList.drop fr).take (i - fr) = p → (32 : UInt8) ∉ p →
      Ev (fun k => weirgateref21_Cut.l0 k s out (fr : Int) (i : Int)) (out ++ (cut (p ++ r)).map B) := by
    intro d
    induction d with
    | zero =>
      intro i fr out p r hi hf hb hr hp hn
      have hr0 : r = [] := by rw [← hr]; exact List.drop_eq_nil_of_le (by omega)
      subst hr0
      have hpl : p.length = i - fr := by rw [← hp, List.length_take, List.length_drop]; omega
      have fin : ∀ (out : List ByteArray), Ev (fun k => weirgateref21_Cut.l0 k s out ((i + 1 : Nat) : Int) ((i + 1 : Nat) : Int)) out := by
        intro out
        refine Ev.step (f := fun _ => some out) (fun k => ?_) (Ev.now _)
        simp only [weirgateref21_Cut.l0]
        rw [if_neg (by omega)]
      rw [List.append_nil, cut_none p hn]
      by_cases hlt : fr < i
      · have hpne : ¬ p.isEmpty = true := by
          intro e
          rw [List.isEmpty_iff] at e
          rw [e] at hpl
          simp at hpl
          omega
        rw [if_neg hpne]
        refine Ev.step (f := fun k => weirgateref21_Cut.j1 k s out (fr : Int) (i : Int) true) (fun k => ?_) (Ev.step (f := fun k => weirgateref21_Cut.l0 k s (out ++ [B p]) ((i + 1 : Nat) : Int) ((i + 1 : Nat) : Int)) (fun k => ?_) ?_)
        · simp only [weirgateref21_Cut.l0]
          rw [if_pos (by omega), if_pos (by omega)]
        · simp only [weirgateref21_Cut.j1]
          have ex : s.extract (fr : Int).toNat (i : Int).toNat = B p := by
            refine ext_data ?_
            rw [B_data, Lib.extract_data, Int.toNat_natCast, Int.toNat_natCast]
            exact hp
          rw [if_pos trivial, if_pos (by omega), if_pos (by omega), if_pos (by omega), if_pos (by omega), if_pos (by omega), ex, wrap_up (by omega) (by omega)]
          rfl
        · exact fin _
      · have hpe : p = [] := List.eq_nil_of_length_eq_zero (by omega)
        subst hpe
        refine Ev.step (f := fun k => weirgateref21_Cut.j1 k s out (fr : Int) (i : Int) true) (fun k => ?_) (Ev.step (f := fun k => weirgateref21_Cut.l0 k s out ((i + 1 : Nat) : Int) ((i + 1 : Nat) : Int)) (fun k => ?_) ?_)
        · simp only [weirgateref21_Cut.l0]
          rw [if_pos (by omega), if_pos (by omega)]
        · simp only [weirgateref21_Cut.j1]
          rw [if_pos trivial, if_neg (by omega), wrap_up (by omega) (by omega)]
          rfl
        · simpa using fin out
    | succ d ih =>
      intro i fr out p r hi hf hb hr hp hn
      have hlt : i < s.data.toList.length := by omega
      have hpl : p.length = i - fr := by rw [← hp, List.length_take, List.length_drop]; omega
      rw [List.drop_eq_getElem_cons hlt] at hr
      have hbt := bt_at_data hlt
      subst hr
      by_cases hc : s.data.toList[i] = 32
      · have e0 : (bt s (i : Int) == 32) = true := by rw [hbt, hc]; rfl
        rw [hc, cut_front p _ hn]
        by_cases hlf : fr < i
        · have hpne : ¬ p.isEmpty = true := by
            intro e
            rw [List.isEmpty_iff] at e
            rw [e] at hpl
            simp at hpl
            omega
          rw [if_neg hpne]
          refine Ev.step (f := fun k => weirgateref21_Cut.j1 k s out (fr : Int) (i : Int) true) (fun k => ?_) (Ev.step (f := fun k => weirgateref21_Cut.l0 k s (out ++ [B p]) ((i + 1 : Nat) : Int) ((i + 1 : Nat) : Int)) (fun k => ?_) ?_)
          · simp only [weirgateref21_Cut.l0]
            rw [if_pos (by omega), if_neg (by omega), if_pos (by omega), if_pos (by omega), e0]
          · simp only [weirgateref21_Cut.j1]
            have ex : s.extract (fr : Int).toNat (i : Int).toNat = B p := by
              refine ext_data ?_
              rw [B_data, Lib.extract_data, Int.toNat_natCast, Int.toNat_natCast]
              exact hp
            rw [if_pos trivial, if_pos (by omega), if_pos (by omega), if_pos (by omega), if_pos (by omega), if_pos (by omega), ex, wrap_up (by omega) (by omega)]
            rfl
          · have := ih (i + 1) (i + 1) (out ++ [B p]) [] _ (by omega) (Nat.le_refl _) (by simp only [List.length_append, List.length_singleton]; omega) rfl (by simp) (by simp)
            simpa using this
        · have hpe : p = [] := List.eq_nil_of_length_eq_zero (by omega)
          subst hpe
          refine Ev.step (f := fun k => weirgateref21_Cut.j1 k s out (fr : Int) (i : Int) true) (fun k => ?_) (Ev.step (f := fun k => weirgateref21_Cut.l0 k s out ((i + 1 : Nat) : Int) ((i + 1 : Nat) : Int)) (fun k => ?_) ?_)
          · simp only [weirgateref21_Cut.l0]
            rw [if_pos (by omega), if_neg (by omega), if_pos (by omega), if_pos (by omega), e0]
          · simp only [weirgateref21_Cut.j1]
            rw [if_pos trivial, if_neg (by omega), wrap_up (by omega) (by omega)]
            rfl
          · have := ih (i + 1) (i + 1) out [] _ (by omega) (Nat.le_refl _) (by omega) rfl (by simp) (by simp)
            simpa using this
      · have e0 : (bt s (i : Int) == 32) = false := by
          rw [hbt, beq_eq_false_iff_ne]
          intro e
          exact hc (toNat_eq.1 (by rw [e]; rfl))
        refine Ev.step (f := fun k => weirgateref21_Cut.j1 k s out (fr : Int) (i : Int) false) (fun k => ?_) (Ev.step (f := fun k => weirgateref21_Cut.l0 k s out (fr : Int) ((i + 1 : Nat) : Int)) (fun k => ?_) ?_)
        · simp only [weirgateref21_Cut.l0]
          rw [if_pos (by omega), if_neg (by omega), if_pos (by omega), if_pos (by omega), e0]
        · simp only [weirgateref21_Cut.j1]
          rw [if_neg (by decide), wrap_up (by omega) (by omega)]
          rfl
        · have hp2 : (s.data.toList.drop fr).take (i + 1 - fr) = p ++ [s.data.toList[i]] := by
            rw [show i + 1 - fr = (i - fr) + 1 by omega, List.take_succ_eq_append_getElem (by rw [List.length_drop]; omega), hp]
            congr 1
            simp only [List.getElem_drop]
            congr 2
            omega
          have := ih (i + 1) fr out (p ++ [s.data.toList[i]]) _ (by omega) (by omega) (by omega) rfl hp2 (by
            intro e
            rcases List.mem_append.1 e with e | e
            · exact hn e
            · exact hc (List.mem_singleton.1 e).symm)
          simpa using this
  have := loop s.size 0 0 [] [] s.data.toList (by omega) (Nat.le_refl _) (by simp only [List.length_nil]; omega) rfl (by simp) (by simp)
  exact Ev.congr (f := fun k => weirgateref21_Cut.l0 k s [] 0 0) (fun k => rfl) (by simpa using this)
def ne (l : List ByteArray) : List L := (l.map (·.data.toList)).filter (fun p => !p.isEmpty)
theorem ne_snoc_nil {l : List ByteArray} {x : ByteArray} (h : x.data.toList = []) : ne (l ++ [x]) = ne l := by simp [ne, h]
theorem ne_snoc {l : List ByteArray} {x : ByteArray} (h : ¬ x.data.toList = []) : ne (l ++ [x]) = ne l ++ [x.data.toList] := by simp [ne, h]
theorem ne_mem {l : List ByteArray} {p : L} (h : p ∈ ne l) : p ≠ [] := by
  have := (List.mem_filter.1 h).2
  simpa using this
theorem ne_filter (l : List ByteArray) : (l.filter (fun p => !p.data.toList.isEmpty)).map (·.data.toList) = ne l := by
  unfold ne
  rw [List.filter_map]
  rfl
theorem joinref_ev (l : List ByteArray) (hl : l.length < 8796093022208) (hb : ∀ i, (line (ne (l.take i))).length ≤ 140737488355328) (hs : ∀ x ∈ l, x.size ≤ 140737488355328) : Ev (fun k => weirgateref21_Join.f k l) (B (line (ne l))) := by
  have loop : ∀ (d i : Nat), i + d = l.length → Ev (fun k => weirgateref21_Join.l0 k l (B (line (ne (l.take i)))) (i : Int)) (B (line (ne l))) := by
    intro d
    induction d with
    | zero =>
      intro i hi
      refine Ev.step (f := fun _ => some (B (line (ne l)))) (fun k => ?_) (Ev.now _)
      simp only [weirgateref21_Join.l0]
      rw [if_neg (by omega), List.take_of_length_le (by omega)]
    | succ d ih =>
      intro i hi
      have hlt : i < l.length := by omega
      have ht : l.take (i + 1) = l.take i ++ [l[i]] := List.take_succ_eq_append_getElem hlt
      have hbi := hb i
      have hsi := hs l[i] (List.getElem_mem hlt)
      refine Ev.step (f := fun k => weirgateref21_Join.l0 k l (B (line (ne (l.take (i + 1))))) ((i + 1 : Nat) : Int)) (fun k => ?_) (ih (i + 1) (by omega))
      simp only [weirgateref21_Join.l0]
      rw [if_pos (by omega), if_pos (by omega), rdOf_at hlt, toList_data, B_toList, wrap_up (by omega) (by omega), ht]
      by_cases he : l[i].data.toList = []
      · rw [if_pos he, ne_snoc_nil he]
        rfl
      · rw [if_neg he, ne_snoc he]
        by_cases hq : ne (l.take i) = []
        · rw [hq]
          rw [if_pos (show line [] = [] from rfl), if_pos (by rw [B_size]; simp only [line, List.length_nil]; omega)]
          have e : B (line []) ++ l[i] = B (line ([] ++ [l[i].data.toList])) := ext_data (by simp [B, line])
          rw [e]
          rfl
        · have hln : ¬ line (ne (l.take i)) = [] := line_ne hq (fun p hp => ne_mem hp)
          rw [if_neg hln, if_pos (by rw [B_size]; omega)]
          have e1 : B (line (ne (l.take i))) ++ (⟨#[32]⟩ : ByteArray) = B (line (ne (l.take i)) ++ [32]) := ext_data (by simp [B])
          rw [e1, if_pos (by rw [B_size, List.length_append, List.length_singleton]; omega)]
          have e2 : B (line (ne (l.take i)) ++ [32]) ++ l[i] = B (line (ne (l.take i) ++ [l[i].data.toList])) := by
            rw [line_snoc _ _ hq]
            exact ext_data (by simp [B])
          rw [e2]
          rfl
  have := loop l.length 0 (by omega)
  rw [List.take_zero] at this
  exact this
theorem digit_text (u : Nat) : strOfNums [(48 + ((Int.tmod (u : Int) 10) % 256)) % 256] = B [UInt8.ofNat (48 + u % 10)] := by
  have : (48 + ((Int.tmod (u : Int) 10) % 256)) % 256 = ((48 + u % 10 : Nat) : Int) := by
    rw [Int.tmod_eq_emod_of_nonneg (by omega)]
    omega
  rw [this]
  refine ext_data ?_
  rw [B_data]
  simp only [strOfNums, List.map_cons, List.map_nil, Int.toNat_natCast]
theorem wtextref_ev (n : Int) (h0 : -9223372036854775808 ≤ n) (h1 : n ≤ 9223372036854775807) : Ev (fun k => weirgateref21_Text.f k n) (B (Lib.itoa n)) := by
  have loop : ∀ (u : Nat), u < 18446744073709551616 → ∀ (s : L), s.length + u ≤ 36893488147419103232 → s.length ≤ 1000 → s.length + (Lib.decDigits u).length ≤ 1000 →
      Ev (fun k => weirgateref21_Text.l0 k n (u : Int) (B s)) (B ((if n < 0 then [45] else []) ++ (Lib.decDigits u ++ s))) := by
    intro u
    induction u using Nat.strongRecOn with
    | _ u ih =>
      intro hu s _ hs hroom
      have ed := digit_text u
      have eq : IntKind.u64.wrap (Int.tdiv (u : Int) 10) = ((u / 10 : Nat) : Int) := by
        rw [Int.tdiv_eq_ediv_of_nonneg (by omega), IntKind.wrap_u64]
        omega
      have ea : B [UInt8.ofNat (48 + u % 10)] ++ B s = B (UInt8.ofNat (48 + u % 10) :: s) := by rw [B_append]; rfl
      by_cases hsm : u < 10
      · refine Ev.step (f := fun _ => some (B ((if n < 0 then [45] else []) ++ (Lib.decDigits u ++ s)))) (fun k => ?_) (Ev.now _)
        simp only [weirgateref21_Text.l0, Option.bind_some]
        rw [ed, if_pos (by rw [B_size, B_size, List.length_singleton]; omega), eq, if_pos (by omega), ea, decDigits_small hsm, Nat.mod_eq_of_lt hsm]
        by_cases hn : n < 0
        · rw [if_pos hn, if_pos (by rw [B_size, List.length_cons]; omega), if_pos hn]
          congr 1
        · rw [if_neg hn, if_neg hn]
          rfl
      · rw [decDigits_big hsm] at hroom ⊢
        rw [List.length_append, List.length_singleton] at hroom
        refine Ev.step (f := fun k => weirgateref21_Text.l0 k n ((u / 10 : Nat) : Int) (B (UInt8.ofNat (48 + u % 10) :: s))) (fun k => ?_) ?_
        · simp only [weirgateref21_Text.l0, Option.bind_some]
          rw [ed, if_pos (by rw [B_size, B_size, List.length_singleton]; omega), eq, if_neg (by omega), ea]
        · have := ih (u / 10) (by omega) (by omega) (UInt8.ofNat (48 + u % 10) :: s) (by rw [List.length_cons]; omega) (by rw [List.length_cons]; omega) (by rw [List.length_cons]; omega)
          simpa using this
  have len : ∀ (u : Nat), u < 18446744073709551616 → (Lib.decDigits u).length ≤ 20 := by
    have pow : ∀ (k u : Nat), u < 10 ^ (k + 1) → (Lib.decDigits u).length ≤ k + 1 := by
      intro k
      induction k with
      | zero =>
        intro u hu
        rw [decDigits_small (by simpa using hu)]
        simp
      | succ k ih =>
        intro u hu
        by_cases hs : u < 10
        · rw [decDigits_small hs]; simp
        · rw [decDigits_big hs, List.length_append]
          have := ih (u / 10) (by rw [Nat.pow_succ] at hu; omega)
          simp only [List.length_singleton]
          omega
    intro u hu
    exact pow 19 u (by omega)
  have go : ∀ (u : Nat), u < 18446744073709551616 → Ev (fun k => weirgateref21_Text.j0 k n (u : Int)) (B ((if n < 0 then [45] else []) ++ Lib.decDigits u)) := by
    intro u hu
    refine Ev.step (f := fun k => weirgateref21_Text.l0 k n (u : Int) (B [])) (fun k => rfl) ?_
    have hl := len u hu
    have := loop u hu [] (by simp only [List.length_nil]; omega) (by simp) (by simp only [List.length_nil]; omega)
    simpa using this
  by_cases hn : n < 0
  · have hw : IntKind.u64.wrap ((IntKind.u64.wrap (wrap64 (-(wrap64 (n + 1))))) + 1) = ((n.natAbs : Nat) : Int) := by
      rw [IntKind.wrap_u64, IntKind.wrap_u64]
      unfold wrap64
      omega
    have := go n.natAbs (by omega)
    rw [if_pos hn] at this
    rw [itoa_minus hn]
    refine Ev.congr (fun k => ?_) this
    unfold weirgateref21_Text.f
    rw [if_pos hn, hw]
  · have hw : IntKind.u64.wrap n = ((n.toNat : Nat) : Int) := by
      rw [IntKind.wrap_u64]
      omega
    have := go n.toNat (by omega)
    rw [if_neg hn] at this
    rw [itoa_pos (by omega)]
    refine Ev.congr (fun k => ?_) this
    unfold weirgateref21_Text.f
    rw [if_neg hn, hw]
theorem num_step (v c : Int) (h0 : 0 ≤ v) (h1 : v < 10000000000) (hc : 48 ≤ c) (hc2 : c ≤ 57) : wrap64 ((wrap64 (v * 10)) + ((c - 48) % 256)) = v * 10 + (c - 48) := by
  have e1 : wrap64 (v * 10) = v * 10 := by unfold wrap64; omega
  have e2 : (c - 48) % 256 = c - 48 := by omega
  rw [e1, e2]
  unfold wrap64
  omega
theorem numref_ev (s : ByteArray) (h : s.size ≤ 9223372036854775806) : Ev (fun k => weirgateref21_Num.f k s) (Plain.num s.data.toList) := by
  have hsz := size_data s
  have hcases := num_cases s.data.toList
  -- what the last test says
  have last : ∀ v : Nat, v < 1000000000000 → (s.data.toList ≠ [] ∧ s.size ≤ 10 ∧ (∀ b ∈ s.data.toList, isDig b) ∧ v = val 0 s.data.toList) →
      Ev (fun k => (if ((v : Nat) : Int) ≥ 4294967296 then (some ((0 : Int), false)) else ((weirgateref21_Text.f k (v : Int)).bind fun t137 => (if t137.toList = s.toList then (some ((v : Int), true)) else (some (0, false)))))) (Plain.num s.data.toList) := by
    intro v hv ⟨hne, hle, hd, hval⟩
    by_cases hb : v < 4294967296
    · have ht : Ev (fun k => weirgateref21_Text.f k (v : Int)) (B (Lib.decDigits v)) := by
        have := wtextref_ev (v : Int) (by omega) (by omega)
        rwa [itoa_nat] at this
      refine Ev.congr (f := fun k => ((weirgateref21_Text.f k (v : Int)).bind fun t137 => (if t137.toList = s.toList then (some ((v : Int), true)) else (some (0, false))))) (fun k => by rw [if_neg (by omega)]) (Ev.bind ht ?_)
      rcases hcases with ⟨u, hu, hs, hn⟩ | ⟨hno, hn⟩
      · have : v = u := by rw [hval, hs, val_decDigits]
        subst this
        rw [hn]
        refine Ev.congr (fun k => ?_) (Ev.now _)
        rw [if_pos (by rw [B_toList, toList_data, hs])]
      · rw [hn]
        refine Ev.congr (fun k => ?_) (Ev.now _)
        rw [if_neg (by rw [B_toList, toList_data]; exact hno v hb)]
    · refine Ev.congr (f := fun _ => some (Plain.num s.data.toList)) (fun k => ?_) (Ev.now _)
      rw [if_pos (by omega)]
      rcases hcases with ⟨u, hu, hs, hn⟩ | ⟨hno, hn⟩
      · exact absurd (by rw [hval, hs, val_decDigits] : v = u) (by omega)
      · rw [hn]
  have bad : ∀ (i : Nat) (hi : i < s.data.toList.length), ¬ isDig s.data.toList[i] → Plain.num s.data.toList = (0, false) := by
    intro i hi hb
    rcases hcases with ⟨u, hu, hs, hn⟩ | ⟨hno, hn⟩
    · exact absurd (decDigits_dig u _ (by rw [← hs]; exact List.getElem_mem hi)) hb
    · exact hn
  have loop : s.data.toList ≠ [] → s.size ≤ 10 → ∀ (d i : Nat), i + d = s.size → (∀ b ∈ s.data.toList.take i, isDig b) →
      Ev (fun k => weirgateref21_Num.l0 k s ((val 0 (s.data.toList.take i) : Nat) : Int) (i : Int)) (Plain.num s.data.toList) := by
    intro hne hle d
    have hv12 : ∀ i, i ≤ 10 → (∀ b ∈ s.data.toList.take i, isDig b) → val 0 (s.data.toList.take i) < 10000000000 := by
      intro i hi hd
      have h1 := val_lt (s.data.toList.take i) 0 hd
      have h2 : 10 ^ (s.data.toList.take i).length ≤ 10 ^ 10 := Nat.pow_le_pow_right (by omega) (by rw [List.length_take]; omega)
      omega
    induction d with
    | zero =>
      intro i hi hd
      have ht : s.data.toList.take i = s.data.toList := List.take_of_length_le (by omega)
      have hv := hv12 i (by omega) hd
      refine Ev.step (fun k => ?_) (last (val 0 (s.data.toList.take i)) (by omega) ⟨hne, hle, by rw [← ht]; exact hd, by rw [ht]⟩)
      simp only [weirgateref21_Num.l0]
      rw [if_neg (by omega)]
    | succ d ih =>
      intro i hi hd
      have hlt : i < s.data.toList.length := by omega
      have hbt := bt_at_data hlt
      have hv := hv12 i (by omega) hd
      by_cases hdig : isDig s.data.toList[i]
      · have hdig' : 48 ≤ (s.data.toList[i]).toNat ∧ (s.data.toList[i]).toNat ≤ 57 := hdig
        have htk : s.data.toList.take (i + 1) = s.data.toList.take i ++ [s.data.toList[i]] := List.take_succ_eq_append_getElem hlt
        refine Ev.step (fun k => ?_) (ih (i + 1) (by omega) (by
          intro b hb
          rw [htk] at hb
          rcases List.mem_append.1 hb with hb | hb
          · exact hd b hb
          · rw [List.mem_singleton.1 hb]; exact hdig))
        simp only [weirgateref21_Num.l0]
        have e1 : wrap64 ((wrap64 ((val 0 (s.data.toList.take i) : Nat) * 10)) + (((bt s (i : Int)) - 48) % 256)) = ((val 0 (s.data.toList.take (i + 1)) : Nat) : Int) := by
          rw [hbt, htk, val_append]
          generalize val 0 (s.data.toList.take i) = v at hv
          generalize hc : (s.data.toList[i]).toNat = c at hdig'
          rw [num_step (v : Int) (c : Int) (by omega) (by omega) (by omega) (by omega)]
          omega
        rw [if_pos (by omega), if_pos (by omega), if_neg (by omega), if_neg (by omega), e1, wrap_up (by omega) (by omega)]
        rfl
      · have hn := bad i hlt hdig
        have hdig' : ¬ (48 ≤ (s.data.toList[i]).toNat ∧ (s.data.toList[i]).toNat ≤ 57) := hdig
        refine Ev.step (f := fun _ => some (Plain.num s.data.toList)) (fun k => ?_) (Ev.now _)
        simp only [weirgateref21_Num.l0]
        rw [if_pos (by omega), if_pos (by omega), hn]
        by_cases h48 : bt s (i : Int) < 48
        · rw [if_pos h48]
        · rw [if_neg h48, if_pos (by omega)]
  by_cases he : s.data.toList = []
  · refine Ev.congr (f := fun k => weirgateref21_Num.j0 k s true) (fun k => by unfold weirgateref21_Num.f; rw [if_pos (by rw [toList_data]; exact he)]) ?_
    refine Ev.step (f := fun _ => some (Plain.num s.data.toList)) (fun k => ?_) (Ev.now _)
    simp only [weirgateref21_Num.j0]
    rw [if_pos trivial, he]
    rfl
  · by_cases hbig : s.size > 10
    · refine Ev.congr (f := fun k => weirgateref21_Num.j0 k s true) (fun k => by unfold weirgateref21_Num.f; rw [if_neg (by rw [toList_data]; exact he), decide_eq_true (by omega)]) ?_
      refine Ev.step (f := fun _ => some (Plain.num s.data.toList)) (fun k => ?_) (Ev.now _)
      simp only [weirgateref21_Num.j0]
      rw [if_pos trivial]
      rcases hcases with ⟨u, hu, hs, hn⟩ | ⟨hno, hn⟩
      · have := decDigits_length_lt u hu
        rw [← hs] at this
        omega
      · rw [hn]
    · refine Ev.congr (f := fun k => weirgateref21_Num.j0 k s false) (fun k => by unfold weirgateref21_Num.f; rw [if_neg (by rw [toList_data]; exact he), decide_eq_false (by omega)]) ?_
      refine Ev.step (f := fun k => weirgateref21_Num.l0 k s 0 0) (fun k => ?_) ?_
      · simp only [weirgateref21_Num.j0]
        rw [if_neg (by decide)]
      · have := loop he (by omega) s.size 0 (by omega) (by simp)
        rw [List.take_zero, val_nil] at this
        exact this
theorem add_join16 (v : Nat) (d : Int) (h : v < 281474976710656) (h0 : 0 ≤ d) (h1 : d < 16) : IntKind.u64.wrap (IntKind.u64.wrap ((v : Int) * 16) + IntKind.u64.wrap d) = ((v * 16 + d.toNat : Nat) : Int) := by
  rw [wraps_u64 ((v : Int) * 16) (by omega) (by omega), wraps_u64 d (by omega) (by omega), wraps_u64 _ (by omega) (by omega)]
  omega
def gd (a : Nat) : Bool := decide (a < 281474976710656)
theorem goodref_now (a : Nat) : weirgateref09_Good.f (a : Int) = some (gd a) := by
  unfold weirgateref09_Good.f gd
  by_cases h : a < 281474976710656
  · rw [decide_eq_true h, decide_eq_true (show (a : Int) < 281474976710656 by omega)]
  · rw [decide_eq_false h, decide_eq_false (show ¬ (a : Int) < 281474976710656 by omega)]
theorem hex_cut (n : Nat) (h : n < 16) (x : Int) (hx : x = n) : (⟨#[48, 49, 50, 51, 52, 53, 54, 55, 56, 57, 97, 98, 99, 100, 101, 102]⟩ : ByteArray).extract x.toNat ((x + 1) % 256).toNat = B [hexd n] := by
  subst hx
  have := hexOne_nat n h
  unfold hexOne hexDigits at this
  rw [show ((n : Int) + 1) % 256 = (n : Int) + 1 by omega]
  exact this
/-- The rest of the text. -/
def tailT : Bool → List Nat → L
  | _, [] => []
  | first, b :: r => (if first then [] else [58]) ++ two b ++ tailT false r
theorem tailT_macText (a : Nat) : tailT true (macBytes a) = macText a := by
  rw [macText_now]
  unfold macBytes
  simp [tailT]
theorem textref_loop (bs : List Nat) (h6 : bs.length = 6) (hb : ∀ b ∈ bs, b < 256) : ∀ (d i : Nat) (acc : L), i + d = 6 → acc.length ≤ 3 * i →
    Ev (fun k => weirgateref09_Text.l0 k (ints bs) (B acc) (i : Int)) (B (acc ++ tailT (i == 0) (bs.drop i))) := by
  intro d
  induction d with
  | zero =>
    intro i acc hi ha
    refine Ev.step (f := fun _ => some (B acc)) (fun k => ?_) ?_
    · simp only [weirgateref09_Text.l0]
      rw [if_neg (by omega)]
    · rw [List.drop_eq_nil_of_le (by omega), show tailT (i == 0) [] = [] by cases (i == 0) <;> rfl, List.append_nil]
      exact Ev.now _
  | succ d ih =>
    intro i acc hi ha
    have hlt : i < bs.length := by omega
    have hbb := hb bs[i] (List.getElem_mem hlt)
    have hq : (Int.tdiv ((bs[i] : Nat) : Int) 16) % 256 = ((bs[i] / 16 : Nat) : Int) := by
      rw [Int.tdiv_eq_ediv_of_nonneg (by omega)]; omega
    have hm : Int.tmod ((bs[i] : Nat) : Int) 16 = ((bs[i] % 16 : Nat) : Int) := by
      rw [Int.tmod_eq_emod_of_nonneg (by omega)]; omega
    have ea : (B acc).size = acc.length := B_size acc
    have et : B [hexd (bs[i] / 16)] ++ B [hexd (bs[i] % 16)] = B (two bs[i]) := by rw [B_append]; rfl
    have e1 : (B [hexd (bs[i] / 16)]).size = 1 := B_size _
    have e2 : (B [hexd (bs[i] % 16)]).size = 1 := B_size _
    have e3 : (B (two bs[i])).size = 2 := B_size _
    have e58 : (⟨#[58]⟩ : ByteArray) = B [58] := rfl
    rw [List.drop_eq_getElem_cons hlt]
    by_cases h0 : i = 0
    · refine Ev.step (f := fun k => weirgateref09_Text.l0 k (ints bs) (B (acc ++ two bs[i])) ((i + 1 : Nat) : Int)) (fun k => ?_) ?_
      · simp only [weirgateref09_Text.l0]
        rw [if_pos (by omega), if_neg (by omega), if_pos (by omega), if_pos (by rw [ints_length]; omega), rd_ints hlt, hq, hm, if_pos (by omega), if_pos (by omega), if_pos (by omega), if_pos (by omega), if_pos (by omega), if_pos (by omega)]
        rw [hex_cut (bs[i] / 16) (by omega) _ rfl, hex_cut (bs[i] % 16) (by omega) _ rfl, et, if_pos (by omega), if_pos (by omega), B_append, wrap_up (by omega) (by omega)]
        rfl
      · have := ih (i + 1) (acc ++ two bs[i]) (by omega) (by simp only [List.length_append, two, List.length_cons, List.length_nil]; omega)
        rw [show (i + 1 == 0) = false from rfl, List.append_assoc] at this
        rw [show (i == 0) = true by rw [h0]; rfl, tailT, if_pos rfl, List.nil_append]
        exact this
    · refine Ev.step (f := fun k => weirgateref09_Text.l0 k (ints bs) (B (acc ++ 58 :: two bs[i])) ((i + 1 : Nat) : Int)) (fun k => ?_) ?_
      · simp only [weirgateref09_Text.l0]
        rw [if_pos (by omega), if_pos (by omega), if_pos (by omega), if_pos (by omega), if_pos (by rw [ints_length]; omega), rd_ints hlt, hq, hm, if_pos (by omega), if_pos (by omega), if_pos (by omega), if_pos (by omega), if_pos (by omega), if_pos (by omega)]
        rw [hex_cut (bs[i] / 16) (by omega) _ rfl, hex_cut (bs[i] % 16) (by omega) _ rfl, et, e58, B_append, if_pos (by omega), if_pos (by rw [B_size]; simp only [List.length_append, List.length_singleton]; omega), B_append, wrap_up (by omega) (by omega), List.append_assoc]
        rfl
      · have := ih (i + 1) (acc ++ 58 :: two bs[i]) (by omega) (by simp only [List.length_append, two, List.length_cons, List.length_nil]; omega)
        rw [show (i + 1 == 0) = false from rfl, List.append_assoc] at this
        rw [show (i == 0) = false from beq_eq_false_iff_ne.2 h0, tailT]
        exact this
theorem refBytes_now (a : Nat) : weirgateref09_Bytes.f (a : Int) = some (ints (macBytes a)) := by
  unfold weirgateref09_Bytes.f ints macBytes
  simp only [List.map_cons, List.map_nil]
  rw [show ((a / 1099511627776 % 256 : Nat) : Int) = (a : Int) / 1099511627776 % 256 by omega, show ((a / 4294967296 % 256 : Nat) : Int) = (a : Int) / 4294967296 % 256 by omega, show ((a / 16777216 % 256 : Nat) : Int) = (a : Int) / 16777216 % 256 by omega,
    show ((a / 65536 % 256 : Nat) : Int) = (a : Int) / 65536 % 256 by omega, show ((a / 256 % 256 : Nat) : Int) = (a : Int) / 256 % 256 by omega, show ((a % 256 : Nat) : Int) = (a : Int) % 256 by omega]
theorem text_in (a : Nat) (h : a < 281474976710656) (k : Nat) : weirgateref09_Text.f k (a : Int) = weirgateref09_Text.l0 k (ints (macBytes a)) (⟨#[]⟩ : ByteArray) 0 := by
  unfold weirgateref09_Text.f
  rw [goodref_now, refBytes_now, gd, decide_eq_true h]
  rfl
theorem text_out (a : Nat) (h : ¬ a < 281474976710656) (k : Nat) : weirgateref09_Text.f k (a : Int) = some (⟨#[]⟩ : ByteArray) := by
  unfold weirgateref09_Text.f
  rw [goodref_now, gd, decide_eq_false h]
  rfl
theorem six (a : Nat) : (macBytes a).length = 6 := by
  unfold macBytes
  rfl
theorem textref_all (a : Nat) : Ev (fun k => weirgateref09_Text.l0 k (ints (macBytes a)) (B []) ((0 : Nat) : Int)) (B (macText a)) := by
  have := textref_loop (macBytes a) (six a) (macBytes_lt a) 6 0 [] (by omega) (by simp)
  rw [show ((0 : Nat) == 0) = true from rfl, List.drop_zero, tailT_macText, List.nil_append] at this
  exact this
theorem mtextref_ev (a : Nat) : Ev (fun k => weirgateref09_Text.f k (a : Int)) (B (textOf a)) := by
  by_cases h : a < 281474976710656
  · rw [textOf, if_pos h]
    exact Ev.congr (text_in a h) (textref_all a)
  · rw [textOf, if_neg h]
    exact Ev.congr (text_out a h) (Ev.now _)
/-- Its search for a digit. -/
def scan (c : UInt8) : Int → Nat → L → Int
  | d, _, [] => d
  | d, j, h :: t => scan c (if h = c then (j : Int) else d) (j + 1) t
theorem index_no {c : UInt8} : ∀ {l : L}, c ∉ l → Lib.indexByte l c = -1
  | [], _ => rfl
  | h :: t, hc => by
    have h1 : ¬ h = c := fun e => hc (by rw [e]; exact List.mem_cons_self)
    have h2 := index_no (l := t) fun e => hc (List.mem_cons_of_mem _ e)
    unfold Lib.indexByte
    rw [h2]
    simp [h1]
theorem scan_no {c : UInt8} : ∀ (l : L) (d : Int) (j : Nat), c ∉ l → scan c d j l = d
  | [], _, _, _ => rfl
  | h :: t, d, j, hc => by
    have h1 : ¬ h = c := fun e => hc (by rw [e]; exact List.mem_cons_self)
    rw [scan, if_neg h1]
    exact scan_no t d (j + 1) fun e => hc (List.mem_cons_of_mem _ e)
theorem scan_is {c : UInt8} : ∀ (l : L) (d : Int) (j : Nat), l.Nodup → scan c d j l = if Lib.indexByte l c = -1 then d else (j : Int) + Lib.indexByte l c
  | [], _, _, _ => rfl
  | h :: t, d, j, hn => by
    obtain ⟨n1, n2⟩ := List.nodup_cons.1 hn
    rw [scan]
    by_cases hc : h = c
    · subst hc
      rw [if_pos rfl, scan_no t _ _ n1]
      unfold Lib.indexByte
      simp
    · rw [if_neg hc, scan_is t d (j + 1) n2]
      have hge : -1 ≤ Lib.indexByte t c := by
        clear scan_is n1 n2 hn
        induction t with
        | nil => exact Int.le_refl _
        | cons b t ih => unfold Lib.indexByte; split; · decide
                         · split; · decide
                           · omega
      conv => rhs; unfold Lib.indexByte
      by_cases hi : Lib.indexByte t c = -1
      · simp [hi, hc]
      · simp only [beq_iff_eq, hc, hi, if_false]
        rw [if_neg (by omega)]
        omega
theorem hex_nodup : hexList.Nodup := by decide
theorem scan_hv (c : UInt8) : scan c (-1) 0 hexList = hv c := by
  rw [scan_is _ _ _ hex_nodup]
  unfold hv
  split
  · rename_i h; rw [h]
  · omega
def after (s : ByteArray) : Option Nat → Int × Int
  | some v => if macText v = s.data.toList then ((v : Int), 0) else (0, 11)
  | none => (0, 11)
theorem hex_at {j : Nat} (h : j < hexList.length) : bt (⟨#[48, 49, 50, 51, 52, 53, 54, 55, 56, 57, 97, 98, 99, 100, 101, 102]⟩ : ByteArray) (j : Int) = ((hexList[j]'h).toNat : Int) := bt_at_data (s := B hexList) h
theorem search (s : ByteArray) (v : Nat) (i : Nat) (hi : i < s.data.toList.length) (r : Int × Int)
    (hr : ∀ d : Int, d = hv (s.data.toList[i]) → Ev (fun k => if d < 0 then some (0, 11) else weirgateref09_Parse.l0 k s (IntKind.u64.wrap (IntKind.u64.wrap ((v : Int) * 16) + IntKind.u64.wrap d)) (wrap64 ((i : Int) + 1))) r) :
    Ev (fun k => weirgateref09_Parse.l1 k s (v : Int) (i : Int) (-1) ((0 : Nat) : Int)) r := by
  have hs := size_data s
  have loop : ∀ (e j : Nat) (d : Int), j + e = 16 → scan s.data.toList[i] d j (hexList.drop j) = hv s.data.toList[i] → Ev (fun k => weirgateref09_Parse.l1 k s (v : Int) (i : Int) d (j : Int)) r := by
    intro e
    induction e with
    | zero =>
      intro j d hj hd
      rw [List.drop_eq_nil_of_le (by show 16 ≤ j; omega)] at hd
      refine Ev.step (f := fun k => if d < 0 then some (0, 11) else weirgateref09_Parse.l0 k s (IntKind.u64.wrap (IntKind.u64.wrap ((v : Int) * 16) + IntKind.u64.wrap d)) (wrap64 ((i : Int) + 1))) (fun k => ?_) (hr d hd)
      simp only [weirgateref09_Parse.l1]
      rw [if_neg (by omega)]
    | succ e ih =>
      intro j d hj hd
      have hlt : j < hexList.length := by show j < 16; omega
      rw [List.drop_eq_getElem_cons hlt, scan] at hd
      refine Ev.step (f := fun k => weirgateref09_Parse.l1 k s (v : Int) (i : Int) (if hexList[j] = s.data.toList[i] then (j : Int) else d) ((j + 1 : Nat) : Int)) (fun k => ?_) (ih (j + 1) _ (by omega) hd)
      simp only [weirgateref09_Parse.l1]
      rw [if_pos (by omega), if_pos (by omega), if_pos (by omega), if_pos (by omega), hex_at hlt, bt_at_data hi, wrap_up (by omega) (by omega)]
      by_cases he : hexList[j] = s.data.toList[i]
      · rw [if_pos (toNat_eq.2 he), if_pos he]
        rfl
      · rw [if_neg fun e => he (toNat_eq.1 e), if_neg he]
        rfl
  exact loop 16 0 (-1) (by omega) (scan_hv _)
theorem macparseref_ev (s : ByteArray) : Ev (fun k => weirgateref09_Parse.f k s) (macParse s.data.toList) := by
  rw [← refParse_is]
  have hs := size_data s
  by_cases h17 : s.data.toList.length = 17
  · have loop : ∀ (d i v : Nat), i + d = 17 → v < 16 ^ (i - i / 3) → Ev (fun k => weirgateref09_Parse.l0 k s (v : Int) (i : Int)) (after s (rp (i % 3) v (s.data.toList.drop i))) := by
      intro d
      induction d with
      | zero =>
        intro i v hi hv'
        obtain rfl : i = 17 := by omega
        have hv2 : v < 281474976710656 := hv'
        refine Ev.step (f := fun k => (weirgateref09_Text.f k (v : Int)).bind fun t144 => if t144.toList = s.toList then some ((v : Int), 0) else some (0, 11)) (fun k => ?_) ?_
        · simp only [weirgateref09_Parse.l0]
          rw [if_neg (by omega)]
        · rw [List.drop_eq_nil_of_le (by omega), rp_nil]
          refine (mtextref_ev v).bind ?_
          rw [B_toList, toList_data]
          unfold textOf
          rw [if_pos hv2]
          refine Ev.congr (f := fun _ => some (after s (some v))) (fun k => ?_) (Ev.now _)
          simp only [after]
          split <;> rfl
      | succ d ih =>
        intro i v hi hv'
        have hlt : i < s.data.toList.length := by omega
        rw [List.drop_eq_getElem_cons hlt]
        by_cases h2 : i % 3 = 2
        · refine Ev.step (f := fun k => weirgateref09_Parse.l0 k s (v : Int) ((i + 1 : Nat) : Int)) (fun k => ?_) ?_
          · simp only [weirgateref09_Parse.l0]
            rw [if_pos (by omega), if_pos (by rw [Int.tmod_eq_emod_of_nonneg (by omega)]; omega), wrap_up (by omega) (by omega)]
            rfl
          · have := ih (i + 1) v (by omega) (by rw [show i + 1 - (i + 1) / 3 = i - i / 3 by omega]; exact hv')
            rw [show (i + 1) % 3 = 0 by omega] at this
            rw [h2, rp_2]
            exact this
        · refine Ev.step (f := fun k => weirgateref09_Parse.l1 k s (v : Int) (i : Int) (-1) ((0 : Nat) : Int)) (fun k => ?_) (search s v i hlt _ ?_)
          · simp only [weirgateref09_Parse.l0]
            rw [if_pos (by omega), if_neg (by rw [Int.tmod_eq_emod_of_nonneg (by omega)]; omega)]
            rfl
          · rintro e he
            have h11 : 16 ^ (i - i / 3) ≤ 16 ^ 11 := Nat.pow_le_pow_right (by decide) (by omega)
            have hc := hv_cases s.data.toList[i]
            rw [← he] at hc
            have er : rp (i % 3) v (s.data.toList[i] :: s.data.toList.drop (i + 1)) = if e < 0 then none else rp ((i + 1) % 3) (v * 16 + e.toNat) (s.data.toList.drop (i + 1)) := by
              rcases (show i % 3 = 0 ∨ i % 3 = 1 by omega) with h | h
              · rw [h, rp_0, ← he, show (i + 1) % 3 = 1 by omega]
              · rw [h, rp_1, ← he, show (i + 1) % 3 = 2 by omega]
            rw [er]
            by_cases hn : e < 0
            · refine Ev.congr (f := fun _ => some (0, 11)) (fun k => ?_) ?_
              · rw [if_pos hn]
              · rw [if_pos hn]
                exact Ev.now _
            · have := ih (i + 1) (v * 16 + e.toNat) (by omega) (by rw [show i + 1 - (i + 1) / 3 = i - i / 3 + 1 by omega, Nat.pow_succ]; omega)
              rw [if_neg hn]
              refine Ev.congr (fun k => ?_) this
              rw [if_neg hn, add_join16 v e (by omega) (by omega) (by omega), wrap_up (by omega) (by omega)]
              rfl
    refine Ev.congr (f := fun k => weirgateref09_Parse.l0 k s ((0 : Nat) : Int) ((0 : Nat) : Int)) (fun k => ?_) ?_
    · unfold weirgateref09_Parse.f
      rw [if_pos (by omega)]
      rfl
    · have := loop 17 0 0 (by omega) (by decide)
      have e : after s (rp (0 % 3) 0 (s.data.toList.drop 0)) = refParse s.data.toList := by
        unfold refParse
        rw [if_pos h17, List.drop_zero]
        show after s (rp 0 0 s.data.toList) = _
        cases rp 0 0 s.data.toList <;> rfl
      rw [← e]
      exact this
  · refine Ev.congr (f := fun _ => some (0, 11)) (fun k => ?_) ?_
    · unfold weirgateref09_Parse.f
      rw [if_neg (by omega)]
    · unfold refParse
      rw [if_neg h17]
      exact Ev.now _
end Go.Proofs.YtagnoecfdefmjaaDoor.P
