/- What the printed functions of words (and the reference's) come to, in plain words: from some number of rounds on; conditions: sizes alone. -/
import Derived.Test.YtnjmdnaggbdanaaDoorXx
import Derived.Test.YtnjmdnaggbdanaaDoorPlain
namespace Go.Proofs.YtnjmdnaggbdanaaDoor.P
open Go.RowKit Go.Proofs.YtnjmdnaggbdanaaDoorW.PrintWords Go.Proofs.YtnjmdnaggbdanaaDoor.X Go.Proofs.YtnjmdnaggbdanaaDoor.Plain
set_option linter.unusedVariables false
set_option linter.unusedSimpArgs false

theorem wrap_up {i : Int} (h0 : 0 ≤ i) (h : i < 9223372036854775807) : wrap64 (i + 1) = i + 1 := by unfold wrap64; omega
theorem toList_data (s : ByteArray) : s.toList = s.data.toList := Lib.toList_data s
theorem B_toList (l : L) : (B l).toList = l := by rw [toList_data, B_data]
theorem size_data (s : ByteArray) : s.size = s.data.toList.length := Lib.size_eq s
theorem B_size (l : L) : (B l).size = l.length := by rw [size_data, B_data]
theorem B_append (a b : L) : B a ++ B b = B (a ++ b) := ext_data (by simp [B])
theorem append_B (a : ByteArray) (b : L) : a ++ B b = B (a.data.toList ++ b) := by rw [← data_B a, B_append, B_data]
theorem rdOf_at {l : List ByteArray} {i : Nat} (h : i < l.length) : rdOf ByteArray.empty l (i : Int) = l[i] := by
  unfold rdOf
  rw [Int.toNat_natCast, List.getD_eq_getElem?_getD, List.getElem?_eq_getElem h]
  rfl
theorem bt_at_data {s : ByteArray} {i : Nat} (h : i < s.data.toList.length) : bt s (i : Int) = ((s.data.toList[i]).toNat : Int) := by
  unfold bt
  rw [dif_pos (by rw [Int.toNat_natCast, size_data]; exact h)]
  simp only [Int.toNat_natCast]
  rfl
theorem toNat_eq {a b : UInt8} : (a.toNat : Int) = (b.toNat : Int) ↔ a = b := by
  constructor
  · intro h
    exact UInt8.toNat_inj.1 (by omega)
  · rintro rfl; rfl

/-! ### two like lists -/
theorem texts_same (l : List ByteArray) (h : l.length ≤ 9223372036854775807) : Ev (fun k => weirgatekeep_Texts.f k l l) true := by
  have loop : ∀ (d i : Nat), i + d = l.length → Ev (fun k => weirgatekeep_Texts.l0 k l l (i : Int)) true := by
    intro d
    induction d with
    | zero =>
      intro i hi
      refine Ev.step (f := fun _ => some true) (fun k => ?_) (Ev.now _)
      simp only [weirgatekeep_Texts.l0]
      rw [if_neg (by omega)]
    | succ d ih =>
      intro i hi
      refine Ev.step (f := fun k => weirgatekeep_Texts.l0 k l l ((i + 1 : Nat) : Int)) (fun k => ?_) (ih (i + 1) (by omega))
      simp only [weirgatekeep_Texts.l0]
      rw [if_pos (by omega), if_pos (by omega), if_pos (by omega), if_pos trivial, wrap_up (by omega) (by omega)]
      rfl
  refine Ev.congr (f := fun k => weirgatekeep_Texts.l0 k l l ((0 : Nat) : Int)) (fun k => ?_) (loop l.length 0 (by omega))
  unfold weirgatekeep_Texts.f
  rw [if_pos rfl]
  rfl

/-! ### Cut -/
theorem cut_ev (s : ByteArray) (h : s.size < 4294967281) : Ev (fun k => words_Cut.f k s) ((cut s.data.toList).map B) := by
  have loop : ∀ (ps : List ByteArray) (hps : ps.length < 9223372036854775807) (d i : Nat) (acc : List ByteArray), i + d = ps.length → acc.length + d < 8796093022208 →
      Ev (fun k => words_Cut.l0 k acc ps (ps.length : Int) (i : Int)) (acc ++ (ps.drop i).filter (fun p => !p.data.toList.isEmpty)) := by
    intro ps hps d
    induction d with
    | zero =>
      intro i acc hi hb
      refine Ev.step (f := fun _ => some (acc ++ (ps.drop i).filter (fun p => !p.data.toList.isEmpty))) (fun k => ?_) (Ev.now _)
      simp only [words_Cut.l0]
      rw [if_neg (by omega), List.drop_eq_nil_of_le (by omega)]
      simp
    | succ d ih =>
      intro i acc hi hb
      have hlt : i < ps.length := by omega
      rw [List.drop_eq_getElem_cons hlt, List.filter_cons]
      by_cases he : ps[i].data.toList = []
      · refine Ev.step (f := fun k => words_Cut.l0 k acc ps (ps.length : Int) ((i + 1 : Nat) : Int)) (fun k => ?_) ?_
        · simp only [words_Cut.l0]
          rw [if_pos (by omega), if_pos (by omega), if_pos (by omega), if_pos (by rw [rdOf_at hlt, toList_data]; exact he), wrap_up (by omega) (by omega)]
          rfl
        · rw [if_neg (by simp [he])]
          exact ih (i + 1) acc (by omega) (by omega)
      · refine Ev.step (f := fun k => words_Cut.l0 k (acc ++ [ps[i]]) ps (ps.length : Int) ((i + 1 : Nat) : Int)) (fun k => ?_) ?_
        · simp only [words_Cut.l0]
          rw [if_pos (by omega), if_pos (by omega), if_pos (by omega), if_neg (by rw [rdOf_at hlt, toList_data]; exact he), if_pos (by omega), wrap_up (by omega) (by omega), rdOf_at hlt]
          rfl
        · rw [if_pos (by simpa using he)]
          have := ih (i + 1) (acc ++ [ps[i]]) (by omega) (by simp only [List.length_append, List.length_singleton]; omega)
          simpa using this
  have hps := Plain.splitB_pieces 32 (⟨#[32]⟩ : ByteArray) s rfl
  generalize hq : Lib.splitB (⟨#[32]⟩ : ByteArray) 0 (Lib.countB s (⟨#[32]⟩ : ByteArray)) s = ps at hps
  have hl : ps.length ≤ s.size + 1 := by
    have := congrArg List.length hps
    rw [List.length_map] at this
    have := pieces_length 32 s.data.toList
    have := size_data s
    omega
  refine Ev.congr (f := fun k => words_Cut.l0 k [] ps (ps.length : Int) ((0 : Nat) : Int)) (fun k => ?_) ?_
  · unfold words_Cut.f strings_Split.f
    rw [if_pos ⟨by decide, h⟩, hq]
    rfl
  · have := loop ps (by omega) ps.length 0 [] (by omega) (by simp only [List.length_nil]; omega)
    rw [List.drop_zero, List.nil_append] at this
    have e : ps.filter (fun p => !p.data.toList.isEmpty) = (cut s.data.toList).map B := by
      refine map_data_inj ?_
      rw [List.map_map, show ((fun x : ByteArray => x.data.toList) ∘ B) = id from funext fun l => B_data l, List.map_id]
      unfold cut
      rw [← hps, List.filter_map]
      rfl
    rw [← e]
    exact this

theorem cutref_ev (s : ByteArray) (h : s.size < 4294967281) : Ev (fun k => weirgateref21_Cut.f k s) ((cut s.data.toList).map B) := by
  have hsz := size_data s
  have loop : ∀ (d i fr : Nat) (out : List ByteArray) (p r : L), i + d = s.size → fr ≤ i → out.length + d + 1 < 8796093022208 → s.data.toList.drop i = r → (s.data.toList.drop fr).take (i - fr) = p → (32 : UInt8) ∉ p →
      Ev (fun k => weirgateref21_Cut.l0 k s out (fr : Int) (i : Int)) (out ++ (cut (p ++ r)).map B) := by
    intro d
    induction d with
    | zero =>
      intro i fr out p r hi hf hb hr hp hn
      have hr0 : r = [] := by rw [← hr]; exact List.drop_eq_nil_of_le (by omega)
      subst hr0
      have hpl : p.length = i - fr := by rw [← hp, List.length_take, List.length_drop]; omega
      have fin : ∀ (out : List ByteArray), Ev (fun k => weirgateref21_Cut.l0 k s out ((i + 1 : Nat) : Int) ((i + 1 : Nat) : Int)) out := by
        intro out
        refine Ev.step (f := fun _ => some out) (fun k => ?_) (Ev.now _)
        simp only [weirgateref21_Cut.l0]
        rw [if_neg (by omega)]
      rw [List.append_nil, cut_none p hn]
      by_cases hlt : fr < i
      · have hpne : ¬ p.isEmpty = true := by
          intro e
          rw [List.isEmpty_iff] at e
          rw [e] at hpl
          simp at hpl
          omega
        rw [if_neg hpne]
        refine Ev.step (f := fun k => weirgateref21_Cut.j1 k s out (fr : Int) (i : Int) true) (fun k => ?_) (Ev.step (f := fun k => weirgateref21_Cut.l0 k s (out ++ [B p]) ((i + 1 : Nat) : Int) ((i + 1 : Nat) : Int)) (fun k => ?_) ?_)
        · simp only [weirgateref21_Cut.l0]
          rw [if_pos (by omega), if_pos (by omega)]
        · simp only [weirgateref21_Cut.j1]
          have ex : s.extract (fr : Int).toNat (i : Int).toNat = B p := by
            refine ext_data ?_
            rw [B_data, Lib.extract_data, Int.toNat_natCast, Int.toNat_natCast]
            exact hp
          rw [if_pos trivial, if_pos (by omega), if_pos (by omega), if_pos (by omega), if_pos (by omega), if_pos (by omega), ex, wrap_up (by omega) (by omega)]
          rfl
        · exact fin _
      · have hpe : p = [] := List.eq_nil_of_length_eq_zero (by omega)
        subst hpe
        refine Ev.step (f := fun k => weirgateref21_Cut.j1 k s out (fr : Int) (i : Int) true) (fun k => ?_) (Ev.step (f := fun k => weirgateref21_Cut.l0 k s out ((i + 1 : Nat) : Int) ((i + 1 : Nat) : Int)) (fun k => ?_) ?_)
        · simp only [weirgateref21_Cut.l0]
          rw [if_pos (by omega), if_pos (by omega)]
        · simp only [weirgateref21_Cut.j1]
          rw [if_pos trivial, if_neg (by omega), wrap_up (by omega) (by omega)]
          rfl
        · simpa using fin out
    | succ d ih =>
      intro i fr out p r hi hf hb hr hp hn
      have hlt : i < s.data.toList.length := by omega
      have hpl : p.length = i - fr := by rw [← hp, List.length_take, List.length_drop]; omega
      rw [List.drop_eq_getElem_cons hlt] at hr
      have hbt := bt_at_data hlt
      subst hr
      by_cases hc : s.data.toList[i] = 32
      · have e0 : (bt s (i : Int) == 32) = true := by rw [hbt, hc]; rfl
        rw [hc, cut_front p _ hn]
        by_cases hlf : fr < i
        · have hpne : ¬ p.isEmpty = true := by
            intro e
            rw [List.isEmpty_iff] at e
            rw [e] at hpl
            simp at hpl
            omega
          rw [if_neg hpne]
          refine Ev.step (f := fun k => weirgateref21_Cut.j1 k s out (fr : Int) (i : Int) true) (fun k => ?_) (Ev.step (f := fun k => weirgateref21_Cut.l0 k s (out ++ [B p]) ((i + 1 : Nat) : Int) ((i + 1 : Nat) : Int)) (fun k => ?_) ?_)
          · simp only [weirgateref21_Cut.l0]
            rw [if_pos (by omega), if_neg (by omega), if_pos (by omega), if_pos (by omega), e0]
          · simp only [weirgateref21_Cut.j1]
            have ex : s.extract (fr : Int).toNat (i : Int).toNat = B p := by
              refine ext_data ?_
              rw [B_data, Lib.extract_data, Int.toNat_natCast, Int.toNat_natCast]
              exact hp
            rw [if_pos trivial, if_pos (by omega), if_pos (by omega), if_pos (by omega), if_pos (by omega), if_pos (by omega), ex, wrap_up (by omega) (by omega)]
            rfl
          · have := ih (i + 1) (i + 1) (out ++ [B p]) [] _ (by omega) (Nat.le_refl _) (by simp only [List.length_append, List.length_singleton]; omega) rfl (by simp) (by simp)
            simpa using this
        · have hpe : p = [] := List.eq_nil_of_length_eq_zero (by omega)
          subst hpe
          refine Ev.step (f := fun k => weirgateref21_Cut.j1 k s out (fr : Int) (i : Int) true) (fun k => ?_) (Ev.step (f := fun k => weirgateref21_Cut.l0 k s out ((i + 1 : Nat) : Int) ((i + 1 : Nat) : Int)) (fun k => ?_) ?_)
          · simp only [weirgateref21_Cut.l0]
            rw [if_pos (by omega), if_neg (by omega), if_pos (by omega), if_pos (by omega), e0]
          · simp only [weirgateref21_Cut.j1]
            rw [if_pos trivial, if_neg (by omega), wrap_up (by omega) (by omega)]
            rfl
          · have := ih (i + 1) (i + 1) out [] _ (by omega) (Nat.le_refl _) (by omega) rfl (by simp) (by simp)
            simpa using this
      · have e0 : (bt s (i : Int) == 32) = false := by
          rw [hbt, beq_eq_false_iff_ne]
          intro e
          exact hc (toNat_eq.1 (by rw [e]; rfl))
        refine Ev.step (f := fun k => weirgateref21_Cut.j1 k s out (fr : Int) (i : Int) false) (fun k => ?_) (Ev.step (f := fun k => weirgateref21_Cut.l0 k s out (fr : Int) ((i + 1 : Nat) : Int)) (fun k => ?_) ?_)
        · simp only [weirgateref21_Cut.l0]
          rw [if_pos (by omega), if_neg (by omega), if_pos (by omega), if_pos (by omega), e0]
        · simp only [weirgateref21_Cut.j1]
          rw [if_neg (by decide), wrap_up (by omega) (by omega)]
          rfl
        · have hp2 : (s.data.toList.drop fr).take (i + 1 - fr) = p ++ [s.data.toList[i]] := by
            rw [show i + 1 - fr = (i - fr) + 1 by omega, List.take_succ_eq_append_getElem (by rw [List.length_drop]; omega), hp]
            congr 1
            simp only [List.getElem_drop]
            congr 2
            omega
          have := ih (i + 1) fr out (p ++ [s.data.toList[i]]) _ (by omega) (by omega) (by omega) rfl hp2 (by
            intro e
            rcases List.mem_append.1 e with e | e
            · exact hn e
            · exact hc (List.mem_singleton.1 e).symm)
          simpa using this
  have := loop s.size 0 0 [] [] s.data.toList (by omega) (Nat.le_refl _) (by simp only [List.length_nil]; omega) rfl (by simp) (by simp)
  exact Ev.congr (f := fun k => weirgateref21_Cut.l0 k s [] 0 0) (fun k => rfl) (by simpa using this)

/-! ### Join -/
def ne (l : List ByteArray) : List L := (l.map (·.data.toList)).filter (fun p => !p.isEmpty)
theorem ne_snoc_nil {l : List ByteArray} {x : ByteArray} (h : x.data.toList = []) : ne (l ++ [x]) = ne l := by simp [ne, h]
theorem ne_snoc {l : List ByteArray} {x : ByteArray} (h : ¬ x.data.toList = []) : ne (l ++ [x]) = ne l ++ [x.data.toList] := by simp [ne, h]
theorem ne_mem {l : List ByteArray} {p : L} (h : p ∈ ne l) : p ≠ [] := by
  have := (List.mem_filter.1 h).2
  simpa using this
theorem ne_filter (l : List ByteArray) : (l.filter (fun p => !p.data.toList.isEmpty)).map (·.data.toList) = ne l := by
  unfold ne
  rw [List.filter_map]
  rfl

theorem join_ev (l : List ByteArray) (hl : l.length < 8796093022208) (hb : (line (ne l)).length ≤ 140737488355328) : Ev (fun k => words_Join.f k l) (B (line (ne l))) := by
  have loop : ∀ (d i : Nat) (acc : List ByteArray), i + d = l.length → acc.length + d < 8796093022208 → acc ++ (l.drop i).filter (fun p => !p.data.toList.isEmpty) = l.filter (fun p => !p.data.toList.isEmpty) →
      Ev (fun k => words_Join.l0 k acc l (l.length : Int) (i : Int)) (B (line (ne l))) := by
    intro d
    induction d with
    | zero =>
      intro i acc hi hq hacc
      refine Ev.step (f := fun _ => some (B (line (ne l)))) (fun k => ?_) (Ev.now _)
      simp only [words_Join.l0]
      rw [List.drop_eq_nil_of_le (by omega), List.filter_nil, List.append_nil] at hacc
      have e : acc.map (·.data.toList) = ne l := by rw [hacc]; exact ne_filter l
      rw [if_neg (by omega)]
      unfold strings_Join.f
      rw [show (⟨#[32]⟩ : ByteArray).data.toList = [32] from rfl, e, join_line, if_pos ⟨by omega, hb⟩]
      rfl
    | succ d ih =>
      intro i acc hi hq hacc
      have hlt : i < l.length := by omega
      rw [List.drop_eq_getElem_cons hlt, List.filter_cons] at hacc
      by_cases he : l[i].data.toList = []
      · refine Ev.step (f := fun k => words_Join.l0 k acc l (l.length : Int) ((i + 1 : Nat) : Int)) (fun k => ?_) ?_
        · simp only [words_Join.l0]
          rw [if_pos (by omega), if_pos (by omega), if_pos (by omega), if_pos (by rw [rdOf_at hlt, toList_data]; exact he), wrap_up (by omega) (by omega)]
          rfl
        · rw [if_neg (by simp [he])] at hacc
          exact ih (i + 1) acc (by omega) (by omega) hacc
      · refine Ev.step (f := fun k => words_Join.l0 k (acc ++ [l[i]]) l (l.length : Int) ((i + 1 : Nat) : Int)) (fun k => ?_) ?_
        · simp only [words_Join.l0]
          rw [if_pos (by omega), if_pos (by omega), if_pos (by omega), if_neg (by rw [rdOf_at hlt, toList_data]; exact he), if_pos (by omega), wrap_up (by omega) (by omega), rdOf_at hlt]
          rfl
        · rw [if_pos (by simpa using he)] at hacc
          exact ih (i + 1) (acc ++ [l[i]]) (by omega) (by simp only [List.length_append, List.length_singleton]; omega) (by rw [List.append_assoc]; exact hacc)
  exact loop l.length 0 [] (by omega) (by simp only [List.length_nil]; omega) (by simp)

theorem joinref_ev (l : List ByteArray) (hl : l.length < 8796093022208) (hb : ∀ i, (line (ne (l.take i))).length ≤ 140737488355328) (hs : ∀ x ∈ l, x.size ≤ 140737488355328) : Ev (fun k => weirgateref21_Join.f k l) (B (line (ne l))) := by
  have loop : ∀ (d i : Nat), i + d = l.length → Ev (fun k => weirgateref21_Join.l0 k l (B (line (ne (l.take i)))) (i : Int)) (B (line (ne l))) := by
    intro d
    induction d with
    | zero =>
      intro i hi
      refine Ev.step (f := fun _ => some (B (line (ne l)))) (fun k => ?_) (Ev.now _)
      simp only [weirgateref21_Join.l0]
      rw [if_neg (by omega), List.take_of_length_le (by omega)]
    | succ d ih =>
      intro i hi
      have hlt : i < l.length := by omega
      have ht : l.take (i + 1) = l.take i ++ [l[i]] := List.take_succ_eq_append_getElem hlt
      have hbi := hb i
      have hsi := hs l[i] (List.getElem_mem hlt)
      refine Ev.step (f := fun k => weirgateref21_Join.l0 k l (B (line (ne (l.take (i + 1))))) ((i + 1 : Nat) : Int)) (fun k => ?_) (ih (i + 1) (by omega))
      simp only [weirgateref21_Join.l0]
      rw [if_pos (by omega), if_pos (by omega), rdOf_at hlt, toList_data, B_toList, wrap_up (by omega) (by omega), ht]
      by_cases he : l[i].data.toList = []
      · rw [if_pos he, ne_snoc_nil he]
        rfl
      · rw [if_neg he, ne_snoc he]
        by_cases hq : ne (l.take i) = []
        · rw [hq]
          rw [if_pos (show line [] = [] from rfl), if_pos (by rw [B_size]; simp only [line, List.length_nil]; omega)]
          have e : B (line []) ++ l[i] = B (line ([] ++ [l[i].data.toList])) := ext_data (by simp [B, line])
          rw [e]
          rfl
        · have hln : ¬ line (ne (l.take i)) = [] := line_ne hq (fun p hp => ne_mem hp)
          rw [if_neg hln, if_pos (by rw [B_size]; omega)]
          have e1 : B (line (ne (l.take i))) ++ (⟨#[32]⟩ : ByteArray) = B (line (ne (l.take i)) ++ [32]) := ext_data (by simp [B])
          rw [e1, if_pos (by rw [B_size, List.length_append, List.length_singleton]; omega)]
          have e2 : B (line (ne (l.take i)) ++ [32]) ++ l[i] = B (line (ne (l.take i) ++ [l[i].data.toList])) := by
            rw [line_snoc _ _ hq]
            exact ext_data (by simp [B])
          rw [e2]
          rfl
  have := loop l.length 0 (by omega)
  rw [List.take_zero] at this
  exact this

/-! ### fair -/
def fairB (l : List ByteArray) : Bool := l.all (fun s => decide (s.size ≤ 300)) && decide (l.length ≤ 50)
theorem fair_ev (l : List ByteArray) (h : l.length ≤ 9223372036854775807) : Ev (fun k => weirgatelaw21_fair.f k l) (fairB l) := by
  have loop : ∀ (d i : Nat), i + d = l.length → (∀ j (hj : j < l.length), j < i → l[j].size ≤ 300) → Ev (fun k => weirgatelaw21_fair.l0 k l (i : Int)) (fairB l) := by
    intro d
    induction d with
    | zero =>
      intro i hi hall
      have e : fairB l = decide (l.length ≤ 50) := by
        unfold fairB
        rw [show l.all (fun s => decide (s.size ≤ 300)) = true by
          rw [List.all_eq_true]
          intro x hx
          obtain ⟨j, hj, rfl⟩ := List.mem_iff_getElem.1 hx
          exact decide_eq_true (hall j hj (by omega))]
        simp
      refine Ev.step (f := fun _ => some (fairB l)) (fun k => ?_) (Ev.now _)
      simp only [weirgatelaw21_fair.l0]
      rw [if_neg (by omega), e]
      congr 1
      exact decide_eq_decide.2 (by omega)
    | succ d ih =>
      intro i hi hall
      have hlt : i < l.length := by omega
      by_cases hs : l[i].size ≤ 300
      · refine Ev.step (f := fun k => weirgatelaw21_fair.l0 k l ((i + 1 : Nat) : Int)) (fun k => ?_) (ih (i + 1) (by omega) (fun j hj hji => ?_))
        · simp only [weirgatelaw21_fair.l0]
          rw [if_pos (by omega), if_pos (by omega), if_neg (by rw [rdOf_at hlt]; omega), wrap_up (by omega) (by omega)]
          rfl
        · rcases Nat.lt_or_ge j i with h1 | h1
          · exact hall j hj h1
          · obtain rfl : j = i := by omega
            exact hs
      · have e : fairB l = false := by
          unfold fairB
          rw [show l.all (fun s => decide (s.size ≤ 300)) = false by
            rw [List.all_eq_false]
            exact ⟨l[i], List.getElem_mem hlt, by simpa using hs⟩]
          rfl
        refine Ev.step (f := fun _ => some (fairB l)) (fun k => ?_) (Ev.now _)
        simp only [weirgatelaw21_fair.l0]
        rw [if_pos (by omega), if_pos (by omega), if_pos (by rw [rdOf_at hlt]; omega), e]
  exact loop l.length 0 (by omega) (fun j hj h0 => absurd h0 (by omega))
theorem fair_size {l : List ByteArray} (h : fairB l = true) : l.length ≤ 50 ∧ ∀ x ∈ l, x.size ≤ 300 := by
  unfold fairB at h
  simp only [Bool.and_eq_true, List.all_eq_true, decide_eq_true_eq] at h
  exact ⟨h.2, h.1⟩
theorem ne_line_length {l : List ByteArray} (hl : l.length ≤ 50) (hs : ∀ x ∈ l, x.size ≤ 300) : (line (ne l)).length ≤ 15050 := by
  have key : ∀ (l : List ByteArray), (∀ x ∈ l, x.size ≤ 300) → ((ne l).map (fun p => p.length + 1)).sum ≤ 301 * l.length := by
    intro l
    induction l with
    | nil => intro _; simp [ne]
    | cons x l ih =>
      intro h
      have hx := h x (by simp)
      have := ih (fun y hy => h y (List.mem_cons_of_mem _ hy))
      rw [size_data] at hx
      unfold ne at this ⊢
      rw [List.map_cons, List.filter_cons]
      split <;> simp only [List.map_cons, List.sum_cons, List.length_cons] <;> omega
  have := key l hs
  have := line_length (ne l)
  omega

/-! ### numbers -/
theorem text_now (n : Int) (h0 : -9223372036854775808 ≤ n) (h1 : n ≤ 9223372036854775807) : words_Text.f n = some (B (Lib.itoa n)) := by
  unfold words_Text.f strconv_Itoa.f
  rw [if_pos ⟨h0, h1⟩]
  rfl
theorem num_now (s : ByteArray) (h : s.size ≤ 281474976710656) : words_Num.f s = some (Plain.num s.data.toList) := by
  unfold words_Num.f
  rw [if_pos h]
  rfl

theorem digit_text (u : Nat) : strOfNums [(48 + ((Int.tmod (u : Int) 10) % 256)) % 256] = B [UInt8.ofNat (48 + u % 10)] := by
  have : (48 + ((Int.tmod (u : Int) 10) % 256)) % 256 = ((48 + u % 10 : Nat) : Int) := by
    rw [Int.tmod_eq_emod_of_nonneg (by omega)]
    omega
  rw [this]
  refine ext_data ?_
  rw [B_data]
  simp only [strOfNums, List.map_cons, List.map_nil, Int.toNat_natCast]

theorem textref_ev (n : Int) (h0 : -9223372036854775808 ≤ n) (h1 : n ≤ 9223372036854775807) : Ev (fun k => weirgateref21_Text.f k n) (B (Lib.itoa n)) := by
  have loop : ∀ (u : Nat), u < 18446744073709551616 → ∀ (s : L), s.length + u ≤ 36893488147419103232 → s.length ≤ 1000 → s.length + (Lib.decDigits u).length ≤ 1000 →
      Ev (fun k => weirgateref21_Text.l0 k n (u : Int) (B s)) (B ((if n < 0 then [45] else []) ++ (Lib.decDigits u ++ s))) := by
    intro u
    induction u using Nat.strongRecOn with
    | _ u ih =>
      intro hu s _ hs hroom
      have ed := digit_text u
      have eq : IntKind.u64.wrap (Int.tdiv (u : Int) 10) = ((u / 10 : Nat) : Int) := by
        rw [Int.tdiv_eq_ediv_of_nonneg (by omega), IntKind.wrap_u64]
        omega
      have ea : B [UInt8.ofNat (48 + u % 10)] ++ B s = B (UInt8.ofNat (48 + u % 10) :: s) := by rw [B_append]; rfl
      by_cases hsm : u < 10
      · refine Ev.step (f := fun _ => some (B ((if n < 0 then [45] else []) ++ (Lib.decDigits u ++ s)))) (fun k => ?_) (Ev.now _)
        simp only [weirgateref21_Text.l0, Option.bind_some]
        rw [ed, if_pos (by rw [B_size, B_size, List.length_singleton]; omega), eq, if_pos (by omega), ea, decDigits_small hsm, Nat.mod_eq_of_lt hsm]
        by_cases hn : n < 0
        · rw [if_pos hn, if_pos (by rw [B_size, List.length_cons]; omega), if_pos hn]
          congr 1
        · rw [if_neg hn, if_neg hn]
          rfl
      · rw [decDigits_big hsm] at hroom ⊢
        rw [List.length_append, List.length_singleton] at hroom
        refine Ev.step (f := fun k => weirgateref21_Text.l0 k n ((u / 10 : Nat) : Int) (B (UInt8.ofNat (48 + u % 10) :: s))) (fun k => ?_) ?_
        · simp only [weirgateref21_Text.l0, Option.bind_some]
          rw [ed, if_pos (by rw [B_size, B_size, List.length_singleton]; omega), eq, if_neg (by omega), ea]
        · have := ih (u / 10) (by omega) (by omega) (UInt8.ofNat (48 + u % 10) :: s) (by rw [List.length_cons]; omega) (by rw [List.length_cons]; omega) (by rw [List.length_cons]; omega)
          simpa using this
  have len : ∀ (u : Nat), u < 18446744073709551616 → (Lib.decDigits u).length ≤ 20 := by
    have pow : ∀ (k u : Nat), u < 10 ^ (k + 1) → (Lib.decDigits u).length ≤ k + 1 := by
      intro k
      induction k with
      | zero =>
        intro u hu
        rw [decDigits_small (by simpa using hu)]
        simp
      | succ k ih =>
        intro u hu
        by_cases hs : u < 10
        · rw [decDigits_small hs]; simp
        · rw [decDigits_big hs, List.length_append]
          have := ih (u / 10) (by rw [Nat.pow_succ] at hu; omega)
          simp only [List.length_singleton]
          omega
    intro u hu
    exact pow 19 u (by omega)
  have go : ∀ (u : Nat), u < 18446744073709551616 → Ev (fun k => weirgateref21_Text.j0 k n (u : Int)) (B ((if n < 0 then [45] else []) ++ Lib.decDigits u)) := by
    intro u hu
    refine Ev.step (f := fun k => weirgateref21_Text.l0 k n (u : Int) (B [])) (fun k => rfl) ?_
    have hl := len u hu
    have := loop u hu [] (by simp only [List.length_nil]; omega) (by simp) (by simp only [List.length_nil]; omega)
    simpa using this
  by_cases hn : n < 0
  · have hw : IntKind.u64.wrap ((IntKind.u64.wrap (wrap64 (-(wrap64 (n + 1))))) + 1) = ((n.natAbs : Nat) : Int) := by
      rw [IntKind.wrap_u64, IntKind.wrap_u64]
      unfold wrap64
      omega
    have := go n.natAbs (by omega)
    rw [if_pos hn] at this
    rw [itoa_minus hn]
    refine Ev.congr (fun k => ?_) this
    unfold weirgateref21_Text.f
    rw [if_pos hn, hw]
  · have hw : IntKind.u64.wrap n = ((n.toNat : Nat) : Int) := by
      rw [IntKind.wrap_u64]
      omega
    have := go n.toNat (by omega)
    rw [if_neg hn] at this
    rw [itoa_pos (by omega)]
    refine Ev.congr (fun k => ?_) this
    unfold weirgateref21_Text.f
    rw [if_neg hn, hw]

theorem num_step (v c : Int) (h0 : 0 ≤ v) (h1 : v < 10000000000) (hc : 48 ≤ c) (hc2 : c ≤ 57) : wrap64 ((wrap64 (v * 10)) + ((c - 48) % 256)) = v * 10 + (c - 48) := by
  have e1 : wrap64 (v * 10) = v * 10 := by unfold wrap64; omega
  have e2 : (c - 48) % 256 = c - 48 := by omega
  rw [e1, e2]
  unfold wrap64
  omega
theorem numref_ev (s : ByteArray) (h : s.size ≤ 9223372036854775806) : Ev (fun k => weirgateref21_Num.f k s) (Plain.num s.data.toList) := by
  have hsz := size_data s
  have hcases := num_cases s.data.toList
  -- what the last test says
  have last : ∀ v : Nat, v < 1000000000000 → (s.data.toList ≠ [] ∧ s.size ≤ 10 ∧ (∀ b ∈ s.data.toList, isDig b) ∧ v = val 0 s.data.toList) →
      Ev (fun k => (if ((v : Nat) : Int) ≥ 4294967296 then (some ((0 : Int), false)) else ((weirgateref21_Text.f k (v : Int)).bind fun t137 => (if t137.toList = s.toList then (some ((v : Int), true)) else (some (0, false)))))) (Plain.num s.data.toList) := by
    intro v hv ⟨hne, hle, hd, hval⟩
    by_cases hb : v < 4294967296
    · have ht : Ev (fun k => weirgateref21_Text.f k (v : Int)) (B (Lib.decDigits v)) := by
        have := textref_ev (v : Int) (by omega) (by omega)
        rwa [itoa_nat] at this
      refine Ev.congr (f := fun k => ((weirgateref21_Text.f k (v : Int)).bind fun t137 => (if t137.toList = s.toList then (some ((v : Int), true)) else (some (0, false))))) (fun k => by rw [if_neg (by omega)]) (Ev.bind ht ?_)
      rcases hcases with ⟨u, hu, hs, hn⟩ | ⟨hno, hn⟩
      · have : v = u := by rw [hval, hs, val_decDigits]
        subst this
        rw [hn]
        refine Ev.congr (fun k => ?_) (Ev.now _)
        rw [if_pos (by rw [B_toList, toList_data, hs])]
      · rw [hn]
        refine Ev.congr (fun k => ?_) (Ev.now _)
        rw [if_neg (by rw [B_toList, toList_data]; exact hno v hb)]
    · refine Ev.congr (f := fun _ => some (Plain.num s.data.toList)) (fun k => ?_) (Ev.now _)
      rw [if_pos (by omega)]
      rcases hcases with ⟨u, hu, hs, hn⟩ | ⟨hno, hn⟩
      · exact absurd (by rw [hval, hs, val_decDigits] : v = u) (by omega)
      · rw [hn]
  have bad : ∀ (i : Nat) (hi : i < s.data.toList.length), ¬ isDig s.data.toList[i] → Plain.num s.data.toList = (0, false) := by
    intro i hi hb
    rcases hcases with ⟨u, hu, hs, hn⟩ | ⟨hno, hn⟩
    · exact absurd (decDigits_dig u _ (by rw [← hs]; exact List.getElem_mem hi)) hb
    · exact hn
  have loop : s.data.toList ≠ [] → s.size ≤ 10 → ∀ (d i : Nat), i + d = s.size → (∀ b ∈ s.data.toList.take i, isDig b) →
      Ev (fun k => weirgateref21_Num.l0 k s ((val 0 (s.data.toList.take i) : Nat) : Int) (i : Int)) (Plain.num s.data.toList) := by
    intro hne hle d
    have hv12 : ∀ i, i ≤ 10 → (∀ b ∈ s.data.toList.take i, isDig b) → val 0 (s.data.toList.take i) < 10000000000 := by
      intro i hi hd
      have h1 := val_lt (s.data.toList.take i) 0 hd
      have h2 : 10 ^ (s.data.toList.take i).length ≤ 10 ^ 10 := Nat.pow_le_pow_right (by omega) (by rw [List.length_take]; omega)
      omega
    induction d with
    | zero =>
      intro i hi hd
      have ht : s.data.toList.take i = s.data.toList := List.take_of_length_le (by omega)
      have hv := hv12 i (by omega) hd
      refine Ev.step (fun k => ?_) (last (val 0 (s.data.toList.take i)) (by omega) ⟨hne, hle, by rw [← ht]; exact hd, by rw [ht]⟩)
      simp only [weirgateref21_Num.l0]
      rw [if_neg (by omega)]
    | succ d ih =>
      intro i hi hd
      have hlt : i < s.data.toList.length := by omega
      have hbt := bt_at_data hlt
      have hv := hv12 i (by omega) hd
      by_cases hdig : isDig s.data.toList[i]
      · have hdig' : 48 ≤ (s.data.toList[i]).toNat ∧ (s.data.toList[i]).toNat ≤ 57 := hdig
        have htk : s.data.toList.take (i + 1) = s.data.toList.take i ++ [s.data.toList[i]] := List.take_succ_eq_append_getElem hlt
        refine Ev.step (fun k => ?_) (ih (i + 1) (by omega) (by
          intro b hb
          rw [htk] at hb
          rcases List.mem_append.1 hb with hb | hb
          · exact hd b hb
          · rw [List.mem_singleton.1 hb]; exact hdig))
        simp only [weirgateref21_Num.l0]
        have e1 : wrap64 ((wrap64 ((val 0 (s.data.toList.take i) : Nat) * 10)) + (((bt s (i : Int)) - 48) % 256)) = ((val 0 (s.data.toList.take (i + 1)) : Nat) : Int) := by
          rw [hbt, htk, val_append]
          generalize val 0 (s.data.toList.take i) = v at hv
          generalize hc : (s.data.toList[i]).toNat = c at hdig'
          rw [num_step (v : Int) (c : Int) (by omega) (by omega) (by omega) (by omega)]
          omega
        rw [if_pos (by omega), if_pos (by omega), if_neg (by omega), if_neg (by omega), e1, wrap_up (by omega) (by omega)]
        rfl
      · have hn := bad i hlt hdig
        have hdig' : ¬ (48 ≤ (s.data.toList[i]).toNat ∧ (s.data.toList[i]).toNat ≤ 57) := hdig
        refine Ev.step (f := fun _ => some (Plain.num s.data.toList)) (fun k => ?_) (Ev.now _)
        simp only [weirgateref21_Num.l0]
        rw [if_pos (by omega), if_pos (by omega), hn]
        by_cases h48 : bt s (i : Int) < 48
        · rw [if_pos h48]
        · rw [if_neg h48, if_pos (by omega)]
  by_cases he : s.data.toList = []
  · refine Ev.congr (f := fun k => weirgateref21_Num.j0 k s true) (fun k => by unfold weirgateref21_Num.f; rw [if_pos (by rw [toList_data]; exact he)]) ?_
    refine Ev.step (f := fun _ => some (Plain.num s.data.toList)) (fun k => ?_) (Ev.now _)
    simp only [weirgateref21_Num.j0]
    rw [if_pos trivial, he]
    rfl
  · by_cases hbig : s.size > 10
    · refine Ev.congr (f := fun k => weirgateref21_Num.j0 k s true) (fun k => by unfold weirgateref21_Num.f; rw [if_neg (by rw [toList_data]; exact he), decide_eq_true (by omega)]) ?_
      refine Ev.step (f := fun _ => some (Plain.num s.data.toList)) (fun k => ?_) (Ev.now _)
      simp only [weirgateref21_Num.j0]
      rw [if_pos trivial]
      rcases hcases with ⟨u, hu, hs, hn⟩ | ⟨hno, hn⟩
      · have := decDigits_length_lt u hu
        rw [← hs] at this
        omega
      · rw [hn]
    · refine Ev.congr (f := fun k => weirgateref21_Num.j0 k s false) (fun k => by unfold weirgateref21_Num.f; rw [if_neg (by rw [toList_data]; exact he), decide_eq_false (by omega)]) ?_
      refine Ev.step (f := fun k => weirgateref21_Num.l0 k s 0 0) (fun k => ?_) ?_
      · simp only [weirgateref21_Num.j0]
        rw [if_neg (by decide)]
      · have := loop he (by omega) s.size 0 (by omega) (by simp)
        rw [List.take_zero, val_nil] at this
        exact this
end Go.Proofs.YtnjmdnaggbdanaaDoor.P
