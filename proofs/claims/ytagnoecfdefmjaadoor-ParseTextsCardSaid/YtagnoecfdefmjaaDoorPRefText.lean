/- The reference's Text comes to the program's: the line of any command, or that there is none; conditions: ranges alone. -/
import Derived.Test.YtagnoecfdefmjaaDoorPRefLine
import Derived.Test.YtagnoecfdefmjaaDoorXx9
namespace Go.Proofs.YtagnoecfdefmjaaDoor.P
open Go.RowKit Go.Proofs.YtagnoecfdefmjaaDoorW.PrintWords Go.Proofs.YtagnoecfdefmjaaDoor.X Go.Proofs.YtagnoecfdefmjaaDoor.Plain Go.Proofs.YtagnoecfdefmjaaDoor
set_option linter.unusedVariables false
set_option linter.unusedSimpArgs false

theorem itoa_ne (n : Int) : Lib.itoa n ≠ [] := by
  by_cases h : n < 0
  · rw [itoa_minus h]; simp
  · rw [itoa_pos (by omega)]; exact decDigits_ne _
theorem itoa_blank (n : Int) : (32 : UInt8) ∉ Lib.itoa n := by
  by_cases h : n < 0
  · rw [itoa_minus h]
    intro hm
    rcases List.mem_cons.1 hm with e | hm
    · exact absurd e (by decide)
    · have := decDigits_dig _ _ hm
      simp [isDig] at this
  · rw [itoa_pos (by omega)]
    intro hm
    have := decDigits_dig _ _ hm
    simp [isDig] at this
theorem textOf_blank (a : Nat) : (32 : UInt8) ∉ textOf a := by
  unfold textOf
  split
  · exact (fine_macText a).1
  · simp
theorem wr_blank (c : Cm) {y : L} (hy : Fine y) : (32 : UInt8) ∉ wrW c y := by
  rcases slot_cases y with rfl | rfl | rfl | rfl | rfl | rfl | hk
  · rw [wrW_N]; exact itoa_blank _
  · rw [wrW_P]; exact itoa_blank _
  · rw [wrW_V]; exact itoa_blank _
  · rw [wrW_M]; exact itoa_blank _
  · rw [wrW_T]; exact itoa_blank _
  · rw [wrW_A]; exact textOf_blank _
  · rw [wr_key c hk]; exact hy.1
theorem wr_ne (c : Cm) {y : L} (hy : Fine y) (h65 : y ≠ [65]) : wrW c y ≠ [] := by
  rcases slot_cases y with rfl | rfl | rfl | rfl | rfl | rfl | hk
  · rw [wrW_N]; exact itoa_ne _
  · rw [wrW_P]; exact itoa_ne _
  · rw [wrW_V]; exact itoa_ne _
  · rw [wrW_M]; exact itoa_ne _
  · rw [wrW_T]; exact itoa_ne _
  · exact absurd rfl h65
  · rw [wr_key c hk]; exact hy.2.2.1

/-! ### one shape: the reference's step and the program's -/
def neW (l : List L) : List L := l.filter fun p => !p.isEmpty
def refS (c : Cm) (f : Cm × List L) : Option L :=
  match lineP (neW (f.2.map (wrW c))) with
  | some d => if d.eqb c = true then some (line (neW (f.2.map (wrW c)))) else none
  | none => none
theorem table_same : (allF.all fun f => allF.all fun g => !(f.2.length == g.2.length) || (apart f.2 g.2 || (f.2 == g.2 && f.1.eqb g.1))) = true := by decide
theorem table_bare : (allF.all fun f => allF.all fun g => !(f.2.contains [65]) || (!(g.2.length == (f.2.filter fun y => !(y == [65])).length) || apart (f.2.filter fun y => !(y == [65])) g.2)) = true := by decide
theorem neW_all {l : List L} (h : l.contains [] = false) : neW l = l := by
  refine List.filter_eq_self.2 (fun p hp => ?_)
  rw [List.contains_eq_mem, decide_eq_false_iff_not] at h
  cases p with
  | nil => exact absurd hp h
  | cons a b => rfl
theorem text_is_ref (c : Cm) (f : Cm × List L) (hf : f ∈ allF) : textS c f = refS c f := by
  unfold textS refS
  cases hc : (f.2.map (wrW c)).contains []
  · rw [neW_all hc]
    simp only [Bool.false_eq_true, if_false]
    cases ht : takeP f.1 f.2 (f.2.map (wrW c)) with
    | some d => rw [line_of_take hf (by simp) ht]
    | none =>
      rw [lineP_none (fun g hg hl d hd => ?_)]
      have h1 := List.all_eq_true.1 (List.all_eq_true.1 table_same f hf) g hg
      rw [List.length_map] at hl
      rw [show (f.2.length == g.2.length) = true by rw [beq_iff_eq]; omega] at h1
      simp only [Bool.not_true, Bool.false_or, Bool.or_eq_true, Bool.and_eq_true, beq_iff_eq] at h1
      rcases h1 with h1 | ⟨h1, h2⟩
      · have e := take_back _ _ _ _ hd (by simpa using hl) (table_nodup g hg)
        refine no_both (c := c) (d := d) h1 (fun i x y hx hy => ?_)
        rw [e, hx] at hy
        exact Option.some.inj hy
      · rw [← (Cm.eqb_iff _ _).1 h2, ← h1, ht] at hd
        cases hd
  · simp only [if_true]
    have h65 : [65] ∈ f.2 ∧ textOf c.a.toNat = [] := by
      rw [List.contains_eq_mem, decide_eq_true_eq] at hc
      obtain ⟨y, hy, e⟩ := List.mem_map.1 hc
      by_cases hq : y = [65]
      · subst hq
        rw [wrW_A] at e
        exact ⟨hy, e⟩
      · exact absurd e (wr_ne c (fine_at hf y hy) hq)
    have hn : neW (f.2.map (wrW c)) = (f.2.filter fun y => !(y == [65])).map (wrW c) := by
      have hfine := fine_at hf
      unfold neW
      rw [List.filter_map]
      congr 1
      refine List.filter_congr (fun y hy => ?_)
      by_cases hq : y = [65]
      · subst hq
        simp only [Function.comp, wrW_A, h65.2]
        rfl
      · have := wr_ne c (hfine y hy) hq
        rw [show (y == [65]) = false from beq_eq_false_iff_ne.2 hq]
        simp only [Function.comp]
        cases hw : wrW c y with
        | nil => exact absurd hw this
        | cons a b => rfl
    rw [hn, lineP_none (fun g hg hl d hd => ?_)]
    have h1 := List.all_eq_true.1 (List.all_eq_true.1 table_bare f hf) g hg
    rw [List.length_map] at hl
    rw [show f.2.contains [65] = true by rw [List.contains_eq_mem, decide_eq_true_eq]; exact h65.1, show (g.2.length == (f.2.filter fun y => !(y == [65])).length) = true by rw [beq_iff_eq]; exact hl] at h1
    simp only [Bool.not_true, Bool.false_or] at h1
    have e := take_back _ _ _ _ hd (by simpa using hl) (table_nodup g hg)
    refine no_both (c := c) (d := d) h1 (fun i x y hx hy => ?_)
    rw [e, hx] at hy
    exact Option.some.inj hy

/-! ### the reference's loops -/
def isNum (y : L) : Bool := isSlot y && !(y == [65])
def valOf (c : Cm) (y : L) : Int := if y = [78] then c.n else if y = [80] then c.p else if y = [86] then c.v else if y = [77] then c.m else c.t
def shp (y : L) : L := if y = [65] then [64] else if isSlot y = true then [35] else y
def numsOf (c : Cm) (k : Nat) : List Int := match k with
  | 0 => [c.n]
  | 1 => [c.n]
  | 2 => [c.n]
  | 3 => [c.p]
  | 4 => [c.p]
  | 5 => [c.p, c.n]
  | 6 => [c.p, c.n]
  | 7 => [c.v, c.m, c.t]
  | 8 => [c.v]
  | 9 => [c.v, c.p]
  | 10 => [c.v]
  | _ => []
theorem nums_table (c : Cm) (k : Nat) (hk : k < 16) : numsOf c k = ((allF.getD k ⟨⟨0, 0, 0, 0, 0, 0, 0, 0⟩, []⟩).2.filter isNum).map (valOf c) := by
  match k, hk with
  | 0, _ => rfl
  | 1, _ => rfl
  | 2, _ => rfl
  | 3, _ => rfl
  | 4, _ => rfl
  | 5, _ => rfl
  | 6, _ => rfl
  | 7, _ => rfl
  | 8, _ => rfl
  | 9, _ => rfl
  | 10, _ => rfl
  | 11, _ => rfl
  | 12, _ => rfl
  | 13, _ => rfl
  | 14, _ => rfl
  | 15, _ => rfl
  | n + 16, h => exact absurd h (by omega)
theorem shape_table (k : Nat) (hk : k < 16) : shapesL.getD k [] = (allF.getD k ⟨⟨0, 0, 0, 0, 0, 0, 0, 0⟩, []⟩).2.map shp := by
  match k, hk with
  | 0, _ => rfl
  | 1, _ => rfl
  | 2, _ => rfl
  | 3, _ => rfl
  | 4, _ => rfl
  | 5, _ => rfl
  | 6, _ => rfl
  | 7, _ => rfl
  | 8, _ => rfl
  | 9, _ => rfl
  | 10, _ => rfl
  | 11, _ => rfl
  | 12, _ => rfl
  | 13, _ => rfl
  | 14, _ => rfl
  | 15, _ => rfl
  | n + 16, h => exact absurd h (by omega)
theorem wr_num (c : Cm) {y : L} (h : isNum y = true) : wrW c y = Lib.itoa (valOf c y) := by
  simp only [isNum, Bool.and_eq_true, Bool.not_eq_true', beq_eq_false_iff_ne] at h
  rcases slot_cases y with rfl | rfl | rfl | rfl | rfl | rfl | hk
  · rw [wrW_N]; rfl
  · rw [wrW_P]; rfl
  · rw [wrW_V]; rfl
  · rw [wrW_M]; rfl
  · rw [wrW_T]; rfl
  · exact absurd rfl h.2
  · rw [hk] at h; exact absurd h.1 (by simp)
theorem val_range (c : Cm) (h : c.Ok) (y : L) : -9223372036854775808 ≤ valOf c y ∧ valOf c y ≤ 9223372036854775807 := by
  obtain ⟨g1, g2, g3, g4, g5, g6, g7, g8, g9, g10, g11, g12⟩ := h
  unfold valOf
  repeat' split
  all_goals omega
theorem shp_35 {y : L} (hy : Fine y) : shp y = [35] ↔ (isNum y = true ∨ y = [35]) := by
  unfold shp isNum
  by_cases h : y = [65]
  · subst h; decide
  · rw [if_neg h, show (y == ([65] : L)) = false from beq_eq_false_iff_ne.2 h]
    cases hs : isSlot y <;> simp
theorem neW_snoc (q : List L) (w : L) : neW (q ++ [w]) = if w = [] then neW q else neW q ++ [w] := by
  unfold neW
  rw [List.filter_append]
  cases w <;> simp
theorem neW_mem {l : List L} {p : L} (h : p ∈ neW l) : p ∈ l ∧ p ≠ [] := by
  have := List.mem_filter.1 h
  refine ⟨this.1, fun e => ?_⟩
  rw [e] at this
  exact absurd this.2 (by simp)
theorem join_two (q : List L) (w : L) : line (ne [B (line (neW q)), B w]) = line (neW (q ++ [w])) := by
  rw [neW_snoc]
  have hq : ∀ p ∈ neW q, p ≠ [] := fun p hp => (neW_mem hp).2
  unfold ne
  simp only [List.map_cons, List.map_nil, B_data]
  by_cases hw : w = []
  · subst hw
    rw [if_pos rfl]
    by_cases h0 : neW q = []
    · rw [h0]; rfl
    · have := line_ne h0 hq
      cases hl : line (neW q) with
      | nil => exact absurd hl this
      | cons a b => rfl
  · rw [if_neg hw]
    by_cases h0 : neW q = []
    · rw [h0]
      cases w with
      | nil => exact absurd rfl hw
      | cons a b => rfl
    · have := line_ne h0 hq
      rw [line_snoc _ _ h0]
      cases hl : line (neW q) with
      | nil => exact absurd hl this
      | cons a b =>
        cases w with
        | nil => exact absurd rfl hw
        | cons a2 b2 => rfl
theorem neW_line (l : List L) (hl : ∀ p ∈ l, p.length ≤ 20) : (line (neW l)).length ≤ 21 * l.length := by
  have h1 := line_length (neW l)
  have h2 : ∀ l : List L, (∀ p ∈ l, p.length ≤ 20) → ((neW l).map (fun p => p.length + 1)).sum ≤ 21 * l.length := by
    intro l
    induction l with
    | nil => intro _; simp [neW]
    | cons x l ih =>
      intro h
      have i1 := ih (fun p hp => h p (List.mem_cons_of_mem _ hp))
      have i2 := h x List.mem_cons_self
      unfold neW at i1 ⊢
      rw [List.filter_cons]
      split
      · simp only [List.map_cons, List.sum_cons, List.length_cons]
        omega
      · simp only [List.length_cons]
        omega
  have := h2 l hl
  omega
theorem join2_ev (q : List L) (w : L) (hq : ∀ p ∈ q ++ [w], p.length ≤ 20) (h6 : q.length ≤ 6) : Ev (fun k => weirgateref21_Join.f k [B (line (neW q)), B w]) (B (line (neW (q ++ [w])))) := by
  have h1 := neW_line q (fun p hp => hq p (List.mem_append_left _ hp))
  have h2 := hq w (List.mem_append_right _ List.mem_cons_self)
  have h3 := neW_line (q ++ [w]) hq
  rw [List.length_append, List.length_singleton] at h3
  rw [← join_two]
  refine joinref_ev _ (by simp) (fun i => ?_) (fun x hx => ?_)
  · match i with
    | 0 => simp [ne, line]
    | 1 =>
      have : (line (ne ([B (line (neW q)), B w].take 1))).length ≤ (line (neW q)).length := by
        unfold ne
        simp only [List.take_succ_cons, List.take_zero, List.map_cons, List.map_nil, B_data]
        cases hl : line (neW q) with
        | nil => simp [line]
        | cons a b => simp [line]
      omega
    | i + 2 =>
      rw [List.take_of_length_le (by simp), join_two]
      omega
  · simp only [List.mem_cons, List.not_mem_nil, or_false] at hx
    rcases hx with rfl | rfl <;> rw [B_size] <;> omega
theorem reftext_loop (c : Cm) (h : c.Ok) : ∀ (d i : Nat), i + d = 16 → Ev (fun k => weirgateref22_Text.l0 k (shapesL.map (List.map B)) (i : Int) c.w c.k c.p c.n c.v c.m c.t c.a) (outX ((allF.drop i).findSome? (textS c)))
  | 0, i, hi => by
    refine Ev.step (f := fun _ => some _) (fun k => ?_) (Ev.now _)
    obtain rfl : i = 16 := by omega
    simp only [weirgateref22_Text.l0]
    rw [if_neg (by rw [shapes_16]; omega)]
    rfl
  | d + 1, i, hi => by
    have IH := reftext_loop c h d (i + 1) (by omega)
    have hi16 : i < 16 := by omega
    rw [getD_drop allF i ⟨⟨0, 0, 0, 0, 0, 0, 0, 0⟩, []⟩ (by show i < 16; omega), List.findSome?_cons]
    have hmem : allF.getD i ⟨⟨0, 0, 0, 0, 0, 0, 0, 0⟩, []⟩ ∈ allF := by
      rw [List.getD_eq_getElem?_getD, List.getElem?_eq_getElem (show i < allF.length by show i < 16; omega)]
      exact List.getElem_mem _
    have hnt := nums_table c i hi16
    have hst := shape_table i hi16
    have hrd := rd_shapes hi16
    generalize hf : allF.getD i ⟨⟨0, 0, 0, 0, 0, 0, 0, 0⟩, []⟩ = f at hmem hnt hst ⊢
    rw [hst] at hrd
    have h6 := (table_six f hmem).1
    have hfine := fine_at hmem
    obtain ⟨want, hwant⟩ : ∃ w, w = f.2 := ⟨_, rfl⟩
    rw [← hwant] at hnt hst hrd h6 hfine
    have hlen : ∀ p ∈ want.map (wrW c), p.length ≤ 20 := by
      intro p hp
      obtain ⟨y, hy, rfl⟩ := List.mem_map.1 hp
      exact wr_length c h y (hfine y hy).2.2.2
    have h35 : ∀ y ∈ want, y ≠ [35] ∧ y ≠ [64] := by
      have : (allF.all fun f => f.2.all fun y => !(y == [35]) && !(y == [64])) = true := by decide
      intro y hy
      have h2 := List.all_eq_true.1 (List.all_eq_true.1 this f hmem) y (by rw [← hwant]; exact hy)
      simp only [Bool.and_eq_true, Bool.not_eq_true', beq_eq_false_iff_ne] at h2
      exact h2
    -- the words of this shape, one behind the other
    have inner : ∀ (e j at_ : Nat), j + e = want.length → at_ ≤ j → (numsOf c i).drop at_ = ((want.drop j).filter isNum).map (valOf c) →
        Ev (fun k => weirgateref22_Text.l1 k (shapesL.map (List.map B)) (i : Int) (numsOf c i) (B (line (neW ((want.take j).map (wrW c))))) (at_ : Int) (j : Int) c.w c.k c.p c.n c.v c.m c.t c.a c.k c.p c.n c.v c.m c.t c.a) (outX (match textS c f with | some b => some b | none => (allF.drop (i + 1)).findSome? (textS c))) := by
      intro e
      induction e with
      | zero =>
        intro j at_ hj hat hnum
        obtain rfl : j = want.length := by omega
        rw [List.take_length]
        have hsz : (line (neW (want.map (wrW c)))).length ≤ 126 := by
          have := neW_line _ hlen
          rw [List.length_map] at this
          omega
        have hl := refline_ev (B (line (neW (want.map (wrW c))))) (by rw [B_size]; omega)
        rw [B_data, cut_line _ (fun p hp => ⟨(neW_mem hp).2, by
          obtain ⟨y, hy, rfl⟩ := List.mem_map.1 (neW_mem hp).1
          exact wr_blank c (hfine y hy)⟩)] at hl
        refine Ev.step (f := fun k => (weirgateref22_Line.f k (B (line (neW (want.map (wrW c)))))).bind fun b => if b.2.2.2.2.2.2.2.2 = 0 then (if (b.1 == c.w && (b.2.1 == c.k && (b.2.2.1 == c.p && (b.2.2.2.1 == c.n && (b.2.2.2.2.1 == c.v && (b.2.2.2.2.2.1 == c.m && (b.2.2.2.2.2.2.1 == c.t && (b.2.2.2.2.2.2.2.1 == c.a)))))))) = true then some (B (line (neW (want.map (wrW c)))), 0) else weirgateref22_Text.l0 k (shapesL.map (List.map B)) ((i + 1 : Nat) : Int) c.w c.k c.p c.n c.v c.m c.t c.a) else weirgateref22_Text.l0 k (shapesL.map (List.map B)) ((i + 1 : Nat) : Int) c.w c.k c.p c.n c.v c.m c.t c.a) (fun k => ?_) (hl.bind ?_)
        · simp only [weirgateref22_Text.l1]
          rw [if_pos (by omega), if_pos (by rw [shapes_16]; omega), hrd, if_neg (by simp only [List.length_map]; omega), wrap_up (by omega) (by omega)]
          rfl
        · rw [text_is_ref c f hmem]
          unfold refS
          rw [← hwant]
          cases hr : lineP (neW (want.map (wrW c))) with
          | none => exact Ev.congr (fun k => if_neg (by simp [outL])) IH
          | some q =>
            by_cases hq : q.eqb c = true
            · simp only [hq, if_true]
              exact Ev.congr (f := fun _ => some _) (fun k => (if_pos rfl).trans (if_pos hq)) (Ev.now _)
            · simp only [hq, if_false]
              exact Ev.congr (fun k => (if_pos rfl).trans (if_neg hq)) IH
      | succ e ihe =>
        intro j at_ hj hat hnum
        have hjl : j < want.length := by omega
        have hym := List.getElem_mem hjl
        have htk : want.take (j + 1) = want.take j ++ [want[j]] := List.take_succ_eq_append_getElem hjl
        have r2 : rdOf ByteArray.empty ((want.map shp).map B) (j : Int) = B (shp want[j]) := by rw [rdOf_at (by simp only [List.length_map]; exact hjl), List.getElem_map, List.getElem_map]
        have hwords : ∀ p ∈ (want.take j).map (wrW c) ++ [wrW c want[j]], p.length ≤ 20 := by
          intro p hp
          rw [show (want.take j).map (wrW c) ++ [wrW c want[j]] = (want.take (j + 1)).map (wrW c) by rw [htk, List.map_append]; rfl] at hp
          obtain ⟨y, hy, rfl⟩ := List.mem_map.1 hp
          exact hlen _ (List.mem_map_of_mem (List.mem_of_mem_take hy))
        have hj2 := join2_ev ((want.take j).map (wrW c)) (wrW c want[j]) hwords (by simp only [List.length_map, List.length_take]; omega)
        rw [show (want.take j).map (wrW c) ++ [wrW c want[j]] = (want.take (j + 1)).map (wrW c) by rw [htk, List.map_append]; rfl] at hj2
        rw [List.drop_eq_getElem_cons hjl, List.filter_cons] at hnum
        by_cases hn : isNum want[j] = true
        · rw [if_pos hn, List.map_cons] at hnum
          have hat2 : at_ < (numsOf c i).length := by
            have := congrArg List.length hnum
            rw [List.length_drop, List.length_cons] at this
            omega
          have hv : rd (numsOf c i) (at_ : Int) = valOf c want[j] := by
            unfold rd
            rw [Int.toNat_natCast, List.getD_eq_getElem?_getD, ← List.head?_drop, hnum]
            rfl
          have hrest : (numsOf c i).drop (at_ + 1) = ((want.drop (j + 1)).filter isNum).map (valOf c) := by
            rw [← List.tail_drop, hnum]
            rfl
          have ht := wtextref_ev (valOf c want[j]) (val_range c h _).1 (val_range c h _).2
          rw [← wr_num c hn] at ht
          refine Ev.step (f := fun k => (weirgateref21_Text.f k (valOf c want[j])).bind fun t => (weirgateref21_Join.f k [B (line (neW ((want.take j).map (wrW c)))), t]).bind fun s => weirgateref22_Text.l1 k (shapesL.map (List.map B)) (i : Int) (numsOf c i) s ((at_ + 1 : Nat) : Int) ((j + 1 : Nat) : Int) c.w c.k c.p c.n c.v c.m c.t c.a c.k c.p c.n c.v c.m c.t c.a) (fun k => ?_) (ht.bind (hj2.bind (ihe (j + 1) (at_ + 1) (by omega) (by omega) hrest)))
          simp only [weirgateref22_Text.l1]
          rw [if_pos (by omega), if_pos (by rw [shapes_16]; omega), hrd, if_pos (by simp only [List.length_map]; omega), if_pos (by omega), r2, B_toList, if_pos ((shp_35 (hfine _ hym)).2 (.inl hn)), if_pos (by omega), if_pos (by omega), hv, wrap_up (by omega) (by omega), wrap_up (by omega) (by omega)]
          rfl
        · rw [if_neg hn] at hnum
          have hns : ¬ shp want[j] = [35] := fun e => by
            rcases (shp_35 (hfine _ hym)).1 e with e | e
            · exact hn e
            · exact (h35 _ hym).1 e
          by_cases h65 : want[j] = [65]
          · have hs : shp want[j] = [64] := by unfold shp; rw [if_pos h65]
            obtain ⟨a, ha⟩ := Int.eq_ofNat_of_zero_le h.a0
            have ht := mtextref_ev a
            rw [← ha, show textOf a = wrW c want[j] by rw [h65, wrW_A, ha]; rfl] at ht
            refine Ev.step (f := fun k => (weirgateref09_Text.f k c.a).bind fun t => (weirgateref21_Join.f k [B (line (neW ((want.take j).map (wrW c)))), t]).bind fun s => weirgateref22_Text.l1 k (shapesL.map (List.map B)) (i : Int) (numsOf c i) s (at_ : Int) ((j + 1 : Nat) : Int) c.w c.k c.p c.n c.v c.m c.t c.a c.k c.p c.n c.v c.m c.t c.a) (fun k => ?_) (ht.bind (hj2.bind (ihe (j + 1) at_ (by omega) (by omega) hnum)))
            simp only [weirgateref22_Text.l1]
            rw [if_pos (by omega), if_pos (by rw [shapes_16]; omega), hrd, if_pos (by simp only [List.length_map]; omega), if_pos (by omega), r2, B_toList, if_neg hns, if_pos hs, wrap_up (by omega) (by omega)]
            rfl
          · have hk : isSlot want[j] = false := by
              cases hs : isSlot want[j]
              · rfl
              · exfalso
                apply hn
                unfold isNum
                rw [hs, show (want[j] == ([65] : L)) = false from beq_eq_false_iff_ne.2 h65]
                rfl
            have hs : shp want[j] = wrW c want[j] := by
              unfold shp
              rw [if_neg h65, hk, wr_key c hk]
              rfl
            have h64 : ¬ shp want[j] = [64] := by
              rw [hs, wr_key c hk]
              exact (h35 _ hym).2
            refine Ev.step (f := fun k => (weirgateref21_Join.f k [B (line (neW ((want.take j).map (wrW c)))), B (wrW c want[j])]).bind fun s => weirgateref22_Text.l1 k (shapesL.map (List.map B)) (i : Int) (numsOf c i) s (at_ : Int) ((j + 1 : Nat) : Int) c.w c.k c.p c.n c.v c.m c.t c.a c.k c.p c.n c.v c.m c.t c.a) (fun k => ?_) (hj2.bind (ihe (j + 1) at_ (by omega) (by omega) hnum))
            simp only [weirgateref22_Text.l1]
            rw [if_pos (by omega), if_pos (by rw [shapes_16]; omega), hrd, if_pos (by simp only [List.length_map]; omega), if_pos (by omega), r2, B_toList, if_neg hns, if_neg h64, wrap_up (by omega) (by omega), hs]
            rfl
    have I0 := inner want.length 0 0 (by omega) (by omega) (by rw [List.drop_zero, List.drop_zero]; exact hnt)
    have I1 : Ev (fun k => weirgateref22_Text.j2 k (shapesL.map (List.map B)) (i : Int) (numsOf c i) c.w c.k c.p c.n c.v c.m c.t c.a c.k c.p c.n c.v c.m c.t c.a) (outX (match textS c f with | some b => some b | none => (allF.drop (i + 1)).findSome? (textS c))) := by
      refine Ev.step (f := fun k => weirgateref22_Text.l1 k (shapesL.map (List.map B)) (i : Int) (numsOf c i) (B (line (neW ((want.take 0).map (wrW c))))) ((0 : Nat) : Int) ((0 : Nat) : Int) c.w c.k c.p c.n c.v c.m c.t c.a c.k c.p c.n c.v c.m c.t c.a) (fun k => ?_) I0
      simp only [weirgateref22_Text.j2]
      rfl
    have I2 : Ev (fun k => weirgateref22_Text.l0 k (shapesL.map (List.map B)) (i : Int) c.w c.k c.p c.n c.v c.m c.t c.a) (outX (match textS c f with | some b => some b | none => (allF.drop (i + 1)).findSome? (textS c))) := by
      have hw5 : wrap64 c.m = c.m := by unfold wrap64; have := h.m0; have := h.m1; omega
      have hw6 : wrap64 c.t = c.t := by unfold wrap64; have := h.t0; have := h.t1; omega
      clear inner I0 IH hrd hst hnt
      match i, hi16 with
      | 0, _ =>
        refine Ev.step (fun k => ?_) I1
        simp only [weirgateref22_Text.l0]
        rw [if_pos (by rw [shapes_16]; omega), if_pos (by omega)]
        rfl
      | 1, _ =>
        refine Ev.step (fun k => ?_) I1
        simp only [weirgateref22_Text.l0]
        rw [if_pos (by rw [shapes_16]; omega), if_pos (by omega)]
        rfl
      | 2, _ =>
        refine Ev.step (fun k => ?_) I1
        simp only [weirgateref22_Text.l0]
        rw [if_pos (by rw [shapes_16]; omega), if_pos (by omega)]
        rfl
      | 3, _ =>
        refine Ev.step (fun k => ?_) I1
        simp only [weirgateref22_Text.l0]
        rw [if_pos (by rw [shapes_16]; omega), if_neg (by omega), if_pos (by omega)]
        rfl
      | 4, _ =>
        refine Ev.step (fun k => ?_) I1
        simp only [weirgateref22_Text.l0]
        rw [if_pos (by rw [shapes_16]; omega), if_neg (by omega), if_pos (by omega)]
        rfl
      | 5, _ =>
        refine Ev.step (fun k => ?_) I1
        simp only [weirgateref22_Text.l0]
        rw [if_pos (by rw [shapes_16]; omega), if_neg (by omega), if_neg (by omega), if_pos (by omega)]
        rfl
      | 6, _ =>
        refine Ev.step (fun k => ?_) I1
        simp only [weirgateref22_Text.l0]
        rw [if_pos (by rw [shapes_16]; omega), if_neg (by omega), if_neg (by omega), if_pos (by omega)]
        rfl
      | 7, _ =>
        refine Ev.step (fun k => ?_) I1
        simp only [weirgateref22_Text.l0]
        rw [if_pos (by rw [shapes_16]; omega), if_neg (by omega), if_neg (by omega), if_neg (by omega), if_pos (by omega), hw5, hw6]
        rfl
      | 8, _ =>
        refine Ev.step (f := fun k => weirgateref22_Text.j1 k (shapesL.map (List.map B)) ((8 : Nat) : Int) [] true c.w c.k c.p c.n c.v c.m c.t c.a c.k c.p c.n c.v c.m c.t c.a) (fun k => ?_) (Ev.step (fun k => ?_) I1)
        · simp only [weirgateref22_Text.l0]
          rw [if_pos (by rw [shapes_16]; omega), if_neg (by omega), if_neg (by omega), if_neg (by omega), if_neg (by omega), if_pos (by omega)]
          rfl
        · simp only [weirgateref22_Text.j1]
          rw [if_pos (by decide)]
          rfl
      | 9, _ =>
        refine Ev.step (f := fun k => weirgateref22_Text.j1 k (shapesL.map (List.map B)) ((9 : Nat) : Int) [] false c.w c.k c.p c.n c.v c.m c.t c.a c.k c.p c.n c.v c.m c.t c.a) (fun k => ?_) (Ev.step (fun k => ?_) I1)
        · simp only [weirgateref22_Text.l0]
          rw [if_pos (by rw [shapes_16]; omega), if_neg (by omega), if_neg (by omega), if_neg (by omega), if_neg (by omega), if_neg (by omega)]
          rfl
        · simp only [weirgateref22_Text.j1]
          rw [if_neg (by decide), if_pos (by omega)]
          rfl
      | 10, _ =>
        refine Ev.step (f := fun k => weirgateref22_Text.j1 k (shapesL.map (List.map B)) ((10 : Nat) : Int) [] true c.w c.k c.p c.n c.v c.m c.t c.a c.k c.p c.n c.v c.m c.t c.a) (fun k => ?_) (Ev.step (fun k => ?_) I1)
        · simp only [weirgateref22_Text.l0]
          rw [if_pos (by rw [shapes_16]; omega), if_neg (by omega), if_neg (by omega), if_neg (by omega), if_neg (by omega), if_neg (by omega)]
          rfl
        · simp only [weirgateref22_Text.j1]
          rw [if_pos (by decide)]
          rfl
      | 11, _ =>
        refine Ev.step (f := fun k => weirgateref22_Text.j1 k (shapesL.map (List.map B)) ((11 : Nat) : Int) [] false c.w c.k c.p c.n c.v c.m c.t c.a c.k c.p c.n c.v c.m c.t c.a) (fun k => ?_) (Ev.step (fun k => ?_) I1)
        · simp only [weirgateref22_Text.l0]
          rw [if_pos (by rw [shapes_16]; omega), if_neg (by omega), if_neg (by omega), if_neg (by omega), if_neg (by omega), if_neg (by omega)]
          rfl
        · simp only [weirgateref22_Text.j1]
          rw [if_neg (by decide), if_neg (by omega)]
          rfl
      | 12, _ =>
        refine Ev.step (f := fun k => weirgateref22_Text.j1 k (shapesL.map (List.map B)) ((12 : Nat) : Int) [] false c.w c.k c.p c.n c.v c.m c.t c.a c.k c.p c.n c.v c.m c.t c.a) (fun k => ?_) (Ev.step (fun k => ?_) I1)
        · simp only [weirgateref22_Text.l0]
          rw [if_pos (by rw [shapes_16]; omega), if_neg (by omega), if_neg (by omega), if_neg (by omega), if_neg (by omega), if_neg (by omega)]
          rfl
        · simp only [weirgateref22_Text.j1]
          rw [if_neg (by decide), if_neg (by omega)]
          rfl
      | 13, _ =>
        refine Ev.step (f := fun k => weirgateref22_Text.j1 k (shapesL.map (List.map B)) ((13 : Nat) : Int) [] false c.w c.k c.p c.n c.v c.m c.t c.a c.k c.p c.n c.v c.m c.t c.a) (fun k => ?_) (Ev.step (fun k => ?_) I1)
        · simp only [weirgateref22_Text.l0]
          rw [if_pos (by rw [shapes_16]; omega), if_neg (by omega), if_neg (by omega), if_neg (by omega), if_neg (by omega), if_neg (by omega)]
          rfl
        · simp only [weirgateref22_Text.j1]
          rw [if_neg (by decide), if_neg (by omega)]
          rfl
      | 14, _ =>
        refine Ev.step (f := fun k => weirgateref22_Text.j1 k (shapesL.map (List.map B)) ((14 : Nat) : Int) [] false c.w c.k c.p c.n c.v c.m c.t c.a c.k c.p c.n c.v c.m c.t c.a) (fun k => ?_) (Ev.step (fun k => ?_) I1)
        · simp only [weirgateref22_Text.l0]
          rw [if_pos (by rw [shapes_16]; omega), if_neg (by omega), if_neg (by omega), if_neg (by omega), if_neg (by omega), if_neg (by omega)]
          rfl
        · simp only [weirgateref22_Text.j1]
          rw [if_neg (by decide), if_neg (by omega)]
          rfl
      | 15, _ =>
        refine Ev.step (f := fun k => weirgateref22_Text.j1 k (shapesL.map (List.map B)) ((15 : Nat) : Int) [] false c.w c.k c.p c.n c.v c.m c.t c.a c.k c.p c.n c.v c.m c.t c.a) (fun k => ?_) (Ev.step (fun k => ?_) I1)
        · simp only [weirgateref22_Text.l0]
          rw [if_pos (by rw [shapes_16]; omega), if_neg (by omega), if_neg (by omega), if_neg (by omega), if_neg (by omega), if_neg (by omega)]
          rfl
        · simp only [weirgateref22_Text.j1]
          rw [if_neg (by decide), if_neg (by omega)]
          rfl
      | n + 16, h => exact absurd h (by omega)
    cases hts : textS c f <;> rw [hts] at I2 <;> exact I2
theorem reftext_ev (c : Cm) (h : c.Ok) : Ev (fun k => weirgateref22_Text.f k c.w c.k c.p c.n c.v c.m c.t c.a) (outX (textP c)) := by
  refine Ev.congr (fun k => ?_) (reftext_loop c h 16 0 rfl)
  unfold weirgateref22_Text.f
  rw [shapes_now]
  rfl
end Go.Proofs.YtagnoecfdefmjaaDoor.P
