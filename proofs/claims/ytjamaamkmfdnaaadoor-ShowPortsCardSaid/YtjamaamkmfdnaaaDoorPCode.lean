/- What the program's parse functions come to, in plain words; conditions: sizes and ranges alone. -/
import Derived.Test.YtjamaamkmfdnaaaDoorPPlain
import Derived.Test.YtjamaamkmfdnaaaDoorXx3
namespace Go.Proofs.YtjamaamkmfdnaaaDoor.P
open Go.RowKit Go.Proofs.YtjamaamkmfdnaaaDoorW.PrintWords Go.Proofs.YtjamaamkmfdnaaaDoor.X Go.Proofs.YtjamaamkmfdnaaaDoor.Plain Go.Proofs.YtjamaamkmfdnaaaDoor
set_option linter.unusedVariables false
set_option linter.unusedSimpArgs false

/-- A command's numbers are of their kinds. -/
structure Cm.Ok (c : Cm) : Prop where
  n0 : -9223372036854775808 ≤ c.n
  n1 : c.n ≤ 9223372036854775807
  p0 : -9223372036854775808 ≤ c.p
  p1 : c.p ≤ 9223372036854775807
  v0 : -9223372036854775808 ≤ c.v
  v1 : c.v ≤ 9223372036854775807
  m0 : 0 ≤ c.m
  m1 : c.m ≤ 255
  t0 : 0 ≤ c.t
  t1 : c.t ≤ 255
  a0 : 0 ≤ c.a
  a1 : c.a ≤ 18446744073709551615
def rdOut (b : Bool × Int × Int × Int × Int × Int × Int × Int × Int) : Option Cm := if b.1 = true then some ⟨b.2.1, b.2.2.1, b.2.2.2.1, b.2.2.2.2.1, b.2.2.2.2.2.1, b.2.2.2.2.2.2.1, b.2.2.2.2.2.2.2.1, b.2.2.2.2.2.2.2.2⟩ else none
theorem small_now (x : L) (mx : Int) (hx : x.length < 4294967281) : X.parse_small.f (B x) mx = some ((num x).1, if (num x).2 = true then decide ((num x).1 ≤ mx) else false) := by
  unfold X.parse_small.f
  rw [num_now (B x) (by rw [B_size]; omega), B_data]
  cases h : (num x).2 <;> simp [h]
theorem read_ev (c : Cm) (y x : L) (hx : x.length < 4294967281) : ∃ b, Ev (fun k => X.parse_Cmd_read.f k c.w c.k c.p c.n c.v c.m c.t c.a (B y) (B x)) b ∧ rdOut b = rdW c y x := by
  rcases slot_cases y with rfl | rfl | rfl | rfl | rfl | rfl | hk
  · refine ⟨((num x).2, c.w, c.k, c.p, (num x).1, c.v, c.m, c.t, c.a), Ev.congr (f := fun _ => some _) (fun k => ?_) (Ev.now _), ?_⟩
    · unfold X.parse_Cmd_read.f
      simp only [B_toList]
      rw [if_pos trivial, num_now (B x) (by rw [B_size]; omega), B_data]
      rfl
    · rw [rdW_N]; rfl
  · refine ⟨(if (num x).2 = true then decide ((num x).1 ≤ 255) else false, c.w, c.k, (num x).1, c.n, c.v, c.m, c.t, c.a), Ev.congr (f := fun _ => some _) (fun k => ?_) (Ev.now _), ?_⟩
    · unfold X.parse_Cmd_read.f
      simp only [B_toList]
      rw [if_neg (by decide), if_pos trivial, small_now x 255 hx]
      rfl
    · rw [rdW_P]; unfold rdOut; cases (num x).2 <;> simp
  · refine ⟨(if (num x).2 = true then decide ((num x).1 ≤ 65535) else false, c.w, c.k, c.p, c.n, (num x).1, c.m, c.t, c.a), Ev.congr (f := fun _ => some _) (fun k => ?_) (Ev.now _), ?_⟩
    · unfold X.parse_Cmd_read.f
      simp only [B_toList]
      rw [if_neg (by decide), if_neg (by decide), if_pos trivial, small_now x 65535 hx]
      rfl
    · rw [rdW_V]; unfold rdOut; cases (num x).2 <;> simp
  · refine ⟨(if (num x).2 = true then decide ((num x).1 ≤ 255) else false, c.w, c.k, c.p, c.n, c.v, (num x).1 % 256, c.t, c.a), Ev.congr (f := fun k => X.parse_Cmd_read.j0 k (B [77]) (B x) (B [77]) true c.w c.k c.p c.n c.v c.m c.t c.a) (fun k => ?_) (Ev.step (f := fun _ => some _) (fun k => ?_) (Ev.now _)), ?_⟩
    · unfold X.parse_Cmd_read.f
      simp only [B_toList]
      rw [if_neg (by decide), if_neg (by decide), if_neg (by decide), if_pos trivial]
      rfl
    · simp only [X.parse_Cmd_read.j0, B_toList]
      rw [if_pos trivial, small_now x 255 hx]
      simp only [Option.bind_some]
      rw [if_pos trivial]
    · rw [rdW_M]; unfold rdOut
      cases hn : (num x).2
      · simp
      · have hb := (num_yes (v := (num x).1) (Prod.ext rfl hn))
        by_cases h5 : (num x).1 ≤ 255
        · simp [h5, show (num x).1 % 256 = (num x).1 by omega]
        · simp [h5]
  · refine ⟨(if (num x).2 = true then decide ((num x).1 ≤ 255) else false, c.w, c.k, c.p, c.n, c.v, c.m, (num x).1 % 256, c.a), Ev.congr (f := fun k => X.parse_Cmd_read.j0 k (B [84]) (B x) (B [84]) true c.w c.k c.p c.n c.v c.m c.t c.a) (fun k => ?_) (Ev.step (f := fun _ => some _) (fun k => ?_) (Ev.now _)), ?_⟩
    · unfold X.parse_Cmd_read.f
      simp only [B_toList]
      rw [if_neg (by decide), if_neg (by decide), if_neg (by decide), if_neg (by decide)]
      rfl
    · simp only [X.parse_Cmd_read.j0, B_toList]
      rw [if_pos trivial, small_now x 255 hx]
      simp only [Option.bind_some]
      rw [if_neg (by decide)]
    · rw [rdW_T]; unfold rdOut
      cases hn : (num x).2
      · simp
      · have hb := (num_yes (v := (num x).1) (Prod.ext rfl hn))
        by_cases h5 : (num x).1 ≤ 255
        · simp [h5, show (num x).1 % 256 = (num x).1 by omega]
        · simp [h5]
  · refine ⟨((macParse x).2 == 0, c.w, c.k, c.p, c.n, c.v, c.m, c.t, (macParse x).1), Ev.congr (f := fun k => X.parse_Cmd_read.j0 k (B [65]) (B x) (B [65]) false c.w c.k c.p c.n c.v c.m c.t c.a) (fun k => ?_) (Ev.step (f := fun k => (X.mac_Parse.f k (B x)).bind fun b => some (b.2 == 0, c.w, c.k, c.p, c.n, c.v, c.m, c.t, b.1)) (fun k => ?_) ?_), ?_⟩
    · unfold X.parse_Cmd_read.f
      simp only [B_toList]
      rw [if_neg (by decide), if_neg (by decide), if_neg (by decide), if_neg (by decide)]
      rfl
    · simp only [X.parse_Cmd_read.j0, B_toList]
      rw [if_neg (by decide), if_pos trivial]
    · have := macparse_ev (B x) (by rw [B_size]; omega)
      rw [B_data] at this
      exact this.bind (Ev.now _)
    · rw [rdW_A]; unfold rdOut
      by_cases hm : (macParse x).2 = 0 <;> simp [hm]
  · obtain ⟨h1, h2, h3, h4, h5, h6⟩ := not_slot hk
    refine ⟨(x == y, c.w, c.k, c.p, c.n, c.v, c.m, c.t, c.a), Ev.congr (f := fun k => X.parse_Cmd_read.j0 k (B y) (B x) (B y) false c.w c.k c.p c.n c.v c.m c.t c.a) (fun k => ?_) (Ev.step (f := fun _ => some _) (fun k => ?_) (Ev.now _)), ?_⟩
    · unfold X.parse_Cmd_read.f
      simp only [B_toList]
      rw [if_neg h1, if_neg h2, if_neg h3, if_neg h4, show (y == ([84] : List UInt8)) = false from beq_eq_false_iff_ne.2 h5]
    · simp only [X.parse_Cmd_read.j0, B_toList]
      rw [if_neg (by decide), if_neg h6]
    · rw [rdW_key c x hk]; unfold rdOut
      by_cases hm : x = y <;> simp [hm]

def outT : Option Cm → Int × Int × Int × Int × Int × Int × Int × Int × Bool
  | some d => (d.w, d.k, d.p, d.n, d.v, d.m, d.t, d.a, true)
  | none => (0, 0, 0, 0, 0, 0, 0, 0, false)
theorem take_ev : ∀ (ys xs : List L) (c : Cm), ys.length = xs.length → (∀ x ∈ xs, x.length < 4294967281) → Ev (fun k => takeL k (ys.map B) (xs.map B) c.w c.k c.p c.n c.v c.m c.t c.a) (outT (takeP c ys xs))
  | [], [], c, _, _ => Ev.congr (f := fun _ => some _) (fun k => by simp only [List.map_nil, takeL]; rfl) (Ev.now _)
  | y :: ys, x :: xs, c, hl, hs => by
    obtain ⟨b, hb, e⟩ := read_ev c y x (hs x List.mem_cons_self)
    have ih := take_ev ys xs
    refine Ev.congr (f := fun k => (X.parse_Cmd_read.f k c.w c.k c.p c.n c.v c.m c.t c.a (B y) (B x)).bind fun b => if b.1 = true then takeL k (ys.map B) (xs.map B) b.2.1 b.2.2.1 b.2.2.2.1 b.2.2.2.2.1 b.2.2.2.2.2.1 b.2.2.2.2.2.2.1 b.2.2.2.2.2.2.2.1 b.2.2.2.2.2.2.2.2 else some (0, 0, 0, 0, 0, 0, 0, 0, false)) (fun k => by simp only [List.map_cons, takeL]) ?_
    refine hb.bind ?_
    rw [takeP, ← e]
    unfold rdOut
    by_cases h1 : b.1 = true
    · simp only [h1, if_true, Option.bind_some]
      exact ih ⟨b.2.1, b.2.2.1, b.2.2.2.1, b.2.2.2.2.1, b.2.2.2.2.2.1, b.2.2.2.2.2.2.1, b.2.2.2.2.2.2.2.1, b.2.2.2.2.2.2.2.2⟩ (by simpa using hl) (fun q hq => hs q (List.mem_cons_of_mem _ hq))
    · simp only [h1, if_false, Option.bind_none]
      exact Ev.now _
  | [], _ :: _, _, hl, _ => by simp at hl
  | _ :: _, [], _, hl, _ => by simp at hl

def formOf (x : S97) : Cm × List L := (⟨x.f0.f0, x.f0.f1.f0, x.f0.f1.f1, x.f0.f1.f2, x.f0.f1.f3, x.f0.f1.f4, x.f0.f1.f5, x.f0.f1.f6⟩, cut x.f1.data.toList)
theorem table_forms : allForms.map formOf = allF := by rfl
theorem take_form_ev (x : S97) (ws : List L) (hx : x.f1.size < 4294967281) (hs : ∀ w ∈ ws, w.length < 4294967281) : Ev (fun k => parse_form_take.f k (x.f0.f0) (x.f0.f1.f0) (x.f0.f1.f1) (x.f0.f1.f2) (x.f0.f1.f3) (x.f0.f1.f4) (x.f0.f1.f5) (x.f0.f1.f6) x.f1 (ws.map B)) (outT (lineS ws (formOf x))) := by
  unfold parse_form_take.f
  refine (cut_ev x.f1 hx).bind ?_
  unfold lineS formOf
  simp only [List.length_map]
  by_cases hl : (cut x.f1.data.toList).length = ws.length
  · simp only [hl, if_true]
    exact take_ev _ _ ⟨x.f0.f0, x.f0.f1.f0, x.f0.f1.f1, x.f0.f1.f2, x.f0.f1.f3, x.f0.f1.f4, x.f0.f1.f5, x.f0.f1.f6⟩ hl hs
  · simp only [hl, if_false]
    exact Ev.now _

def outL : Option Cm → Int × Int × Int × Int × Int × Int × Int × Int × Int
  | some d => (d.w, d.k, d.p, d.n, d.v, d.m, d.t, d.a, 0)
  | none => (0, 0, 0, 0, 0, 0, 0, 0, 15)
theorem forms_16 : allForms.length = 16 := rfl
theorem forms_size : ∀ x ∈ allForms, x.f1.size < 4294967281 := by decide
theorem rd_forms {i : Nat} (h : i < allForms.length) : rd_T97 allForms (i : Int) = allForms[i] := by
  unfold rd_T97
  rw [Int.toNat_natCast, List.getD_eq_getElem?_getD, List.getElem?_eq_getElem h]
  rfl
theorem drop_forms {i : Nat} (h : i < allForms.length) : allF.drop i = formOf allForms[i] :: allF.drop (i + 1) := by
  rw [← table_forms, ← List.map_drop, ← List.map_drop, List.drop_eq_getElem_cons h, List.map_cons]
theorem mem_le_sum {p : L} : ∀ {l : List L}, p ∈ l → p.length + 1 ≤ (l.map (fun p => p.length + 1)).sum
  | [], h => by cases h
  | x :: l, h => by
    rw [List.map_cons, List.sum_cons]
    rcases List.mem_cons.1 h with rfl | h
    · omega
    · have := mem_le_sum h
      omega

theorem write_now (c : Cm) (h : c.Ok) (y : L) : X.parse_Cmd_write.f c.w c.k c.p c.n c.v c.m c.t c.a (B y) = some (B (wrW c y)) := by
  rcases slot_cases y with rfl | rfl | rfl | rfl | rfl | rfl | hk
  · unfold X.parse_Cmd_write.f
    simp only [B_toList]
    rw [if_pos trivial, (text_now c.n h.n0 h.n1)]
    rw [wrW_N]
    rfl
  · unfold X.parse_Cmd_write.f
    simp only [B_toList]
    rw [if_neg (by decide), if_pos trivial, (text_now c.p h.p0 h.p1)]
    rw [wrW_P]
    rfl
  · unfold X.parse_Cmd_write.f
    simp only [B_toList]
    rw [if_neg (by decide), if_neg (by decide), if_pos trivial, (text_now c.v h.v0 h.v1)]
    rw [wrW_V]
    rfl
  · unfold X.parse_Cmd_write.f
    simp only [B_toList]
    rw [if_neg (by decide), if_neg (by decide), if_neg (by decide), if_pos trivial, show wrap64 c.m = c.m by unfold wrap64; have := h.m0; have := h.m1; omega, text_now c.m (by have := h.m0; omega) (by have := h.m1; omega)]
    rw [wrW_M]
    rfl
  · unfold X.parse_Cmd_write.f
    simp only [B_toList]
    rw [if_neg (by decide), if_neg (by decide), if_neg (by decide), if_neg (by decide), if_pos trivial, show wrap64 c.t = c.t by unfold wrap64; have := h.t0; have := h.t1; omega, text_now c.t (by have := h.t0; omega) (by have := h.t1; omega)]
    rw [wrW_T]
    rfl
  · unfold X.parse_Cmd_write.f
    simp only [B_toList]
    obtain ⟨a, ha⟩ := Int.eq_ofNat_of_zero_le h.a0
    rw [if_neg (by decide), if_neg (by decide), if_neg (by decide), if_neg (by decide), if_neg (by decide), if_pos trivial, ha, mactext_now a (by have := h.a1; omega)]
    rw [wrW_A]
    rw [ha]; rfl
  · obtain ⟨h1, h2, h3, h4, h5, h6⟩ := not_slot hk
    unfold X.parse_Cmd_write.f
    simp only [B_toList]
    rw [if_neg h1, if_neg h2, if_neg h3, if_neg h4, if_neg h5, if_neg h6, wr_key c hk]

theorem itoa_length (n : Int) (h0 : -9223372036854775808 ≤ n) (h1 : n ≤ 9223372036854775807) : (Lib.itoa n).length ≤ 20 := by
  have pow : ∀ (k u : Nat), u < 10 ^ (k + 1) → (Lib.decDigits u).length ≤ k + 1 := by
    intro k
    induction k with
    | zero =>
      intro u hu
      rw [decDigits_small (by simpa using hu)]
      simp
    | succ k ih =>
      intro u hu
      by_cases hs : u < 10
      · rw [decDigits_small hs]; simp
      · rw [decDigits_big hs, List.length_append]
        have := ih (u / 10) (by rw [Nat.pow_succ] at hu; omega)
        simp only [List.length_singleton]
        omega
  by_cases hn : n < 0
  · rw [itoa_minus hn, List.length_cons]
    have := pow 18 n.natAbs (by omega)
    omega
  · rw [itoa_pos (by omega)]
    have := pow 18 n.toNat (by omega)
    omega
theorem wr_length (c : Cm) (h : c.Ok) (y : L) (hy : y.length ≤ 17) : (wrW c y).length ≤ 20 := by
  rcases slot_cases y with rfl | rfl | rfl | rfl | rfl | rfl | hk
  · rw [wrW_N]; exact itoa_length _ h.n0 h.n1
  · rw [wrW_P]; exact itoa_length _ h.p0 h.p1
  · rw [wrW_V]; exact itoa_length _ h.v0 h.v1
  · rw [wrW_M]; exact itoa_length _ (by have := h.m0; omega) (by have := h.m1; omega)
  · rw [wrW_T]; exact itoa_length _ (by have := h.t0; omega) (by have := h.t1; omega)
  · rw [wrW_A]; unfold textOf; split
    · rw [macText_length]; omega
    · simp
  · rw [wr_key c hk]; omega
theorem index_ev (l : List L) (hl : l.length < 4294967281) : ∀ (d i : Nat), i + d = l.length → ∃ r : Int, Ev (fun k => X.slices_Index_string_string.l0 k (l.map B) (B []) (l.length : Int) (i : Int)) r ∧ (decide (0 ≤ r) = (l.drop i).contains [])
  | 0, i, hi => by
    refine ⟨-1, Ev.step (f := fun _ => some _) (fun k => ?_) (Ev.now _), ?_⟩
    · simp only [X.slices_Index_string_string.l0]
      rw [if_neg (by omega)]
    · rw [List.drop_eq_nil_of_le (by omega)]
      rfl
  | d + 1, i, hi => by
    have hlt : i < l.length := by omega
    have hr : rdOf ByteArray.empty (l.map B) (i : Int) = B l[i] := by
      rw [rdOf_at (by rw [List.length_map]; exact hlt), List.getElem_map]
    obtain ⟨r, h1, h2⟩ := index_ev l hl d (i + 1) (by omega)
    rw [List.drop_eq_getElem_cons hlt, List.contains_cons]
    by_cases he : l[i] = []
    · refine ⟨(i : Int), Ev.step (f := fun _ => some _) (fun k => ?_) (Ev.now _), ?_⟩
      · simp only [X.slices_Index_string_string.l0]
        rw [if_pos (by omega), if_pos (by omega), if_pos (by rw [List.length_map]; omega), hr, B_toList, B_toList, if_pos he.symm]
      · rw [decide_eq_true (by omega), he]
        rfl
    · refine ⟨r, Ev.step (f := fun k => X.slices_Index_string_string.l0 k (l.map B) (B []) (l.length : Int) ((i + 1 : Nat) : Int)) (fun k => ?_) h1, ?_⟩
      · simp only [X.slices_Index_string_string.l0]
        rw [if_pos (by omega), if_pos (by omega), if_pos (by rw [List.length_map]; omega), hr, B_toList, B_toList, if_neg (fun e => he e.symm), wrap_up (by omega) (by omega)]
        rfl
      · rw [h2, show (([] : L) == l[i]) = false from beq_eq_false_iff_ne.2 (fun e => he e.symm), Bool.false_or]
theorem contains_ev (l : List L) (hl : l.length < 4294967281) : Ev (fun k => X.slices_Contains_string_string.f k (l.map B) (B [])) (l.contains []) := by
  obtain ⟨r, h1, h2⟩ := index_ev l hl l.length 0 (by omega)
  refine Ev.congr (f := fun k => (X.slices_Index_string_string.l0 k (l.map B) (B []) (l.length : Int) ((0 : Nat) : Int)).bind fun t => some (decide (t ≥ 0))) (fun k => ?_) (h1.bind (Ev.congr (f := fun _ => some _) (fun _ => ?_) (Ev.now (l.contains []))))
  · unfold X.slices_Contains_string_string.f X.slices_Index_string_string.f
    rw [List.length_map]
    rfl
  · rw [List.drop_zero] at h2
    rw [← h2]
def outX : Option L → ByteArray × Int
  | some t => (B t, 0)
  | none => (B [], 11)
theorem join_now (l : List L) (hl : l.length ≤ 6) (h : (line l).length ≤ 108) : strings_Join.f (l.map B) (⟨#[32]⟩ : ByteArray) = some (B (line l)) := by
  have e : (l.map B).map (·.data.toList) = l := by
    rw [List.map_map, show ((fun x : ByteArray => x.data.toList) ∘ B) = id from funext fun l => B_data l, List.map_id]
  unfold strings_Join.f
  rw [e, show (⟨#[32]⟩ : ByteArray).data.toList = [32] from rfl, join_line, if_pos ⟨by rw [List.length_map]; omega, by omega⟩]
  rfl
theorem drop_zero' (l : List ByteArray) : l.drop 0 = l := rfl
set_option maxRecDepth 4000 in
theorem text_loop (c : Cm) (h : c.Ok) : ∀ (d i : Nat), i + d = 16 → Ev (fun k => X.parse_Text.l0 k allForms 16 (i : Int) c.w c.k c.p c.n c.v c.m c.t c.a) (outX ((allF.drop i).findSome? (textS c)))
  | 0, i, hi => by
    refine Ev.step (f := fun _ => some _) (fun k => ?_) (Ev.now _)
    obtain rfl : i = 16 := by omega
    simp only [X.parse_Text.l0]
    rw [if_neg (by omega)]
    rfl
  | d + 1, i, hi => by
    have hlt : i < allForms.length := by rw [forms_16]; omega
    have IH := text_loop c h d (i + 1) (by omega)
    rw [drop_forms hlt, List.findSome?_cons]
    have hmem : formOf allForms[i] ∈ allF := by rw [← table_forms]; exact List.mem_map_of_mem (List.getElem_mem hlt)
    generalize hx : allForms[i] = x at hmem ⊢
    have hsz : x.f1.size < 4294967281 := by rw [← hx]; exact forms_size _ (List.getElem_mem hlt)
    obtain ⟨want, hw⟩ : ∃ want, want = cut x.f1.data.toList := ⟨_, rfl⟩
    have hfo : formOf x = (⟨x.f0.f0, x.f0.f1.f0, x.f0.f1.f1, x.f0.f1.f2, x.f0.f1.f3, x.f0.f1.f4, x.f0.f1.f5, x.f0.f1.f6⟩, want) := by rw [hw]; rfl
    have h6 : want.length ≤ 6 := by have := (table_six _ hmem).1; rw [hfo] at this; exact this
    have hfine : ∀ y ∈ want, Fine y := by have := fine_at hmem; rw [hfo] at this; exact this
    refine Ev.step (f := fun k => (X.words_Cut.f k x.f1).bind fun t => X.parse_Text.l1 k ([] : List ByteArray) allForms 16 (i : Int) t (t.length : Int) 0 c.w c.k c.p c.n c.v c.m c.t c.a (x.f0.f0) (x.f0.f1.f0) (x.f0.f1.f1) (x.f0.f1.f2) (x.f0.f1.f3) (x.f0.f1.f4) (x.f0.f1.f5) (x.f0.f1.f6) x.f1) (fun k => ?_) ?_
    · simp only [X.parse_Text.l0]
      rw [if_pos (by omega), if_pos (by omega), if_pos (by rw [forms_16]; omega), rd_forms hlt, hx]
    refine (cut_ev x.f1 hsz).bind ?_
    rw [← hw]
    -- the words that stand there
    have inner : ∀ (e j : Nat), j + e = want.length → Ev (fun k => X.parse_Text.l1 k (((want.take j).map (wrW c)).map B) allForms 16 (i : Int) (want.map B) (want.length : Int) (j : Int) c.w c.k c.p c.n c.v c.m c.t c.a (x.f0.f0) (x.f0.f1.f0) (x.f0.f1.f1) (x.f0.f1.f2) (x.f0.f1.f3) (x.f0.f1.f4) (x.f0.f1.f5) (x.f0.f1.f6) x.f1)
        (outX ((match textS c (formOf x) with | some b => some b | none => (allF.drop (i + 1)).findSome? (textS c)))) := by
      intro e
      induction e with
      | zero =>
        intro j hj
        obtain rfl : j = want.length := by omega
        rw [List.take_length]
        have hsz2 : ∀ w ∈ want.map (wrW c), w.length < 4294967281 := by
          intro w hw'
          obtain ⟨y, hy, rfl⟩ := List.mem_map.1 hw'
          have := wr_length c h y (hfine y hy).2.2.2
          omega
        have hc := contains_ev (want.map (wrW c)) (by rw [List.length_map]; omega)
        have ht := take_form_ev x (want.map (wrW c)) hsz hsz2
        refine Ev.step (f := fun k => (X.slices_Contains_string_string.f k ((want.map (wrW c)).map B) (B [])).bind fun t => if t = true then X.parse_Text.l0 k allForms 16 ((i + 1 : Nat) : Int) c.w c.k c.p c.n c.v c.m c.t c.a else (parse_form_take.f k (x.f0.f0) (x.f0.f1.f0) (x.f0.f1.f1) (x.f0.f1.f2) (x.f0.f1.f3) (x.f0.f1.f4) (x.f0.f1.f5) (x.f0.f1.f6) x.f1 ((want.map (wrW c)).map B)).bind fun b => if b.2.2.2.2.2.2.2.2 = true then (if (b.1 == c.w && (b.2.1 == c.k && (b.2.2.1 == c.p && (b.2.2.2.1 == c.n && (b.2.2.2.2.1 == c.v && (b.2.2.2.2.2.1 == c.m && (b.2.2.2.2.2.2.1 == c.t && (b.2.2.2.2.2.2.2.1 == c.a)))))))) = true then (strings_Join.f ((want.map (wrW c)).map B) (⟨#[32]⟩ : ByteArray)).bind fun t => some (t, 0) else X.parse_Text.l0 k allForms 16 ((i + 1 : Nat) : Int) c.w c.k c.p c.n c.v c.m c.t c.a) else X.parse_Text.l0 k allForms 16 ((i + 1 : Nat) : Int) c.w c.k c.p c.n c.v c.m c.t c.a) (fun k => ?_) ?_
        · simp only [X.parse_Text.l1]
          rw [if_neg (by omega), wrap_up (by omega) (by omega)]
          rfl
        refine hc.bind ?_
        rw [hfo] at ht ⊢
        unfold textS
        unfold lineS at ht
        simp only [List.length_map, if_true] at ht ⊢
        by_cases hcn : (want.map (wrW c)).contains [] = true
        · simp only [hcn, if_true]
          exact IH
        · simp only [hcn, if_false]
          refine ht.bind ?_
          cases hr : takeP ⟨x.f0.f0, x.f0.f1.f0, x.f0.f1.f1, x.f0.f1.f2, x.f0.f1.f3, x.f0.f1.f4, x.f0.f1.f5, x.f0.f1.f6⟩ want (want.map (wrW c)) with
          | none => exact IH
          | some q =>
            by_cases hq : q.eqb c = true
            · have hfine2 := take_fine _ _ _ _ hr (by simp) hfine
              have hj := join_now (want.map (wrW c)) (by rw [List.length_map]; exact h6) (line_short (by rw [List.length_map]; exact h6) hfine2)
              simp only [hq, if_true]
              refine Ev.congr (f := fun _ => some _) (fun k => (if_pos (show (outT (some q)).2.2.2.2.2.2.2.2 = true from rfl)).trans ((if_pos hq).trans ?_)) (Ev.now _)
              rw [hj]
              rfl
            · simp only [hq, if_false]
              exact Ev.congr (fun k => (if_pos (show (outT (some q)).2.2.2.2.2.2.2.2 = true from rfl)).trans (if_neg hq)) IH
      | succ e ihe =>
        intro j hj
        have hjl : j < want.length := by omega
        refine Ev.step (f := fun k => X.parse_Text.l1 k (((want.take (j + 1)).map (wrW c)).map B) allForms 16 (i : Int) (want.map B) (want.length : Int) ((j + 1 : Nat) : Int) c.w c.k c.p c.n c.v c.m c.t c.a (x.f0.f0) (x.f0.f1.f0) (x.f0.f1.f1) (x.f0.f1.f2) (x.f0.f1.f3) (x.f0.f1.f4) (x.f0.f1.f5) (x.f0.f1.f6) x.f1) (fun k => ?_) (ihe (j + 1) (by omega))
        simp only [X.parse_Text.l1]
        rw [if_pos (by omega), if_pos (by omega), if_pos (by rw [List.length_map]; omega), rdOf_at (by rw [List.length_map]; exact hjl), List.getElem_map, write_now c h]
        simp only [Option.bind_some]
        rw [if_pos (by simp only [List.length_map, List.length_take]; omega), wrap_up (by omega) (by omega), List.take_succ_eq_append_getElem hjl, List.map_append, List.map_append]
        rfl
    have := inner want.length 0 (by omega)
    rw [List.length_map]
    cases hts : textS c (formOf x) <;> rw [hts] at this <;> exact this
theorem text_ev (c : Cm) (h : c.Ok) : Ev (fun k => X.parse_Text.f k c.w c.k c.p c.n c.v c.m c.t c.a) (outX (textP c)) := text_loop c h 16 0 rfl
end Go.Proofs.YtjamaamkmfdnaaaDoor.P
