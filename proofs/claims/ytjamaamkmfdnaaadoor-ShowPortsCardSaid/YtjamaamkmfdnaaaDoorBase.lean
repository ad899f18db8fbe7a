/- Contracts, each for every world whose package-level variables hold what the program's text lays ('Laid'): strings.Split, strings.Join, strconv.Itoa, words.Num (strings.IndexByte); conditions: sizes alone. -/
import Derived.Test.YtjamaamkmfdnaaaDoorProg
import Derived.Test.YtjamaamkmfdnaaaDoorShelf
import Derived.Test.YtjamaamkmfdnaaaDoorWWords
import Derived.ChangeAgain
import Derived.Lib.SmallJoins
import Derived.OwnWalk
import Derived.WalkKit
import Derived.WalkSpells
import Derived.Lib.Hide
namespace Go.Proofs.YtjamaamkmfdnaaaDoor
open Go.RowKit Go.Proofs.YtjamaamkmfdnaaaDoorW.PrintWords

/-- What the world's package-level variables hold while a call of these texts runs. -/
structure Laid (w : World) : Prop where
  shaped : w.ShapedOpen Tryd.prog
  pow10 : Lib.TabIs Tryd.prog w "internal/strconv.uint64pow10" .u64 Lib.pow10Tab
  errSyntax : ∃ tp p, w.var? Tryd.prog "strconv.ErrSyntax" = some #[.iface tp p]
  errRange : ∃ tp p, w.var? Tryd.prog "strconv.ErrRange" = some #[.iface tp p]

theorem gPow : Tryd.prog.globalNamed "internal/strconv.uint64pow10" = some 0 := by kernel_rfl
theorem gSyn : Tryd.prog.globalNamed "strconv.ErrSyntax" = some 6 := by kernel_rfl
theorem gRan : Tryd.prog.globalNamed "strconv.ErrRange" = some 7 := by kernel_rfl

theorem var_stays {w w' : World} {n : String} {g : Nat} {cs : Array Value} (hg : Tryd.prog.globalNamed n = some g) (h : w.var? Tryd.prog n = some cs) (hb : Below w.heap.size w w') : w'.var? Tryd.prog n = some cs := by
  have hlt : g < w.heap.size := by
    simp only [World.var?, hg, Option.bind_some] at h
    by_cases hx : g < w.heap.size
    · exact hx
    · rw [Array.getElem?_eq_none (by omega)] at h
      cases h
  simp only [World.var?, hg, Option.bind_some] at h ⊢
  rw [hb.block g hlt]
  exact h

theorem Laid.below {w w' : World} (h : Laid w) (hb : Below w.heap.size w w') : Laid w' where
  shaped := h.shaped.keptBut (hb.frame (fun _ => False)) (fun _ hp => hp.elim)
  pow10 := var_stays gPow h.pow10 hb
  errSyntax := let ⟨tp, p, e⟩ := h.errSyntax; ⟨tp, p, var_stays gSyn e hb⟩
  errRange := let ⟨tp, p, e⟩ := h.errRange; ⟨tp, p, var_stays gRan e hb⟩

theorem Laid.alloc {w : World} (h : Laid w) (o : Obj) : Laid (w.alloc o) := h.below ((Below.refl _ _).alloc (Nat.le_refl _) o)
theorem Laid.drew {w : World} (h : Laid w) : Laid w.drew := h.below (Below.refl _ _).drew
theorem Laid.drewN {w : World} (h : Laid w) (n : Nat) : Laid (w.drewN n) := h.below (pw_below_drewN (Below.refl _ _) n)

/-- A new block that holds just these strings is a row of the call's own. -/
theorem R_made (w : World) (e : TypeId) (xs : List ByteArray) (hn : xs.length ≤ maxLen) :
    Kd.R Kd.string e (w.alloc (.cells (xs.map Value.string).toArray e)) w.heap.size (fun _ => True) (.slice (some ⟨w.heap.size, 0, none⟩) xs.length xs.length) xs := by
  refine ⟨fun _ _ => trivial, xs.map Value.string, ⟨by simp [Kd.string, Kd.scalar], .inr ⟨w.heap.size, xs.length, (xs.map Value.string).toArray, rfl, Nat.le_refl _, Array.getElem?_push_size, Nat.le_refl _, hn, by simp [Kd.string, Kd.scalar], ?_⟩⟩, by simp [Kd.string, Kd.scalar], fun j p hj => ?_⟩
  · simp only [Kd.string, Kd.scalar, Nat.mul_one]
    rw [List.take_of_length_le (by simp)]
  · simp only [Kd.string, Kd.scalar, Nat.mul_one]
    obtain ⟨hlt, rfl⟩ := List.getElem?_eq_some_iff.1 hj
    have hl2 : j < (xs.map Value.string).length := by simpa using hlt
    rw [List.drop_eq_getElem_cons hl2]
    simp

/-- The cells of a list of strings that is read. -/
theorem C_cells {w : World} {A : Option Addr} {xs : List ByteArray} (h : Kd.C Kd.string w A xs.length xs) (hp : 0 < xs.length) :
    ∃ bk o, A = some ⟨bk, o, none⟩ ∧ bk < w.heap.size ∧ ∀ (j : Nat) x, xs[j]? = some x → w.cell? ⟨bk, o + j, none⟩ = some (.string x) := by
  obtain ⟨ad, rfl, hc⟩ := h.2.2 hp
  have cellAt : ∀ (j : Nat) x, xs[j]? = some x → w.cell? (ad.add j) = some (.string x) := by
    intro j x hx
    obtain ⟨c, h1, h2, h3⟩ := hc j x hx
    have h2' : c = [Value.string x] := h2
    subst h2'
    have := h3 0 (.string x) rfl
    simpa [Kd.string, Kd.scalar] using this
  obtain ⟨b, o, sp⟩ := ad
  have h0 := cellAt 0 _ (List.getElem?_eq_getElem hp)
  have hs : sp = none := by
    cases sp with
    | none => rfl
    | some s =>
      simp only [Addr.add, if_true, World.cell?] at h0
      split at h0 <;> simp at h0
  subst hs
  refine ⟨b, o, rfl, ?_, fun j x hx => ?_⟩
  · have := World.block_lt_of_cell? w _ h0
    simpa [Addr.add] using this
  · have := cellAt j x hx
    rwa [show (⟨b, o, none⟩ : Addr).add j = ⟨b, o + j, none⟩ by unfold Addr.add; split <;> simp_all] at this

/-! ### strings.Split -/
theorem split_len (sep : ByteArray) (h1 : 1 ≤ sep.size) : ∀ (k : Nat) (s : ByteArray), Lib.countB s sep = k → (Lib.splitB sep 0 k s).length = k + 1
  | 0, _, _ => rfl
  | k + 1, s, hk => by
    by_cases hm : Lib.indexB s sep = -1
    · rw [Lib.countB_miss s sep hm] at hk
      omega
    · have hge : -1 ≤ Lib.indexB s sep := Lib.index_ge _ _
      obtain ⟨i, hi⟩ := Int.eq_ofNat_of_zero_le (show 0 ≤ Lib.indexB s sep by omega)
      rw [Lib.countB_hit s sep i h1 hi] at hk
      rw [Lib.splitB_hit sep 0 k s i hi, List.length_cons, split_len sep h1 k _ (by omega)]
def strings_Split.f (s sep : ByteArray) : Option (List ByteArray) :=
  if 1 ≤ sep.size ∧ s.size < 4294967281 then some (Lib.splitB sep 0 (Lib.countB s sep) s) else none
theorem strings_Split.calls (a0 a1 : ByteArray) (r : List ByteArray) (w : World) (hL : Laid w) (h : strings_Split.f a0 a1 = some r) :
    Calls Tryd.prog 50 #[.string a0, .string a1] w fun e w' => ∃ v0_ : Value, e = .returned (v0_) ∧ Kd.R Kd.string 9 w' w.heap.size (fun _ => True) v0_ r ∧ Below w.heap.size w w' := by
  unfold strings_Split.f at h
  split at h
  · rename_i hc
    obtain rfl := Option.some.inj h
    refine (Tryd.strings_Split_shaped a0 a1 w hL.shaped hc.2 hc.1).mono ?_
    rintro e w' ⟨rfl, rfl⟩
    have hl : (Lib.splitB a1 0 (Lib.countB a0 a1) a0).length = Lib.countB a0 a1 + 1 := split_len a1 hc.1 _ a0 rfl
    refine ⟨_, rfl, ?_, (Below.refl _ _).alloc (Nat.le_refl _) _⟩
    have hc2 : Lib.countB a0 a1 ≤ a0.size + 1 := by
      have := Lib.count_le a0.data.toList a1.data.toList
      rw [Array.length_toList] at this
      exact this
    have := R_made w 9 (Lib.splitB a1 0 (Lib.countB a0 a1) a0) (by rw [hl]; simp only [maxLen]; omega)
    rw [hl] at this
    exact this
  · cases h

/-! ### strings.Join -/
def strings_Join.f (l : List ByteArray) (sep : ByteArray) : Option ByteArray :=
  if l.length ≤ 140737488355328 ∧ (Lib.join (l.map (·.data.toList)) sep.data.toList).length ≤ 140737488355328 then some ⟨(Lib.join (l.map (·.data.toList)) sep.data.toList).toArray⟩ else none
theorem strings_Join.calls (A0 : Option Addr) (c0 : Nat) (l0 : List ByteArray) (a1 : ByteArray) (r : ByteArray) (w : World) (hr0 : Kd.C Kd.string w A0 l0.length l0) (hc0 : l0.length ≤ c0) (hL : Laid w) (h : strings_Join.f l0 a1 = some r) :
    Calls Tryd.prog 17 #[.slice A0 l0.length c0, .string a1] w fun e w' => e = .returned (.string r) ∧ Below w.heap.size w w' := by
  unfold strings_Join.f at h
  split at h
  · rename_i hb
    obtain rfl := Option.some.inj h
    by_cases hp : 0 < l0.length
    · obtain ⟨bk, o, rfl, hbk, hcell⟩ := C_cells hr0 hp
      exact Tryd.strings_Join bk o c0 l0 a1 w hcell hbk hb.1 hc0 hb.2
    · obtain rfl : l0 = [] := List.eq_nil_of_length_eq_zero (by omega)
      refine (Tryd.strings_Join_none A0 c0 a1 w).mono ?_
      rintro e w' ⟨rfl, rfl⟩
      exact ⟨rfl, Below.refl _ _⟩
  · cases h

/-! ### strconv.Itoa -/
def strconv_Itoa.f (n : Int) : Option ByteArray :=
  if -9223372036854775808 ≤ n ∧ n ≤ 9223372036854775807 then some ⟨(Lib.itoa n).toArray⟩ else none
theorem below_grows {B : Nat} {a W : World} (h : Below B a W) (hB : B ≤ W.heap.size) (os : Array Obj) : Below B a (Go.Sort.grow W os) :=
  h.trans ⟨rfl, rfl, rfl, by simp [Go.Sort.grow], fun k hk => by
    show (W.heap ++ os)[k]? = W.heap[k]?
    exact Array.getElem?_append_left (by omega)⟩
theorem strconv_Itoa.calls (a0 : Int) (r : ByteArray) (w : World) (hL : Laid w) (h : strconv_Itoa.f a0 = some r) :
    Calls Tryd.prog 18 #[.int .i64 a0] w fun e w' => e = .returned (.string r) ∧ Below w.heap.size w w' := by
  unfold strconv_Itoa.f at h
  split at h
  · rename_i hc
    obtain rfl := Option.some.inj h
    refine (Tryd.strconv_Itoa a0 hc.1 hc.2 w hL.pow10).mono ?_
    rintro e w' ⟨rfl, k, os, rfl⟩
    exact ⟨rfl, below_grows (pw_below_drewN (Below.refl _ _) k) (Nat.le_refl _) os⟩
  · cases h

/-! ### strings.IndexByte -/
def strings_IndexByte.f (s : ByteArray) (c : Int) : Option Int := some (Lib.indexByte s.data.toList c.toNat.toUInt8)
theorem strings_IndexByte.calls (a0 : ByteArray) (a1 : Int) (r : Int) (w : World) (hL : Laid w) (h : strings_IndexByte.f a0 a1 = some r) :
    Calls Tryd.prog 63 #[.string a0, .int .u8 a1] w fun e w' => e = .returned (.int .i64 r) ∧ Drawn0 w w' := by
  obtain rfl := Option.some.inj h
  refine (Tryd.strings_IndexByte a0 a1 w).mono ?_
  rintro e w' ⟨rfl, rfl⟩
  exact ⟨rfl, Drawn0.refl _⟩

end Go.Proofs.YtjamaamkmfdnaaaDoor
