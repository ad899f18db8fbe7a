/- Contract of words.Num: the number from 0 to 2^32 - 1 whose decimal text the word is, or that there is none; condition: the word has at most 2^48 bytes. -/
import Derived.Test.YtjamaamkmfdnaaaDoorBase
import Derived.Outline
import Derived.WalkLawsBesides
namespace Go.Proofs.YtjamaamkmfdnaaaDoor
open Go.RowKit Go.Proofs.YtjamaamkmfdnaaaDoorW.PrintWords

theorem text_any (n : Int) (h0 : -9223372036854775808 ≤ n) (h1 : n ≤ 9223372036854775807) (w : World) (hL : Laid w) :
    Calls Tryd.prog 9 #[.int .i64 n] w fun e w' => e = .returned (.string ⟨(Lib.itoa n).toArray⟩) ∧ Below w.heap.size w w' := by
  go_enter Tryd.func9, Tryd.ntmps9
  go_wp2_with (go_at_call 18; refine (strconv_Itoa.calls n _ w hL (if_pos ⟨h0, h1⟩)).mono ?_; rintro e w' ⟨rfl, hb⟩)
  go_ret
  exact ⟨rfl, hb⟩

/-- What words.Num answers. -/
def words_Num.g (s : ByteArray) : Int × Bool :=
  match Lib.atoiAll s.data.toList with
  | .ok v => if 0 ≤ v ∧ v ≤ 4294967295 ∧ Lib.itoa v = s.data.toList then (v, true) else (0, false)
  | _ => (0, false)
def words_Num.f (s : ByteArray) : Option (Int × Bool) := if s.size ≤ 281474976710656 then some (words_Num.g s) else none

theorem num_bad (s : ByteArray) (v : Int) (T : TypeId) (w : World)
    (hc : Calls Tryd.prog 62 #[.string s] w fun e w' => ∃ N, e = .returned (.tuple #[.int .i64 v, .iface T (.pointer (some ⟨N, 0, none⟩))]) ∧ Below w.heap.size w w') :
    Calls Tryd.prog 56 #[.string s] w fun e w' => e = .returned (.tuple #[.int .i64 0, .bool false]) ∧ Below w.heap.size w w' := by
  have HC := Lib.hid hc
  clear hc
  go_enter Tryd.func56, Tryd.ntmps56
  go_wp2_with (go_at_call 62; refine HC.out.mono ?_; rintro e w' ⟨N, rfl, hb⟩)
  go_ret2
  exact ⟨rfl, hb⟩
theorem atoi_ok (s : ByteArray) (hlim : s.size ≤ 281474976710656) (v : Int) (w : World) (h : Lib.atoiAll s.data.toList = .ok v) :
    Calls Tryd.prog 62 #[.string s] w fun e w' => e = .returned (.tuple #[.int .i64 v, .nilIface]) ∧ Below w.heap.size w w' := by
  refine (Tryd.strconv_Atoi_ok s (by omega) v h w).mono ?_
  rintro e w' ⟨rfl, rfl | ⟨t, rfl⟩⟩
  · exact ⟨rfl, Below.refl _ _⟩
  · exact ⟨rfl, Lib.bytesWorld_below _ _ _⟩
theorem num_low (s : ByteArray) (hlim : s.size ≤ 281474976710656) (v : Int) (w : World) (h : Lib.atoiAll s.data.toList = .ok v) (hv : v < 0) :
    Calls Tryd.prog 56 #[.string s] w fun e w' => e = .returned (.tuple #[.int .i64 0, .bool false]) ∧ Below w.heap.size w w' := by
  have H := Lib.hid h
  clear h
  go_enter Tryd.func56, Tryd.ntmps56
  go_wp2_with (go_at_call 62; refine (atoi_ok s hlim v _ H.out).mono ?_; rintro e w' ⟨rfl, hb⟩)
  go_ret2
  exact ⟨rfl, hb⟩
theorem num_high (s : ByteArray) (hlim : s.size ≤ 281474976710656) (v : Int) (w : World) (h : Lib.atoiAll s.data.toList = .ok v) (h0 : 0 ≤ v) (hv : 4294967295 < v) :
    Calls Tryd.prog 56 #[.string s] w fun e w' => e = .returned (.tuple #[.int .i64 0, .bool false]) ∧ Below w.heap.size w w' := by
  have H := Lib.hid h
  clear h
  go_enter Tryd.func56, Tryd.ntmps56
  go_wp2_with (go_at_call 62; refine (atoi_ok s hlim v _ H.out).mono ?_; rintro e w' ⟨rfl, hb⟩)
  go_ret2
  exact ⟨rfl, hb⟩
theorem num_eq (s : ByteArray) (hlim : s.size ≤ 281474976710656) (v : Int) (w : World) (hL : Laid w) (h : Lib.atoiAll s.data.toList = .ok v) (h0 : 0 ≤ v) (h1 : v ≤ 4294967295) (he : Lib.itoa v = s.data.toList) :
    Calls Tryd.prog 56 #[.string s] w fun e w' => e = .returned (.tuple #[.int .i64 v, .bool true]) ∧ Below w.heap.size w w' := by
  have H := Lib.hid h
  clear h
  have hs : (⟨(Lib.itoa v).toArray⟩ : ByteArray) = s := by rw [he]
  have HS := Lib.hid hs
  clear hs he
  go_enter Tryd.func56, Tryd.ntmps56
  go_wp2_with (first
    | (go_at_call 62; refine (atoi_ok s hlim v _ H.out).mono ?_; rintro e w1 ⟨rfl, hb⟩)
    | (go_at_call 9; refine (text_any v (by omega) (by omega) _ (hL.below hb)).mono ?_; rintro e w2 ⟨rfl, hb2⟩; rw [HS.out]))
  go_ret2
  exact ⟨rfl, below_then hb hb.size hb2⟩
theorem num_ne (s : ByteArray) (hlim : s.size ≤ 281474976710656) (v : Int) (w : World) (hL : Laid w) (h : Lib.atoiAll s.data.toList = .ok v) (h0 : 0 ≤ v) (h1 : v ≤ 4294967295) (he : ¬ Lib.itoa v = s.data.toList) :
    Calls Tryd.prog 56 #[.string s] w fun e w' => e = .returned (.tuple #[.int .i64 0, .bool false]) ∧ Below w.heap.size w w' := by
  have H := Lib.hid h
  clear h
  obtain ⟨x, hx⟩ : ∃ x : ByteArray, (⟨(Lib.itoa v).toArray⟩ : ByteArray) = x := ⟨_, rfl⟩
  have hne : (x.toList == s.toList) = false := by
    rw [beq_eq_false_iff_ne]
    intro e
    apply he
    have e2 : x.data.toList = s.data.toList := by rw [← Lib.toList_data x, ← Lib.toList_data s, e]
    rw [← e2, ← hx]
  have HX := Lib.hid hx
  clear hx he
  go_enter Tryd.func56, Tryd.ntmps56
  go_wp2_with (first
    | (go_at_call 62; refine (atoi_ok s hlim v _ H.out).mono ?_; rintro e w1 ⟨rfl, hb⟩)
    | (go_at_call 9; refine (text_any v (by omega) (by omega) _ (hL.below hb)).mono ?_; rintro e w2 ⟨rfl, hb2⟩; rw [HX.out]))
  go_ret2
  exact ⟨rfl, below_then hb hb.size hb2⟩

theorem words_Num.calls (a0 : ByteArray) (r1 : Int) (r2 : Bool) (w : World) (hL : Laid w) (h : words_Num.f a0 = some (r1, r2)) :
    Calls Tryd.prog 56 #[.string a0] w fun e w' => e = .returned (.tuple #[.int .i64 r1, .bool r2]) ∧ Below w.heap.size w w' := by
  unfold words_Num.f at h
  split at h
  · rename_i hlim
    have hg := Option.some.inj h
    unfold words_Num.g at hg
    cases hs : Lib.atoiAll a0.data.toList
    · rw [hs] at hg
      simp only at hg
      rename_i v
      by_cases h0 : 0 ≤ v
      · by_cases h1 : v ≤ 4294967295
        · by_cases he : Lib.itoa v = a0.data.toList
          · rw [if_pos ⟨h0, h1, he⟩] at hg
            cases hg
            exact num_eq a0 hlim _ w hL hs h0 h1 he
          · rw [if_neg (fun x => he x.2.2)] at hg
            cases hg
            exact num_ne a0 hlim _ w hL hs h0 h1 he
        · rw [if_neg (fun x => h1 x.2.1)] at hg
          cases hg
          exact num_high a0 hlim v w hs h0 (by omega)
      · rw [if_neg (fun x => h0 x.1)] at hg
        cases hg
        exact num_low a0 hlim v w hs (by omega)
    · rw [hs] at hg
      cases hg
      obtain ⟨tp, p, hv⟩ := hL.errSyntax
      exact num_bad a0 0 (Tryd.laysC172_ren.t 168) w ((Any.strconv_Atoi_syntax_var Tryd.laysC172 a0 hlim hs tp p w hv).mono fun e w' ⟨N, he, _, _, hb⟩ => ⟨N, he, hb⟩)
    · rw [hs] at hg
      cases hg
      obtain ⟨tp, p, hv⟩ := hL.errRange
      exact num_bad a0 (Lib.atoiSat a0.data.toList) (Tryd.laysC172_ren.t 168) w ((Any.strconv_Atoi_range_var Tryd.laysC172 a0 hlim hs tp p w hv).mono fun e w' ⟨N, he, _, _, hb⟩ => ⟨N, he, hb⟩)
  · cases h
end Go.Proofs.YtjamaamkmfdnaaaDoor
