/- Contract of parse.forms: the sixteen lines that there are; no condition. -/
import Derived.Test.YtjamaamkmfdnaaaDoorXx0
import Derived.Outline
namespace Go.Proofs.YtjamaamkmfdnaaaDoor
open Go.RowKit Go.Proofs.YtjamaamkmfdnaaaDoorW.PrintWords Go.Proofs.YtjamaamkmfdnaaaDoorW.PrintLast Go.Proofs.YtjamaamkmfdnaaaDoorW.PrintMore Go.Proofs.YtjamaamkmfdnaaaDoor.X

/-- All lines that there are, each with its command. -/
def allForms : List X.S97 := [
  ⟨⟨1, ⟨1, 0, 0, 0, 0, 0, 0⟩⟩, ⟨#[112, 114, 105, 111, 114, 105, 116, 121, 32, 78]⟩⟩,
  ⟨⟨1, ⟨2, 0, 0, 0, 0, 0, 0⟩⟩, ⟨#[97, 103, 101, 32, 78]⟩⟩,
  ⟨⟨1, ⟨3, 0, 0, 0, 0, 0, 0⟩⟩, ⟨#[100, 101, 108, 97, 121, 32, 78]⟩⟩,
  ⟨⟨1, ⟨4, 0, 1, 0, 0, 0, 0⟩⟩, ⟨#[112, 111, 114, 116, 32, 80, 32, 117, 112]⟩⟩,
  ⟨⟨1, ⟨4, 0, 0, 0, 0, 0, 0⟩⟩, ⟨#[112, 111, 114, 116, 32, 80, 32, 100, 111, 119, 110]⟩⟩,
  ⟨⟨1, ⟨5, 0, 0, 0, 0, 0, 0⟩⟩, ⟨#[112, 111, 114, 116, 32, 80, 32, 99, 111, 115, 116, 32, 78]⟩⟩,
  ⟨⟨1, ⟨6, 0, 0, 0, 0, 0, 0⟩⟩, ⟨#[112, 111, 114, 116, 32, 80, 32, 112, 118, 105, 100, 32, 78]⟩⟩,
  ⟨⟨1, ⟨7, 0, 0, 0, 0, 0, 0⟩⟩, ⟨#[118, 108, 97, 110, 32, 86, 32, 109, 101, 109, 98, 101, 114, 115, 32, 77, 32, 116, 97, 103, 103, 101, 100, 32, 84]⟩⟩,
  ⟨⟨1, ⟨8, 0, 0, 0, 0, 0, 0⟩⟩, ⟨#[110, 111, 32, 118, 108, 97, 110, 32, 86]⟩⟩,
  ⟨⟨1, ⟨9, 0, 0, 0, 0, 0, 0⟩⟩, ⟨#[115, 116, 97, 116, 105, 99, 32, 65, 32, 118, 108, 97, 110, 32, 86, 32, 112, 111, 114, 116, 32, 80]⟩⟩,
  ⟨⟨1, ⟨10, 0, 0, 0, 0, 0, 0⟩⟩, ⟨#[110, 111, 32, 115, 116, 97, 116, 105, 99, 32, 65, 32, 118, 108, 97, 110, 32, 86]⟩⟩,
  ⟨⟨2, ⟨0, 0, 0, 0, 0, 0, 0⟩⟩, ⟨#[99, 111, 109, 109, 105, 116]⟩⟩,
  ⟨⟨3, ⟨0, 0, 0, 0, 0, 0, 0⟩⟩, ⟨#[114, 111, 108, 108, 98, 97, 99, 107]⟩⟩,
  ⟨⟨4, ⟨0, 0, 0, 0, 0, 0, 0⟩⟩, ⟨#[115, 104, 111, 119, 32, 99, 111, 110, 102, 105, 103]⟩⟩,
  ⟨⟨5, ⟨0, 0, 0, 0, 0, 0, 0⟩⟩, ⟨#[115, 104, 111, 119, 32, 112, 111, 114, 116, 115]⟩⟩,
  ⟨⟨6, ⟨0, 0, 0, 0, 0, 0, 0⟩⟩, ⟨#[115, 104, 111, 119, 32, 116, 97, 98, 108, 101]⟩⟩]
def parse_forms.f : Option (List X.S97) := some allForms

set_option linter.unusedVariables false
set_option maxHeartbeats 2000000 in
theorem edit_calls (k n : Int) (s : ByteArray) (w : World) :
    Calls Tryd.prog 49 #[.int .i64 k, .int .i64 n, .string s] w fun e w' => e = .returned (.agg #[.int .i64 1, .int .i64 k, .int .i64 0, .int .i64 n, .int .i64 0, .int .u8 0, .int .u8 0, .int .u64 0, .string s]) ∧ Below w.heap.size w w' := by
  go_enter Tryd.func49, Tryd.ntmps49
  go_wp2
  exact bodyPost_ret (v := .agg #[.int .i64 1, .int .i64 k, .int .i64 0, .int .i64 n, .int .i64 0, .int .u8 0, .int .u8 0, .int .u64 0, .string s]) (by simp [results, Tryd.results49, go_sem]) rfl ⟨rfl, by repeat (first | exact Below.refl _ _ | apply below_alloc | (refine below_set ?_ ?_; rotate_left))⟩

set_option maxHeartbeats 4000000 in
set_option maxRecDepth 100000 in
theorem forms_walk (w : World) :
    Calls Tryd.prog 37 #[] w fun e w' => ∃ W1 : World, e = .returned (.slice (some ⟨W1.heap.size, 0, none⟩) 16 16) ∧ Below w.heap.size w W1 ∧
      w' = W1.alloc (.cells (allForms.flatMap fun x => [.int .i64 x.f0.f0, .int .i64 x.f0.f1.f0, .int .i64 x.f0.f1.f1, .int .i64 x.f0.f1.f2, .int .i64 x.f0.f1.f3, .int .u8 x.f0.f1.f4, .int .u8 x.f0.f1.f5, .int .u64 x.f0.f1.f6, .string x.f1]).toArray 97) := by
  have HB := Aside0.mk (Below.refl w.heap.size w)
  go_enter Tryd.func37, Tryd.ntmps37
  go_wp2_with (go_at_call 49; (with_reducible refine (edit_calls _ _ _ _).mono ?_); rintro e wn ⟨rfl, hbn⟩; replace HB := Aside0.mk (below_step HB.out hbn); clear hbn)
  go_ret
  exact ⟨_, rfl, HB.out, rfl⟩

theorem reps_flat {α : Type} {R : α → List Value → Prop} {sz : Nat} (enc : α → List Value) (hr : ∀ x, R x (enc x)) (hl : ∀ x, (enc x).length = sz) : ∀ (xs ps : List α) (cs : List Value), Reps R sz ps cs → Reps R sz (ps ++ xs) (cs ++ xs.flatMap enc)
  | [], ps, cs, h => by simpa using h
  | x :: xs, ps, cs, h => by
    have := reps_flat enc hr hl xs (ps ++ [x]) (cs ++ enc x) (h.snoc (hr x) (hl x))
    simpa using this

theorem R_alloc_flat {α : Type} (d : Kd α) (e : Nat) (W : World) (base : Nat) (hb : base ≤ W.heap.size) (enc : α → List Value) (hr : ∀ (w : World) (ok : Nat → Prop) x, d.M w base ok x (enc x)) (hl : ∀ x, (enc x).length = d.sz) (xs : List α) (n : Nat) (hn : xs.length = n) (hm : n ≤ maxLen) :
    Kd.R d e (W.alloc (.cells (xs.flatMap enc).toArray e)) base (fun _ => True) (.slice (some ⟨W.heap.size, 0, none⟩) n n) xs := by
  subst hn
  refine ⟨fun _ _ => trivial, xs.flatMap enc, ?_, ?_⟩
  · have hlen : (xs.flatMap enc).length = xs.length * d.sz := by
      have := (reps_flat (R := fun _ _ => True) enc (fun _ => trivial) hl xs [] [] ⟨by simp, fun j p h => by simp at h⟩).1
      simpa using this
    have h2 := World.ownsRow_lit (base := base) (e := e) (size := d.sz) W (xs.flatMap enc).toArray xs.length hb hm (by simpa using hlen)
    simpa using h2
  · have := reps_flat (R := d.M (W.alloc (.cells (xs.flatMap enc).toArray e)) base (fun k => True ∧ some k ≠ (Value.slice (some ⟨W.heap.size, 0, none⟩) xs.length xs.length).ownBlock)) enc (fun x => hr _ _ x) hl xs [] [] ⟨by simp, fun j p h => by simp at h⟩
    simpa using this

theorem parse_forms.calls (r : List X.S97) (w : World) (hL : Laid w) (h : parse_forms.f = some r) :
    Calls Tryd.prog 37 #[] w fun e w' => ∃ v0_ : Value, e = .returned (v0_) ∧ Kd.R X.k97 97 w' w.heap.size (fun _ => True) v0_ r ∧ Below w.heap.size w w' := by
  obtain rfl := Option.some.inj h
  refine (forms_walk w).mono ?_
  rintro e w' ⟨W1, rfl, hB, rfl⟩
  exact ⟨_, rfl, R_alloc_flat X.k97 97 W1 w.heap.size hB.size _ (fun W ok x => X.k97_mkM W _ ok x) (fun x => rfl) allForms 16 rfl (by decide), hB.alloc hB.size _⟩
end Go.Proofs.YtjamaamkmfdnaaaDoor
