-- WRITTEN BY A PROGRAM OF THIS CLAIM'S SESSION (xprint.py, over the kit's print): functions, contracts. Lean checks it.
import Derived.Test.YtjamaamkmfdnaaaDoorProg
import Derived.Below
import Derived.Deep.Draws
import Derived.Deep.AppendLies
import Derived.Maps.AppendAt
import Derived.OwnWalk
import Derived.Laws.BytesArg
import Derived.Laws.MakeOwn
import Derived.Laws.OwnMore
import Derived.Deep.OwnRows
import Derived.Tactics
import Derived.Lib.ConvBytes
import Derived.Laws.Slices
import Derived.WalkKit
import Derived.KernelRfl
import Derived.RowKit3
import Derived.Deep.LoopGhost
import Derived.Deep.QuietTactic
import Derived.BigQuiet
import Derived.WideLaws
import Derived.Deep.DeepCutAuto
import Derived.Deep.CutBlock
import Derived.Deep.RegionHeld3
import Derived.Laws.Rows
import Derived.Lib.AppendStr
import Derived.ArgAppend
import Derived.Laws.IdiomCopy
import Derived.OrdersHeld
import Derived.Laws.BitsLemmas
import Derived.RowKit
import Derived.Test.YtjamaamkmfdnaaaDoorMacText
import Derived.Test.YtjamaamkmfdnaaaDoorNum
import Derived.Test.YtjamaamkmfdnaaaDoorFmtU
import Derived.Test.YtjamaamkmfdnaaaDoorWWords
import Derived.Test.YtjamaamkmfdnaaaDoorWLast
import Derived.Test.YtjamaamkmfdnaaaDoorWTab
import Derived.Test.YtjamaamkmfdnaaaDoorWFour
import Derived.Test.YtjamaamkmfdnaaaDoorWQPut
import Derived.Test.YtjamaamkmfdnaaaDoorWApart
import Derived.Test.YtjamaamkmfdnaaaDoorWArr
import Derived.Test.YtjamaamkmfdnaaaDoorWZeros
import Derived.Test.YtjamaamkmfdnaaaDoorWFoot
import Derived.Test.YtjamaamkmfdnaaaDoorWKept
import Derived.Test.YtjamaamkmfdnaaaDoorWShare
import Derived.Test.YtjamaamkmfdnaaaDoorWN
import Derived.Test.YtjamaamkmfdnaaaDoorWFootNe
import Derived.Test.YtjamaamkmfdnaaaDoorWAt
import Derived.Test.YtjamaamkmfdnaaaDoorWEqStruct
import Derived.Test.YtjamaamkmfdnaaaDoorWRepsOne
import Derived.Test.YtjamaamkmfdnaaaDoorWInv
import Derived.Test.YtjamaamkmfdnaaaDoorWInvWords
import Derived.Test.YtjamaamkmfdnaaaDoorWGuard
import Derived.Test.YtjamaamkmfdnaaaDoorWNEv
import Derived.Test.YtjamaamkmfdnaaaDoorWMore
namespace Go.Proofs.YtjamaamkmfdnaaaDoor.X
open Go.RowKit Go.Proofs.YtjamaamkmfdnaaaDoorW.PrintWords Go.Proofs.YtjamaamkmfdnaaaDoorW.PrintLast Go.Proofs.YtjamaamkmfdnaaaDoorW.PrintMore
attribute [local go_sem] max2_int min2_int max_two min_two max_three min_three max_four min_four   -- for this text's walks alone
set_option linter.unusedVariables false
set_option linter.unusedSimpArgs false



def errW : Option Int → Value
  | none => .nilIface
  | some c => .iface 0 (.int .i64 c)
theorem errW_none : errW none = .nilIface := rfl
theorem errW_some (c : Int) : errW (some c) = .iface 0 (.int .i64 c) := rfl

theorem info5 : (Tryd.prog.info? 5).map (fun i => (i.zero, i.size, i.bytes)) = some (some (.int .u8 0), 1, 1) := by kernel_rfl
theorem info9 : (Tryd.prog.info? 9).map (fun i => (i.zero, i.size, i.bytes)) = some (some (.string ⟨#[]⟩), 1, 16) := by kernel_rfl
theorem info53 : (Tryd.prog.info? 53).map (fun i => (i.zero, i.size, i.bytes)) = some (some (.agg #[(.int .u64 0), (.int .i64 0), (.int .i64 0), (.int .i64 0)]), 4, 32) := by kernel_rfl
theorem info61 : (Tryd.prog.info? 61).map (fun i => (i.zero, i.size, i.bytes)) = some (some (.agg #[(.int .i64 0), (.int .u8 0), (.int .u8 0)]), 3, 16) := by kernel_rfl
theorem info63 : (Tryd.prog.info? 63).map (fun i => (i.zero, i.size, i.bytes)) = some (some (.agg #[(.bool false), (.int .u32 0), (.int .i64 0)]), 3, 16) := by kernel_rfl
theorem info65 : (Tryd.prog.info? 65).map (fun i => (i.zero, i.size, i.bytes)) = some (some (.agg #[(.int .i64 0), (.int .i64 0), (.int .i64 0), (.int .i64 0), (.int .u8 0), (.int .u8 0), (.int .u64 0)]), 7, 48) := by kernel_rfl
-- the values' own types
/-! #### struct type 65 -/
structure S65 where
  f0 : Int
  f1 : Int
  f2 : Int
  f3 : Int
  f4 : Int
  f5 : Int
  f6 : Int
def z65 : S65 := ⟨(0 : Int), (0 : Int), (0 : Int), (0 : Int), (0 : Int), (0 : Int), (0 : Int)⟩
def k65 : Kd S65 := Kd.iso (Kd.pair (Kd.int .i64) (Kd.pair (Kd.int .i64) (Kd.pair (Kd.int .i64) (Kd.pair (Kd.int .i64) (Kd.pair (Kd.int .u8) (Kd.pair (Kd.int .u8) (Kd.int .u64))))))) (fun x : S65 => (x.f0, x.f1, x.f2, x.f3, x.f4, x.f5, x.f6))
theorem k65_open {w : World} {x : S65} {cs : List Value} (h : k65.K w x cs) : cs = [.int .i64 x.f0, .int .i64 x.f1, .int .i64 x.f2, .int .i64 x.f3, .int .u8 x.f4, .int .u8 x.f5, .int .u64 x.f6] := by
  obtain ⟨_, _, rfl, rfl, ⟨_, _, rfl, rfl, ⟨_, _, rfl, rfl, ⟨_, _, rfl, rfl, ⟨_, _, rfl, rfl, ⟨_, _, rfl, rfl, rfl⟩⟩⟩⟩⟩⟩ := h
  exact rfl
theorem k65_openM {w : World} {base : Nat} {ok : Nat → Prop} {x : S65} {cs : List Value} (h : k65.M w base ok x cs) : cs = [.int .i64 x.f0, .int .i64 x.f1, .int .i64 x.f2, .int .i64 x.f3, .int .u8 x.f4, .int .u8 x.f5, .int .u64 x.f6] := by
  obtain ⟨_, _, rfl, rfl, ⟨_, _, rfl, rfl, ⟨_, _, rfl, rfl, ⟨_, _, rfl, rfl, ⟨_, _, rfl, rfl, ⟨_, _, rfl, rfl, rfl⟩⟩⟩⟩⟩⟩ := h
  exact rfl
theorem k65_mk (w : World) (x : S65)  : k65.K w x [.int .i64 x.f0, .int .i64 x.f1, .int .i64 x.f2, .int .i64 x.f3, .int .u8 x.f4, .int .u8 x.f5, .int .u64 x.f6] := ⟨[.int .i64 x.f0], [.int .i64 x.f1, .int .i64 x.f2, .int .i64 x.f3, .int .u8 x.f4, .int .u8 x.f5, .int .u64 x.f6], rfl, rfl, ⟨[.int .i64 x.f1], [.int .i64 x.f2, .int .i64 x.f3, .int .u8 x.f4, .int .u8 x.f5, .int .u64 x.f6], rfl, rfl, ⟨[.int .i64 x.f2], [.int .i64 x.f3, .int .u8 x.f4, .int .u8 x.f5, .int .u64 x.f6], rfl, rfl, ⟨[.int .i64 x.f3], [.int .u8 x.f4, .int .u8 x.f5, .int .u64 x.f6], rfl, rfl, ⟨[.int .u8 x.f4], [.int .u8 x.f5, .int .u64 x.f6], rfl, rfl, ⟨[.int .u8 x.f5], [.int .u64 x.f6], rfl, rfl, rfl⟩⟩⟩⟩⟩⟩
theorem k65_mkM (w : World) (base : Nat) (ok : Nat → Prop) (x : S65)  : k65.M w base ok x [.int .i64 x.f0, .int .i64 x.f1, .int .i64 x.f2, .int .i64 x.f3, .int .u8 x.f4, .int .u8 x.f5, .int .u64 x.f6] := ⟨[.int .i64 x.f0], [.int .i64 x.f1, .int .i64 x.f2, .int .i64 x.f3, .int .u8 x.f4, .int .u8 x.f5, .int .u64 x.f6], rfl, rfl, ⟨[.int .i64 x.f1], [.int .i64 x.f2, .int .i64 x.f3, .int .u8 x.f4, .int .u8 x.f5, .int .u64 x.f6], rfl, rfl, ⟨[.int .i64 x.f2], [.int .i64 x.f3, .int .u8 x.f4, .int .u8 x.f5, .int .u64 x.f6], rfl, rfl, ⟨[.int .i64 x.f3], [.int .u8 x.f4, .int .u8 x.f5, .int .u64 x.f6], rfl, rfl, ⟨[.int .u8 x.f4], [.int .u8 x.f5, .int .u64 x.f6], rfl, rfl, ⟨[.int .u8 x.f5], [.int .u64 x.f6], rfl, rfl, rfl⟩⟩⟩⟩⟩⟩
def rd_T65 (xs : List S65) (i : Int) : S65 := xs.getD i.toNat z65
theorem at_T65 {w : World} {A : Option Addr} {n : Nat} {xs : List S65} (h : Kd.C k65 w A n xs) (i : Int) (h0 : 0 ≤ i) (h1 : i < n) : ∃ ad , A = some ad ∧ w.cell? (ad.add (i.toNat * 7)) = some (.int .i64 (rd_T65 xs i).f0) ∧ w.cell? ⟨(ad.add (i.toNat * 7)).block, (ad.add (i.toNat * 7)).off + 1, none⟩ = some (.int .i64 (rd_T65 xs i).f1) ∧ w.cell? ⟨(ad.add (i.toNat * 7)).block, (ad.add (i.toNat * 7)).off + 2, none⟩ = some (.int .i64 (rd_T65 xs i).f2) ∧ w.cell? ⟨(ad.add (i.toNat * 7)).block, (ad.add (i.toNat * 7)).off + 3, none⟩ = some (.int .i64 (rd_T65 xs i).f3) ∧ w.cell? ⟨(ad.add (i.toNat * 7)).block, (ad.add (i.toNat * 7)).off + 4, none⟩ = some (.int .u8 (rd_T65 xs i).f4) ∧ w.cell? ⟨(ad.add (i.toNat * 7)).block, (ad.add (i.toNat * 7)).off + 5, none⟩ = some (.int .u8 (rd_T65 xs i).f5) ∧ w.cell? ⟨(ad.add (i.toNat * 7)).block, (ad.add (i.toNat * 7)).off + 6, none⟩ = some (.int .u64 (rd_T65 xs i).f6) := by
  obtain ⟨ad, c, e, _, hK, hc0⟩ := Kd.C_get h z65 i h0 h1
  have hc : ∀ j u, c[j]? = some u → w.cell? (ad.add (i.toNat * 7 + j)) = some u := hc0
  obtain rfl := k65_open hK
  exact ⟨ad, e, hc 0 _ rfl, by rw [← add_field _ _ 1 (by omega)]; exact hc 1 _ rfl, by rw [← add_field _ _ 2 (by omega)]; exact hc 2 _ rfl, by rw [← add_field _ _ 3 (by omega)]; exact hc 3 _ rfl, by rw [← add_field _ _ 4 (by omega)]; exact hc 4 _ rfl, by rw [← add_field _ _ 5 (by omega)]; exact hc 5 _ rfl, by rw [← add_field _ _ 6 (by omega)]; exact hc 6 _ rfl⟩

/-! #### struct type 86 -/
structure S86 where
  f0 : Int
  f1 : S65
def z86 : S86 := ⟨(0 : Int), z65⟩
def k86 : Kd S86 := Kd.iso (Kd.pair (Kd.int .i64) k65) (fun x : S86 => (x.f0, x.f1))
theorem k86_open {w : World} {x : S86} {cs : List Value} (h : k86.K w x cs) : cs = [.int .i64 x.f0, .int .i64 x.f1.f0, .int .i64 x.f1.f1, .int .i64 x.f1.f2, .int .i64 x.f1.f3, .int .u8 x.f1.f4, .int .u8 x.f1.f5, .int .u64 x.f1.f6] := by
  obtain ⟨_, _, rfl, rfl, s1⟩ := h
  obtain rfl := k65_open s1
  exact rfl
theorem k86_openM {w : World} {base : Nat} {ok : Nat → Prop} {x : S86} {cs : List Value} (h : k86.M w base ok x cs) : cs = [.int .i64 x.f0, .int .i64 x.f1.f0, .int .i64 x.f1.f1, .int .i64 x.f1.f2, .int .i64 x.f1.f3, .int .u8 x.f1.f4, .int .u8 x.f1.f5, .int .u64 x.f1.f6] := by
  obtain ⟨_, _, rfl, rfl, s1⟩ := h
  obtain rfl := k65_openM s1
  exact rfl
theorem k86_mk (w : World) (x : S86)  : k86.K w x [.int .i64 x.f0, .int .i64 x.f1.f0, .int .i64 x.f1.f1, .int .i64 x.f1.f2, .int .i64 x.f1.f3, .int .u8 x.f1.f4, .int .u8 x.f1.f5, .int .u64 x.f1.f6] := ⟨[.int .i64 x.f0], [.int .i64 x.f1.f0, .int .i64 x.f1.f1, .int .i64 x.f1.f2, .int .i64 x.f1.f3, .int .u8 x.f1.f4, .int .u8 x.f1.f5, .int .u64 x.f1.f6], rfl, rfl, (k65_mk w x.f1 )⟩
theorem k86_mkM (w : World) (base : Nat) (ok : Nat → Prop) (x : S86)  : k86.M w base ok x [.int .i64 x.f0, .int .i64 x.f1.f0, .int .i64 x.f1.f1, .int .i64 x.f1.f2, .int .i64 x.f1.f3, .int .u8 x.f1.f4, .int .u8 x.f1.f5, .int .u64 x.f1.f6] := ⟨[.int .i64 x.f0], [.int .i64 x.f1.f0, .int .i64 x.f1.f1, .int .i64 x.f1.f2, .int .i64 x.f1.f3, .int .u8 x.f1.f4, .int .u8 x.f1.f5, .int .u64 x.f1.f6], rfl, rfl, (k65_mkM w base ok x.f1 )⟩
def rd_T86 (xs : List S86) (i : Int) : S86 := xs.getD i.toNat z86
theorem at_T86 {w : World} {A : Option Addr} {n : Nat} {xs : List S86} (h : Kd.C k86 w A n xs) (i : Int) (h0 : 0 ≤ i) (h1 : i < n) : ∃ ad , A = some ad ∧ w.cell? (ad.add (i.toNat * 8)) = some (.int .i64 (rd_T86 xs i).f0) ∧ w.cell? ⟨(ad.add (i.toNat * 8)).block, (ad.add (i.toNat * 8)).off + 1, none⟩ = some (.int .i64 (rd_T86 xs i).f1.f0) ∧ w.cell? ⟨(ad.add (i.toNat * 8)).block, (ad.add (i.toNat * 8)).off + 2, none⟩ = some (.int .i64 (rd_T86 xs i).f1.f1) ∧ w.cell? ⟨(ad.add (i.toNat * 8)).block, (ad.add (i.toNat * 8)).off + 3, none⟩ = some (.int .i64 (rd_T86 xs i).f1.f2) ∧ w.cell? ⟨(ad.add (i.toNat * 8)).block, (ad.add (i.toNat * 8)).off + 4, none⟩ = some (.int .i64 (rd_T86 xs i).f1.f3) ∧ w.cell? ⟨(ad.add (i.toNat * 8)).block, (ad.add (i.toNat * 8)).off + 5, none⟩ = some (.int .u8 (rd_T86 xs i).f1.f4) ∧ w.cell? ⟨(ad.add (i.toNat * 8)).block, (ad.add (i.toNat * 8)).off + 6, none⟩ = some (.int .u8 (rd_T86 xs i).f1.f5) ∧ w.cell? ⟨(ad.add (i.toNat * 8)).block, (ad.add (i.toNat * 8)).off + 7, none⟩ = some (.int .u64 (rd_T86 xs i).f1.f6) := by
  obtain ⟨ad, c, e, _, hK, hc0⟩ := Kd.C_get h z86 i h0 h1
  have hc : ∀ j u, c[j]? = some u → w.cell? (ad.add (i.toNat * 8 + j)) = some u := hc0
  obtain rfl := k86_open hK
  exact ⟨ad, e, hc 0 _ rfl, by rw [← add_field _ _ 1 (by omega)]; exact hc 1 _ rfl, by rw [← add_field _ _ 2 (by omega)]; exact hc 2 _ rfl, by rw [← add_field _ _ 3 (by omega)]; exact hc 3 _ rfl, by rw [← add_field _ _ 4 (by omega)]; exact hc 4 _ rfl, by rw [← add_field _ _ 5 (by omega)]; exact hc 5 _ rfl, by rw [← add_field _ _ 6 (by omega)]; exact hc 6 _ rfl, by rw [← add_field _ _ 7 (by omega)]; exact hc 7 _ rfl⟩

/-! #### struct type 97 -/
structure S97 where
  f0 : S86
  f1 : ByteArray
def z97 : S97 := ⟨z86, (⟨#[]⟩ : ByteArray)⟩
def k97 : Kd S97 := Kd.iso (Kd.pair k86 Kd.string) (fun x : S97 => (x.f0, x.f1))
theorem k97_open {w : World} {x : S97} {cs : List Value} (h : k97.K w x cs) : cs = [.int .i64 x.f0.f0, .int .i64 x.f0.f1.f0, .int .i64 x.f0.f1.f1, .int .i64 x.f0.f1.f2, .int .i64 x.f0.f1.f3, .int .u8 x.f0.f1.f4, .int .u8 x.f0.f1.f5, .int .u64 x.f0.f1.f6, .string x.f1] := by
  obtain ⟨_, _, rfl, s0, rfl⟩ := h
  obtain rfl := k86_open s0
  exact rfl
theorem k97_openM {w : World} {base : Nat} {ok : Nat → Prop} {x : S97} {cs : List Value} (h : k97.M w base ok x cs) : cs = [.int .i64 x.f0.f0, .int .i64 x.f0.f1.f0, .int .i64 x.f0.f1.f1, .int .i64 x.f0.f1.f2, .int .i64 x.f0.f1.f3, .int .u8 x.f0.f1.f4, .int .u8 x.f0.f1.f5, .int .u64 x.f0.f1.f6, .string x.f1] := by
  obtain ⟨_, _, rfl, s0, rfl⟩ := h
  obtain rfl := k86_openM s0
  exact rfl
theorem k97_mk (w : World) (x : S97)  : k97.K w x [.int .i64 x.f0.f0, .int .i64 x.f0.f1.f0, .int .i64 x.f0.f1.f1, .int .i64 x.f0.f1.f2, .int .i64 x.f0.f1.f3, .int .u8 x.f0.f1.f4, .int .u8 x.f0.f1.f5, .int .u64 x.f0.f1.f6, .string x.f1] := ⟨[.int .i64 x.f0.f0, .int .i64 x.f0.f1.f0, .int .i64 x.f0.f1.f1, .int .i64 x.f0.f1.f2, .int .i64 x.f0.f1.f3, .int .u8 x.f0.f1.f4, .int .u8 x.f0.f1.f5, .int .u64 x.f0.f1.f6], [.string x.f1], rfl, (k86_mk w x.f0 ), rfl⟩
theorem k97_mkM (w : World) (base : Nat) (ok : Nat → Prop) (x : S97)  : k97.M w base ok x [.int .i64 x.f0.f0, .int .i64 x.f0.f1.f0, .int .i64 x.f0.f1.f1, .int .i64 x.f0.f1.f2, .int .i64 x.f0.f1.f3, .int .u8 x.f0.f1.f4, .int .u8 x.f0.f1.f5, .int .u64 x.f0.f1.f6, .string x.f1] := ⟨[.int .i64 x.f0.f0, .int .i64 x.f0.f1.f0, .int .i64 x.f0.f1.f1, .int .i64 x.f0.f1.f2, .int .i64 x.f0.f1.f3, .int .u8 x.f0.f1.f4, .int .u8 x.f0.f1.f5, .int .u64 x.f0.f1.f6], [.string x.f1], rfl, (k86_mkM w base ok x.f0 ), rfl⟩
def rd_T97 (xs : List S97) (i : Int) : S97 := xs.getD i.toNat z97
theorem at_T97 {w : World} {A : Option Addr} {n : Nat} {xs : List S97} (h : Kd.C k97 w A n xs) (i : Int) (h0 : 0 ≤ i) (h1 : i < n) : ∃ ad , A = some ad ∧ w.cell? (ad.add (i.toNat * 9)) = some (.int .i64 (rd_T97 xs i).f0.f0) ∧ w.cell? ⟨(ad.add (i.toNat * 9)).block, (ad.add (i.toNat * 9)).off + 1, none⟩ = some (.int .i64 (rd_T97 xs i).f0.f1.f0) ∧ w.cell? ⟨(ad.add (i.toNat * 9)).block, (ad.add (i.toNat * 9)).off + 2, none⟩ = some (.int .i64 (rd_T97 xs i).f0.f1.f1) ∧ w.cell? ⟨(ad.add (i.toNat * 9)).block, (ad.add (i.toNat * 9)).off + 3, none⟩ = some (.int .i64 (rd_T97 xs i).f0.f1.f2) ∧ w.cell? ⟨(ad.add (i.toNat * 9)).block, (ad.add (i.toNat * 9)).off + 4, none⟩ = some (.int .i64 (rd_T97 xs i).f0.f1.f3) ∧ w.cell? ⟨(ad.add (i.toNat * 9)).block, (ad.add (i.toNat * 9)).off + 5, none⟩ = some (.int .u8 (rd_T97 xs i).f0.f1.f4) ∧ w.cell? ⟨(ad.add (i.toNat * 9)).block, (ad.add (i.toNat * 9)).off + 6, none⟩ = some (.int .u8 (rd_T97 xs i).f0.f1.f5) ∧ w.cell? ⟨(ad.add (i.toNat * 9)).block, (ad.add (i.toNat * 9)).off + 7, none⟩ = some (.int .u64 (rd_T97 xs i).f0.f1.f6) ∧ w.cell? ⟨(ad.add (i.toNat * 9)).block, (ad.add (i.toNat * 9)).off + 8, none⟩ = some (.string (rd_T97 xs i).f1) := by
  obtain ⟨ad, c, e, _, hK, hc0⟩ := Kd.C_get h z97 i h0 h1
  have hc : ∀ j u, c[j]? = some u → w.cell? (ad.add (i.toNat * 9 + j)) = some u := hc0
  obtain rfl := k97_open hK
  exact ⟨ad, e, hc 0 _ rfl, by rw [← add_field _ _ 1 (by omega)]; exact hc 1 _ rfl, by rw [← add_field _ _ 2 (by omega)]; exact hc 2 _ rfl, by rw [← add_field _ _ 3 (by omega)]; exact hc 3 _ rfl, by rw [← add_field _ _ 4 (by omega)]; exact hc 4 _ rfl, by rw [← add_field _ _ 5 (by omega)]; exact hc 5 _ rfl, by rw [← add_field _ _ 6 (by omega)]; exact hc 6 _ rfl, by rw [← add_field _ _ 7 (by omega)]; exact hc 7 _ rfl, by rw [← add_field _ _ 8 (by omega)]; exact hc 8 _ rfl⟩

/-! #### struct type 61 -/
structure S61 where
  f0 : Int
  f1 : Int
  f2 : Int
def z61 : S61 := ⟨(0 : Int), (0 : Int), (0 : Int)⟩
def k61 : Kd S61 := Kd.iso (Kd.pair (Kd.int .i64) (Kd.pair (Kd.int .u8) (Kd.int .u8))) (fun x : S61 => (x.f0, x.f1, x.f2))
theorem k61_open {w : World} {x : S61} {cs : List Value} (h : k61.K w x cs) : cs = [.int .i64 x.f0, .int .u8 x.f1, .int .u8 x.f2] := by
  obtain ⟨_, _, rfl, rfl, ⟨_, _, rfl, rfl, rfl⟩⟩ := h
  exact rfl
theorem k61_openM {w : World} {base : Nat} {ok : Nat → Prop} {x : S61} {cs : List Value} (h : k61.M w base ok x cs) : cs = [.int .i64 x.f0, .int .u8 x.f1, .int .u8 x.f2] := by
  obtain ⟨_, _, rfl, rfl, ⟨_, _, rfl, rfl, rfl⟩⟩ := h
  exact rfl
theorem k61_mk (w : World) (x : S61)  : k61.K w x [.int .i64 x.f0, .int .u8 x.f1, .int .u8 x.f2] := ⟨[.int .i64 x.f0], [.int .u8 x.f1, .int .u8 x.f2], rfl, rfl, ⟨[.int .u8 x.f1], [.int .u8 x.f2], rfl, rfl, rfl⟩⟩
theorem k61_mkM (w : World) (base : Nat) (ok : Nat → Prop) (x : S61)  : k61.M w base ok x [.int .i64 x.f0, .int .u8 x.f1, .int .u8 x.f2] := ⟨[.int .i64 x.f0], [.int .u8 x.f1, .int .u8 x.f2], rfl, rfl, ⟨[.int .u8 x.f1], [.int .u8 x.f2], rfl, rfl, rfl⟩⟩
def rd_T61 (xs : List S61) (i : Int) : S61 := xs.getD i.toNat z61
theorem at_T61 {w : World} {A : Option Addr} {n : Nat} {xs : List S61} (h : Kd.C k61 w A n xs) (i : Int) (h0 : 0 ≤ i) (h1 : i < n) : ∃ ad , A = some ad ∧ w.cell? (ad.add (i.toNat * 3)) = some (.int .i64 (rd_T61 xs i).f0) ∧ w.cell? ⟨(ad.add (i.toNat * 3)).block, (ad.add (i.toNat * 3)).off + 1, none⟩ = some (.int .u8 (rd_T61 xs i).f1) ∧ w.cell? ⟨(ad.add (i.toNat * 3)).block, (ad.add (i.toNat * 3)).off + 2, none⟩ = some (.int .u8 (rd_T61 xs i).f2) := by
  obtain ⟨ad, c, e, _, hK, hc0⟩ := Kd.C_get h z61 i h0 h1
  have hc : ∀ j u, c[j]? = some u → w.cell? (ad.add (i.toNat * 3 + j)) = some u := hc0
  obtain rfl := k61_open hK
  exact ⟨ad, e, hc 0 _ rfl, by rw [← add_field _ _ 1 (by omega)]; exact hc 1 _ rfl, by rw [← add_field _ _ 2 (by omega)]; exact hc 2 _ rfl⟩

/-! #### struct type 63 -/
structure S63 where
  f0 : Bool
  f1 : Int
  f2 : Int
def z63 : S63 := ⟨false, (0 : Int), (0 : Int)⟩
def k63 : Kd S63 := Kd.iso (Kd.pair Kd.bool (Kd.pair (Kd.int .u32) (Kd.int .i64))) (fun x : S63 => (x.f0, x.f1, x.f2))
theorem k63_open {w : World} {x : S63} {cs : List Value} (h : k63.K w x cs) : cs = [.bool x.f0, .int .u32 x.f1, .int .i64 x.f2] := by
  obtain ⟨_, _, rfl, rfl, ⟨_, _, rfl, rfl, rfl⟩⟩ := h
  exact rfl
theorem k63_openM {w : World} {base : Nat} {ok : Nat → Prop} {x : S63} {cs : List Value} (h : k63.M w base ok x cs) : cs = [.bool x.f0, .int .u32 x.f1, .int .i64 x.f2] := by
  obtain ⟨_, _, rfl, rfl, ⟨_, _, rfl, rfl, rfl⟩⟩ := h
  exact rfl
theorem k63_mk (w : World) (x : S63)  : k63.K w x [.bool x.f0, .int .u32 x.f1, .int .i64 x.f2] := ⟨[.bool x.f0], [.int .u32 x.f1, .int .i64 x.f2], rfl, rfl, ⟨[.int .u32 x.f1], [.int .i64 x.f2], rfl, rfl, rfl⟩⟩
theorem k63_mkM (w : World) (base : Nat) (ok : Nat → Prop) (x : S63)  : k63.M w base ok x [.bool x.f0, .int .u32 x.f1, .int .i64 x.f2] := ⟨[.bool x.f0], [.int .u32 x.f1, .int .i64 x.f2], rfl, rfl, ⟨[.int .u32 x.f1], [.int .i64 x.f2], rfl, rfl, rfl⟩⟩
def rd_T63 (xs : List S63) (i : Int) : S63 := xs.getD i.toNat z63
theorem at_T63 {w : World} {A : Option Addr} {n : Nat} {xs : List S63} (h : Kd.C k63 w A n xs) (i : Int) (h0 : 0 ≤ i) (h1 : i < n) : ∃ ad , A = some ad ∧ w.cell? (ad.add (i.toNat * 3)) = some (.bool (rd_T63 xs i).f0) ∧ w.cell? ⟨(ad.add (i.toNat * 3)).block, (ad.add (i.toNat * 3)).off + 1, none⟩ = some (.int .u32 (rd_T63 xs i).f1) ∧ w.cell? ⟨(ad.add (i.toNat * 3)).block, (ad.add (i.toNat * 3)).off + 2, none⟩ = some (.int .i64 (rd_T63 xs i).f2) := by
  obtain ⟨ad, c, e, _, hK, hc0⟩ := Kd.C_get h z63 i h0 h1
  have hc : ∀ j u, c[j]? = some u → w.cell? (ad.add (i.toNat * 3 + j)) = some u := hc0
  obtain rfl := k63_open hK
  exact ⟨ad, e, hc 0 _ rfl, by rw [← add_field _ _ 1 (by omega)]; exact hc 1 _ rfl, by rw [← add_field _ _ 2 (by omega)]; exact hc 2 _ rfl⟩

/-! #### struct type 68 -/
structure S68 where
  f0 : Int
  f1 : Int
  f2 : Int
def z68 : S68 := ⟨(0 : Int), (0 : Int), (0 : Int)⟩
def k68 : Kd S68 := Kd.iso (Kd.pair (Kd.int .u64) (Kd.pair (Kd.int .i64) (Kd.int .i64))) (fun x : S68 => (x.f0, x.f1, x.f2))
theorem k68_open {w : World} {x : S68} {cs : List Value} (h : k68.K w x cs) : cs = [.int .u64 x.f0, .int .i64 x.f1, .int .i64 x.f2] := by
  obtain ⟨_, _, rfl, rfl, ⟨_, _, rfl, rfl, rfl⟩⟩ := h
  exact rfl
theorem k68_openM {w : World} {base : Nat} {ok : Nat → Prop} {x : S68} {cs : List Value} (h : k68.M w base ok x cs) : cs = [.int .u64 x.f0, .int .i64 x.f1, .int .i64 x.f2] := by
  obtain ⟨_, _, rfl, rfl, ⟨_, _, rfl, rfl, rfl⟩⟩ := h
  exact rfl
theorem k68_mk (w : World) (x : S68)  : k68.K w x [.int .u64 x.f0, .int .i64 x.f1, .int .i64 x.f2] := ⟨[.int .u64 x.f0], [.int .i64 x.f1, .int .i64 x.f2], rfl, rfl, ⟨[.int .i64 x.f1], [.int .i64 x.f2], rfl, rfl, rfl⟩⟩
theorem k68_mkM (w : World) (base : Nat) (ok : Nat → Prop) (x : S68)  : k68.M w base ok x [.int .u64 x.f0, .int .i64 x.f1, .int .i64 x.f2] := ⟨[.int .u64 x.f0], [.int .i64 x.f1, .int .i64 x.f2], rfl, rfl, ⟨[.int .i64 x.f1], [.int .i64 x.f2], rfl, rfl, rfl⟩⟩
def rd_T68 (xs : List S68) (i : Int) : S68 := xs.getD i.toNat z68
theorem at_T68 {w : World} {A : Option Addr} {n : Nat} {xs : List S68} (h : Kd.C k68 w A n xs) (i : Int) (h0 : 0 ≤ i) (h1 : i < n) : ∃ ad , A = some ad ∧ w.cell? (ad.add (i.toNat * 3)) = some (.int .u64 (rd_T68 xs i).f0) ∧ w.cell? ⟨(ad.add (i.toNat * 3)).block, (ad.add (i.toNat * 3)).off + 1, none⟩ = some (.int .i64 (rd_T68 xs i).f1) ∧ w.cell? ⟨(ad.add (i.toNat * 3)).block, (ad.add (i.toNat * 3)).off + 2, none⟩ = some (.int .i64 (rd_T68 xs i).f2) := by
  obtain ⟨ad, c, e, _, hK, hc0⟩ := Kd.C_get h z68 i h0 h1
  have hc : ∀ j u, c[j]? = some u → w.cell? (ad.add (i.toNat * 3 + j)) = some u := hc0
  obtain rfl := k68_open hK
  exact ⟨ad, e, hc 0 _ rfl, by rw [← add_field _ _ 1 (by omega)]; exact hc 1 _ rfl, by rw [← add_field _ _ 2 (by omega)]; exact hc 2 _ rfl⟩

/-! #### struct type 53 -/
structure S53 where
  f0 : Int
  f1 : Int
  f2 : Int
  f3 : Int
def z53 : S53 := ⟨(0 : Int), (0 : Int), (0 : Int), (0 : Int)⟩
def k53 : Kd S53 := Kd.iso (Kd.pair (Kd.int .u64) (Kd.pair (Kd.int .i64) (Kd.pair (Kd.int .i64) (Kd.int .i64)))) (fun x : S53 => (x.f0, x.f1, x.f2, x.f3))
theorem k53_open {w : World} {x : S53} {cs : List Value} (h : k53.K w x cs) : cs = [.int .u64 x.f0, .int .i64 x.f1, .int .i64 x.f2, .int .i64 x.f3] := by
  obtain ⟨_, _, rfl, rfl, ⟨_, _, rfl, rfl, ⟨_, _, rfl, rfl, rfl⟩⟩⟩ := h
  exact rfl
theorem k53_openM {w : World} {base : Nat} {ok : Nat → Prop} {x : S53} {cs : List Value} (h : k53.M w base ok x cs) : cs = [.int .u64 x.f0, .int .i64 x.f1, .int .i64 x.f2, .int .i64 x.f3] := by
  obtain ⟨_, _, rfl, rfl, ⟨_, _, rfl, rfl, ⟨_, _, rfl, rfl, rfl⟩⟩⟩ := h
  exact rfl
theorem k53_mk (w : World) (x : S53)  : k53.K w x [.int .u64 x.f0, .int .i64 x.f1, .int .i64 x.f2, .int .i64 x.f3] := ⟨[.int .u64 x.f0], [.int .i64 x.f1, .int .i64 x.f2, .int .i64 x.f3], rfl, rfl, ⟨[.int .i64 x.f1], [.int .i64 x.f2, .int .i64 x.f3], rfl, rfl, ⟨[.int .i64 x.f2], [.int .i64 x.f3], rfl, rfl, rfl⟩⟩⟩
theorem k53_mkM (w : World) (base : Nat) (ok : Nat → Prop) (x : S53)  : k53.M w base ok x [.int .u64 x.f0, .int .i64 x.f1, .int .i64 x.f2, .int .i64 x.f3] := ⟨[.int .u64 x.f0], [.int .i64 x.f1, .int .i64 x.f2, .int .i64 x.f3], rfl, rfl, ⟨[.int .i64 x.f1], [.int .i64 x.f2, .int .i64 x.f3], rfl, rfl, ⟨[.int .i64 x.f2], [.int .i64 x.f3], rfl, rfl, rfl⟩⟩⟩
def rd_T53 (xs : List S53) (i : Int) : S53 := xs.getD i.toNat z53
theorem at_T53 {w : World} {A : Option Addr} {n : Nat} {xs : List S53} (h : Kd.C k53 w A n xs) (i : Int) (h0 : 0 ≤ i) (h1 : i < n) : ∃ ad , A = some ad ∧ w.cell? (ad.add (i.toNat * 4)) = some (.int .u64 (rd_T53 xs i).f0) ∧ w.cell? ⟨(ad.add (i.toNat * 4)).block, (ad.add (i.toNat * 4)).off + 1, none⟩ = some (.int .i64 (rd_T53 xs i).f1) ∧ w.cell? ⟨(ad.add (i.toNat * 4)).block, (ad.add (i.toNat * 4)).off + 2, none⟩ = some (.int .i64 (rd_T53 xs i).f2) ∧ w.cell? ⟨(ad.add (i.toNat * 4)).block, (ad.add (i.toNat * 4)).off + 3, none⟩ = some (.int .i64 (rd_T53 xs i).f3) := by
  obtain ⟨ad, c, e, _, hK, hc0⟩ := Kd.C_get h z53 i h0 h1
  have hc : ∀ j u, c[j]? = some u → w.cell? (ad.add (i.toNat * 4 + j)) = some u := hc0
  obtain rfl := k53_open hK
  exact ⟨ad, e, hc 0 _ rfl, by rw [← add_field _ _ 1 (by omega)]; exact hc 1 _ rfl, by rw [← add_field _ _ 2 (by omega)]; exact hc 2 _ rfl, by rw [← add_field _ _ 3 (by omega)]; exact hc 3 _ rfl⟩

end Go.Proofs.YtjamaamkmfdnaaaDoor.X
