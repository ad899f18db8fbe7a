/- The reference's Line comes to the program's: the command of any line, or that it is none; conditions: sizes alone. -/
import Derived.Test.YtagnoecfdefmjaaDoorPEvRef
import Derived.Test.YtagnoecfdefmjaaDoorPCode
import Derived.Test.YtagnoecfdefmjaaDoorXx7
namespace Go.Proofs.YtagnoecfdefmjaaDoor.P
open Go.RowKit Go.Proofs.YtagnoecfdefmjaaDoorW.PrintWords Go.Proofs.YtagnoecfdefmjaaDoor.X Go.Proofs.YtagnoecfdefmjaaDoor.Plain Go.Proofs.YtagnoecfdefmjaaDoor
set_option linter.unusedVariables false
set_option linter.unusedSimpArgs false

/-- The shapes as the reference has them. -/
def shapesL : List (List L) := allF.map fun f => f.2.map fun y => if y = [65] then [64] else if isSlot y = true then [35] else y
def refScan : List L → List L → List Int → Int → Bool → List Int × Int × Bool
  | s :: ss, x :: xs, n, mac, ok => if s = [35] then refScan ss xs (n ++ [(num x).1]) mac (ok && (num x).2) else if s = [64] then refScan ss xs n (macParse x).1 (ok && ((macParse x).2 == 0)) else refScan ss xs n mac (ok && (x == s))
  | [], _, n, mac, ok => (n, mac, ok)
  | _ :: _, [], n, mac, ok => (n, mac, ok)
/-- What is made of what was read. -/
def fin2 (k : Int) (q : List Int × Int × Bool) : Option (Option Cm) :=
  if q.2.2 = true then (weirgateref22_made.f k q.1 q.2.1).bind fun b => some (if b.2.2.2.2.2.2.2.2 = true then some ⟨b.1, b.2.1, b.2.2.1, b.2.2.2.1, b.2.2.2.2.1, b.2.2.2.2.2.1, b.2.2.2.2.2.2.1, b.2.2.2.2.2.2.2.1⟩ else none) else some none
set_option maxRecDepth 4000
theorem step_0 (ws : List L) (hl : (shapesL.getD 0 []).length = ws.length) : fin2 0 (refScan (shapesL.getD 0 []) ws [] 0 true) = some (lineS ws (allF.getD 0 ⟨⟨0, 0, 0, 0, 0, 0, 0, 0⟩, []⟩)) := by
  rw [show shapesL.getD 0 [] = [[112, 114, 105, 111, 114, 105, 116, 121], [35]] from rfl] at hl ⊢
  rw [show allF.getD 0 ⟨⟨0, 0, 0, 0, 0, 0, 0, 0⟩, []⟩ = (⟨1, 1, 0, 0, 0, 0, 0, 0⟩, [[112, 114, 105, 111, 114, 105, 116, 121], [78]]) from rfl]
  obtain ⟨x0, x1, rfl⟩ : ∃ x0 x1 : L, ws = [x0, x1] := by
    match ws, hl with
    | [x0, x1], _ => exact ⟨x0, x1, rfl⟩
  clear hl
  unfold lineS
  simp only [List.length_cons, List.length_nil, if_true, refScan, takeP]
  by_cases h0 : x0 = [112, 114, 105, 111, 114, 105, 116, 121]
  rotate_left
  · simp [fin2, rdW, refScan, h0]
  subst h0
  obtain ⟨⟨v1, b1⟩, h1⟩ : ∃ q, num x1 = q := ⟨_, rfl⟩
  cases b1
  · simp [fin2, rdW, refScan, h1]
  have g1 := (num_yes h1).1
  simp [fin2, weirgateref22_made.f, rdW, refScan, h1, g1]

theorem step_1 (ws : List L) (hl : (shapesL.getD 1 []).length = ws.length) : fin2 1 (refScan (shapesL.getD 1 []) ws [] 0 true) = some (lineS ws (allF.getD 1 ⟨⟨0, 0, 0, 0, 0, 0, 0, 0⟩, []⟩)) := by
  rw [show shapesL.getD 1 [] = [[97, 103, 101], [35]] from rfl] at hl ⊢
  rw [show allF.getD 1 ⟨⟨0, 0, 0, 0, 0, 0, 0, 0⟩, []⟩ = (⟨1, 2, 0, 0, 0, 0, 0, 0⟩, [[97, 103, 101], [78]]) from rfl]
  obtain ⟨x0, x1, rfl⟩ : ∃ x0 x1 : L, ws = [x0, x1] := by
    match ws, hl with
    | [x0, x1], _ => exact ⟨x0, x1, rfl⟩
  clear hl
  unfold lineS
  simp only [List.length_cons, List.length_nil, if_true, refScan, takeP]
  by_cases h0 : x0 = [97, 103, 101]
  rotate_left
  · simp [fin2, rdW, refScan, h0]
  subst h0
  obtain ⟨⟨v1, b1⟩, h1⟩ : ∃ q, num x1 = q := ⟨_, rfl⟩
  cases b1
  · simp [fin2, rdW, refScan, h1]
  have g1 := (num_yes h1).1
  simp [fin2, weirgateref22_made.f, rdW, refScan, h1, g1]

theorem step_2 (ws : List L) (hl : (shapesL.getD 2 []).length = ws.length) : fin2 2 (refScan (shapesL.getD 2 []) ws [] 0 true) = some (lineS ws (allF.getD 2 ⟨⟨0, 0, 0, 0, 0, 0, 0, 0⟩, []⟩)) := by
  rw [show shapesL.getD 2 [] = [[100, 101, 108, 97, 121], [35]] from rfl] at hl ⊢
  rw [show allF.getD 2 ⟨⟨0, 0, 0, 0, 0, 0, 0, 0⟩, []⟩ = (⟨1, 3, 0, 0, 0, 0, 0, 0⟩, [[100, 101, 108, 97, 121], [78]]) from rfl]
  obtain ⟨x0, x1, rfl⟩ : ∃ x0 x1 : L, ws = [x0, x1] := by
    match ws, hl with
    | [x0, x1], _ => exact ⟨x0, x1, rfl⟩
  clear hl
  unfold lineS
  simp only [List.length_cons, List.length_nil, if_true, refScan, takeP]
  by_cases h0 : x0 = [100, 101, 108, 97, 121]
  rotate_left
  · simp [fin2, rdW, refScan, h0]
  subst h0
  obtain ⟨⟨v1, b1⟩, h1⟩ : ∃ q, num x1 = q := ⟨_, rfl⟩
  cases b1
  · simp [fin2, rdW, refScan, h1]
  have g1 := (num_yes h1).1
  simp [fin2, weirgateref22_made.f, rdW, refScan, h1, g1]

theorem step_3 (ws : List L) (hl : (shapesL.getD 3 []).length = ws.length) : fin2 3 (refScan (shapesL.getD 3 []) ws [] 0 true) = some (lineS ws (allF.getD 3 ⟨⟨0, 0, 0, 0, 0, 0, 0, 0⟩, []⟩)) := by
  rw [show shapesL.getD 3 [] = [[112, 111, 114, 116], [35], [117, 112]] from rfl] at hl ⊢
  rw [show allF.getD 3 ⟨⟨0, 0, 0, 0, 0, 0, 0, 0⟩, []⟩ = (⟨1, 4, 0, 1, 0, 0, 0, 0⟩, [[112, 111, 114, 116], [80], [117, 112]]) from rfl]
  obtain ⟨x0, x1, x2, rfl⟩ : ∃ x0 x1 x2 : L, ws = [x0, x1, x2] := by
    match ws, hl with
    | [x0, x1, x2], _ => exact ⟨x0, x1, x2, rfl⟩
  clear hl
  unfold lineS
  simp only [List.length_cons, List.length_nil, if_true, refScan, takeP]
  by_cases h0 : x0 = [112, 111, 114, 116]
  rotate_left
  · simp [fin2, rdW, refScan, h0]
  subst h0
  obtain ⟨⟨v1, b1⟩, h1⟩ : ∃ q, num x1 = q := ⟨_, rfl⟩
  cases b1
  · simp [fin2, rdW, refScan, h1]
  have g1 := (num_yes h1).1
  by_cases h2 : x2 = [117, 112]
  rotate_left
  · simp [fin2, rdW, refScan, h2, h1, g1]
  subst h2
  by_cases d1 : v1 ≤ 255
  rotate_left
  · simp [fin2, weirgateref22_made.f, rdW, refScan, d1, h1, g1]
  simp [fin2, weirgateref22_made.f, rdW, refScan, h1, g1, d1]

theorem step_4 (ws : List L) (hl : (shapesL.getD 4 []).length = ws.length) : fin2 4 (refScan (shapesL.getD 4 []) ws [] 0 true) = some (lineS ws (allF.getD 4 ⟨⟨0, 0, 0, 0, 0, 0, 0, 0⟩, []⟩)) := by
  rw [show shapesL.getD 4 [] = [[112, 111, 114, 116], [35], [100, 111, 119, 110]] from rfl] at hl ⊢
  rw [show allF.getD 4 ⟨⟨0, 0, 0, 0, 0, 0, 0, 0⟩, []⟩ = (⟨1, 4, 0, 0, 0, 0, 0, 0⟩, [[112, 111, 114, 116], [80], [100, 111, 119, 110]]) from rfl]
  obtain ⟨x0, x1, x2, rfl⟩ : ∃ x0 x1 x2 : L, ws = [x0, x1, x2] := by
    match ws, hl with
    | [x0, x1, x2], _ => exact ⟨x0, x1, x2, rfl⟩
  clear hl
  unfold lineS
  simp only [List.length_cons, List.length_nil, if_true, refScan, takeP]
  by_cases h0 : x0 = [112, 111, 114, 116]
  rotate_left
  · simp [fin2, rdW, refScan, h0]
  subst h0
  obtain ⟨⟨v1, b1⟩, h1⟩ : ∃ q, num x1 = q := ⟨_, rfl⟩
  cases b1
  · simp [fin2, rdW, refScan, h1]
  have g1 := (num_yes h1).1
  by_cases h2 : x2 = [100, 111, 119, 110]
  rotate_left
  · simp [fin2, rdW, refScan, h2, h1, g1]
  subst h2
  by_cases d1 : v1 ≤ 255
  rotate_left
  · simp [fin2, weirgateref22_made.f, rdW, refScan, d1, h1, g1]
  simp [fin2, weirgateref22_made.f, rdW, refScan, h1, g1, d1]

theorem step_5 (ws : List L) (hl : (shapesL.getD 5 []).length = ws.length) : fin2 5 (refScan (shapesL.getD 5 []) ws [] 0 true) = some (lineS ws (allF.getD 5 ⟨⟨0, 0, 0, 0, 0, 0, 0, 0⟩, []⟩)) := by
  rw [show shapesL.getD 5 [] = [[112, 111, 114, 116], [35], [99, 111, 115, 116], [35]] from rfl] at hl ⊢
  rw [show allF.getD 5 ⟨⟨0, 0, 0, 0, 0, 0, 0, 0⟩, []⟩ = (⟨1, 5, 0, 0, 0, 0, 0, 0⟩, [[112, 111, 114, 116], [80], [99, 111, 115, 116], [78]]) from rfl]
  obtain ⟨x0, x1, x2, x3, rfl⟩ : ∃ x0 x1 x2 x3 : L, ws = [x0, x1, x2, x3] := by
    match ws, hl with
    | [x0, x1, x2, x3], _ => exact ⟨x0, x1, x2, x3, rfl⟩
  clear hl
  unfold lineS
  simp only [List.length_cons, List.length_nil, if_true, refScan, takeP]
  by_cases h0 : x0 = [112, 111, 114, 116]
  rotate_left
  · simp [fin2, rdW, refScan, h0]
  subst h0
  obtain ⟨⟨v1, b1⟩, h1⟩ : ∃ q, num x1 = q := ⟨_, rfl⟩
  cases b1
  · simp [fin2, rdW, refScan, h1]
  have g1 := (num_yes h1).1
  by_cases h2 : x2 = [99, 111, 115, 116]
  rotate_left
  · simp [fin2, rdW, refScan, h2, h1, g1]
  subst h2
  obtain ⟨⟨v3, b3⟩, h3⟩ : ∃ q, num x3 = q := ⟨_, rfl⟩
  cases b3
  · simp [fin2, rdW, refScan, h3, h1, g1]
  have g3 := (num_yes h3).1
  by_cases d1 : v1 ≤ 255
  rotate_left
  · simp [fin2, weirgateref22_made.f, rdW, refScan, d1, h1, g1, h3, g3]
  simp [fin2, weirgateref22_made.f, rdW, refScan, h1, g1, h3, g3, d1]

theorem step_6 (ws : List L) (hl : (shapesL.getD 6 []).length = ws.length) : fin2 6 (refScan (shapesL.getD 6 []) ws [] 0 true) = some (lineS ws (allF.getD 6 ⟨⟨0, 0, 0, 0, 0, 0, 0, 0⟩, []⟩)) := by
  rw [show shapesL.getD 6 [] = [[112, 111, 114, 116], [35], [112, 118, 105, 100], [35]] from rfl] at hl ⊢
  rw [show allF.getD 6 ⟨⟨0, 0, 0, 0, 0, 0, 0, 0⟩, []⟩ = (⟨1, 6, 0, 0, 0, 0, 0, 0⟩, [[112, 111, 114, 116], [80], [112, 118, 105, 100], [78]]) from rfl]
  obtain ⟨x0, x1, x2, x3, rfl⟩ : ∃ x0 x1 x2 x3 : L, ws = [x0, x1, x2, x3] := by
    match ws, hl with
    | [x0, x1, x2, x3], _ => exact ⟨x0, x1, x2, x3, rfl⟩
  clear hl
  unfold lineS
  simp only [List.length_cons, List.length_nil, if_true, refScan, takeP]
  by_cases h0 : x0 = [112, 111, 114, 116]
  rotate_left
  · simp [fin2, rdW, refScan, h0]
  subst h0
  obtain ⟨⟨v1, b1⟩, h1⟩ : ∃ q, num x1 = q := ⟨_, rfl⟩
  cases b1
  · simp [fin2, rdW, refScan, h1]
  have g1 := (num_yes h1).1
  by_cases h2 : x2 = [112, 118, 105, 100]
  rotate_left
  · simp [fin2, rdW, refScan, h2, h1, g1]
  subst h2
  obtain ⟨⟨v3, b3⟩, h3⟩ : ∃ q, num x3 = q := ⟨_, rfl⟩
  cases b3
  · simp [fin2, rdW, refScan, h3, h1, g1]
  have g3 := (num_yes h3).1
  by_cases d1 : v1 ≤ 255
  rotate_left
  · simp [fin2, weirgateref22_made.f, rdW, refScan, d1, h1, g1, h3, g3]
  simp [fin2, weirgateref22_made.f, rdW, refScan, h1, g1, h3, g3, d1]

theorem step_7 (ws : List L) (hl : (shapesL.getD 7 []).length = ws.length) : fin2 7 (refScan (shapesL.getD 7 []) ws [] 0 true) = some (lineS ws (allF.getD 7 ⟨⟨0, 0, 0, 0, 0, 0, 0, 0⟩, []⟩)) := by
  rw [show shapesL.getD 7 [] = [[118, 108, 97, 110], [35], [109, 101, 109, 98, 101, 114, 115], [35], [116, 97, 103, 103, 101, 100], [35]] from rfl] at hl ⊢
  rw [show allF.getD 7 ⟨⟨0, 0, 0, 0, 0, 0, 0, 0⟩, []⟩ = (⟨1, 7, 0, 0, 0, 0, 0, 0⟩, [[118, 108, 97, 110], [86], [109, 101, 109, 98, 101, 114, 115], [77], [116, 97, 103, 103, 101, 100], [84]]) from rfl]
  obtain ⟨x0, x1, x2, x3, x4, x5, rfl⟩ : ∃ x0 x1 x2 x3 x4 x5 : L, ws = [x0, x1, x2, x3, x4, x5] := by
    match ws, hl with
    | [x0, x1, x2, x3, x4, x5], _ => exact ⟨x0, x1, x2, x3, x4, x5, rfl⟩
  clear hl
  unfold lineS
  simp only [List.length_cons, List.length_nil, if_true, refScan, takeP]
  by_cases h0 : x0 = [118, 108, 97, 110]
  rotate_left
  · simp [fin2, rdW, refScan, h0]
  subst h0
  obtain ⟨⟨v1, b1⟩, h1⟩ : ∃ q, num x1 = q := ⟨_, rfl⟩
  cases b1
  · simp [fin2, rdW, refScan, h1]
  have g1 := (num_yes h1).1
  by_cases h2 : x2 = [109, 101, 109, 98, 101, 114, 115]
  rotate_left
  · simp [fin2, rdW, refScan, h2, h1, g1]
  subst h2
  obtain ⟨⟨v3, b3⟩, h3⟩ : ∃ q, num x3 = q := ⟨_, rfl⟩
  cases b3
  · simp [fin2, rdW, refScan, h3, h1, g1]
  have g3 := (num_yes h3).1
  by_cases h4 : x4 = [116, 97, 103, 103, 101, 100]
  rotate_left
  · simp [fin2, rdW, refScan, h4, h1, g1, h3, g3]
  subst h4
  obtain ⟨⟨v5, b5⟩, h5⟩ : ∃ q, num x5 = q := ⟨_, rfl⟩
  cases b5
  · simp [fin2, rdW, refScan, h5, h1, g1, h3, g3]
  have g5 := (num_yes h5).1
  by_cases d3 : v3 ≤ 255
  rotate_left
  · simp [fin2, weirgateref22_made.f, rdW, refScan, d3, h1, g1, h3, g3, h5, g5]
  by_cases d5 : v5 ≤ 255
  rotate_left
  · simp [fin2, weirgateref22_made.f, rdW, refScan, d5, h1, g1, h3, g3, h5, g5, d3]
  by_cases d1 : v1 ≤ 65535
  rotate_left
  · simp [fin2, weirgateref22_made.f, rdW, refScan, d1, h1, g1, h3, g3, h5, g5, d3, d5]
  simp [fin2, weirgateref22_made.f, rdW, refScan, h1, g1, h3, g3, h5, g5, d3, d5, d1]

theorem step_8 (ws : List L) (hl : (shapesL.getD 8 []).length = ws.length) : fin2 8 (refScan (shapesL.getD 8 []) ws [] 0 true) = some (lineS ws (allF.getD 8 ⟨⟨0, 0, 0, 0, 0, 0, 0, 0⟩, []⟩)) := by
  rw [show shapesL.getD 8 [] = [[110, 111], [118, 108, 97, 110], [35]] from rfl] at hl ⊢
  rw [show allF.getD 8 ⟨⟨0, 0, 0, 0, 0, 0, 0, 0⟩, []⟩ = (⟨1, 8, 0, 0, 0, 0, 0, 0⟩, [[110, 111], [118, 108, 97, 110], [86]]) from rfl]
  obtain ⟨x0, x1, x2, rfl⟩ : ∃ x0 x1 x2 : L, ws = [x0, x1, x2] := by
    match ws, hl with
    | [x0, x1, x2], _ => exact ⟨x0, x1, x2, rfl⟩
  clear hl
  unfold lineS
  simp only [List.length_cons, List.length_nil, if_true, refScan, takeP]
  by_cases h0 : x0 = [110, 111]
  rotate_left
  · simp [fin2, rdW, refScan, h0]
  subst h0
  by_cases h1 : x1 = [118, 108, 97, 110]
  rotate_left
  · simp [fin2, rdW, refScan, h1]
  subst h1
  obtain ⟨⟨v2, b2⟩, h2⟩ : ∃ q, num x2 = q := ⟨_, rfl⟩
  cases b2
  · simp [fin2, rdW, refScan, h2]
  have g2 := (num_yes h2).1
  by_cases d2 : v2 ≤ 65535
  rotate_left
  · simp [fin2, weirgateref22_made.f, rdW, refScan, d2, h2, g2]
  simp [fin2, weirgateref22_made.f, rdW, refScan, h2, g2, d2]

theorem step_9 (ws : List L) (hl : (shapesL.getD 9 []).length = ws.length) : fin2 9 (refScan (shapesL.getD 9 []) ws [] 0 true) = some (lineS ws (allF.getD 9 ⟨⟨0, 0, 0, 0, 0, 0, 0, 0⟩, []⟩)) := by
  rw [show shapesL.getD 9 [] = [[115, 116, 97, 116, 105, 99], [64], [118, 108, 97, 110], [35], [112, 111, 114, 116], [35]] from rfl] at hl ⊢
  rw [show allF.getD 9 ⟨⟨0, 0, 0, 0, 0, 0, 0, 0⟩, []⟩ = (⟨1, 9, 0, 0, 0, 0, 0, 0⟩, [[115, 116, 97, 116, 105, 99], [65], [118, 108, 97, 110], [86], [112, 111, 114, 116], [80]]) from rfl]
  obtain ⟨x0, x1, x2, x3, x4, x5, rfl⟩ : ∃ x0 x1 x2 x3 x4 x5 : L, ws = [x0, x1, x2, x3, x4, x5] := by
    match ws, hl with
    | [x0, x1, x2, x3, x4, x5], _ => exact ⟨x0, x1, x2, x3, x4, x5, rfl⟩
  clear hl
  unfold lineS
  simp only [List.length_cons, List.length_nil, if_true, refScan, takeP]
  by_cases h0 : x0 = [115, 116, 97, 116, 105, 99]
  rotate_left
  · simp [fin2, rdW, refScan, h0]
  subst h0
  obtain ⟨⟨v1, b1⟩, h1⟩ : ∃ q, macParse x1 = q := ⟨_, rfl⟩
  by_cases c1 : b1 = 0
  rotate_left
  · simp [fin2, rdW, refScan, h1, c1]
  subst c1
  by_cases h2 : x2 = [118, 108, 97, 110]
  rotate_left
  · simp [fin2, rdW, refScan, h2, h1]
  subst h2
  obtain ⟨⟨v3, b3⟩, h3⟩ : ∃ q, num x3 = q := ⟨_, rfl⟩
  cases b3
  · simp [fin2, rdW, refScan, h3, h1]
  have g3 := (num_yes h3).1
  by_cases h4 : x4 = [112, 111, 114, 116]
  rotate_left
  · simp [fin2, rdW, refScan, h4, h1, h3, g3]
  subst h4
  obtain ⟨⟨v5, b5⟩, h5⟩ : ∃ q, num x5 = q := ⟨_, rfl⟩
  cases b5
  · simp [fin2, rdW, refScan, h5, h1, h3, g3]
  have g5 := (num_yes h5).1
  by_cases d3 : v3 ≤ 65535
  rotate_left
  · simp [fin2, weirgateref22_made.f, rdW, refScan, d3, h1, h3, g3, h5, g5]
  by_cases d5 : v5 ≤ 255
  rotate_left
  · simp [fin2, weirgateref22_made.f, rdW, refScan, d5, h1, h3, g3, h5, g5, d3]
  simp [fin2, weirgateref22_made.f, rdW, refScan, h1, h3, g3, h5, g5, d3, d5]

theorem step_10 (ws : List L) (hl : (shapesL.getD 10 []).length = ws.length) : fin2 10 (refScan (shapesL.getD 10 []) ws [] 0 true) = some (lineS ws (allF.getD 10 ⟨⟨0, 0, 0, 0, 0, 0, 0, 0⟩, []⟩)) := by
  rw [show shapesL.getD 10 [] = [[110, 111], [115, 116, 97, 116, 105, 99], [64], [118, 108, 97, 110], [35]] from rfl] at hl ⊢
  rw [show allF.getD 10 ⟨⟨0, 0, 0, 0, 0, 0, 0, 0⟩, []⟩ = (⟨1, 10, 0, 0, 0, 0, 0, 0⟩, [[110, 111], [115, 116, 97, 116, 105, 99], [65], [118, 108, 97, 110], [86]]) from rfl]
  obtain ⟨x0, x1, x2, x3, x4, rfl⟩ : ∃ x0 x1 x2 x3 x4 : L, ws = [x0, x1, x2, x3, x4] := by
    match ws, hl with
    | [x0, x1, x2, x3, x4], _ => exact ⟨x0, x1, x2, x3, x4, rfl⟩
  clear hl
  unfold lineS
  simp only [List.length_cons, List.length_nil, if_true, refScan, takeP]
  by_cases h0 : x0 = [110, 111]
  rotate_left
  · simp [fin2, rdW, refScan, h0]
  subst h0
  by_cases h1 : x1 = [115, 116, 97, 116, 105, 99]
  rotate_left
  · simp [fin2, rdW, refScan, h1]
  subst h1
  obtain ⟨⟨v2, b2⟩, h2⟩ : ∃ q, macParse x2 = q := ⟨_, rfl⟩
  by_cases c2 : b2 = 0
  rotate_left
  · simp [fin2, rdW, refScan, h2, c2]
  subst c2
  by_cases h3 : x3 = [118, 108, 97, 110]
  rotate_left
  · simp [fin2, rdW, refScan, h3, h2]
  subst h3
  obtain ⟨⟨v4, b4⟩, h4⟩ : ∃ q, num x4 = q := ⟨_, rfl⟩
  cases b4
  · simp [fin2, rdW, refScan, h4, h2]
  have g4 := (num_yes h4).1
  by_cases d4 : v4 ≤ 65535
  rotate_left
  · simp [fin2, weirgateref22_made.f, rdW, refScan, d4, h2, h4, g4]
  simp [fin2, weirgateref22_made.f, rdW, refScan, h2, h4, g4, d4]

theorem step_11 (ws : List L) (hl : (shapesL.getD 11 []).length = ws.length) : fin2 11 (refScan (shapesL.getD 11 []) ws [] 0 true) = some (lineS ws (allF.getD 11 ⟨⟨0, 0, 0, 0, 0, 0, 0, 0⟩, []⟩)) := by
  rw [show shapesL.getD 11 [] = [[99, 111, 109, 109, 105, 116]] from rfl] at hl ⊢
  rw [show allF.getD 11 ⟨⟨0, 0, 0, 0, 0, 0, 0, 0⟩, []⟩ = (⟨2, 0, 0, 0, 0, 0, 0, 0⟩, [[99, 111, 109, 109, 105, 116]]) from rfl]
  obtain ⟨x0, rfl⟩ : ∃ x0 : L, ws = [x0] := by
    match ws, hl with
    | [x0], _ => exact ⟨x0, rfl⟩
  clear hl
  unfold lineS
  simp only [List.length_cons, List.length_nil, if_true, refScan, takeP]
  by_cases h0 : x0 = [99, 111, 109, 109, 105, 116]
  rotate_left
  · simp [fin2, rdW, refScan, h0]
  subst h0
  simp [fin2, weirgateref22_made.f, rdW, refScan]

theorem step_12 (ws : List L) (hl : (shapesL.getD 12 []).length = ws.length) : fin2 12 (refScan (shapesL.getD 12 []) ws [] 0 true) = some (lineS ws (allF.getD 12 ⟨⟨0, 0, 0, 0, 0, 0, 0, 0⟩, []⟩)) := by
  rw [show shapesL.getD 12 [] = [[114, 111, 108, 108, 98, 97, 99, 107]] from rfl] at hl ⊢
  rw [show allF.getD 12 ⟨⟨0, 0, 0, 0, 0, 0, 0, 0⟩, []⟩ = (⟨3, 0, 0, 0, 0, 0, 0, 0⟩, [[114, 111, 108, 108, 98, 97, 99, 107]]) from rfl]
  obtain ⟨x0, rfl⟩ : ∃ x0 : L, ws = [x0] := by
    match ws, hl with
    | [x0], _ => exact ⟨x0, rfl⟩
  clear hl
  unfold lineS
  simp only [List.length_cons, List.length_nil, if_true, refScan, takeP]
  by_cases h0 : x0 = [114, 111, 108, 108, 98, 97, 99, 107]
  rotate_left
  · simp [fin2, rdW, refScan, h0]
  subst h0
  simp [fin2, weirgateref22_made.f, rdW, refScan]

theorem step_13 (ws : List L) (hl : (shapesL.getD 13 []).length = ws.length) : fin2 13 (refScan (shapesL.getD 13 []) ws [] 0 true) = some (lineS ws (allF.getD 13 ⟨⟨0, 0, 0, 0, 0, 0, 0, 0⟩, []⟩)) := by
  rw [show shapesL.getD 13 [] = [[115, 104, 111, 119], [99, 111, 110, 102, 105, 103]] from rfl] at hl ⊢
  rw [show allF.getD 13 ⟨⟨0, 0, 0, 0, 0, 0, 0, 0⟩, []⟩ = (⟨4, 0, 0, 0, 0, 0, 0, 0⟩, [[115, 104, 111, 119], [99, 111, 110, 102, 105, 103]]) from rfl]
  obtain ⟨x0, x1, rfl⟩ : ∃ x0 x1 : L, ws = [x0, x1] := by
    match ws, hl with
    | [x0, x1], _ => exact ⟨x0, x1, rfl⟩
  clear hl
  unfold lineS
  simp only [List.length_cons, List.length_nil, if_true, refScan, takeP]
  by_cases h0 : x0 = [115, 104, 111, 119]
  rotate_left
  · simp [fin2, rdW, refScan, h0]
  subst h0
  by_cases h1 : x1 = [99, 111, 110, 102, 105, 103]
  rotate_left
  · simp [fin2, rdW, refScan, h1]
  subst h1
  simp [fin2, weirgateref22_made.f, rdW, refScan]

theorem step_14 (ws : List L) (hl : (shapesL.getD 14 []).length = ws.length) : fin2 14 (refScan (shapesL.getD 14 []) ws [] 0 true) = some (lineS ws (allF.getD 14 ⟨⟨0, 0, 0, 0, 0, 0, 0, 0⟩, []⟩)) := by
  rw [show shapesL.getD 14 [] = [[115, 104, 111, 119], [112, 111, 114, 116, 115]] from rfl] at hl ⊢
  rw [show allF.getD 14 ⟨⟨0, 0, 0, 0, 0, 0, 0, 0⟩, []⟩ = (⟨5, 0, 0, 0, 0, 0, 0, 0⟩, [[115, 104, 111, 119], [112, 111, 114, 116, 115]]) from rfl]
  obtain ⟨x0, x1, rfl⟩ : ∃ x0 x1 : L, ws = [x0, x1] := by
    match ws, hl with
    | [x0, x1], _ => exact ⟨x0, x1, rfl⟩
  clear hl
  unfold lineS
  simp only [List.length_cons, List.length_nil, if_true, refScan, takeP]
  by_cases h0 : x0 = [115, 104, 111, 119]
  rotate_left
  · simp [fin2, rdW, refScan, h0]
  subst h0
  by_cases h1 : x1 = [112, 111, 114, 116, 115]
  rotate_left
  · simp [fin2, rdW, refScan, h1]
  subst h1
  simp [fin2, weirgateref22_made.f, rdW, refScan]

theorem step_15 (ws : List L) (hl : (shapesL.getD 15 []).length = ws.length) : fin2 15 (refScan (shapesL.getD 15 []) ws [] 0 true) = some (lineS ws (allF.getD 15 ⟨⟨0, 0, 0, 0, 0, 0, 0, 0⟩, []⟩)) := by
  rw [show shapesL.getD 15 [] = [[115, 104, 111, 119], [116, 97, 98, 108, 101]] from rfl] at hl ⊢
  rw [show allF.getD 15 ⟨⟨0, 0, 0, 0, 0, 0, 0, 0⟩, []⟩ = (⟨6, 0, 0, 0, 0, 0, 0, 0⟩, [[115, 104, 111, 119], [116, 97, 98, 108, 101]]) from rfl]
  obtain ⟨x0, x1, rfl⟩ : ∃ x0 x1 : L, ws = [x0, x1] := by
    match ws, hl with
    | [x0, x1], _ => exact ⟨x0, x1, rfl⟩
  clear hl
  unfold lineS
  simp only [List.length_cons, List.length_nil, if_true, refScan, takeP]
  by_cases h0 : x0 = [115, 104, 111, 119]
  rotate_left
  · simp [fin2, rdW, refScan, h0]
  subst h0
  by_cases h1 : x1 = [116, 97, 98, 108, 101]
  rotate_left
  · simp [fin2, rdW, refScan, h1]
  subst h1
  simp [fin2, weirgateref22_made.f, rdW, refScan]

theorem step_all (k : Nat) (hk : k < 16) (ws : List L) (hl : (shapesL.getD k []).length = ws.length) : fin2 (k : Int) (refScan (shapesL.getD k []) ws [] 0 true) = some (lineS ws (allF.getD k ⟨⟨0, 0, 0, 0, 0, 0, 0, 0⟩, []⟩)) := by
  match k, hk with
  | 0, _ => exact step_0 ws hl
  | 1, _ => exact step_1 ws hl
  | 2, _ => exact step_2 ws hl
  | 3, _ => exact step_3 ws hl
  | 4, _ => exact step_4 ws hl
  | 5, _ => exact step_5 ws hl
  | 6, _ => exact step_6 ws hl
  | 7, _ => exact step_7 ws hl
  | 8, _ => exact step_8 ws hl
  | 9, _ => exact step_9 ws hl
  | 10, _ => exact step_10 ws hl
  | 11, _ => exact step_11 ws hl
  | 12, _ => exact step_12 ws hl
  | 13, _ => exact step_13 ws hl
  | 14, _ => exact step_14 ws hl
  | 15, _ => exact step_15 ws hl
  | n + 16, h => exact absurd h (by omega)
theorem step_len (k : Nat) (hk : k < 16) (ws : List L) (hl : ¬ (shapesL.getD k []).length = ws.length) : lineS ws (allF.getD k ⟨⟨0, 0, 0, 0, 0, 0, 0, 0⟩, []⟩) = none := by
  unfold lineS
  rw [if_neg]
  intro e
  apply hl
  rw [← e]
  match k, hk with
  | 0, _ => rfl
  | 1, _ => rfl
  | 2, _ => rfl
  | 3, _ => rfl
  | 4, _ => rfl
  | 5, _ => rfl
  | 6, _ => rfl
  | 7, _ => rfl
  | 8, _ => rfl
  | 9, _ => rfl
  | 10, _ => rfl
  | 11, _ => rfl
  | 12, _ => rfl
  | 13, _ => rfl
  | 14, _ => rfl
  | 15, _ => rfl
  | n + 16, h => exact absurd h (by omega)

theorem shapes_now : weirgateref22_shapes.f = some (shapesL.map (List.map B)) := by rfl
theorem shapes_16 : (shapesL.map (List.map B)).length = 16 := rfl
theorem rd_shapes {i : Nat} (h : i < 16) : rd_L7 (shapesL.map (List.map B)) (i : Int) = (shapesL.getD i []).map B := by
  unfold rd_L7
  rw [Int.toNat_natCast, List.getD_eq_getElem?_getD, List.getElem?_map, List.getD_eq_getElem?_getD]
  cases shapesL[i]? <;> rfl

/-- What the reference does behind a line's words. -/
def lastStep (k : Nat) (WS : List ByteArray) (idx : Nat) (q : List Int × Int × Bool) : Option (Int × Int × Int × Int × Int × Int × Int × Int × Int) :=
  if q.2.2 = true then ((weirgateref22_made.f (idx : Int) q.1 q.2.1).bind fun b => if b.2.2.2.2.2.2.2.2 = true then some (b.1, b.2.1, b.2.2.1, b.2.2.2.1, b.2.2.2.2.1, b.2.2.2.2.2.1, b.2.2.2.2.2.2.1, b.2.2.2.2.2.2.2.1, 0) else weirgateref22_Line.l0 k WS (shapesL.map (List.map B)) ((idx + 1 : Nat) : Int)) else weirgateref22_Line.l0 k WS (shapesL.map (List.map B)) ((idx + 1 : Nat) : Int)
theorem scan_loop (ws : List L) (hs : ∀ w ∈ ws, w.length < 4294967281) (hw : ws.length < 4294967281) (idx : Nat) (hi : idx < 16) (hl : (shapesL.getD idx []).length = ws.length) (R) :
    ∀ (d i : Nat) (n : List Int) (mac : Int) (ok : Bool), i + d = ws.length → n.length ≤ i → Ev (fun k => lastStep k (ws.map B) idx (refScan ((shapesL.getD idx []).drop i) (ws.drop i) n mac ok)) R →
      Ev (fun k => weirgateref22_Line.l1 k (ws.map B) (shapesL.map (List.map B)) (idx : Int) n mac ok (i : Int)) R
  | 0, i, n, mac, ok, hd, hn, h => by
    rw [List.drop_eq_nil_of_le (by omega), List.drop_eq_nil_of_le (by omega), refScan] at h
    refine Ev.step (f := fun k => lastStep k (ws.map B) idx (n, mac, ok)) (fun k => ?_) h
    simp only [weirgateref22_Line.l1]
    rw [if_neg (by rw [List.length_map]; omega), wrap_up (by omega) (by omega)]
    rfl
  | d + 1, i, n, mac, ok, hd, hn, h => by
    have hlt : i < ws.length := by omega
    have hlt2 : i < (shapesL.getD idx []).length := by omega
    rw [List.drop_eq_getElem_cons hlt, List.drop_eq_getElem_cons hlt2, refScan] at h
    have hrs := rd_shapes hi
    generalize hsh : shapesL.getD idx [] = sh at *
    have r1 : rdOf ByteArray.empty (ws.map B) (i : Int) = B ws[i] := by rw [rdOf_at (by rw [List.length_map]; exact hlt), List.getElem_map]
    have r2 : rdOf ByteArray.empty (sh.map B) (i : Int) = B sh[i] := by rw [rdOf_at (by rw [List.length_map]; exact hlt2), List.getElem_map]
    have IH := fun n mac ok => scan_loop ws hs hw idx hi (by rw [hsh]; exact hl) R d (i + 1) n mac ok (by omega)
    rw [hsh] at IH
    by_cases h35 : sh[i] = [35]
    · rw [if_pos h35] at h
      have hn1 := numref_ev (B ws[i]) (by rw [B_size]; have := hs _ (List.getElem_mem hlt); omega)
      rw [B_data] at hn1
      have IH1 := IH _ _ _ (by rw [List.length_append, List.length_singleton]; omega) h
      refine Ev.step (f := fun k => (weirgateref21_Num.f k (B ws[i])).bind fun b => weirgateref22_Line.l1 k (ws.map B) (shapesL.map (List.map B)) (idx : Int) (n ++ [b.1]) mac (ok && b.2) ((i + 1 : Nat) : Int)) (fun k => ?_) (hn1.bind IH1)
      simp only [weirgateref22_Line.l1]
      rw [if_pos (by rw [List.length_map]; omega), if_pos (by omega), if_pos (by rw [shapes_16]; omega), if_pos (by omega), hrs, if_pos (by rw [List.length_map]; omega), r1, r2, B_toList, if_pos h35, wrap_up (by omega) (by omega)]
      congr 1
      funext b
      rw [if_pos (by omega)]
      cases ok <;> simp <;> rfl
    · rw [if_neg h35] at h
      by_cases h64 : sh[i] = [64]
      · rw [if_pos h64] at h
        have hn1 := macparseref_ev (B ws[i])
        rw [B_data] at hn1
        have IH1 := IH _ _ _ (by omega) h
        refine Ev.step (f := fun k => (weirgateref09_Parse.f k (B ws[i])).bind fun b => weirgateref22_Line.l1 k (ws.map B) (shapesL.map (List.map B)) (idx : Int) n b.1 (ok && (b.2 == 0)) ((i + 1 : Nat) : Int)) (fun k => ?_) (hn1.bind IH1)
        simp only [weirgateref22_Line.l1]
        rw [if_pos (by rw [List.length_map]; omega), if_pos (by omega), if_pos (by rw [shapes_16]; omega), if_pos (by omega), hrs, if_pos (by rw [List.length_map]; omega), r1, r2, B_toList, if_neg h35, if_pos h64, wrap_up (by omega) (by omega)]
        congr 1
        funext b
        cases ok <;> simp <;> rfl
      · rw [if_neg h64] at h
        have IH1 := IH _ _ _ (by omega) h
        refine Ev.step (f := fun k => weirgateref22_Line.l1 k (ws.map B) (shapesL.map (List.map B)) (idx : Int) n mac (ok && (ws[i] == sh[i])) ((i + 1 : Nat) : Int)) (fun k => ?_) IH1
        simp only [weirgateref22_Line.l1]
        rw [if_pos (by rw [List.length_map]; omega), if_pos (by omega), if_pos (by rw [shapes_16]; omega), if_pos (by omega), hrs, if_pos (by rw [List.length_map]; omega), r1, r2, B_toList, B_toList, if_neg h35, if_neg h64, wrap_up (by omega) (by omega)]
        cases ok <;> simp <;> rfl
theorem getD_drop {α : Type} (l : List α) (i : Nat) (d : α) (h : i < l.length) : l.drop i = l.getD i d :: l.drop (i + 1) := by
  rw [List.drop_eq_getElem_cons h, List.getD_eq_getElem?_getD, List.getElem?_eq_getElem h]
  rfl
theorem refline_loop (ws : List L) (hs : ∀ w ∈ ws, w.length < 4294967281) (hw : ws.length < 4294967281) : ∀ (d i : Nat), i + d = 16 → Ev (fun k => weirgateref22_Line.l0 k (ws.map B) (shapesL.map (List.map B)) (i : Int)) (outL ((allF.drop i).findSome? (lineS ws)))
  | 0, i, hi => by
    refine Ev.step (f := fun _ => some _) (fun k => ?_) (Ev.now _)
    obtain rfl : i = 16 := by omega
    simp only [weirgateref22_Line.l0]
    rw [if_neg (by rw [shapes_16]; omega)]
    rfl
  | d + 1, i, hi => by
    have IH := refline_loop ws hs hw d (i + 1) (by omega)
    rw [getD_drop allF i ⟨⟨0, 0, 0, 0, 0, 0, 0, 0⟩, []⟩ (by show i < 16; omega), List.findSome?_cons]
    by_cases hl : (shapesL.getD i []).length = ws.length
    · have hst := step_all i (by omega) ws hl
      have key := scan_loop ws hs hw i (by omega) hl (outL (match lineS ws (allF.getD i ⟨⟨0, 0, 0, 0, 0, 0, 0, 0⟩, []⟩) with | some b => some b | none => (allF.drop (i + 1)).findSome? (lineS ws))) ws.length 0 [] 0 true (by omega) (by simp) ?_
      · refine Ev.step (f := fun k => weirgateref22_Line.l1 k (ws.map B) (shapesL.map (List.map B)) (i : Int) [] 0 true ((0 : Nat) : Int)) (fun k => ?_) ?_
        · simp only [weirgateref22_Line.l0]
          rw [if_pos (by rw [shapes_16]; omega), if_pos (by omega), rd_shapes (by omega), List.length_map, List.length_map, if_pos (by omega)]
          rfl
        · cases hq : lineS ws (allF.getD i ⟨⟨0, 0, 0, 0, 0, 0, 0, 0⟩, []⟩) <;> rw [hq] at key <;> exact key
      · rw [List.drop_zero, List.drop_zero]
        generalize refScan (shapesL.getD i []) ws [] 0 true = q at hst ⊢
        unfold fin2 at hst
        unfold lastStep
        by_cases hok : q.2.2 = true
        · rw [if_pos hok] at hst
          obtain ⟨b, hb, hst⟩ := Option.bind_eq_some_iff.1 hst
          rw [← Option.some.inj hst]
          simp only [hok, if_true, hb, Option.bind_some]
          by_cases hb2 : b.2.2.2.2.2.2.2.2 = true
          · simp only [hb2, if_true]
            exact Ev.now _
          · simp only [hb2, if_false]
            exact IH
        · rw [if_neg hok] at hst
          rw [← Option.some.inj hst]
          simp only [hok, if_false]
          exact IH
    · rw [step_len i (by omega) ws hl]
      refine Ev.step (f := fun k => weirgateref22_Line.l0 k (ws.map B) (shapesL.map (List.map B)) ((i + 1 : Nat) : Int)) (fun k => ?_) IH
      simp only [weirgateref22_Line.l0]
      rw [if_pos (by rw [shapes_16]; omega), if_pos (by omega), rd_shapes (by omega), List.length_map, List.length_map, if_neg (by omega), wrap_up (by omega) (by omega)]
      rfl
theorem refline_ev (s : ByteArray) (h : s.size ≤ 200) : Ev (fun k => weirgateref22_Line.f k s) (outL (lineP (cut s.data.toList))) := by
  have h3 := size_data s
  have hs : ∀ w ∈ cut s.data.toList, w.length < 4294967281 := by
    intro w hw
    have h1 := mem_le_sum hw
    have h2 := cut_sum s.data.toList
    omega
  have hw := cut_length s.data.toList
  refine Ev.congr (f := fun k => (weirgateref21_Cut.f k s).bind fun t => weirgateref22_Line.l0 k t (shapesL.map (List.map B)) 0) (fun k => ?_) ((cutref_ev s (by omega)).bind (refline_loop _ hs (by omega) 16 0 rfl))
  unfold weirgateref22_Line.f
  rw [if_neg (by omega), shapes_now]
  rfl
theorem refline_long (s : ByteArray) (h : 200 < s.size) (k : Nat) : weirgateref22_Line.f k s = some (0, 0, 0, 0, 0, 0, 0, 0, 2) := by
  unfold weirgateref22_Line.f
  rw [if_pos (by omega)]
end Go.Proofs.YtagnoecfdefmjaaDoor.P
