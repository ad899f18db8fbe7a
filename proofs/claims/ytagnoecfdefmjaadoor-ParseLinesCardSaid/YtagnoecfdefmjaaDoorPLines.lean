/- ParseLines, in plain words: the command of any line, or that it is none, is the reference's. No condition. -/
import Derived.Test.YtagnoecfdefmjaaDoorPWakes
import Derived.Test.YtagnoecfdefmjaaDoorPRefLine
import Derived.Test.YtagnoecfdefmjaaDoorXxLParseLines
namespace Go.Proofs.YtagnoecfdefmjaaDoor.P
open Go.RowKit Go.Proofs.YtagnoecfdefmjaaDoorW.PrintWords Go.Proofs.YtagnoecfdefmjaaDoor.X Go.Proofs.YtagnoecfdefmjaaDoor.Plain Go.Proofs.YtagnoecfdefmjaaDoor
set_option linter.unusedVariables false
set_option linter.unusedSimpArgs false

theorem lines (s : ByteArray) : ∃ k, weirgatelaw22_ParseLines.f k s = some true := by
  refine Ev.rounds ?_
  have W : Ev (fun k => (weirgatelaw22_wakes.f k).bind fun t => some t) true := wakes_ev.bind (Ev.now _)
  unfold weirgatelaw22_ParseLines.f
  by_cases hs : (s.size : Int) > 2000
  · simp only [hs, if_true]
    exact W
  · simp only [hs, if_false]
    obtain ⟨R, h1, h2⟩ : ∃ R, Ev (fun k => X.parse_Line.f k s) R ∧ Ev (fun k => weirgateref22_Line.f k s) R := by
      by_cases h : s.size ≤ 200
      · exact ⟨_, line_ev s h, refline_ev s h⟩
      · exact ⟨_, Ev.congr (f := fun _ => some _) (fun k => line_long s (by omega) k) (Ev.now _), Ev.congr (f := fun _ => some _) (fun k => refline_long s (by omega) k) (Ev.now _)⟩
    refine h1.bind (h2.bind ?_)
    refine Ev.congr (fun k => ?_) W
    unfold weirgatelaw22_Own.f
    simp
end Go.Proofs.YtagnoecfdefmjaaDoor.P
