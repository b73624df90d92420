/- Varints: the law's 'cut' of a string. -/
import Derived.Test.YtpgifmccajcgkaaDoorVarB
namespace Go.Proofs.YtpgifmccajcgkaaDoor
set_option linter.unusedVariables false
set_option linter.unusedSimpArgs false
open Go.ChangeShapes Go.WideShapes Go.ChangeAt Go.RowKit

theorem vcut_any (s : ByteArray) (hs : s.size ≤ 9223372036854775807) (w : World) : Calls Tryd.prog 19 #[.string s] w fun e w' => e = .returned (.string (s.extract 0 (min s.size 2000))) ∧ w = w' := by
  by_cases hn : s.size ≤ 2000
  · have e : min s.size 2000 = s.size := by omega
    rw [e]
    clear e
    go_enter Tryd.func19, Tryd.ntmps19
    go_wp2
    ((show bodyPost _ _ _ _ _ _); refine bodyPost_ret (by simp only [results, Tryd.results19]; go_simp; try rfl) rfl ?_)
    exact ⟨by simp, rfl⟩
  · have e : min s.size 2000 = 2000 := by omega
    have hn2 : 2000 < s.size := by omega
    rw [e]
    clear e hn
    go_enter Tryd.func19, Tryd.ntmps19
    go_wp2
    ((show bodyPost _ _ _ _ _ _); refine bodyPost_ret (by simp only [results, Tryd.results19]; go_simp; try rfl) rfl ?_)
    exact ⟨rfl, rfl⟩
end Go.Proofs.YtpgifmccajcgkaaDoor
