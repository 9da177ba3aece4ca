/- Layer 40: Holds, and the reference's Holds. -/
import Derived.Test.YtofbfplpbffpfaaGreatBase

namespace Go.Proofs.YtofbfplpbffpfaaGreat
open Go.RowKit

def holdsI (r s : Int) : Bool := if r = 1 then decide (s < 0) else if r = 2 then decide (s ≤ 0) else if r = 4 then s != 0 else if r = 5 then decide (0 ≤ s) else if r = 6 then decide (0 < s) else s == 0

theorem Holds_any (r s : Int) (w : World) : Calls Tryz.prog 12 #[.int .i64 r, .int .i64 s] w fun e w' => e = .returned (.bool (holdsI r s)) ∧ w' = w := by
  by_cases h1 : r = 1
  · have hv : holdsI r s = (decide (s < 0)) := by subst h1; rfl
    have b1 : (r == 1) = true := by simpa using h1
    rw [hv]
    clear hv h1
    go_enter Tryz.func12, Tryz.ntmps12
    go_wp2_with fail
    go_ret
    exact ⟨rfl, rfl⟩
  by_cases h2 : r = 2
  · have hv : holdsI r s = (decide (s ≤ 0)) := by subst h2; rfl
    have b1 : (r == 1) = false := by simpa using h1
    have b2 : (r == 2) = true := by simpa using h2
    rw [hv]
    clear hv h1 h2
    go_enter Tryz.func12, Tryz.ntmps12
    go_wp2_with fail
    go_ret
    exact ⟨rfl, rfl⟩
  by_cases h4 : r = 4
  · have hv : holdsI r s = (s != 0) := by subst h4; rfl
    have b1 : (r == 1) = false := by simpa using h1
    have b2 : (r == 2) = false := by simpa using h2
    have b4 : (r == 4) = true := by simpa using h4
    rw [hv]
    clear hv h1 h2 h4
    go_enter Tryz.func12, Tryz.ntmps12
    go_wp2_with fail
    go_ret
    exact ⟨rfl, rfl⟩
  by_cases h5 : r = 5
  · have hv : holdsI r s = (decide (0 ≤ s)) := by subst h5; rfl
    have b1 : (r == 1) = false := by simpa using h1
    have b2 : (r == 2) = false := by simpa using h2
    have b4 : (r == 4) = false := by simpa using h4
    have b5 : (r == 5) = true := by simpa using h5
    rw [hv]
    clear hv h1 h2 h4 h5
    go_enter Tryz.func12, Tryz.ntmps12
    go_wp2_with fail
    go_ret
    exact ⟨rfl, rfl⟩
  by_cases h6 : r = 6
  · have hv : holdsI r s = (decide (0 < s)) := by subst h6; rfl
    have b1 : (r == 1) = false := by simpa using h1
    have b2 : (r == 2) = false := by simpa using h2
    have b4 : (r == 4) = false := by simpa using h4
    have b5 : (r == 5) = false := by simpa using h5
    have b6 : (r == 6) = true := by simpa using h6
    rw [hv]
    clear hv h1 h2 h4 h5 h6
    go_enter Tryz.func12, Tryz.ntmps12
    go_wp2_with fail
    go_ret
    exact ⟨rfl, rfl⟩
  have hv : holdsI r s = (s == 0) := by simp [holdsI, h1, h2, h4, h5, h6]
  have b1 : (r == 1) = false := by simpa using h1
  have b2 : (r == 2) = false := by simpa using h2
  have b4 : (r == 4) = false := by simpa using h4
  have b5 : (r == 5) = false := by simpa using h5
  have b6 : (r == 6) = false := by simpa using h6
  rw [hv]
  clear hv h1 h2 h4 h5 h6
  go_enter Tryz.func12, Tryz.ntmps12
  go_wp2_with fail
  go_ret
  exact ⟨rfl, rfl⟩

theorem Holds_ref (r s : Int) (w : World) : Calls Tryz.prog 13 #[.int .i64 r, .int .i64 s] w fun e w' => e = .returned (.bool (holdsI r s)) ∧ w' = w := by
  by_cases h1 : r = 1
  · have hv : holdsI r s = (decide (s < 0)) := by subst h1; rfl
    have b1 : (r == 1) = true := by simpa using h1
    rw [hv]
    clear hv h1
    go_enter Tryz.func13, Tryz.ntmps13
    go_wp2_with fail
    go_ret
    exact ⟨rfl, rfl⟩
  by_cases h2 : r = 2
  · have hv : holdsI r s = (decide (s ≤ 0)) := by subst h2; rfl
    have b1 : (r == 1) = false := by simpa using h1
    have b2 : (r == 2) = true := by simpa using h2
    rw [hv]
    clear hv h1 h2
    go_enter Tryz.func13, Tryz.ntmps13
    go_wp2_with fail
    go_ret
    exact ⟨rfl, rfl⟩
  by_cases h4 : r = 4
  · have hv : holdsI r s = (s != 0) := by subst h4; rfl
    have b1 : (r == 1) = false := by simpa using h1
    have b2 : (r == 2) = false := by simpa using h2
    have b4 : (r == 4) = true := by simpa using h4
    rw [hv]
    clear hv h1 h2 h4
    go_enter Tryz.func13, Tryz.ntmps13
    go_wp2_with fail
    go_ret
    exact ⟨rfl, rfl⟩
  by_cases h5 : r = 5
  · have hv : holdsI r s = (decide (0 ≤ s)) := by subst h5; rfl
    have b1 : (r == 1) = false := by simpa using h1
    have b2 : (r == 2) = false := by simpa using h2
    have b4 : (r == 4) = false := by simpa using h4
    have b5 : (r == 5) = true := by simpa using h5
    rw [hv]
    clear hv h1 h2 h4 h5
    go_enter Tryz.func13, Tryz.ntmps13
    go_wp2_with fail
    go_ret
    exact ⟨rfl, rfl⟩
  by_cases h6 : r = 6
  · have hv : holdsI r s = (decide (0 < s)) := by subst h6; rfl
    have b1 : (r == 1) = false := by simpa using h1
    have b2 : (r == 2) = false := by simpa using h2
    have b4 : (r == 4) = false := by simpa using h4
    have b5 : (r == 5) = false := by simpa using h5
    have b6 : (r == 6) = true := by simpa using h6
    rw [hv]
    clear hv h1 h2 h4 h5 h6
    go_enter Tryz.func13, Tryz.ntmps13
    go_wp2_with fail
    go_ret
    exact ⟨rfl, rfl⟩
  have hv : holdsI r s = (s == 0) := by simp [holdsI, h1, h2, h4, h5, h6]
  have b1 : (r == 1) = false := by simpa using h1
  have b2 : (r == 2) = false := by simpa using h2
  have b4 : (r == 4) = false := by simpa using h4
  have b5 : (r == 5) = false := by simpa using h5
  have b6 : (r == 6) = false := by simpa using h6
  rw [hv]
  clear hv h1 h2 h4 h5 h6
  go_enter Tryz.func13, Tryz.ntmps13
  go_wp2_with fail
  go_ret
  exact ⟨rfl, rfl⟩

end Go.Proofs.YtofbfplpbffpfaaGreat
