/- Layer 34: formula.Valid, and the reference's Has, words, Valid. -/
import Derived.Test.YtkbpnppiadaibaaGreatDoorMg28
import Derived.Laws.StructEq
set_option linter.unusedSimpArgs false
set_option linter.unusedVariables false

namespace Go.Proofs.YtkbpnppiadaibaaGreatDoor
open Go.RowKit

/-- A byte that may stand at place i of a name. -/
def goodC (c i : Nat) : Bool := decide ((97 ≤ c ∧ c ≤ 122) ∨ (65 ≤ c ∧ c ≤ 90) ∨ c = 95 ∨ (48 ≤ c ∧ c ≤ 57 ∧ 0 < i))
/-- The words that are no names. -/
def wordsL : List (List UInt8) := [[116, 114, 117, 101], [102, 97, 108, 115, 101], [97, 110, 100], [111, 114], [110, 111, 116], [105, 109, 112, 108, 105, 101, 115], [105, 102, 102], [102, 111, 114, 97, 108, 108], [101, 120, 105, 115, 116, 115]]
/-- A valid name. -/
def validB (s : ByteArray) : Bool := decide (1 ≤ s.size ∧ s.size ≤ 16 ∧ (∀ i (h : i < s.size), goodC s[i].toNat i = true) ∧ s.toList ∉ wordsL)
theorem validB_true {s : ByteArray} (h1 : ¬ s.size < 1) (h2 : ¬ 16 < s.size) (h3 : ∀ i (h : i < s.size), goodC s[i].toNat i = true) (h4 : s.toList ∉ wordsL) : validB s = true := decide_eq_true ⟨by omega, by omega, h3, h4⟩
theorem validB_bad {s : ByteArray} (k : Nat) (hk : k < s.size) (h : goodC s[k].toNat k = false) : validB s = false := decide_eq_false (fun hh => by rw [hh.2.2.1 k hk] at h; cases h)
theorem validB_word {s : ByteArray} (h : s.toList ∈ wordsL) : validB s = false := decide_eq_false (fun hh => hh.2.2.2 h)

set_option maxRecDepth 100000 in
set_option maxHeartbeats 2000000 in
theorem valid_any (s : ByteArray) (w : World) : Calls Tryz.prog 92 #[.string s] w fun e w' => e = .returned (.bool (validB s)) ∧ w' = w := by
  by_cases h1 : s.size < 1
  · have d1 : decide ((s.size : Int) < 1) = true := by simp; omega
    have hv : validB s = false := decide_eq_false (by omega)
    rw [hv]
    go_enter Tryz.func92, Tryz.ntmps92
    go_wp2_with fail
    go_ret
    exact ⟨rfl, rfl⟩
  · have d1 : decide ((s.size : Int) < 1) = false := by simp; omega
    by_cases h2 : 16 < s.size
    · have d2 : decide ((16 : Int) < s.size) = true := by simp; omega
      have hv : validB s = false := decide_eq_false (by omega)
      rw [hv]
      go_enter Tryz.func92, Tryz.ntmps92
      go_wp2_with fail
      go_ret
      exact ⟨rfl, rfl⟩
    · have d2 : decide ((16 : Int) < s.size) = false := by simp; omega
      generalize hvb : validB s = vb
      have HVB := Lib.hid hvb
      clear hvb
      go_enter Tryz.func92, Tryz.ntmps92
      go_wp2_with fail
      go_loop [15] (fun iv => ∃ k : Nat, k ≤ s.size ∧ iv = .int .i64 k ∧ Hid (∀ i (h : i < s.size), i < k → goodC s[i].toNat i = true)) (fun iv => s.size - (intOf iv).toNat)
      case atStart => exact ⟨0, Nat.zero_le _, rfl, (fun i h h0 => absurd h0 (by omega))⟩
      case round =>
        obtain ⟨k, hk, rfl, HG⟩ := hrel
        by_cases hlt : k < s.size
        · have HBAD := Lib.hid (validB_bad (s := s) k hlt)
          have HNEXT : Hid (goodC s[k].toNat k = true → ∀ i (h : i < s.size), i < k + 1 → goodC s[i].toNat i = true) := by
            intro hg i h hi
            by_cases he : i = k
            · subst he; exact hg
            · exact HG.out i h (by omega)
          have hcc : s[k].toNat < 256 := s[k].toNat_lt
          clear HG
          go_upto_region 8 with fail
          generalize s[k].toNat = cc at *
          by_cases h95 : cc = 95
          · have d95 : ((cc : Int) == 95) = true := by simp; omega
            go_wp2_with fail
            all_goals first
              | exact ⟨⟨k + 1, by omega, by go_num, HNEXT.out (decide_eq_true (by omega))⟩, by simp [intOf]; omega⟩
              | (exfalso; omega)
          · have d95 : ((cc : Int) == 95) = false := by simp; omega
            go_wp2_with fail
            all_goals first
              | exact ⟨⟨k + 1, by omega, by go_num, HNEXT.out (decide_eq_true (by omega))⟩, by simp [intOf]; omega⟩
              | (go_ret
                 exact ⟨by rw [← HVB.out, HBAD.out (decide_eq_false (by omega))]; rfl, rfl⟩)
              | (exfalso; omega)
        · have hall : ∀ i (h : i < s.size), goodC s[i].toNat i = true := fun i h => HG.out i h (by omega)
          have HALL := Lib.hid hall
          clear hall HG
          by_cases e0 : (s.toList == ([116, 114, 117, 101] : List UInt8)) = true
          · have hv : vb = false := by rw [← HVB.out]; exact validB_word (by rw [(beq_iff_eq.1 e0 : s.toList = [116, 114, 117, 101])]; unfold wordsL; simp)
            clear HVB HALL
            subst hv
            go_wp2_with fail
            go_ret
            exact ⟨rfl, rfl⟩
          have n0 : (s.toList == ([116, 114, 117, 101] : List UInt8)) = false := by simpa using e0
          by_cases e1 : (s.toList == ([102, 97, 108, 115, 101] : List UInt8)) = true
          · have hv : vb = false := by rw [← HVB.out]; exact validB_word (by rw [(beq_iff_eq.1 e1 : s.toList = [102, 97, 108, 115, 101])]; unfold wordsL; simp)
            clear HVB HALL
            subst hv
            go_wp2_with fail
            go_ret
            exact ⟨rfl, rfl⟩
          have n1 : (s.toList == ([102, 97, 108, 115, 101] : List UInt8)) = false := by simpa using e1
          by_cases e2 : (s.toList == ([97, 110, 100] : List UInt8)) = true
          · have hv : vb = false := by rw [← HVB.out]; exact validB_word (by rw [(beq_iff_eq.1 e2 : s.toList = [97, 110, 100])]; unfold wordsL; simp)
            clear HVB HALL
            subst hv
            go_wp2_with fail
            go_ret
            exact ⟨rfl, rfl⟩
          have n2 : (s.toList == ([97, 110, 100] : List UInt8)) = false := by simpa using e2
          by_cases e3 : (s.toList == ([111, 114] : List UInt8)) = true
          · have hv : vb = false := by rw [← HVB.out]; exact validB_word (by rw [(beq_iff_eq.1 e3 : s.toList = [111, 114])]; unfold wordsL; simp)
            clear HVB HALL
            subst hv
            go_wp2_with fail
            go_ret
            exact ⟨rfl, rfl⟩
          have n3 : (s.toList == ([111, 114] : List UInt8)) = false := by simpa using e3
          by_cases e4 : (s.toList == ([110, 111, 116] : List UInt8)) = true
          · have hv : vb = false := by rw [← HVB.out]; exact validB_word (by rw [(beq_iff_eq.1 e4 : s.toList = [110, 111, 116])]; unfold wordsL; simp)
            clear HVB HALL
            subst hv
            go_wp2_with fail
            go_ret
            exact ⟨rfl, rfl⟩
          have n4 : (s.toList == ([110, 111, 116] : List UInt8)) = false := by simpa using e4
          by_cases e5 : (s.toList == ([105, 109, 112, 108, 105, 101, 115] : List UInt8)) = true
          · have hv : vb = false := by rw [← HVB.out]; exact validB_word (by rw [(beq_iff_eq.1 e5 : s.toList = [105, 109, 112, 108, 105, 101, 115])]; unfold wordsL; simp)
            clear HVB HALL
            subst hv
            go_wp2_with fail
            go_ret
            exact ⟨rfl, rfl⟩
          have n5 : (s.toList == ([105, 109, 112, 108, 105, 101, 115] : List UInt8)) = false := by simpa using e5
          by_cases e6 : (s.toList == ([105, 102, 102] : List UInt8)) = true
          · have hv : vb = false := by rw [← HVB.out]; exact validB_word (by rw [(beq_iff_eq.1 e6 : s.toList = [105, 102, 102])]; unfold wordsL; simp)
            clear HVB HALL
            subst hv
            go_wp2_with fail
            go_ret
            exact ⟨rfl, rfl⟩
          have n6 : (s.toList == ([105, 102, 102] : List UInt8)) = false := by simpa using e6
          by_cases e7 : (s.toList == ([102, 111, 114, 97, 108, 108] : List UInt8)) = true
          · have hv : vb = false := by rw [← HVB.out]; exact validB_word (by rw [(beq_iff_eq.1 e7 : s.toList = [102, 111, 114, 97, 108, 108])]; unfold wordsL; simp)
            clear HVB HALL
            subst hv
            go_wp2_with fail
            go_ret
            exact ⟨rfl, rfl⟩
          have n7 : (s.toList == ([102, 111, 114, 97, 108, 108] : List UInt8)) = false := by simpa using e7
          by_cases e8 : (s.toList == ([101, 120, 105, 115, 116, 115] : List UInt8)) = true
          · have hv : vb = false := by rw [← HVB.out]; exact validB_word (by rw [(beq_iff_eq.1 e8 : s.toList = [101, 120, 105, 115, 116, 115])]; unfold wordsL; simp)
            clear HVB HALL
            subst hv
            go_wp2_with fail
            go_ret
            exact ⟨rfl, rfl⟩
          have n8 : (s.toList == ([101, 120, 105, 115, 116, 115] : List UInt8)) = false := by simpa using e8
          have hv : vb = true := by
            rw [← HVB.out]
            refine validB_true h1 h2 HALL.out ?_
            unfold wordsL
            simp only [List.mem_cons, List.not_mem_nil, or_false, not_or]
            exact ⟨by simpa using n0, by simpa using n1, by simpa using n2, by simpa using n3, by simpa using n4, by simpa using n5, by simpa using n6, by simpa using n7, by simpa using n8⟩
          clear HVB HALL e0 e1 e2 e3 e4 e5 e6 e7 e8
          subst hv
          go_wp2_with fail
          go_ret
          exact ⟨rfl, rfl⟩

end Go.Proofs.YtkbpnppiadaibaaGreatDoor
