/- Layer 34: formula.Valid, and the reference's Has, words, Valid. -/
import Derived.Test.YtkbpnppiadaibaaGreatDoorMt38
import Derived.Laws.StructEq
set_option linter.unusedSimpArgs false
set_option linter.unusedVariables false

set_option maxRecDepth 100000
set_option maxHeartbeats 8000000
namespace Go.Proofs.YtkbpnppiadaibaaGreatDoor
open Go.RowKit
def goodC (c i : Nat) : Bool := decide ((97 ≤ c ∧ c ≤ 122) ∨ (65 ≤ c ∧ c ≤ 90) ∨ c = 95 ∨ (48 ≤ c ∧ c ≤ 57 ∧ 0 < i))
def wordsL : List (List UInt8) := [[116, 114, 117, 101], [102, 97, 108, 115, 101], [97, 110, 100], [111, 114], [110, 111, 116], [105, 109, 112, 108, 105, 101, 115], [105, 102, 102], [102, 111, 114, 97, 108, 108], [101, 120, 105, 115, 116, 115]]
def validB (s : ByteArray) : Bool := decide (1 ≤ s.size ∧ s.size ≤ 16 ∧ (∀ i (h : i < s.size), goodC s[i].toNat i = true) ∧ s.toList ∉ wordsL)
theorem validB_true {s : ByteArray} (h1 : ¬ s.size < 1) (h2 : ¬ 16 < s.size) (h3 : ∀ i (h : i < s.size), goodC s[i].toNat i = true) (h4 : s.toList ∉ wordsL) : validB s = true := decide_eq_true ⟨by omega, by omega, h3, h4⟩
theorem validB_bad {s : ByteArray} (k : Nat) (hk : k < s.size) (h : goodC s[k].toNat k = false) : validB s = false := decide_eq_false (fun hh => by rw [hh.2.2.1 k hk] at h; cases h)
theorem validB_word {s : ByteArray} (h : s.toList ∈ wordsL) : validB s = false := decide_eq_false (fun hh => hh.2.2.2 h)
theorem valid_any (s : ByteArray) (w : World) : Calls Tryz.prog 92 #[.string s] w fun e w' => e = .returned (.bool (validB s)) ∧ w' = w := by
 by_cases h1 : s.size < 1
 · have d1 : decide ((s.size : Int) < 1) = true := by simp; omega
   have hv : validB s = false := decide_eq_false (by omega)
   rw [hv]
   go_enter Tryz.func92, Tryz.ntmps92
   go_wp2_with fail
   go_ret
   exact ⟨rfl, rfl⟩
 · have d1 : decide ((s.size : Int) < 1) = false := by simp; omega
   by_cases h2 : 16 < s.size
   · have d2 : decide ((16 : Int) < s.size) = true := by simp; omega
     have hv : validB s = false := decide_eq_false (by omega)
     rw [hv]
     go_enter Tryz.func92, Tryz.ntmps92
     go_wp2_with fail
     go_ret
     exact ⟨rfl, rfl⟩
   · have d2 : decide ((16 : Int) < s.size) = false := by simp; omega
     generalize hvb : validB s = vb
     have HVB := Lib.hid hvb
     clear hvb
     go_enter Tryz.func92, Tryz.ntmps92
     go_wp2_with fail
     go_loop [15] (fun iv => ∃ k : Nat, k ≤ s.size ∧ iv = .int .i64 k ∧ Hid (∀ i (h : i < s.size), i < k → goodC s[i].toNat i = true)) (fun iv => s.size - (intOf iv).toNat)
     case atStart => exact ⟨0, Nat.zero_le _, rfl, (fun i h h0 => absurd h0 (by omega))⟩
     case round =>
      obtain ⟨k, hk, rfl, HG⟩ := hrel
      by_cases hlt : k < s.size
      · have HBAD := Lib.hid (validB_bad (s := s) k hlt)
        have HNEXT : Hid (goodC s[k].toNat k = true → ∀ i (h : i < s.size), i < k + 1 → goodC s[i].toNat i = true) := by
         intro hg i h hi
         by_cases he : i = k
         · subst he; exact hg
         · exact HG.out i h (by omega)
        have hcc : s[k].toNat < 256 := s[k].toNat_lt
        clear HG
        go_upto_region 8 with fail
        generalize s[k].toNat = cc at *
        by_cases h95 : cc = 95
        · have d95 : ((cc : Int) == 95) = true := by simp; omega
          go_wp2_with fail
          all_goals first
            | exact ⟨⟨k + 1, by omega, by go_num, HNEXT.out (decide_eq_true (by omega))⟩, by simp [intOf]; omega⟩
            | (exfalso; omega)
        · have d95 : ((cc : Int) == 95) = false := by simp; omega
          go_wp2_with fail
          all_goals first
            | exact ⟨⟨k + 1, by omega, by go_num, HNEXT.out (decide_eq_true (by omega))⟩, by simp [intOf]; omega⟩
            | (go_ret
               exact ⟨by rw [← HVB.out, HBAD.out (decide_eq_false (by omega))]; rfl, rfl⟩)
            | (exfalso; omega)
      · have hall : ∀ i (h : i < s.size), goodC s[i].toNat i = true := fun i h => HG.out i h (by omega)
        have HALL := Lib.hid hall
        clear hall HG
        by_cases e0 : (s.toList == ([116, 114, 117, 101] : List UInt8)) = true
        · have hv : vb = false := by rw [← HVB.out]; exact validB_word (by rw [(beq_iff_eq.1 e0 : s.toList = [116, 114, 117, 101])]; unfold wordsL; simp)
          clear HVB HALL
          subst hv
          go_wp2_with fail
          go_ret
          exact ⟨rfl, rfl⟩
        have n0 : (s.toList == ([116, 114, 117, 101] : List UInt8)) = false := by simpa using e0
        by_cases e1 : (s.toList == ([102, 97, 108, 115, 101] : List UInt8)) = true
        · have hv : vb = false := by rw [← HVB.out]; exact validB_word (by rw [(beq_iff_eq.1 e1 : s.toList = [102, 97, 108, 115, 101])]; unfold wordsL; simp)
          clear HVB HALL
          subst hv
          go_wp2_with fail
          go_ret
          exact ⟨rfl, rfl⟩
        have n1 : (s.toList == ([102, 97, 108, 115, 101] : List UInt8)) = false := by simpa using e1
        by_cases e2 : (s.toList == ([97, 110, 100] : List UInt8)) = true
        · have hv : vb = false := by rw [← HVB.out]; exact validB_word (by rw [(beq_iff_eq.1 e2 : s.toList = [97, 110, 100])]; unfold wordsL; simp)
          clear HVB HALL
          subst hv
          go_wp2_with fail
          go_ret
          exact ⟨rfl, rfl⟩
        have n2 : (s.toList == ([97, 110, 100] : List UInt8)) = false := by simpa using e2
        by_cases e3 : (s.toList == ([111, 114] : List UInt8)) = true
        · have hv : vb = false := by rw [← HVB.out]; exact validB_word (by rw [(beq_iff_eq.1 e3 : s.toList = [111, 114])]; unfold wordsL; simp)
          clear HVB HALL
          subst hv
          go_wp2_with fail
          go_ret
          exact ⟨rfl, rfl⟩
        have n3 : (s.toList == ([111, 114] : List UInt8)) = false := by simpa using e3
        by_cases e4 : (s.toList == ([110, 111, 116] : List UInt8)) = true
        · have hv : vb = false := by rw [← HVB.out]; exact validB_word (by rw [(beq_iff_eq.1 e4 : s.toList = [110, 111, 116])]; unfold wordsL; simp)
          clear HVB HALL
          subst hv
          go_wp2_with fail
          go_ret
          exact ⟨rfl, rfl⟩
        have n4 : (s.toList == ([110, 111, 116] : List UInt8)) = false := by simpa using e4
        by_cases e5 : (s.toList == ([105, 109, 112, 108, 105, 101, 115] : List UInt8)) = true
        · have hv : vb = false := by rw [← HVB.out]; exact validB_word (by rw [(beq_iff_eq.1 e5 : s.toList = [105, 109, 112, 108, 105, 101, 115])]; unfold wordsL; simp)
          clear HVB HALL
          subst hv
          go_wp2_with fail
          go_ret
          exact ⟨rfl, rfl⟩
        have n5 : (s.toList == ([105, 109, 112, 108, 105, 101, 115] : List UInt8)) = false := by simpa using e5
        by_cases e6 : (s.toList == ([105, 102, 102] : List UInt8)) = true
        · have hv : vb = false := by rw [← HVB.out]; exact validB_word (by rw [(beq_iff_eq.1 e6 : s.toList = [105, 102, 102])]; unfold wordsL; simp)
          clear HVB HALL
          subst hv
          go_wp2_with fail
          go_ret
          exact ⟨rfl, rfl⟩
        have n6 : (s.toList == ([105, 102, 102] : List UInt8)) = false := by simpa using e6
        by_cases e7 : (s.toList == ([102, 111, 114, 97, 108, 108] : List UInt8)) = true
        · have hv : vb = false := by rw [← HVB.out]; exact validB_word (by rw [(beq_iff_eq.1 e7 : s.toList = [102, 111, 114, 97, 108, 108])]; unfold wordsL; simp)
          clear HVB HALL
          subst hv
          go_wp2_with fail
          go_ret
          exact ⟨rfl, rfl⟩
        have n7 : (s.toList == ([102, 111, 114, 97, 108, 108] : List UInt8)) = false := by simpa using e7
        by_cases e8 : (s.toList == ([101, 120, 105, 115, 116, 115] : List UInt8)) = true
        · have hv : vb = false := by rw [← HVB.out]; exact validB_word (by rw [(beq_iff_eq.1 e8 : s.toList = [101, 120, 105, 115, 116, 115])]; unfold wordsL; simp)
          clear HVB HALL
          subst hv
          go_wp2_with fail
          go_ret
          exact ⟨rfl, rfl⟩
        have n8 : (s.toList == ([101, 120, 105, 115, 116, 115] : List UInt8)) = false := by simpa using e8
        have hv : vb = true := by
         rw [← HVB.out]
         refine validB_true h1 h2 HALL.out ?_
         unfold wordsL
         simp only [List.mem_cons, List.not_mem_nil, or_false, not_or]
         exact ⟨by simpa using n0, by simpa using n1, by simpa using n2, by simpa using n3, by simpa using n4, by simpa using n5, by simpa using n6, by simpa using n7, by simpa using n8⟩
        clear HVB HALL e0 e1 e2 e3 e4 e5 e6 e7 e8
        subst hv
        go_wp2_with fail
        go_ret
        exact ⟨rfl, rfl⟩
def hasB (l : List ByteArray) (s : ByteArray) : Bool := l.any fun x => x == s
theorem hasB_mem (l : List ByteArray) (s : ByteArray) : hasB l s = true ↔ s ∈ l := by
 unfold hasB
 rw [List.any_eq_true]
 constructor
 · rintro ⟨x, hx, he⟩
   rw [(MapKept.bytes_beq x s).1 he] at hx; exact hx
 · intro h; exact ⟨s, h, (MapKept.bytes_beq s s).2 rfl⟩
theorem has_any {w : World} {v : Value} {l : List ByteArray} (h : SlR (fun _ (s : ByteArray) x => x = .string s) w v l) (nm : ByteArray) : Calls Tryz.prog 120 #[v, .string nm] w fun e w' => e = .returned (.bool (hasB l nm)) ∧ Ext w w' := by
 have H := Lib.hid h
 obtain ⟨A, c, rfl, h1, h2, -⟩ := h
 have hlen : l.length ≤ 9223372036854775807 := by omega
 go_enter Tryz.func120, Tryz.ntmps120
 go_wp2_with fail
 go_loopw [8] (fun iv wr => ∃ k : Nat, k ≤ l.length ∧ iv = .int .i64 k ∧ Hid (hasB (l.take k) nm = false ∧ Ext w wr)) (fun iv _ => l.length - (intOf iv).toNat)
 case atStart => exact ⟨0, Nat.zero_le _, rfl, ⟨by simp [hasB], Ext.refl w⟩⟩
 case round =>
  obtain ⟨k, hk, rfl, ⟨hno, hx⟩⟩ := hrel
  have HNO := Lib.hid hno
  have HX := Lib.hid hx
  clear hno hx
  by_cases hlt : k < l.length
  · obtain ⟨ad, x, rfl, hc, hp⟩ := SlR.get_ (SlR.ext H.out (fun _ _ h => h) HX.out) k hlt
    subst hp
    have HTK : Hid (hasB (l.take (k + 1)) nm = (hasB (l.take k) nm || l[k] == nm)) := by
     have : hasB (l.take (k + 1)) nm = (hasB (l.take k) nm || l[k] == nm) := by unfold hasB; rw [List.take_succ_eq_append_getElem hlt, List.any_append]; simp
     exact this
    have HIT : Hid ((l[k] == nm) = true → hasB l nm = true) := by
     intro h; unfold hasB; exact List.any_eq_true.2 ⟨l[k], List.getElem_mem hlt, h⟩
    generalize l[k] = q at *
    by_cases hs : q = nm
    · have hb : (q == nm) = true := (MapKept.bytes_beq q nm).2 hs
      have hb2 : (q.toList == nm.toList) = true := by rw [hs]; simp
      have HF := Lib.hid (HIT.out hb)
      clear HTK HIT
      go_wp2_with fail
      go_ret
      exact ⟨by rw [HF.out]; rfl, HX.out⟩
    · have hb : (q == nm) = false := by rw [Bool.eq_false_iff]; exact fun e => hs ((MapKept.bytes_beq q nm).1 e)
      have hb2 : (q.toList == nm.toList) = false := by rw [← beq_toListBytes]; exact hb
      have HN : Hid (hasB (l.take (k + 1)) nm = false) := by
       have : hasB (l.take (k + 1)) nm = false := by rw [HTK.out, HNO.out, hb]; rfl
       exact this
      clear HTK HIT
      go_wp2_with fail
      go_roundw
      case rel => exact ⟨k + 1, by omega, by go_num, ⟨HN.out, HX.out⟩⟩
      case measure => simp [intOf]; omega
  · have HF : Hid (hasB l nm = false) := by
     have hke : k = l.length := by omega
     have h := HNO.out
     rw [hke, List.take_length] at h
     exact h
    go_wp2_with fail
    go_ret
    exact ⟨by rw [HF.out]; rfl, HX.out⟩
def wordsB : List ByteArray := [⟨#[116, 114, 117, 101]⟩, ⟨#[102, 97, 108, 115, 101]⟩, ⟨#[97, 110, 100]⟩, ⟨#[111, 114]⟩, ⟨#[110, 111, 116]⟩, ⟨#[105, 109, 112, 108, 105, 101, 115]⟩, ⟨#[105, 102, 102]⟩, ⟨#[102, 111, 114, 97, 108, 108]⟩, ⟨#[101, 120, 105, 115, 116, 115]⟩]
theorem words_any (w : World) : Calls Tryz.prog 121 #[] w (RetStrs wordsB w) := by
 have HF : Hid (RetStrs wordsB w (.returned (.slice (some ⟨w.heap.size, 0, none⟩) 9 9)) (w.alloc (.cells #[.string ⟨#[116, 114, 117, 101]⟩, .string ⟨#[102, 97, 108, 115, 101]⟩, .string ⟨#[97, 110, 100]⟩, .string ⟨#[111, 114]⟩, .string ⟨#[110, 111, 116]⟩, .string ⟨#[105, 109, 112, 108, 105, 101, 115]⟩, .string ⟨#[105, 102, 102]⟩, .string ⟨#[102, 111, 114, 97, 108, 108]⟩, .string ⟨#[101, 120, 105, 115, 116, 115]⟩] 9))) := by
  refine ⟨_, rfl, ⟨rfl, .inr ⟨w.heap.size, 9, _, rfl, Nat.le_refl _, heap_alloc_new w _, Nat.le_refl _, by unfold maxLen; omega, rfl, rfl⟩⟩, (Ext.refl w).alloc _⟩
 go_enter Tryz.func121, Tryz.ntmps121
 go_wp2_with fail
 go_ret
 exact HF.out
theorem words_mem (s : ByteArray) : hasB wordsB s = true ↔ s.toList ∈ wordsL := by
 rw [hasB_mem]
 have key : ∀ l : List UInt8, (⟨⟨l⟩⟩ : ByteArray).toList = l := fun l => by simp
 constructor
 · intro h
   unfold wordsB at h
   simp only [List.mem_cons, List.not_mem_nil, or_false] at h
   unfold wordsL
   rcases h with rfl | rfl | rfl | rfl | rfl | rfl | rfl | rfl | rfl <;> rw [key] <;> simp
 · intro h
   have inj : ∀ l : List UInt8, s.toList = l → s = ⟨⟨l⟩⟩ := by
    intro l e
    obtain ⟨⟨d⟩⟩ := s
    rw [key] at e
    rw [e]
   unfold wordsL at h
   simp only [List.mem_cons, List.not_mem_nil, or_false] at h
   unfold wordsB
   rcases h with h | h | h | h | h | h | h | h | h <;> rw [inj _ h] <;> simp
theorem refValid_any (s : ByteArray) (w : World) : Calls Tryz.prog 60 #[.string s] w fun e w' => e = .returned (.bool (validB s)) ∧ Ext w w' := by
 by_cases h1 : s.size < 1
 · have d1 : decide ((s.size : Int) < 1) = true := by simp; omega
   have hv : validB s = false := decide_eq_false (by omega)
   rw [hv]
   go_enter Tryz.func60, Tryz.ntmps60
   go_wp2_with fail
   go_ret
   exact ⟨rfl, Ext.refl w⟩
 · have d1 : decide ((s.size : Int) < 1) = false := by simp; omega
   by_cases h2 : 16 < s.size
   · have d2 : decide ((16 : Int) < s.size) = true := by simp; omega
     have hv : validB s = false := decide_eq_false (by omega)
     rw [hv]
     go_enter Tryz.func60, Tryz.ntmps60
     go_wp2_with fail
     go_ret
     exact ⟨rfl, Ext.refl w⟩
   · have d2 : decide ((16 : Int) < s.size) = false := by simp; omega
     have HVW := Lib.hid (words_mem s)
     generalize hvb : validB s = vb
     have HVB := Lib.hid hvb
     clear hvb
     go_enter Tryz.func60, Tryz.ntmps60
     go_wp2_with fail
     refine (words_any _).mono ?_
     rintro e w1 ⟨v1, rfl, r1, x1⟩
     have HH := Lib.hid (has_any r1.slr s)
     obtain ⟨A1, c1, rfl⟩ := r1.slr.len
     have X1 := Lib.hid x1
     clear r1 x1
     generalize wordsB.length = nw at *
     go_wp2_with fail
     refine HH.out.mono ?_
     rintro e w2 ⟨rfl, x2⟩
     have X2 := Lib.hid (X1.out.trans x2)
     clear x2 HH X1
     by_cases hw : hasB wordsB s = true
     · have hv : vb = false := by rw [← HVB.out]; exact validB_word (HVW.out.1 hw)
       rw [hw]
       clear HVB HVW hw
       subst hv
       go_wp2_with fail
       go_ret
       exact ⟨rfl, X2.out⟩
     · have hw' : hasB wordsB s = false := by simpa using hw
       have HNW : Hid (s.toList ∉ wordsL) := by
        intro h; exact hw (HVW.out.2 h)
       rw [hw']
       clear hw hw' HVW
       go_wp2_with fail
       go_loopw [3] (fun iv wr => ∃ k : Nat, k ≤ s.size ∧ iv = .int .i64 k ∧ Hid ((∀ i (h : i < s.size), i < k → goodC s[i].toNat i = true) ∧ Ext w wr)) (fun iv _ => s.size - (intOf iv).toNat)
       case atStart => exact ⟨0, Nat.zero_le _, rfl, ⟨(fun i h h0 => absurd h0 (by omega)), X2.out⟩⟩
       case round =>
        obtain ⟨k, hk, rfl, HG⟩ := hrel
        have X3 := Lib.hid HG.out.2
        by_cases hlt : k < s.size
        · have HBAD := Lib.hid (validB_bad (s := s) k hlt)
          have HNEXT : Hid (goodC s[k].toNat k = true → ∀ i (h : i < s.size), i < k + 1 → goodC s[i].toNat i = true) := by
           intro hg i h hi
           by_cases he : i = k
           · subst he; exact hg
           · exact HG.out.1 i h (by omega)
          have hcc : s[k].toNat < 256 := s[k].toNat_lt
          clear HG
          go_upto_region 7 with fail
          generalize s[k].toNat = cc at *
          by_cases h95 : cc = 95
          · have d95 : ((cc : Int) == 95) = true := by simp; omega
            go_wp2_with fail
            all_goals first
              | exact ⟨⟨k + 1, by omega, by go_num, HNEXT.out (decide_eq_true (by omega)), X3.out⟩, by simp [intOf]; omega⟩
              | (exfalso; omega)
          · have d95 : ((cc : Int) == 95) = false := by simp; omega
            by_cases hk0 : k = 0
            · have dk0 : ((k : Int) == 0) = true := by simp; omega
              go_wp2_with fail
              all_goals first
                | exact ⟨⟨k + 1, by omega, by go_num, HNEXT.out (decide_eq_true (by omega)), X3.out⟩, by simp [intOf]; omega⟩
                | (go_ret
                   exact ⟨by rw [← HVB.out, HBAD.out (decide_eq_false (by omega))]; rfl, X3.out⟩)
                | (exfalso; omega)
                | (rename_i hlast
                   simp only [Bool.not_eq_false', decide_eq_true_eq] at hlast
                   first
                    | (exfalso; omega)
                    | exact ⟨⟨k + 1, by omega, by go_num, HNEXT.out (decide_eq_true (by omega)), X3.out⟩, by simp [intOf]; omega⟩
                    | (go_ret
                       exact ⟨by rw [← HVB.out, HBAD.out (decide_eq_false (by omega))]; rfl, X3.out⟩))
            · have dk0 : ((k : Int) == 0) = false := by simp; omega
              go_wp2_with fail
              all_goals first
                | exact ⟨⟨k + 1, by omega, by go_num, HNEXT.out (decide_eq_true (by omega)), X3.out⟩, by simp [intOf]; omega⟩
                | (go_ret
                   exact ⟨by rw [← HVB.out, HBAD.out (decide_eq_false (by omega))]; rfl, X3.out⟩)
                | (exfalso; omega)
                | (rename_i hlast
                   simp only [Bool.not_eq_false', decide_eq_true_eq] at hlast
                   first
                    | (exfalso; omega)
                    | exact ⟨⟨k + 1, by omega, by go_num, HNEXT.out (decide_eq_true (by omega)), X3.out⟩, by simp [intOf]; omega⟩
                    | (go_ret
                       exact ⟨by rw [← HVB.out, HBAD.out (decide_eq_false (by omega))]; rfl, X3.out⟩))
        · have hv : vb = true := by
           rw [← HVB.out]
           exact validB_true h1 h2 (fun i h => HG.out.1 i h (by omega)) HNW.out
          clear HVB HNW HG
          subst hv
          go_wp2_with fail
          go_ret
          exact ⟨rfl, X3.out⟩
end Go.Proofs.YtkbpnppiadaibaaGreatDoor

/- Layer 38: lists of names: slices.Index, slices.Contains, prenex.different; the reference's last and Names. -/
set_option maxRecDepth 100000
set_option maxHeartbeats 8000000
namespace Go.Proofs.YtkbpnppiadaibaaGreatDoor
open Go.RowKit
theorem slr_at {α : Type} {P : α → Value → Prop} {w : World} {A : Option Addr} {n c : Nat} {l : List α} (h : SlR (fun _ => P) w (.slice A n c) l) (k : Nat) (hk : k < l.length) : ∃ ad x, A = some ad ∧ ad.block < w.heap.size ∧ w.cell? (ad.add k) = some x ∧ P l[k] x := by
 obtain ⟨A', c', e, -, -, h3⟩ := h
 injection e with e1
 obtain ⟨ad, x, e4, hb, a0, hp⟩ := h3 k hk
 exact ⟨ad, x, e1.trans e4, hb, a0, hp⟩
theorem slr_take {w : World} {A : Option Addr} {n c : Nat} {l : List ByteArray} (h : SlR (fun _ (s : ByteArray) x => x = .string s) w (.slice A n c) l) (k : Nat) (hk : k ≤ l.length) : SlR (fun _ (s : ByteArray) x => x = .string s) w (.slice A k c) (l.take k) := by
 obtain ⟨A', c', e, h1, h2, h3⟩ := h
 injection e with e1 e2 e3
 subst e1 e2 e3
 have hl : (l.take k).length = k := by rw [List.length_take]; omega
 refine ⟨A, c, by rw [hl], by omega, h2, fun j hj => ?_⟩
 obtain ⟨ad, x, e1, e2, e3, e4⟩ := h3 j (by omega)
 exact ⟨ad, x, e1, e2, e3, by rw [List.getElem_take]; exact e4⟩
def FoundAt (l : List ByteArray) (s : ByteArray) (w : World) (e : Ending) (w' : World) : Prop := ∃ r : Int, e = .returned (.int .i64 r) ∧ decide (0 ≤ r) = hasB l s ∧ Ext w w'
theorem index_any {w : World} {v : Value} {l : List ByteArray} (h : SlR (fun _ (s : ByteArray) x => x = .string s) w v l) (nm : ByteArray) : Calls Tryz.prog 167 #[v, .string nm] w (FoundAt l nm w) := by
 have H := Lib.hid h
 obtain ⟨A, c, rfl, h1, h2, -⟩ := h
 have hlen : l.length ≤ 9223372036854775807 := by omega
 go_enter Tryz.func167, Tryz.ntmps167
 go_wp2_with fail
 go_loopw [8] (fun iv wr => ∃ k : Nat, k ≤ l.length ∧ iv = .int .i64 k ∧ Hid (hasB (l.take k) nm = false ∧ Ext w wr)) (fun iv _ => l.length - (intOf iv).toNat)
 case atStart => exact ⟨0, Nat.zero_le _, rfl, ⟨by simp [hasB], Ext.refl w⟩⟩
 case round =>
  obtain ⟨k, hk, rfl, ⟨hno, hx⟩⟩ := hrel
  have HNO := Lib.hid hno
  have HX := Lib.hid hx
  clear hno hx
  by_cases hlt : k < l.length
  · obtain ⟨ad, x, rfl, hc, hp⟩ := SlR.get_ (SlR.ext H.out (fun _ _ h => h) HX.out) k hlt
    subst hp
    have HTK : Hid (hasB (l.take (k + 1)) nm = (hasB (l.take k) nm || l[k] == nm)) := by
     have : hasB (l.take (k + 1)) nm = (hasB (l.take k) nm || l[k] == nm) := by unfold hasB; rw [List.take_succ_eq_append_getElem hlt, List.any_append]; simp
     exact this
    have HIT : Hid ((l[k] == nm) = true → hasB l nm = true) := by
     intro h; unfold hasB; exact List.any_eq_true.2 ⟨l[k], List.getElem_mem hlt, h⟩
    generalize l[k] = q at *
    by_cases hs : q = nm
    · have hb : (q == nm) = true := (MapKept.bytes_beq q nm).2 hs
      have hb2 : (q.toList == nm.toList) = true := by rw [hs]; simp
      have hb3 : (nm.toList == q.toList) = true := by rw [hs]; simp
      have HF := Lib.hid (HIT.out hb)
      clear HTK HIT
      go_wp2_with fail
      go_ret
      exact ⟨k, rfl, by rw [HF.out]; simp, HX.out⟩
    · have hb : (q == nm) = false := by rw [Bool.eq_false_iff]; exact fun e => hs ((MapKept.bytes_beq q nm).1 e)
      have hb2 : (q.toList == nm.toList) = false := by rw [← beq_toListBytes]; exact hb
      have hb3 : (nm.toList == q.toList) = false := by
       rw [Bool.eq_false_iff] at hb2 ⊢
       intro e
       exact hb2 (by rw [beq_iff_eq] at e ⊢; exact e.symm)
      have HN : Hid (hasB (l.take (k + 1)) nm = false) := by
       have : hasB (l.take (k + 1)) nm = false := by rw [HTK.out, HNO.out, hb]; rfl
       exact this
      clear HTK HIT
      go_wp2_with fail
      go_roundw
      case rel => exact ⟨k + 1, by omega, by go_num, ⟨HN.out, HX.out⟩⟩
      case measure => simp [intOf]; omega
  · have HF : Hid (hasB l nm = false) := by
     have hke : k = l.length := by omega
     have h := HNO.out
     rw [hke, List.take_length] at h
     exact h
    go_wp2_with fail
    go_ret
    exact ⟨-1, rfl, by rw [HF.out]; simp, HX.out⟩
theorem contains_any {w : World} {v : Value} {l : List ByteArray} (h : SlR (fun _ (s : ByteArray) x => x = .string s) w v l) (nm : ByteArray) : Calls Tryz.prog 113 #[v, .string nm] w fun e w' => e = .returned (.bool (hasB l nm)) ∧ Ext w w' := by
 have H := Lib.hid (index_any h nm)
 clear h
 go_enter Tryz.func113, Tryz.ntmps113
 go_wp2_with fail
 refine H.out.mono ?_
 rintro e w2 ⟨r, rfl, hr, hx⟩
 have HX := Lib.hid hx
 have HR := Lib.hid hr
 clear hx hr
 go_wp2_with fail
 go_ret
 exact ⟨by rw [← HR.out]; rfl, HX.out⟩
theorem last_any {w : World} {v : Value} {l : List ByteArray} (h : SlR (fun _ (s : ByteArray) x => x = .string s) w v l) (nm : ByteArray) : Calls Tryz.prog 61 #[v, .string nm] w (FoundAt l nm w) := by
 have H := Lib.hid h
 obtain ⟨A, c, rfl, h1, h2, -⟩ := h
 have hlen : l.length ≤ 9223372036854775807 := by omega
 go_enter Tryz.func61, Tryz.ntmps61
 go_wp2_with fail
 go_loopw [5] (fun iv wr => ∃ k : Nat, k ≤ l.length ∧ iv = .int .i64 ((k : Int) - 1) ∧ Hid (hasB (l.drop k) nm = false ∧ Ext w wr)) (fun iv _ => (intOf iv + 1).toNat)
 case atStart => exact ⟨l.length, Nat.le_refl _, by first | rfl | go_num, ⟨by simp [hasB], Ext.refl w⟩⟩
 case round =>
  obtain ⟨k, hk, rfl, ⟨hno, hx⟩⟩ := hrel
  have HNO := Lib.hid hno
  have HX := Lib.hid hx
  clear hno hx
  cases k with
  | succ k =>
    have e1 : ((k + 1 : Nat) : Int) - 1 = (k : Int) := by omega
    rw [e1]
    obtain ⟨ad, x, rfl, hc, hp⟩ := SlR.get_ (SlR.ext H.out (fun _ _ h => h) HX.out) k (by omega)
    subst hp
    have hk1 : k < l.length := by omega
    have HTK : Hid (hasB (l.drop k) nm = (l[k] == nm || hasB (l.drop (k + 1)) nm)) := by
     have : hasB (l.drop k) nm = (l[k] == nm || hasB (l.drop (k + 1)) nm) := by unfold hasB; rw [List.drop_eq_getElem_cons hk1]; rfl
     exact this
    have HIT : Hid ((l[k] == nm) = true → hasB l nm = true) := by
     intro h; unfold hasB; exact List.any_eq_true.2 ⟨l[k], List.getElem_mem hk1, h⟩
    have HM : Hid (k + 1 = k + 1) := Lib.hid rfl
    clear e1
    generalize l[k] = q at *
    by_cases hs : q = nm
    · have hb : (q == nm) = true := (MapKept.bytes_beq q nm).2 hs
      have hb2 : (q.toList == nm.toList) = true := by rw [hs]; simp
      have hb3 : (nm.toList == q.toList) = true := by rw [hs]; simp
      have HF := Lib.hid (HIT.out hb)
      clear HTK HIT
      go_wp2_with fail
      go_ret
      exact ⟨k, rfl, by rw [HF.out]; simp, HX.out⟩
    · have hb : (q == nm) = false := by rw [Bool.eq_false_iff]; exact fun e => hs ((MapKept.bytes_beq q nm).1 e)
      have hb2 : (q.toList == nm.toList) = false := by rw [← beq_toListBytes]; exact hb
      have hb3 : (nm.toList == q.toList) = false := by
       rw [Bool.eq_false_iff] at hb2 ⊢
       intro e
       exact hb2 (by rw [beq_iff_eq] at e ⊢; exact e.symm)
      have HN : Hid (hasB (l.drop k) nm = false) := by
       have : hasB (l.drop k) nm = false := by rw [HTK.out, HNO.out, hb]; rfl
       exact this
      clear HTK HIT
      go_wp2_with fail
      go_roundw
      case rel => exact ⟨k, by omega, by first | rfl | go_num, ⟨HN.out, HX.out⟩⟩
      case measure => simp [intOf]
  | zero =>
    have e1 : ((0 : Nat) : Int) - 1 = -1 := by omega
    rw [e1]
    clear e1
    have HF : Hid (hasB l nm = false) := by
     have h := HNO.out
     rw [List.drop_zero] at h
     exact h
    go_wp2_with fail
    go_ret
    exact ⟨-1, rfl, by rw [HF.out]; simp, HX.out⟩
def namesB (l : List ByteArray) : Bool := decide (l.length ≤ 4 ∧ ∀ i (h : i < l.length), validB l[i] = true ∧ hasB (l.take i) l[i] = false)
theorem namesB_true {l : List ByteArray} (h1 : l.length ≤ 4) (h2 : ∀ i (h : i < l.length), validB l[i] = true ∧ hasB (l.take i) l[i] = false) : namesB l = true := decide_eq_true ⟨h1, h2⟩
theorem namesB_long {l : List ByteArray} (h : 4 < l.length) : namesB l = false := decide_eq_false (fun hh => by omega)
theorem namesB_bad {l : List ByteArray} (k : Nat) (hk : k < l.length) (h : validB l[k] = true → hasB (l.take k) l[k] = true) : namesB l = false := decide_eq_false (fun hh => by
 have := hh.2 k hk
 rw [h this.1] at this
 cases this.2)
theorem different_any {w : World} {v : Value} {l : List ByteArray} (h : SlR (fun _ (s : ByteArray) x => x = .string s) w v l) : Calls Tryz.prog 58 #[v] w fun e w' => e = .returned (.bool (namesB l)) ∧ Ext w w' := by
 have H := Lib.hid h
 obtain ⟨A, c, rfl, h1, h2, -⟩ := h
 have hlen : l.length ≤ 9223372036854775807 := by omega
 go_enter Tryz.func58, Tryz.ntmps58
 by_cases h4 : l.length ≤ 4
 case neg =>
  have hd : decide ((4 : Int) < (l.length : Int)) = true := by simp; omega
  have HF := Lib.hid (namesB_long (l := l) (by omega))
  clear h4
  go_wp2_with fail
  go_ret
  exact ⟨by rw [HF.out]; rfl, Ext.refl w⟩
 have hd : decide ((4 : Int) < (l.length : Int)) = false := by simp; omega
 have H4 := Lib.hid h4
 clear h4
 go_wp2_with fail
 clear hd
 go_loopw [10] (fun iv wr => ∃ k : Nat, k ≤ l.length ∧ iv = .int .i64 k ∧ Hid ((∀ i (h : i < l.length), i < k → validB l[i] = true ∧ hasB (l.take i) l[i] = false) ∧ Ext w wr)) (fun iv _ => l.length - (intOf iv).toNat)
 case atStart => exact ⟨0, Nat.zero_le _, rfl, ⟨fun i _ h => by omega, Ext.refl w⟩⟩
 case round =>
  obtain ⟨k, hk, rfl, ⟨hno, hx⟩⟩ := hrel
  have HNO := Lib.hid hno
  have HX := Lib.hid hx
  clear hno hx
  by_cases hlt : k < l.length
  · obtain ⟨ad, x, rfl, hc, hp⟩ := SlR.get_ (SlR.ext H.out (fun _ _ h => h) HX.out) k hlt
    subst hp
    have hkc : (k : Int) ≤ (c : Int) := by omega
    have HV := Lib.hid (fun w' => valid_any l[k] w')
    have HTAKE := Lib.hid (slr_take (SlR.ext H.out (fun _ _ h => h) HX.out) k hk)
    have HBAD := Lib.hid (namesB_bad k hlt)
    have HGO : Hid (validB l[k] = true → hasB (l.take k) l[k] = false → ∀ i (h : i < l.length), i < k + 1 → validB l[i] = true ∧ hasB (l.take i) l[i] = false) := Lib.hid (fun e1 e2 i hi hik => by
     rcases Nat.lt_or_ge i k with h | h
     · exact HNO.out i hi h
     · obtain rfl : i = k := by omega
       exact ⟨e1, e2⟩)
    generalize l[k] = q at *
    by_cases hv : validB q = true
    · rw [hv] at HV HBAD
      have HVT := Lib.hid hv
      clear hv
      go_upto_region 6 with fail
      go_wp2_with fail
      refine (HV.out _).mono ?_
      rintro e w2 ⟨rfl, rfl⟩
      go_wp2_with fail
      refine (contains_any HTAKE.out q).mono ?_
      rintro e w3 ⟨rfl, x3⟩
      have X3 := Lib.hid (HX.out.trans x3)
      clear x3
      by_cases hh : hasB (l.take k) q = true
      · rw [hh]
        have HF := Lib.hid (HBAD.out (fun _ => hh))
        clear hh HBAD HGO
        go_wp2_with fail
        go_ret
        exact ⟨by rw [HF.out]; rfl, X3.out⟩
      · have hh' : hasB (l.take k) q = false := by simpa using hh
        rw [hh']
        have HN := Lib.hid (HGO.out HVT.out hh')
        clear hh hh' HBAD HGO
        go_wp2_with fail
        go_roundw
        case rel => exact ⟨k + 1, by omega, by go_num, ⟨HN.out, X3.out⟩⟩
        case measure => simp [intOf]; omega
    · have hv' : validB q = false := by simpa using hv
      rw [hv'] at HV
      have HF := Lib.hid (HBAD.out (fun e => absurd e hv))
      clear hv hv' HBAD HGO
      go_upto_region 6 with fail
      go_wp2_with fail
      refine (HV.out _).mono ?_
      rintro e w2 ⟨rfl, rfl⟩
      go_wp2_with fail
      go_ret
      exact ⟨by rw [HF.out]; rfl, HX.out⟩
  · have HF : Hid (namesB l = true) := by
     have hke : k = l.length := by omega
     exact namesB_true H4.out (fun i hi => HNO.out i hi (by omega))
    go_wp2_with fail
    go_ret
    exact ⟨by rw [HF.out]; rfl, HX.out⟩
theorem rnames_any {w : World} {v : Value} {l : List ByteArray} (h : SlR (fun _ (s : ByteArray) x => x = .string s) w v l) : Calls Tryz.prog 22 #[v] w fun e w' => e = .returned (.bool (namesB l)) ∧ Ext w w' := by
 have H := Lib.hid h
 obtain ⟨A, c, rfl, h1, h2, -⟩ := h
 have hlen : l.length ≤ 9223372036854775807 := by omega
 go_enter Tryz.func22, Tryz.ntmps22
 go_wp2_with fail
 go_loopw [6] (fun iv wr => ∃ k : Nat, k ≤ l.length ∧ iv = .int .i64 k ∧ Hid ((∀ i (h : i < l.length), i < k → validB l[i] = true ∧ hasB (l.take i) l[i] = false) ∧ Ext w wr)) (fun iv _ => l.length - (intOf iv).toNat)
 case atStart => exact ⟨0, Nat.zero_le _, rfl, ⟨fun i _ h => by omega, Ext.refl w⟩⟩
 case round =>
  obtain ⟨k, hk, rfl, ⟨hno, hx⟩⟩ := hrel
  have HNO := Lib.hid hno
  have HX := Lib.hid hx
  clear hno hx
  by_cases hlt : k < l.length
  · obtain ⟨ad, x, rfl, hc, hp⟩ := SlR.get_ (SlR.ext H.out (fun _ _ h => h) HX.out) k hlt
    subst hp
    have hkc : (k : Int) ≤ (c : Int) := by omega
    have hkl : (k : Int) < (l.length : Int) := by omega
    have hab : (ad.add k).block < wr.heap.size := by
     obtain ⟨ad', x', e, hb, -, -⟩ := slr_at (SlR.ext H.out (fun _ _ h => h) HX.out) k hlt
     injection e with e
     rw [block_of_add, e]; exact hb
    have HV := Lib.hid (fun w' => refValid_any l[k] w')
    have HTAKE := Lib.hid (fun w' (hx : Ext wr w') => slr_take (SlR.ext H.out (fun _ _ h => h) (HX.out.trans hx)) k hk)
    have HBAD := Lib.hid (namesB_bad k hlt)
    have HGO : Hid (validB l[k] = true → hasB (l.take k) l[k] = false → ∀ i (h : i < l.length), i < k + 1 → validB l[i] = true ∧ hasB (l.take i) l[i] = false) := Lib.hid (fun e1 e2 i hi hik => by
     rcases Nat.lt_or_ge i k with h | h
     · exact HNO.out i hi h
     · obtain rfl : i = k := by omega
       exact ⟨e1, e2⟩)
    generalize l[k] = q at *
    have HSS : Hid (∀ W2, Ext wr W2 → (Ext wr W2 ∧ W2.cell? (ad.add k) = some (.string q))) := Lib.hid (fun W2 hx2 => ⟨hx2, (hx2.cell hab).trans hc⟩)
    have Y0 := Lib.hid ((Ext.refl wr).drew)
    clear hc hab
    by_cases hv : validB q = true
    · rw [hv] at HV HBAD
      have HVT := Lib.hid hv
      clear hv
      go_upto_region 4 with fail
      go_region_held3 (fun W2 => Ext wr W2 ∧ W2.cell? (ad.add k) = some (.string q))
       (first | with_reducible exact HSS.out _ Y0.out | with_reducible exact HSS.out _ z1 | with_reducible exact HSS.out _ z2)
       (first
         | (go_at_call 60
            refine (HV.out _).mono ?_
            rintro e v1 ⟨rfl, x1⟩
            have z1 : Ext wr v1 := Ext.trans Y0.out x1)
         | (go_at_call 61
            refine (last_any (HTAKE.out _ z1) q).mono ?_
            rintro e v2 ⟨r, rfl, hr, x2⟩
            have z2 : Ext wr v2 := Ext.trans z1 x2))
      all_goals
       have X3 := Lib.hid (HX.out.trans z2)
       clear z1 z2 x1 x2
       by_cases hh : hasB (l.take k) q = true
       · have HF := Lib.hid (HBAD.out (fun _ => hh))
         clear hr
         simp only [hh]
         clear hh HBAD HGO
         go_wp2_with fail
         go_ret
         exact ⟨by rw [HF.out]; rfl, X3.out⟩
       · have hh' : hasB (l.take k) q = false := by simpa using hh
         have HN := Lib.hid (HGO.out HVT.out hh')
         clear hr
         simp only [hh']
         clear hh hh' HBAD HGO
         go_wp2_with fail
         go_roundw
         case rel => exact ⟨k + 1, by omega, by go_num, ⟨HN.out, X3.out⟩⟩
         case measure => simp [intOf]; omega
    · have hv' : validB q = false := by simpa using hv
      rw [hv'] at HV
      have HF := Lib.hid (HBAD.out (fun e => absurd e hv))
      clear hv hv' HBAD HGO
      have HX1 := Lib.hid (fun w' (x1 : Ext wr w') => HX.out.trans x1)
      go_upto_region 4 with fail
      refine wp_region_held_drew (S := fun W2 => Ext wr W2 ∧ W2.cell? (ad.add k) = some (.string q)) (by kernel_rfl) (HSS.out _ Y0.out) (fun hHeld => ?_)
      refine wpAnyH_take (i := 0) (v := ?v0x1) rfl (by kernel_rfl) (by kernel_rfl) (by kernel_rfl) (fun _ _ _ h => h) (Or.inl ⟨by rfl, ?hy0x1⟩) (by assumption) ?rest0x1
      case hy0x1 =>
       intro w' hSw
       try dsimp only at hSw
       go_simp
       try (with_reducible rfl)
      try simp only [Act.put, List.getElem_toArray, List.getElem_cons_zero, List.getElem_cons_succ, List.setIfInBounds_toArray, List.set_cons_zero, List.set_cons_succ]
      refine wpAnyH_take (i := 1) (v := ?v1x2) rfl (by kernel_rfl) (by kernel_rfl) (by kernel_rfl) (fun _ _ _ h => h) (Or.inl ⟨by rfl, ?hy1x2⟩) (by assumption) ?rest1x2
      case hy1x2 =>
       intro w' hSw
       try dsimp only at hSw
       go_simp
       try (with_reducible rfl)
      try simp only [Act.put, List.getElem_toArray, List.getElem_cons_zero, List.getElem_cons_succ, List.setIfInBounds_toArray, List.set_cons_zero, List.set_cons_succ]
      refine wpAnyH_take (i := 2) (v := ?v2x3) rfl (by kernel_rfl) (by kernel_rfl) (by kernel_rfl) (fun _ _ _ h => h) (Or.inl ⟨by rfl, ?hy2x3⟩) (by assumption) ?rest2x3
      case hy2x3 =>
       intro w' hSw
       try dsimp only at hSw
       go_simp
       try (with_reducible rfl)
      try simp only [Act.put, List.getElem_toArray, List.getElem_cons_zero, List.getElem_cons_succ, List.setIfInBounds_toArray, List.set_cons_zero, List.set_cons_succ]
      refine wpAnyH_take (i := 3) (v := ?v3x4) rfl (by kernel_rfl) (by kernel_rfl) (by kernel_rfl) (fun _ _ _ h => h) (Or.inl ⟨by rfl, ?hy3x4⟩) (by assumption) ?rest3x4
      case hy3x4 =>
       intro w' hSw
       try dsimp only at hSw
       go_simp
       try (with_reducible rfl)
      try simp only [Act.put, List.getElem_toArray, List.getElem_cons_zero, List.getElem_cons_succ, List.setIfInBounds_toArray, List.set_cons_zero, List.set_cons_succ]
      refine wpAnyH_ready (rs := [4]) (by kernel_rfl) (by simp) ?_
      refine AllReadyH.cons rfl (fun K hK => ?_) AllReadyH.nil
      go_simp
      go_at_call 60
      refine (HV.out _).mono ?_
      rintro e v1 ⟨rfl, x1⟩
      have z1 : Ext wr v1 := Ext.trans Y0.out x1
      refine hK.out _ _ (HSS.out _ z1) (fun hHeld => ?_)
      clear hK K
      try simp only [Act.put, List.getElem_toArray, List.getElem_cons_zero, List.getElem_cons_succ, List.setIfInBounds_toArray, List.set_cons_zero, List.set_cons_succ]
      refine wpAnyH_take (i := 5) (v := ?v5x5) rfl (by kernel_rfl) (by kernel_rfl) (by kernel_rfl) (fun _ _ _ h => h) (Or.inl ⟨by rfl, ?hy5x5⟩) (by assumption) ?rest5x5
      case hy5x5 =>
       intro w' hSw
       try dsimp only at hSw
       go_simp
       try (with_reducible rfl)
      try simp only [Act.put, List.getElem_toArray, List.getElem_cons_zero, List.getElem_cons_succ, List.setIfInBounds_toArray, List.set_cons_zero, List.set_cons_succ]
      refine wpAnyH_take (i := 6) (v := ?v6x6) rfl (by kernel_rfl) (by kernel_rfl) (by kernel_rfl) (fun _ _ _ h => h) (Or.inl ⟨by rfl, ?hy6x6⟩) (by assumption) ?rest6x6
      case hy6x6 =>
       intro w' hSw
       try dsimp only at hSw
       go_simp
       try (with_reducible rfl)
      try simp only [Act.put, List.getElem_toArray, List.getElem_cons_zero, List.getElem_cons_succ, List.setIfInBounds_toArray, List.set_cons_zero, List.set_cons_succ]
      refine wpAnyH_take (i := 7) (v := undef) rfl (by kernel_rfl) (by kernel_rfl) (by kernel_rfl) (fun _ _ _ h => h) (Or.inr ⟨by rfl, rfl⟩) (by assumption) ?_
      try simp only [Act.put, List.getElem_toArray, List.getElem_cons_zero, List.getElem_cons_succ, List.setIfInBounds_toArray, List.set_cons_zero, List.set_cons_succ]
      refine wpAnyH_take (i := 8) (v := undef) rfl (by kernel_rfl) (by kernel_rfl) (by kernel_rfl) (fun _ _ _ h => h) (Or.inr ⟨by rfl, rfl⟩) (by assumption) ?_
      try simp only [Act.put, List.getElem_toArray, List.getElem_cons_zero, List.getElem_cons_succ, List.setIfInBounds_toArray, List.set_cons_zero, List.set_cons_succ]
      refine wpAnyH_take (i := 9) (v := undef) rfl (by kernel_rfl) (by kernel_rfl) (by kernel_rfl) (fun _ _ _ h => h) (Or.inr ⟨by rfl, rfl⟩) (by assumption) ?_
      try simp only [Act.put, List.getElem_toArray, List.getElem_cons_zero, List.getElem_cons_succ, List.setIfInBounds_toArray, List.set_cons_zero, List.set_cons_succ]
      refine wpAnyH_take (i := 10) (v := undef) rfl (by kernel_rfl) (by kernel_rfl) (by kernel_rfl) (fun _ _ _ h => h) (Or.inr ⟨by rfl, rfl⟩) (by assumption) ?_
      try simp only [Act.put, List.getElem_toArray, List.getElem_cons_zero, List.getElem_cons_succ, List.setIfInBounds_toArray, List.set_cons_zero, List.set_cons_succ]
      refine wpAnyH_take (i := 11) (v := undef) rfl (by kernel_rfl) (by kernel_rfl) (by kernel_rfl) (fun _ _ _ h => h) (Or.inr ⟨by rfl, rfl⟩) (by assumption) ?_
      try simp only [Act.put, List.getElem_toArray, List.getElem_cons_zero, List.getElem_cons_succ, List.setIfInBounds_toArray, List.set_cons_zero, List.set_cons_succ]
      refine wpAnyH_take (i := 12) (v := undef) rfl (by kernel_rfl) (by kernel_rfl) (by kernel_rfl) (fun _ _ _ h => h) (Or.inr ⟨by rfl, rfl⟩) (by assumption) ?_
      try simp only [Act.put, List.getElem_toArray, List.getElem_cons_zero, List.getElem_cons_succ, List.setIfInBounds_toArray, List.set_cons_zero, List.set_cons_succ]
      refine wpAnyH_take (i := 13) (v := undef) rfl (by kernel_rfl) (by kernel_rfl) (by kernel_rfl) (fun _ _ _ h => h) (Or.inr ⟨by rfl, rfl⟩) (by assumption) ?_
      try simp only [Act.put, List.getElem_toArray, List.getElem_cons_zero, List.getElem_cons_succ, List.setIfInBounds_toArray, List.set_cons_zero, List.set_cons_succ]
      refine wpAnyH_take (i := 14) (v := undef) rfl (by kernel_rfl) (by kernel_rfl) (by kernel_rfl) (fun _ _ _ h => h) (Or.inr ⟨by rfl, rfl⟩) (by assumption) ?_
      try simp only [Act.put, List.getElem_toArray, List.getElem_cons_zero, List.getElem_cons_succ, List.setIfInBounds_toArray, List.set_cons_zero, List.set_cons_succ]
      refine wpAnyH_take (i := 15) (v := undef) rfl (by kernel_rfl) (by kernel_rfl) (by kernel_rfl) (fun _ _ _ h => h) (Or.inr ⟨by rfl, rfl⟩) (by assumption) ?_
      try simp only [Act.put, List.getElem_toArray, List.getElem_cons_zero, List.getElem_cons_succ, List.setIfInBounds_toArray, List.set_cons_zero, List.set_cons_succ]
      refine wpAnyH_take (i := 16) (v := ?v16x16) rfl (by kernel_rfl) (by kernel_rfl) (by kernel_rfl) (fun _ _ _ h => h) (Or.inl ⟨by rfl, ?hy16x16⟩) (by assumption) ?rest16x16
      case hy16x16 =>
       intro w' hSw
       try dsimp only at hSw
       go_simp
       try (with_reducible rfl)
      try simp only [Act.put, List.getElem_toArray, List.getElem_cons_zero, List.getElem_cons_succ, List.setIfInBounds_toArray, List.set_cons_zero, List.set_cons_succ]
      refine wpAnyH_done (by kernel_rfl) ?_ _
      have X3 := Lib.hid (HX1.out _ z1)
      clear z1 x1
      go_wp2_with fail
      go_ret
      exact ⟨by rw [HF.out]; rfl, X3.out⟩
  · have hke : k = l.length := by omega
    by_cases h4 : l.length ≤ 4
    · have hd : decide ((l.length : Int) ≤ 4) = true := by simp; omega
      have HF : Hid (namesB l = true) := namesB_true h4 (fun i hi => HNO.out i hi (by omega))
      clear h4
      go_wp2_with fail
      go_ret
      exact ⟨by rw [HF.out]; rfl, HX.out⟩
    · have hd : decide ((l.length : Int) ≤ 4) = false := by simp; omega
      have HF : Hid (namesB l = false) := namesB_long (by omega)
      clear h4
      go_wp2_with fail
      go_ret
      exact ⟨by rw [HF.out]; rfl, HX.out⟩
end Go.Proofs.YtkbpnppiadaibaaGreatDoor
