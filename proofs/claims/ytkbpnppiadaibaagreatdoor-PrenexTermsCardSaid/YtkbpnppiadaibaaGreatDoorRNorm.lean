/- Layer 22: recpoly.canonical, Normal. -/
import Derived.Test.YtkbpnppiadaibaaGreatDoorMt24
set_option linter.unusedSimpArgs false
set_option linter.unusedVariables false

set_option maxRecDepth 100000
set_option maxHeartbeats 8000000
namespace Go.Proofs.YtkbpnppiadaibaaGreatDoor
open Go.RowKit
mutual
theorem PlV.dig {w : World} {q : Nat → Prop} : ∀ (p : Pl) (v : Value), PlV w q p v → p.dig
 | .mk l n d cs, v, h => by
   unfold PlV at h
   obtain ⟨s, A, c, e, h1, h2, h3, h4⟩ := h
   unfold Pl.dig
   exact ⟨h1.digs, PlsAt.dig cs A 0 h4⟩
theorem PlsAt.dig {w : World} {q : Nat → Prop} : ∀ (cs : List Pl) (A : Option Addr) (j : Nat), PlsAt w q cs A j → plDig cs
 | [], A, j, h => by unfold plDig; trivial
 | c :: r, A, j, h => by
   unfold PlsAt at h
   obtain ⟨⟨ad, s, K, e, hb, hq, h1, h2⟩, h3⟩ := h
   unfold plDig
   exact ⟨PlV.dig c _ h2, PlsAt.dig r A (j + 1) h3⟩
end
theorem canonical_can {w : World} {q : Nat → Prop} {p : Pl} (v : Value) (h : PlV w q p v) (hp : p.Can) : Calls Tryz.prog 135 #[v] w (RetPl (fun b => q b ∨ w.heap.size ≤ b) p w) := by
 have hdig := h.dig
 obtain ⟨A0, n0, c0, A, c, rfl, hnat, hl1, hl2, h4⟩ := h.open_
 obtain ⟨W, hW⟩ : ∃ W, (w.alloc (.cells #[.int .i64 p.lv, .bool p.neg, .slice A0 n0 c0, .slice A p.cs.length c] 42)).alloc (.cells #[.int .i64 0, .bool false, .slice none 0 0, .slice none 0 0] 42) = W := ⟨_, rfl⟩
 have hWx : Ext w W := by rw [← hW]; exact ((Ext.refl w).alloc _).alloc _
 have hWs : W.heap.size = w.heap.size + 1 + 1 := by rw [← hW]; simp
 have hbx : Box4 W w.heap.size p (.slice A0 n0 c0) (.slice A p.cs.length c) := by rw [← hW]; exact (Box4.new w p _ _ _).ext ((Ext.refl _).alloc _) (by simp)
 have hz : Zero4 W (w.heap.size + 1) := by
  have := Zero4.new (w.alloc (.cells #[.int .i64 p.lv, .bool p.neg, .slice A0 n0 c0, .slice A p.cs.length c] 42)) 42
  rw [hW] at this
  simpa using this
 obtain ⟨b0, b1, b2, b3⟩ := id hbx
 have hpl0 : PlV w (fun b => q b ∧ b < w.heap.size) p (plV p (.slice A0 n0 c0) (.slice A p.cs.length c)) := PlV.turn_ (Nat.le_refl _) (fun _ _ h => h) (fun b hb hq => ⟨⟨hq, hb⟩, rfl⟩) h
 have HPL := Lib.hid hpl0
 have HWX := Lib.hid hWx
 have HBX := Lib.hid hbx
 have HZ := Lib.hid hz
 have HCN := Lib.hid ((Pl.isCan_iff p hdig).2 hp)
 clear h hnat h4 hWx hbx hz hpl0 hdig hp
 unfold plV
 go_enter Tryz.func135, Tryz.ntmps135
 go_wp2_with fail
 clear hW b0 b1 b2 b3
 refine (isCan_any p _ (HPL.out.ext HWX.out)).mono ?_
 rw [HCN.out]
 rintro e w1 ⟨rfl, x1⟩
 obtain ⟨b0, b1, b2, b3⟩ := HBX.out.ext x1 (by omega)
 have hs1 := x1.size
 have X1 := Lib.hid (HWX.out.trans x1)
 have HZ1 := Lib.hid (HZ.out.ext x1 (by omega))
 clear x1
 have HF := Lib.hid (close_pl (q' := fun b => q b ∨ w.heap.size ≤ b) X1.out (Nat.le_succ _) HZ1.out (HPL.out.ext X1.out) (fun b _ hb => ⟨by omega, .inl hb.1⟩))
 obtain ⟨⟨z0, z1, z2, z3⟩, zf⟩ := HZ1.out
 clear HZ1 HPL HCN
 go_wp2_with fail
 exact bodyPost_ret (v := plV p (.slice A0 n0 c0) (.slice A p.cs.length c)) (by simp [results, Tryz.results135, go_sem, z0, z1, z2, z3, plV]) rfl HF.out
end Go.Proofs.YtkbpnppiadaibaaGreatDoor
