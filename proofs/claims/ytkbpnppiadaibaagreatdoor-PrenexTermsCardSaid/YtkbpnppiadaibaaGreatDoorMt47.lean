/- Terms that are nil: formula.Free of an atom whose right side is nil. -/
import Derived.Test.YtkbpnppiadaibaaGreatDoorMt38
import Derived.Test.YtkbpnppiadaibaaGreatDoorMt46
import Derived.Test.YtkbpnppiadaibaaGreatDoorMt43
import Derived.Test.YtkbpnppiadaibaaGreatDoorMt39
set_option linter.unusedSimpArgs false
set_option linter.unusedVariables false

set_option maxRecDepth 100000
set_option maxHeartbeats 8000000
namespace Go.Proofs.YtkbpnppiadaibaaGreatDoor
open Go.RowKit
attribute [local go_sem] as_Num as_Name as_Add as_Sub as_Mul as_Neg as_Pow as_Truth as_Atom as_Not as_And as_Or as_Implies as_Iff as_Quant
theorem run_assert_nil {P : Program} {T : TypeId} {z : Value} (h : structT P T = true) (hz : (P.info? T).map (·.zero) = some (some z)) (xT : TypeId) (w : World) :
 (Instr.typeAssert .nilIface xT T true).run P w = .ok (.tuple #[z, .bool false]) w := by
 obtain ⟨j, hj, hz'⟩ := Option.map_eq_some_iff.1 hz
 unfold structT at h
 split at h
 · rename_i fs hu
   simp [Instr.typeAssert, run_underlying hu, zeroValue, typeInfo, hj, hz']
 · cases h
theorem no_Num (xT : TypeId) (w : World) : (Instr.typeAssert .nilIface xT 120 true).run Tryz.prog w = .ok (.tuple #[.agg #[.bool false, .slice none 0 0], .bool false]) w :=
 run_assert_nil (by kernel_rfl) (by kernel_rfl) xT w
theorem no_Name (xT : TypeId) (w : World) : (Instr.typeAssert .nilIface xT 91 true).run Tryz.prog w = .ok (.tuple #[.agg #[.string ByteArray.empty], .bool false]) w :=
 run_assert_nil (by kernel_rfl) (by kernel_rfl) xT w
theorem no_Add (xT : TypeId) (w : World) : (Instr.typeAssert .nilIface xT 126 true).run Tryz.prog w = .ok (.tuple #[.agg #[.nilIface, .nilIface], .bool false]) w :=
 run_assert_nil (by kernel_rfl) (by kernel_rfl) xT w
theorem no_Sub (xT : TypeId) (w : World) : (Instr.typeAssert .nilIface xT 127 true).run Tryz.prog w = .ok (.tuple #[.agg #[.nilIface, .nilIface], .bool false]) w :=
 run_assert_nil (by kernel_rfl) (by kernel_rfl) xT w
theorem no_Mul (xT : TypeId) (w : World) : (Instr.typeAssert .nilIface xT 128 true).run Tryz.prog w = .ok (.tuple #[.agg #[.nilIface, .nilIface], .bool false]) w :=
 run_assert_nil (by kernel_rfl) (by kernel_rfl) xT w
theorem no_Neg (xT : TypeId) (w : World) : (Instr.typeAssert .nilIface xT 122 true).run Tryz.prog w = .ok (.tuple #[.agg #[.nilIface], .bool false]) w :=
 run_assert_nil (by kernel_rfl) (by kernel_rfl) xT w
theorem no_Pow (xT : TypeId) (w : World) : (Instr.typeAssert .nilIface xT 124 true).run Tryz.prog w = .ok (.tuple #[.agg #[.nilIface, .int .i64 0], .bool false]) w :=
 run_assert_nil (by kernel_rfl) (by kernel_rfl) xT w
attribute [local go_sem] no_Num no_Name no_Add no_Sub no_Mul no_Neg no_Pow
theorem subterms_nil {w : World} : Calls Tryz.prog 181 #[.nilIface] w fun e w' => e = .returned (.slice none 0 0) ∧ w' = w := by
 go_enter Tryz.func181, Tryz.ntmps181
 go_wp2_with fail
 go_ret
 exact ⟨rfl, rfl⟩
theorem occ_nil {K : Nat} {caps : Array Value} (W : World) : Calls Tryz.prog 133 #[.nilIface, .func (.func K) #[] caps] W fun e W' => (∃ v, e = .returned v) ∧ Ext W W' := by
 go_enter Tryz.func133, Tryz.ntmps133
 go_wp2_with fail
 refine subterms_nil.mono ?_
 rintro e w1 ⟨rfl, rfl⟩
 go_wp2_with fail
 refine wp_loop_rounds 1 ?_
 rw [rounds_succ]
 go_wp2_with fail
 go_end0
 exact ⟨⟨_, rfl⟩, (Ext.refl W).alloc _⟩
section
variable {α : Type} {K : Nat} {caps : Array Value} {Ma : Nat} {J : Nat → World → (Nat → Prop) → α → Prop} {step : (ByteArray → Int) → ByteArray → α → α} {w0 : World} {L : Nat}
theorem parts_atom1 (x : Value) (w : World) : Calls Tryz.prog 134 #[.iface 93 x] w fun e w' => e = .returned (.slice none 0 0) ∧ w' = w := by
 go_enter Tryz.func134, Tryz.ntmps134
 go_wp2_with fail
 go_ret
 exact ⟨rfl, rfl⟩
theorem walk_atom1 (V : Walks K caps Ma J step) {l : Tm} {x : Value} (hx : TmV w0 L l x) (b : Nat) (W : World) (own : Nat → Prop) (a : ByteArray → Int) (acc : α) (hJ : J (b + l.sz) W own acc) (hA : AMap W Ma a) :
 Calls Tryz.prog 76 #[.iface 93 (.agg #[x, .int .i64 0, .nilIface]), .map (some Ma), .func (.func K) #[] caps] W (WalkPost Ma b J a own W (l.fold (step a) acc)) := by
 have HV := Lib.hid V
 have HJ := Lib.hid hJ
 have HA := Lib.hid hA
 clear V hJ hA
 have HX := Lib.hid hx
 obtain ⟨T, x, rfl⟩ := hx.iface
 clear hx
 go_enter Tryz.func76, Tryz.ntmps76
 go_wp2_with fail
 have hlt := HV.out.lt _ _ _ _ HJ.out
 have HLT := Lib.hid hlt
 clear hlt
 refine (occ_any (HV.out.visits a) _ l _ (Nat.lt_succ_self _) HX.out b _ own acc ⟨HV.out.ext _ _ _ _ _ HJ.out ((Ext.refl W).alloc _), HA.out.ext ((Ext.refl W).alloc _)⟩).mono ?_
 rintro e w1 ⟨⟨v1, rfl⟩, own1, ⟨hJ1, hA1⟩, hk1⟩
 have c2 : w1.cell? ⟨W.heap.size, 2, none⟩ = some .nilIface := by
  rw [hk1.cell (p := ⟨W.heap.size, 2, none⟩) (by simp) (fun ho => by have := HLT.out _ ho; simp at this)]
  simp [go_sem]
 have HJ1 := Lib.hid hJ1
 have HA1 := Lib.hid hA1
 have HK1 := Lib.hid (Keeps.trans (Keeps.of_ext ((Ext.refl W).alloc _)) hk1)
 clear hJ1 hA1 hk1
 go_wp2_with fail
 clear c2
 refine (occ_nil _).mono ?_
 rintro e w2 ⟨⟨v2, rfl⟩, x2⟩
 have HJ2 := Lib.hid (HV.out.ext _ _ _ _ _ HJ1.out x2)
 have HA2 := Lib.hid (HA1.out.ext x2)
 have HK2 := Lib.hid (HK1.out.trans (Keeps.of_ext x2))
 clear x2 HJ1 HA1 HK1
 go_wp2_with fail
 refine (parts_atom1 _ _).mono ?_
 rintro e w3 ⟨rfl, rfl⟩
 have HX3 := Lib.hid ((Ext.refl w2).alloc (.cells #[.bool false, .string ByteArray.empty, .nilIface] 95))
 go_wp2_with fail
 refine wp_loop_rounds 1 ?_
 rw [rounds_succ]
 go_wp2_with fail
 go_end0
 exact ⟨⟨_, rfl⟩, own1, HV.out.ext _ _ _ _ _ HJ2.out HX3.out, HA2.out.ext HX3.out, (HK2.out.trans (Keeps.of_ext HX3.out)).plus Ma⟩
end
theorem free_atom1 {w0 w : World} {L : Nat} (t : Tm) {x : Value} (h : TmV w0 L t x) (hl : t.sz ≤ 1099511627776) : Calls Tryz.prog 29 #[.iface 93 (.agg #[x, .int .i64 0, .nilIface])] w (RetStrs (t.fold (freeStep (fun _ => 0)) []) w) := by
 have hmm := @run_makeMap Tryz.prog
 go_enter Tryz.func29, Tryz.ntmps29
 go_wp2_with fail
 obtain ⟨W, hW⟩ : ∃ W, ((((w.alloc (Obj.cells #[.slice none 0 0] 39)).alloc (Obj.map #[] 0)).alloc (Obj.map #[] 0)).alloc (Obj.cells #[.map (some (w.heap.size + 1))] 105)).alloc (Obj.cells #[.map (some (w.heap.size + 1 + 1))] 106) = W := ⟨_, rfl⟩
 rw [hW]
 have hsz : W.heap.size = w.heap.size + 5 := by rw [← hW]; simp
 have hx : Ext w W := by rw [← hW]; exact (((((Ext.refl w).alloc _).alloc _).alloc _).alloc _).alloc _
 have hd : FreeBlocks (w.heap.size + 5) (w.heap.size + 1) (w.heap.size + 1 + 1) (w.heap.size + 1 + 1 + 1) (w.heap.size + 1 + 1 + 1 + 1) w.heap.size := by
  constructor <;> omega
 have m1 : SMap W (w.heap.size + 1) [] := by
  rw [← hW]
  have := SMap.made (w.alloc (Obj.cells #[.slice none 0 0] 39))
  rw [World.size_alloc] at this
  exact ((this.alloc _).alloc _).alloc _
 have m2 : SMap W (w.heap.size + 1 + 1) [] := by
  rw [← hW]
  have := SMap.made ((w.alloc (Obj.cells #[.slice none 0 0] 39)).alloc (Obj.map #[] 0))
  rw [World.size_alloc, World.size_alloc] at this
  exact (this.alloc _).alloc _
 have hJ : FreeJ (w.heap.size + 5) (w.heap.size + 1) (w.heap.size + 1 + 1) (w.heap.size + 1 + 1 + 1) (w.heap.size + 1 + 1 + 1 + 1) w.heap.size t.sz (0 + t.sz) W (fun i => i = w.heap.size ∨ i = w.heap.size + 1 + 1 ∨ (Value.slice none 0 0).ownBlock = some i) [] := by
  refine ⟨.slice none 0 0, [], ?_, ?_, ?_, m2, fun s => by simp [mget, has], StrRow.nil _ _, by simp, rfl, by omega⟩
  · rw [← hW]; simp [go_sem]
  · rw [← hW]; simp [go_sem]
  · rw [← hW, Below.heap_alloc _ _ _ (by simp; omega), Below.heap_alloc _ _ _ (by simp; omega), Below.heap_alloc _ _ _ (by simp; omega), Below.heap_alloc _ _ _ (by simp)]
    exact heap_alloc_new w _
 refine (walk_atom1 (free_walks hd hl) h 0 W _ (fun _ => 0) [] hJ ⟨[], m1, fun s => by simp [mget]⟩).mono ?_
 rintro e w1 ⟨⟨v1, rfl⟩, own', hJ', hA', hk'⟩
 have hx1 : Ext w w1 := hk'.ext hx (fun i hi => by
  rcases hi with (hi | hi | hi) | hi
  · omega
  · omega
  · simp [Value.ownBlock] at hi
  · omega)
 obtain ⟨v2, ls, c1, c2, c3, c4, c5, c6, c7, c8, c9⟩ := hJ'
 have cl := cell_of_one c3
 have HR : Hid (StrRow w1 w.heap.size v2 (t.fold (freeStep (fun _ => 0)) [])) := by
  have : StrRow w1 w.heap.size v2 (t.fold (freeStep (fun _ => 0)) []) := by
   have h6 := c6
   unfold StrRow World.ownsRow at h6 ⊢
   refine ⟨h6.1, ?_⟩
   rcases h6.2 with h | ⟨g, cap, cur, h1, h2, h3⟩
   · exact .inl h
   · exact .inr ⟨g, cap, cur, h1, by omega, h3⟩
  exact this
 have HX1 := Lib.hid hx1
 clear hW hx m1 m2 hJ hA' hk' hd c1 c2 c3 c4 c5 c6 c8 hx1
 go_wp2_with fail
 go_ret
 exact ⟨_, rfl, HR.out, HX1.out⟩
end Go.Proofs.YtkbpnppiadaibaaGreatDoor

/- Layer 38: prenex.Poly: the polynomial of a term with these names, or the error. -/
set_option maxRecDepth 100000
set_option maxHeartbeats 8000000
namespace Go.Proofs.YtkbpnppiadaibaaGreatDoor
open Go.RowKit
def Tm.names1 (t : Tm) : List ByteArray := t.fold (freeStep (fun _ => 0)) []
def polErr (t : Tm) (nms : List ByteArray) : Int := if namesB nms = false then 1 else if t.names1.any (fun s => levP nms nms.length s == 0) then 7 else 0
def RetPE (t : Tm) (nms : List ByteArray) (w : World) (e : Ending) (w' : World) : Prop := ∃ pv, e = .returned (.tuple #[pv, .int .i64 (polErr t nms)]) ∧ PlV w' (fun b => w.heap.size ≤ b) (if polErr t nms = 0 then polF (levP nms nms.length) t else Pl.zero) pv ∧ Ext w w'
theorem pPoly_any {w : World} {L : Nat} (hL : L ≤ 1000000000000) (t : Tm) {v nv : Value} {nms : List ByteArray} (h : TmV w L t v) (hs : SlR (fun _ (s : ByteArray) x => x = .string s) w nv nms) (hwt : t.wt ≤ 400) (hsz : t.sz ≤ 1099511627776) (hfl : t.names1.length ≤ 1099511627776) : Calls Tryz.prog 21 #[v, nv] w (RetPE t nms w) := by
 have HS := Lib.hid hs
 have HT := Lib.hid h
 obtain ⟨T, x, rfl⟩ := h.iface
 obtain ⟨NA, cn, rfl, hn1, hn2, -⟩ := hs
 clear h
 obtain ⟨W, hW⟩ : ∃ W, w.alloc (.cells #[.int .i64 0, .bool false, .slice none 0 0, .slice none 0 0] 42) = W := ⟨_, rfl⟩
 have HWX : Hid (Ext w W) := Lib.hid (by rw [← hW]; exact (Ext.refl w).alloc _)
 have hWs : W.heap.size = w.heap.size + 1 := by rw [← hW]; simp
 have HZ : Hid (Zero4 W w.heap.size) := Lib.hid (by rw [← hW]; exact Zero4.new w _)
 have HDF := Lib.hid (different_any (SlR.ext HS.out (fun _ _ h => h) HWX.out))
 have hmm := @run_makeMap Tryz.prog
 go_enter Tryz.func21, Tryz.ntmps21
 go_wp2_with fail
 clear hW
 refine HDF.out.mono ?_
 rintro e w1 ⟨rfl, x1⟩
 have hs1 := x1.size
 have X1 := Lib.hid (HWX.out.trans x1)
 have HZ1 := Lib.hid (HZ.out.ext x1 (by omega))
 clear x1 HDF HZ
 by_cases hn : namesB nms = true
 case neg =>
  have hn' : namesB nms = false := by simpa using hn
  have HE : Hid (polErr t nms = 1) := Lib.hid (by unfold polErr; rw [if_pos hn'])
  rw [hn']
  have hf := close_pl (p := Pl.zero) (q := fun _ => False) (q' := fun b => w.heap.size ≤ b) X1.out (Nat.le_refl _) HZ1.out (Pl.zero_v _ _ none 0 (by omega)) (fun b _ h => h.elim)
  obtain ⟨pv, ep, hpv, hx2⟩ := hf
  injection ep with ep
  subst ep
  have HF := Lib.hid hpv
  have HX2 := Lib.hid hx2
  obtain ⟨⟨z0, z1, z2, z3⟩, zf⟩ := HZ1.out
  clear hn hn' hpv hx2
  go_wp2_with fail
  exact bodyPost_ret (v := .tuple #[plV Pl.zero (.slice none 0 0) (.slice none 0 0), .int .i64 1]) (by simp [results, Tryz.results21, go_sem, z0, z1, z2, z3, plV, Pl.zero, Pl.lv, Pl.neg]) rfl ⟨_, by rw [HE.out], by rw [HE.out]; exact HF.out, HX2.out⟩
 rw [hn]
 have HN := Lib.hid hn
 obtain ⟨W3, hW3⟩ : ∃ W3, (w1.alloc (.map #[] 0)).alloc (.cells #[.slice none 0 0, .slice none 0 0, .map (some w1.heap.size), .map none] 108) = W3 := ⟨_, rfl⟩
 have hx3 : Ext w1 W3 := by rw [← hW3]; exact ((Ext.refl w1).alloc _).alloc _
 have hs3 : W3.heap.size = w1.heap.size + 1 + 1 := by rw [← hW3]; simp
 have hc3 : W3.cell? ⟨w1.heap.size + 1, 2, none⟩ = some (.map (some w1.heap.size)) := by rw [← hW3]; simp [go_sem]
 have hm3 : AMap W3 w1.heap.size (levP nms 0) := by
  refine ⟨[], ?_, fun s => rfl⟩
  rw [← hW3]
  exact (SMap.made w1).alloc _
 have HG0 : Hid (Ext w1 W3 ∧ PBld W3 (w1.heap.size + 1) w1.heap.size (levP nms 0)) := Lib.hid ⟨hx3, hc3, by omega, hm3⟩
 clear hn hx3 hc3 hm3
 go_wp2_with fail
 clear hW3 hmm
 go_loopw [20] (fun iv wr => ∃ k : Nat, k ≤ nms.length ∧ iv = .int .i64 k ∧ Hid (Ext w1 wr ∧ PBld wr (w1.heap.size + 1) w1.heap.size (levP nms k))) (fun iv _ => nms.length - (intOf iv).toNat)
 case atStart => exact ⟨0, Nat.zero_le _, rfl, HG0⟩
 case round =>
  obtain ⟨k, hk, rfl, ⟨hxr, hb⟩⟩ := hrel
  have HXR := Lib.hid hxr
  have HB := Lib.hid hb
  by_cases hlt : k < nms.length
  · obtain ⟨ad, y, rfl, hc, hy⟩ := SlR.get_ (SlR.ext HS.out (fun _ _ h => h) (X1.out.trans hxr)) k hlt
    subst hy
    obtain ⟨c2, hgl, hm⟩ := hb
    obtain ⟨wa, hra, ba, oa⟩ := hm.put nms[k] ((k : Int) + 1)
    have hkw : IntKind.i64.wrap ((k : Int) + 1) = (k : Int) + 1 := by rw [IntKind.wrap_i64]; omega
    have hml := hm.lt
    have hxs := hxr.size
    have HNEXT : Hid (Ext w1 wa ∧ PBld wa (w1.heap.size + 1) w1.heap.size (levP nms (k + 1))) := Lib.hid ⟨Below.grown hxr.below oa.g hxs (fun b e => by injection e with e; omega), (World.cell?_of_block (a := ⟨w1.heap.size + 1, 2, none⟩) (oa.block hgl (show w1.heap.size + 1 ≠ w1.heap.size by omega))).trans c2, Nat.lt_of_lt_of_le hgl oa.size, by rw [levP_step nms k hlt]; exact ba⟩
    clear ba oa hm hml hxr
    generalize nms[k] = s at *
    go_wp2_with fail
    clear hra c2 hc
    go_roundw
    case rel => exact ⟨k + 1, by omega, by go_num, HNEXT⟩
    case measure => simp [intOf]; omega
  · have hke : k = nms.length := by omega
    rw [hke] at HB
    have HFR := Lib.hid (free_atom1 (w := wr) t (TmV.ext (X1.out.trans hxr) HT.out) hsz)
    have hws := hxr.size
    obtain ⟨w4, rfl⟩ : ∃ w4, w4 = wr := ⟨wr, rfl⟩
    clear hb hxr HG0 hke
    go_wp2_with fail
    refine HFR.out.mono ?_
    rintro e w5 ⟨s5, rfl, hr5, x5⟩
    have HR5 := Lib.hid hr5.slr
    obtain ⟨FA, fc, rfl⟩ := hr5.slr.len
    have X5 := Lib.hid (HXR.out.trans x5)
    have HB5 := Lib.hid (HB.out.ext x5)
    clear hr5 x5 HFR
    obtain ⟨fl, hfle⟩ : ∃ fl, t.fold (freeStep fun _ => 0) [] = fl := ⟨_, rfl⟩
    have HFL : Hid (t.names1 = fl) := Lib.hid hfle
    rw [show t.names1 = fl from hfle] at hfl
    rw [hfle] at HR5
    rw [hfle]
    clear hfle
    go_wp2_with fail
    go_loopw [38] (fun iv wr => ∃ k : Nat, k ≤ fl.length ∧ iv = .int .i64 k ∧ Hid (Ext w5 wr ∧ (fl.take k).any (fun s => levP nms nms.length s == 0) = false)) (fun iv _ => fl.length - (intOf iv).toNat)
    case atStart => exact ⟨0, Nat.zero_le _, rfl, ⟨Ext.refl _, by simp⟩⟩
    case round =>
     obtain ⟨j, hj, rfl, ⟨hxj, hno⟩⟩ := hrel
     have HXJ := Lib.hid hxj
     have HNO := Lib.hid hno
     by_cases hlj : j < fl.length
     · obtain ⟨ad, y, rfl, hc, hy⟩ := SlR.get_ (SlR.ext HR5.out (fun _ _ h => h) hxj) j hlj
       subst hy
       have c2 := (HB5.out.ext hxj).1
       have hlook := (HB5.out.ext hxj).2.2.look fl[j]
       have HTK : Hid ((fl.take (j + 1)).any (fun s => levP nms nms.length s == 0) = ((fl.take j).any (fun s => levP nms nms.length s == 0) || levP nms nms.length fl[j] == 0)) := Lib.hid (by rw [List.take_succ_eq_append_getElem hlj, List.any_append]; simp)
       have HIT : Hid ((levP nms nms.length fl[j] == 0) = true → fl.any (fun s => levP nms nms.length s == 0) = true) := Lib.hid (fun h => List.any_eq_true.2 ⟨fl[j], List.getElem_mem hlj, h⟩)
       clear hxj hno
       generalize levP nms nms.length fl[j] = lv at *
       generalize fl[j] = s at *
       by_cases h0 : lv = 0
       · have hd : (lv == 0) = true := by simpa using h0
         have HE : Hid (polErr t nms = 7) := Lib.hid (by unfold polErr; rw [HN.out, if_neg (by simp), HFL.out, if_pos (HIT.out hd)])
         have hsw := HXJ.out.size
         have hs5 := X5.out.size
         have hz6 := HZ1.out.ext (X5.out.trans HXJ.out) (by omega)
         have hf := close_pl (p := Pl.zero) (q := fun _ => False) (q' := fun b => w.heap.size ≤ b) (X1.out.trans (X5.out.trans HXJ.out)) (Nat.le_refl _) hz6 (Pl.zero_v _ _ none 0 (by omega)) (fun b _ h => h.elim)
         obtain ⟨pv, ep, hpv, hx2⟩ := hf
         injection ep with ep
         subst ep
         have HF := Lib.hid hpv
         have HX2 := Lib.hid hx2
         obtain ⟨⟨z0, z1, z2, z3⟩, zf⟩ := hz6
         clear hpv hx2 h0
         go_wp2_with fail
         exact bodyPost_ret (v := .tuple #[plV Pl.zero (.slice none 0 0) (.slice none 0 0), .int .i64 7]) (by simp [results, Tryz.results21, go_sem, z0, z1, z2, z3, plV, Pl.zero, Pl.lv, Pl.neg]) rfl ⟨_, by rw [HE.out], by rw [HE.out]; exact HF.out, HX2.out⟩
       · have hd : (lv == 0) = false := by simpa using h0
         have HNX : Hid ((fl.take (j + 1)).any (fun s => levP nms nms.length s == 0) = false) := Lib.hid (by rw [HTK.out, HNO.out, hd]; rfl)
         clear h0 HIT HTK
         go_wp2_with fail
         clear hlook c2 hc
         go_roundw
         case rel => exact ⟨j + 1, by omega, by go_num, ⟨HXJ.out, HNX.out⟩⟩
         case measure => simp [intOf]; omega
     · have HE : Hid (polErr t nms = 0) := Lib.hid (by
        unfold polErr
        rw [HN.out, if_neg (by simp), HFL.out]
        rw [show j = fl.length by omega, List.take_length] at hno
        rw [hno]; rfl)
       have hsw := HXJ.out.size
       have hs5 := X5.out.size
       have HPO := Lib.hid (bpoly_any (w0 := w) hL t (.iface T x) wr (X1.out.trans (X5.out.trans HXJ.out)) HT.out (HB5.out.ext HXJ.out) hwt)
       have hz6 := Lib.hid (HZ1.out.ext (X5.out.trans HXJ.out) (by omega))
       have HXW := Lib.hid (X1.out.trans (X5.out.trans HXJ.out))
       clear hxj hno
       obtain ⟨P, hP⟩ : ∃ P, polF (levP nms nms.length) t = P := ⟨_, rfl⟩
       have HPP := Lib.hid hP
       rw [hP] at HPO
       clear hP
       go_wp2_with fail
       refine HPO.out.mono ?_
       rintro e w6 ⟨v6, rfl, p6, x6⟩
       obtain ⟨C0, j0, f0, C1, f1, rfl, -⟩ := id p6.open_
       have hz7 := hz6.out.ext x6 (by omega)
       have hf := close_pl (q' := fun b => w.heap.size ≤ b) (HXW.out.trans x6) (Nat.le_refl _) hz7 p6 (fun b _ hb => ⟨by omega, by omega⟩)
       obtain ⟨pv, ep, hpv, hx2⟩ := hf
       injection ep with ep
       subst ep
       have HF := Lib.hid hpv
       have HX2 := Lib.hid hx2
       obtain ⟨⟨z0, z1, z2, z3⟩, zf⟩ := hz7
       clear hpv hx2 p6 x6
       unfold plV
       go_wp2_with fail
       exact bodyPost_ret (v := .tuple #[plV P (.slice C0 j0 f0) (.slice C1 P.cs.length f1), .int .i64 0]) (by simp [results, Tryz.results21, go_sem, z0, z1, z2, z3, plV]) rfl ⟨_, by rw [HE.out], by rw [HE.out, if_pos rfl, HPP.out]; exact HF.out, HX2.out⟩
end Go.Proofs.YtkbpnppiadaibaaGreatDoor
