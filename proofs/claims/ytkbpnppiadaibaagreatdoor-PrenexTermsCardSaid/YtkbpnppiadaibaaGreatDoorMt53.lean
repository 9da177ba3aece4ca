/- PrenexTerms: for every tree and every list of names the law answers true, and it reads as before. No condition but the listed tables, which this road never looks into. The row and the tied card. -/
import Derived.Test.YtkbpnppiadaibaaGreatDoorMt51
import Derived.Test.YtkbpnppiadaibaaGreatDoorMt49
import Derived.Test.YtkbpnppiadaibaaGreatDoorMt43
import Derived.Test.YtkbpnppiadaibaaGreatDoorMt0
import Derived.WalkKit
import Derived.ProofKit
import Derived.OpenShut
import Derived.Below
import Derived.ChangeSame
import Derived.Test.YtkbpnppiadaibaaGreatDoorRows
import Derived.Test.YtkbpnppiadaibaaGreatDoorChecked
import Derived.LaidMore
import Derived.LaidLaws
import Derived.LaidHandle
import Derived.ChangeArms
import Derived.Test.YtkbpnppiadaibaaGreatDoorCards
import Derived.Test.YtkbpnppiadaibaaGreatDoorTie
import Derived.Test.YtkbpnppiadaibaaGreatDoorRightT
import Derived.SevenTiedAt
set_option linter.unusedSimpArgs false
set_option linter.unusedVariables false

set_option maxRecDepth 100000
set_option maxHeartbeats 8000000
namespace Go.Proofs.YtkbpnppiadaibaaGreatDoor
open Go.ChangeShapes Go.WideShapes Go.RowKit
section
variable {H : Type} {enc : TypeId × Value → H} {w : World} {sp : Nat → Bool} {held : Bool}
def noTree : Tr := .mk ⟨0, false, [], ByteArray.empty, 0, 0, false, false⟩ []
theorem cells_nd {a : Addr} {r : Tr × Value × Value} (h : w.cells? 0 a 9 = some (rowCells r)) : NdAt w a r.1.d r.2.1 r.2.2 ∧ a.block < w.heap.size := by
 have hc := (World.cells?_some h).2.2
 have c0 := hc 0 (by omega)
 have c1 := hc 1 (by omega)
 have c2 := hc 2 (by omega)
 have c3 := hc 3 (by omega)
 have c4 := hc 4 (by omega)
 have c5 := hc 5 (by omega)
 have c6 := hc 6 (by omega)
 have c7 := hc 7 (by omega)
 have c8 := hc 8 (by omega)
 rw [add_zero_] at c0
 rw [add_succ_] at c1 c2 c3 c4 c5 c6 c7 c8
 exact ⟨⟨c0, c1, c2, c3, c4, c5, c6, c7, c8⟩, cell_lt c0⟩
theorem trod_tree (fuel : Nat) : ∀ (cs : List Value) (x : DataW H × List MemPlace), DataW.trod enc Tryz.prog w 0 sp held fuel 29 cs = some x → ∃ r : Tr × Value × Value, cs = rowCells r ∧ TrV w (fun _ => True) r.1 (ndV r.1.d r.2.1 r.2.2) := by
 induction fuel using Nat.strongRecOn with
 | _ fuel ih =>
 intro cs x h
 obtain ⟨xs, n, rfl, -, hl, hx, hf⟩ := DataW.trod_struct Tryz.underlying29 h
 have hk29 : Tryz.prog.cellsOf 29 = 9 := by kernel_rfl
 have hl2 : cs.length = 9 := hl.trans hk29
 have hx2 : xs.length = 8 := hx
 obtain ⟨c0, c1, c2, c3, c4, c5, c6, c7, c8, rfl⟩ := len9 hl2
 obtain ⟨x0, x1, x2, x3, x4, x5, x6, x7, rfl⟩ := len8 hx2
 have f0 : DataW.trod enc Tryz.prog w 0 sp held n 3 ((List.drop 0 [c0, c1, c2, c3, c4, c5, c6, c7, c8]).take (Tryz.prog.cellsOf 3)) = some x0 := hf 0 _ rfl
 have f1 : DataW.trod enc Tryz.prog w 0 sp held n 25 ((List.drop 1 [c0, c1, c2, c3, c4, c5, c6, c7, c8]).take (Tryz.prog.cellsOf 25)) = some x1 := hf 1 _ rfl
 have f2 : DataW.trod enc Tryz.prog w 0 sp held n 9 ((List.drop 3 [c0, c1, c2, c3, c4, c5, c6, c7, c8]).take (Tryz.prog.cellsOf 9)) = some x2 := hf 2 _ rfl
 have f3 : DataW.trod enc Tryz.prog w 0 sp held n 3 ((List.drop 4 [c0, c1, c2, c3, c4, c5, c6, c7, c8]).take (Tryz.prog.cellsOf 3)) = some x3 := hf 3 _ rfl
 have f4 : DataW.trod enc Tryz.prog w 0 sp held n 26 ((List.drop 5 [c0, c1, c2, c3, c4, c5, c6, c7, c8]).take (Tryz.prog.cellsOf 26)) = some x4 := hf 4 _ rfl
 have f5 : DataW.trod enc Tryz.prog w 0 sp held n 4 ((List.drop 6 [c0, c1, c2, c3, c4, c5, c6, c7, c8]).take (Tryz.prog.cellsOf 4)) = some x5 := hf 5 _ rfl
 have f6 : DataW.trod enc Tryz.prog w 0 sp held n 4 ((List.drop 7 [c0, c1, c2, c3, c4, c5, c6, c7, c8]).take (Tryz.prog.cellsOf 4)) = some x6 := hf 6 _ rfl
 have f7 : DataW.trod enc Tryz.prog w 0 sp held n 27 ((List.drop 8 [c0, c1, c2, c3, c4, c5, c6, c7, c8]).take (Tryz.prog.cellsOf 27)) = some x7 := hf 7 _ rfl
 rw [show Tryz.prog.cellsOf 3 = 1 by kernel_rfl] at f0 f3
 rw [show Tryz.prog.cellsOf 25 = 2 by kernel_rfl] at f1
 rw [show Tryz.prog.cellsOf 9 = 1 by kernel_rfl] at f2
 rw [show Tryz.prog.cellsOf 26 = 1 by kernel_rfl] at f4
 rw [show Tryz.prog.cellsOf 4 = 1 by kernel_rfl] at f5 f6
 rw [show Tryz.prog.cellsOf 27 = 1 by kernel_rfl] at f7
 simp only [List.drop_zero, List.drop_succ_cons, List.take_succ_cons, List.take_zero, List.getElem?_cons_zero, List.getElem?_cons_succ] at f0 f1 f2 f3 f4 f5 f6 f7
 obtain ⟨kind, e0, -⟩ := DataW.trod_int Tryz.underlying3 f0
 obtain ⟨neg, A, ds, c, e1, hn⟩ := trod_intS f1
 obtain ⟨name, e3, -⟩ := DataW.trod_string Tryz.underlying9 f2
 obtain ⟨exp, e4, -⟩ := DataW.trod_int Tryz.underlying3 f3
 obtain ⟨rel, e5, -⟩ := DataW.trod_int Tryz.underlying26 f4
 obtain ⟨truth, e6, -⟩ := DataW.trod_bool Tryz.underlying4 f5
 obtain ⟨all, e7, -⟩ := DataW.trod_bool Tryz.underlying4 f6
 simp only [List.cons.injEq, and_true] at e0 e1 e3 e4 e5 e6 e7
 obtain ⟨e1, e2⟩ := e1
 have hkids : ∃ ks B m, c8 = .slice B ks.length m ∧ ks.length ≤ m ∧ m ≤ 9223372036854775807 ∧ TrsAt w (fun _ => True) ks B 0 := by
  rcases DataW.trod_slice Tryz.underlying27 f7 with ⟨e8, -⟩ | ⟨a, len, cap, elems, rest, n', hfu, e8, -, -, hlc, hcm, hel, hat, -⟩
  · simp only [List.cons.injEq, and_true] at e8
    exact ⟨[], none, 0, e8, by simp, by omega, by unfold TrsAt; trivial⟩
  · simp only [List.cons.injEq, and_true] at e8
    rw [hk29] at hat
    have each : ∀ i : Nat, ∃ t : Tr, i < len → ∃ s K, NdAt w (a.add (i * 9)) t.d s K ∧ a.block < w.heap.size ∧ TrV w (fun _ => True) t (ndV t.d s K) := by
     intro i
     by_cases hi : i < len
     · have h1 := hat i hi
       rw [List.getElem?_eq_getElem (by omega)] at h1
       obtain ⟨cs', hc, ht⟩ := Option.bind_eq_some_iff.1 h1
       obtain ⟨r, rfl, hr⟩ := ih n' (by omega) cs' _ ht
       obtain ⟨h2, h3⟩ := cells_nd hc
       rw [block_of_add] at h3
       exact ⟨r.1, fun _ => ⟨r.2.1, r.2.2, h2, h3, hr⟩⟩
     · exact ⟨noTree, fun h => absurd h hi⟩
    refine ⟨(List.range len).map (fun i => Classical.choose (each i)), some a, cap, by simpa using e8, by simpa using hlc, by unfold maxLen at hcm; omega, TrsAt.of _ _ _ fun i hi => ?_⟩
    simp only [List.length_map, List.length_range] at hi
    obtain ⟨s, K, h1, h2, h3⟩ := Classical.choose_spec (each i) hi
    simp only [List.getElem_map, List.getElem_range, Nat.zero_add]
    exact ⟨a, s, K, rfl, h2, trivial, h1, h3⟩
 obtain ⟨ks, B, m, e8, hm1, hm2, hat⟩ := hkids
 refine ⟨(.mk ⟨kind, neg, ds, name, exp, rel, truth, all⟩ ks, c2, c8), ?_, ?_⟩
 · unfold rowCells
   rw [e0, e1, e3, e4, e5, e6, e7]
   rfl
 · have := TrV.mk (w := w) (p := fun _ => True) (t := .mk ⟨kind, neg, ds, name, exp, rel, truth, all⟩ ks) (s := c2) (A := B) (c := m) (by rw [e2]; exact hn) hm1 hm2 hat
   rw [e8]
   exact this
theorem open_tree {r : Reach} {b0 : Nat} {v : Value} {d : DataW H} {ps : List MemPlace} (hval : Value.okWide Tryz.prog w r b0 29 v) (h : DataW.Trod enc Tryz.prog w 0 sp held 29 v d ps) : ∃ t, TrV w (fun _ => True) t v := by
 obtain ⟨fuel, h⟩ := h
 obtain ⟨r, e, ht⟩ := trod_tree fuel _ _ h
 simp only [Value.okWide, Tryz.underlying29] at hval
 obtain ⟨cs, rfl, -⟩ := hval
 refine ⟨r.1, ?_⟩
 have : Value.agg cs = ndV r.1.d r.2.1 r.2.2 := by
  unfold ndV
  congr 1
  exact Array.toList_inj.1 e
 rw [this]; exact ht
end
end Go.Proofs.YtkbpnppiadaibaaGreatDoor

/- Reading the arguments: a prenex form that came in. -/
namespace Go.Proofs.YtkbpnppiadaibaaGreatDoor
open Go.ChangeShapes Go.WideShapes Go.RowKit
section
variable {H : Type} {enc : TypeId × Value → H} {w : World} {sp : Nat → Bool} {held : Bool}
theorem slr_of_trod {α : Type} {P : α → Value → Prop} {S T : TypeId} (dflt : α) (hS : Tryz.prog.underlying S = some (.slice T)) (hk : Tryz.prog.cellsOf T = 1)
 (hel : ∀ (fuel : Nat) (cs : List Value) (x : DataW H × List MemPlace), DataW.trod enc Tryz.prog w 0 sp held fuel T cs = some x → ∃ a v, cs = [v] ∧ P a v)
 {fuel : Nat} {cs : List Value} {x : DataW H × List MemPlace} (h : DataW.trod enc Tryz.prog w 0 sp held fuel S cs = some x) : ∃ (l : List α) (A : Option Addr) (c : Nat), cs = [.slice A l.length c] ∧ SlR (fun _ => P) w (.slice A l.length c) l := by
 rcases DataW.trod_slice hS h with ⟨e8, -⟩ | ⟨a, len, cap, elems, rest, n', hfu, e8, -, -, hlc, hcm, hel', hat, -⟩
 · exact ⟨[], none, 0, e8, none, 0, rfl, by simp, by omega, fun j hj => absurd hj (by simp)⟩
 · rw [hk] at hat
   have each : ∀ i : Nat, ∃ t : α, i < len → ∃ v, w.cell? (a.add i) = some v ∧ a.block < w.heap.size ∧ P t v := by
    intro i
    by_cases hi : i < len
    · have h1 := hat i hi
      rw [List.getElem?_eq_getElem (by omega), Nat.mul_one] at h1
      obtain ⟨cs', hc, ht⟩ := Option.bind_eq_some_iff.1 h1
      obtain ⟨t, v, rfl, hp⟩ := hel n' cs' _ ht
      have c0 := (World.cells?_some hc).2.2 0 (by omega)
      rw [add_zero_] at c0
      have h3 := cell_lt c0
      rw [block_of_add] at h3
      exact ⟨t, fun _ => ⟨v, c0, h3, hp⟩⟩
    · exact ⟨dflt, fun h => absurd h hi⟩
   refine ⟨(List.range len).map (fun i => Classical.choose (each i)), some a, cap, by simpa using e8, some a, cap, rfl, by simpa using hlc, by unfold maxLen at hcm; omega, fun j hj => ?_⟩
   simp only [List.length_map, List.length_range] at hj
   obtain ⟨v, h1, h2, h3⟩ := Classical.choose_spec (each j) hj
   simp only [List.getElem_map, List.getElem_range]
   exact ⟨a, v, rfl, h2, h1, h3⟩
end
end Go.Proofs.YtkbpnppiadaibaaGreatDoor

/- Reading the arguments: a list of texts that came in. -/
set_option maxRecDepth 100000
set_option maxHeartbeats 8000000
namespace Go.Proofs.YtkbpnppiadaibaaGreatDoor
open Go.ChangeShapes Go.WideShapes Go.RowKit
section
variable {H : Type} {enc : TypeId × Value → H} {w : World} {sp : Nat → Bool} {held : Bool}
theorem open_strings {r : Reach} {b0 : Nat} {v : Value} {d : DataW H} {ps : List MemPlace} (hval : Value.okWide Tryz.prog w r b0 39 v) (h : DataW.Trod enc Tryz.prog w 0 sp held 39 v d ps) : ∃ l, SlR (fun _ (s : ByteArray) x => x = .string s) w v l := by
 obtain ⟨fuel, h⟩ := h
 obtain ⟨A, n, c, rfl⟩ := okWide_slice Tryz.underlying39 hval
 simp only [Value.cells] at h
 obtain ⟨l, A', c', e, hl⟩ := slr_of_trod (P := fun (s : ByteArray) x => x = .string s) ByteArray.empty Tryz.underlying39 (by kernel_rfl) (fun fuel cs x h => by
  obtain ⟨b, e, -⟩ := DataW.trod_string Tryz.underlying9 h
  exact ⟨b, _, e, rfl⟩) h
 simp only [List.cons.injEq, and_true] at e
 rw [e]
 exact ⟨l, hl⟩
end
end Go.Proofs.YtkbpnppiadaibaaGreatDoor

/- The last step of every law that leaves its arguments alone. -/
namespace Go.Proofs.YtkbpnppiadaibaaGreatDoor
open Go.ChangeShapes Go.WideShapes Go.ChangeAt Go.RowKit
theorem post_law {H : Type} {enc : TypeId × Value → H} {P : Program} {f : Func} {s : ChangeSpec} {apart fresh handsOn again : Bool} {W W' : World} {args : Array Value} {v : Value} {ds gs : List (DataW H)} {before pa pv : List MemPlace}
 (hW : DataW.Whole enc P f.params.toList s.vars apart W args.toList ds gs before) (hx : Ext W W')
 (hres : ∀ (b : Nat) (sp : Nat → Bool) (hd : Bool), DataW.TrodAll enc P W' b sp hd f.resultTypes.toList (v.resultList f.resultTypes.size) (s.fn H (ds ++ gs)).results [])
 (hargs : ∀ sp : Nat → Bool, (∀ p ∈ before, sp p.block = true) → DataW.TrodAll enc P W' 0 sp true f.params.toList args.toList (s.fn H (ds ++ gs)).args pa)
 (hvars : ∀ sp : Nat → Bool, (∀ p ∈ before, sp p.block = true) → DataW.TrodVars enc P W' sp s.vars (s.fn H (ds ++ gs)).vars pv) (hps : before = pa ++ pv)
 (hok : ∀ (j : Nat) (t : TypeId) (r : Value), f.resultTypes[j]? = some t → (v.resultList f.resultTypes.size)[j]? = some r → Value.okWide P W' .any 0 t r) :
 s.post enc P f apart fresh handsOn again W args v W' := by
 have low : ∀ p ∈ before, p.block < W.heap.size := fun p hp => hW.lt p hp
 have old : ∀ p ∈ before, (fun b => decide (b < W.heap.size)) p.block = true := fun p hp => by simpa using low p hp
 refine ⟨ds, gs, before, [], pa, pv, hW, hres _ _ _, hargs _ old, hvars _ old, World.keptBut_mono (fun p hp => ⟨hp, ?_⟩) (Below.frame hx (· ∈ before)), fun _ => ?_⟩
 · exact .inr (List.mem_append.1 (hps ▸ hp))
 · obtain ⟨_, _, _, _, _, hz, hn⟩ := hW
   refine ⟨hok, _, _, ([] ++ pa) ++ pv, ⟨[] ++ pa, pv, trodAll_append (hargs _ (fun _ _ => rfl)) (hres _ _ _), hvars _ (fun _ _ => rfl), rfl, fun b off hp => ?_, fun ha => ?_⟩, ?_⟩
   · have hin : MemPlace.cell b off ∈ before := by rw [hps]; simpa using hp
     rw [hx.frozen (low _ hin)]
     exact hz b off hin
   · have h := hn ha
     rw [hps] at h
     simpa using h
   · exact fun p hp _ => by rw [hps]; simpa using hp
theorem own_knob : ownKnob Tryz.prog.godebug = none := by kernel_rfl
theorem laid_out : laidOutB Tryz.prog = true := by kernel_rfl
theorem arg_stays {H : Type} {enc : TypeId × Value → H} {W W' : World} {t : TypeId} (hr : Tryz.prog.readableRec t = true) (hrow : t < Tryz.prog.types.size) {v : Value} {d : DataW H} {ps : List MemPlace} (h : DataW.Trod enc Tryz.prog W 0 (fun _ => true) true t v d ps) (hx : Ext W W') (hlt : ∀ x ∈ ps, x.block < W.heap.size) {sp : Nat → Bool} (hs : ∀ x ∈ ps, sp x.block = true) : DataW.Trod enc Tryz.prog W' 0 sp true t v d ps :=
 WideElems.Trod_stays laid_out hr hrow h (fun x hx' => Below.same hx (hlt x hx')) hs
end Go.Proofs.YtkbpnppiadaibaaGreatDoor

/- The world that the door's own run leaves meets the three listed tables' condition: the witness of the rows that list them. -/
namespace Go.Proofs.YtkbpnppiadaibaaGreatDoor
open Go.ChangeShapes Go.WideShapes Go.ChangeAt Go.RowKit
def laid3 : List (String × DataW Unit) := [("math/bits.deBruijn32tab", Rows.laid_math_bits_deBruijn32tab), ("math/bits.deBruijn64tab", Rows.laid_math_bits_deBruijn64tab), ("internal/strconv.uint64pow10", Rows.laid_internal_strconv_uint64pow10)]
theorem door_met (os : Os) (args : Array Value) : laidMetH Tryz.prog laid3 ((World.doorLaid Tryz.prog 2000 os).forCall (fun _ _ => 0) ⟨#[], args, []⟩).memory :=
 laidMetH_of_parts3 (fuel := 8) (laidMet_of_run' 80 (by kernel_rfl) (by kernel_rfl)) (by kernel_rfl) (by kernel_rfl)
end Go.Proofs.YtkbpnppiadaibaaGreatDoor

set_option maxRecDepth 100000
set_option maxHeartbeats 8000000
namespace Go.Proofs.YtkbpnppiadaibaaGreatDoor
open Go.ChangeShapes Go.WideShapes Go.ChangeAt Go.RowKit
theorem tree_rec : Tryz.prog.readableRec 29 = true := by kernel_rfl
theorem tree_row : 29 < Tryz.prog.types.size := of_decide_eq_true (by kernel_rfl)
theorem names_rec : Tryz.prog.readableRec 39 = true := by kernel_rfl
theorem names_row : 39 < Tryz.prog.types.size := of_decide_eq_true (by kernel_rfl)
theorem pterms_lifted (os : Os) (started : os.Started) (H : Type) (enc : TypeId × Value → H) :
 ReturnsInHanded {} Tryz.checked os 4 .any (fun w args => (Rows.prenexTermsSpec.pre enc Tryz.prog Tryz.f4 [] false w args ∧ laidMetH Tryz.prog laid3 w) ∧ sizedMet enc Tryz.prog Tryz.f4 (OpenSpec.ofChange Rows.prenexTermsSpec) false w args)
  (Rows.prenexTermsSpec.post enc Tryz.prog Tryz.f4 false true false false) := by
 refine returnsInHanded_of_change_and (C := Tryz.checked) (X := fun w _ => laidMetH Tryz.prog laid3 w) (fun _ _ _ hh h => h.of_heap hh) own_knob started (by kernel_rfl) Tryz.func4
  (ChangeSpec.witness_shaped (enc := enc) (C := Tryz.checked) (os := os) (X := fun w _ => laidMetH Tryz.prog laid3 w) false (World.doorLaid Tryz.prog 2000 os) #[.agg #[.int .i64 0, .bool false, .slice none 0 0, .string ByteArray.empty, .int .i64 0, .int .i64 0, .bool false, .bool false, .slice none 0 0], .slice none 0 0] 8 rfl (World.shaped_of_RefB (by kernel_rfl) (by kernel_rfl)) (by kernel_rfl) (by kernel_rfl) (by kernel_rfl) (door_met os _)) ?_
 intro W base args ds gs before hval0 hW _ _ _ _
 have hval : ∀ (j : Nat) t v, Tryz.f4.params[j]? = some t → args[j]? = some v → Value.okWide Tryz.prog W .any base t v := hval0
 have hW' := hW
 have low : ∀ p ∈ before, p.block < W.heap.size := fun p hp => hW.lt p hp
 obtain ⟨p, q, hA0, hV, rfl, -, -⟩ := hW
 have hA : DataW.TrodAll enc Tryz.prog W 0 (fun _ => true) true Tryz.f4.params.toList args.toList ds p := hA0
 rw [Tryz.params4] at hA hval
 obtain ⟨v0, vs0, d0, ds0, p0, q0, hargs, rfl, rfl, h0, r0⟩ := trodAll_cons hA
 obtain ⟨v1, vs1, d1, ds1, p1, q1, rfl, rfl, rfl, h1, r1⟩ := trodAll_cons r0
 obtain ⟨rfl, rfl, rfl⟩ := trodAll_nil r1
 obtain rfl : args = #[v0, v1] := by cases args; simp_all
 obtain ⟨rfl, rfl⟩ := trodVars_none hV
 obtain ⟨t, ht⟩ := open_tree (hval 0 29 v0 rfl rfl) h0
 obtain ⟨nms, hn⟩ := open_strings (hval 1 39 v1 rfl rfl) h1
 clear hA0 hval0
 simp only [List.append_nil] at hW' low
 refine (lawPTerms_any t v0 ht hn).mono fun e W' ⟨he, hx⟩ => ?_
 subst he
 exact ⟨_, rfl, post_law (pa := p0 ++ p1) (pv := []) hW' hx (fun _ _ _ => (trodAll_cons_mk (shut_bool Tryz.underlying4 _) trodAll_mk0))
  (fun sp hs => by
    have := trodAll_cons_mk (arg_stays tree_rec tree_row h0 hx (fun x hx' => low x (List.mem_append_left _ hx')) (fun x hx' => hs x (List.mem_append_left _ hx'))) (trodAll_cons_mk (arg_stays names_rec names_row h1 hx (fun x hx' => low x (List.mem_append_right _ hx')) (fun x hx' => hs x (List.mem_append_right _ hx'))) trodAll_mk0)
    simp only [List.append_nil] at this
    exact this) (fun _ _ => rfl) (by simp)
  (ok_one (by kernel_rfl) rfl (okWide_bool_mk Tryz.underlying4 _))⟩
theorem pterms_closed : joinedFacts Tryz.pinned.checked.prog 4 Tryz.f4 Rows.prenexTermsSpec Rows.prenexTermsRow = true := by kernel_rfl
theorem pterms_pre (os : Os) (started : os.Started) (H : Type) (enc : TypeId × Value → H) :
 ReturnsInHanded Rows.prenexTermsRow.assume Tryz.pinned.checked os 4 .any (Rows.prenexTermsRow.pre enc Tryz.pinned.checked.prog Tryz.f4 (OpenSpec.ofChange Rows.prenexTermsSpec)) (Rows.prenexTermsSpec.post enc Tryz.pinned.checked.prog Tryz.f4 Rows.prenexTermsRow.apart Rows.prenexTermsRow.fresh Rows.prenexTermsRow.handsOn Rows.prenexTermsRow.again) :=
 pterms_lifted os started H enc
theorem pterms_over : Rows.prenexTermsRow.holds Tryz.pinned (OpenSpec.ofChange Rows.prenexTermsSpec) :=
 OpenClaim.holds_of_wide 4 Tryz.f4 rfl rfl rfl rfl rfl rfl rfl ⟨rfl, rfl, rfl, rfl, rfl⟩ rfl rfl rfl rfl rfl (by kernel_rfl) Tryz.func4 pterms_closed
  (of_decide_eq_true (by kernel_rfl)) (by unfold Func.isWrapper; first | (rw [if_pos (by decide +kernel)]; kernel_rfl) | (rw [if_neg (by decide +kernel)]; exact ⟨rfl, rfl⟩))
  (fun os started H enc _ => pterms_pre os started H enc)
theorem pterms_proved : Rows.PrenexTermsCardSaid :=
 Claim7.holds_tied_plain_at .later [] [.data, .data, .data] true (true, "4038e01535e211f261e9d55ee65fe8a95351db20c49877f250a7a0cd09ddf2e8") true
  pterms_over (fun _ h => by cases h) (by kernel_rfl) (fun _ h => by cases h) prenexTerms_row_tie rfl ⟨rfl, rfl⟩ (by kernel_rfl) rfl
  (fun f fn hf hfn => by
    obtain rfl : f = 4 := Option.some.inj ((show Tryz.prog.funcNamed "cylinder/cylinderlaw38.PrenexTerms" = some 4 by kernel_rfl).symm.trans hf) |>.symm
    obtain rfl : fn = Tryz.f4 := (Option.some.inj (Tryz.func4.symm.trans hfn)).symm
    exact ⟨by kernel_rfl, fun j t ht => by
     rw [Tryz.params4] at ht
     have h3 : t = 29 ∨ t = 39 := by
      rcases j with _ | _ | j
      · exact .inl (by simpa using ht.symm)
      · exact .inr (by simpa using ht.symm)
      · simp at ht
     rcases h3 with rfl | rfl
     · exact (show Tryz.prog.wantsStandIn 29 = false by kernel_rfl)
     · exact (show Tryz.prog.wantsStandIn 39 = false by kernel_rfl)⟩)
  (by kernel_rfl)
#print axioms pterms_proved
end Go.Proofs.YtkbpnppiadaibaaGreatDoor
