/- EvaluateForms: for every tree and every four fractions the law answers true, and it reads as before. No condition but the listed tables, which this road never looks into. The row and the tied card. -/
import Derived.Test.YtheefiaoimbeiaaGreatDoorMp51
import Derived.LaidMore
import Derived.Test.YtheefiaoimbeiaaGreatDoorCards
import Derived.Test.YtheefiaoimbeiaaGreatDoorTie
set_option linter.unusedSimpArgs false
set_option linter.unusedVariables false

set_option maxRecDepth 100000
set_option maxHeartbeats 8000000
namespace Go.Proofs.YtheefiaoimbeiaaGreatDoor
open Go.ChangeShapes Go.WideShapes Go.RowKit
theorem ugq {α:Type} {l:List α} (h:l.length=12):∃ a b c d e f g i j k m n,l=[a,b,c,d,e,f,g,i,j,k,m,n]:=by
 match l,h with
 | [a,b,c,d,e,f,g,i,j,k,m,n],_=>exact ⟨a,b,c,d,e,f,g,i,j,k,m,n,rfl⟩
section
variable {H:Type} {enc:TypeId × Value->H} {w:World} {sp:Nat->Bool} {held:Bool}
theorem zfi {r:Reach} {b0:Nat} {v:Value} {d:DataW H} {ps:List MemPlace} (ab2:Value.okWide Tryz.prog w r b0 60 v) (h:DataW.Trod enc Tryz.prog w 0 sp held 60 v d ps):∃ cs x0 x1 x2 x3,v=.agg cs/\vfl w cs.toList x0 x1 x2 x3:=by
 obtain ⟨fuel,h⟩:=h;simp only [Value.okWide,Tryz.underlying60] at ab2;obtain ⟨cs,rfl,-⟩:=ab2;simp only [Value.cells] at h;obtain ⟨xs,n,rfl,-,hl,hx,hf⟩:=DataW.trod_array Tryz.underlying60 h;have hl2:cs.toList.length=12:=hl.trans (by kernel_rfl);obtain ⟨l,hcl⟩:=n_m (cs.toList);rw [hcl] at hl2;simp only [hcl] at hf;obtain ⟨a0,a1,a2,a3,a4,a5,a6,a7,a8,a9,a10,a11,rfl⟩:=ugq hl2;rw [show Tryz.prog.cellsOf 59=3 by kernel_rfl] at hf;have f0:=hf 0 (by omega);have f1:=hf 1 (by omega);have f2:=hf 2 (by omega);have f3:=hf 3 (by omega);rw [pq (by omega)] at f0 f1 f2 f3;simp only [tc,Nat.reduceMul,rU,tW,tt,sR] at f0 f1 f2 f3;obtain ⟨n0,A0,ds0,c0,B0,es0,d0,e0,p0,q0⟩:=veg f0;obtain ⟨n1,A1,ds1,c1,B1,es1,d1,e1,p1,q1⟩:=veg f1;obtain ⟨n2,A2,ds2,c2,B2,es2,d2,e2,p2,q2⟩:=veg f2;obtain ⟨n3,A3,ds3,c3,B3,es3,d3,e3,p3,q3⟩:=veg f3;simp only [ru,and_true] at e0 e1 e2 e3;obtain ⟨rfl,rfl,rfl⟩:=e0;obtain ⟨rfl,rfl,rfl⟩:=e1;obtain ⟨rfl,rfl,rfl⟩:=e2;obtain ⟨rfl,rfl,rfl⟩:=e3;refine ⟨cs,⟨n0,ds0,es0⟩,⟨n1,ds1,es1⟩,⟨n2,ds2,es2⟩,⟨n3,ds3,es3⟩,rfl,A0,c0,B0,d0,A1,c1,B1,d1,A2,c2,B2,d2,A3,c3,B3,d3,?_,⟨p0,q0⟩,⟨p1,q1⟩,⟨p2,q2⟩,⟨p3,q3⟩⟩;exact hcl
end
open Go.ChangeAt
theorem ufy {H : Type} {enc : TypeId × Value -> H} {P : Program} {f : Func} {s : ChangeSpec} {apart fresh handsOn again : Bool} {W W' : World} {args : Array Value} {v : Value} {ds gs : List (DataW H)} {before pa pv : List MemPlace}
 (hW:DataW.Whole enc P f.params.toList s.vars apart W args.toList ds gs before) (hx:Ext W W')
 (aed:∀ (b:Nat) (sp:Nat->Bool) (hd:Bool),DataW.TrodAll enc P W' b sp hd f.resultTypes.toList (v.resultList f.resultTypes.size) (s.fn H (ds ++ gs)).results [])
 (alT:∀ sp:Nat->Bool,(∀ p ∈ before,sp p.block=true)->DataW.TrodAll enc P W' 0 sp true f.params.toList args.toList (s.fn H (ds ++ gs)).args pa)
 (anx:∀ sp:Nat->Bool,(∀ p ∈ before,sp p.block=true)->DataW.TrodVars enc P W' sp s.vars (s.fn H (ds ++ gs)).vars pv) (hps:before=pa ++ pv)
 (hok:∀ (j:Nat) (t:TypeId) (r:Value),f.resultTypes[j]?=some t->(v.resultList f.resultTypes.size)[j]?=some r->Value.okWide P W' .any 0 t r) :
 s.post enc P f apart fresh handsOn again W args v W':=by
 have low:∀ p ∈ before,p.block < W.heap.size:=fun p hp=>hW.lt p hp
 have old:∀ p ∈ before,(fun b=>decide (b < W.heap.size)) p.block=true:=fun p hp=>by simpa using low p hp
 refine ⟨ds,gs,before,[],pa,pv,hW,aed _ _ _,alT _ old,anx _ old,World.keptBut_mono (fun p hp=>⟨hp,?_⟩) (Below.frame hx (· ∈ before)),fun _=>?_⟩
 · exact .inr (rq.1 (hps ▸ hp))
 · obtain ⟨_,_,_,_,_,hz,hn⟩:=hW;refine ⟨hok,_,_,([] ++ pa) ++ pv,⟨[] ++ pa,pv,trodAll_append (alT _ (fun _ _=>rfl)) (aed _ _ _),anx _ (fun _ _=>rfl),rfl,fun b off hp=>?_,fun ha=>?_⟩,?_⟩
   · have hin:MemPlace.cell b off ∈ before:=by rw [hps]; simpa using hp
     rw [hx.frozen (low _ hin)];exact hz b off hin
   · have h:=hn ha;rw [hps] at h;simpa using h
   · exact fun p hp _=>by rw [hps]; simpa using hp
theorem jf0:ownKnob Tryz.prog.godebug=none:=by kernel_rfl
theorem yf3:laidOutB Tryz.prog=true:=by kernel_rfl
theorem wez {H:Type} {enc:TypeId × Value->H} {W W':World} {t:TypeId} (hr:Tryz.prog.readableRec t=true) (aaC:t < Tryz.prog.types.size) {v:Value} {d:DataW H} {ps:List MemPlace} (h:DataW.Trod enc Tryz.prog W 0 (fun _=>true) true t v d ps) (hx:Ext W W') (hlt:∀ x ∈ ps,x.block < W.heap.size) {sp:Nat->Bool} (hs:∀ x ∈ ps,sp x.block=true):DataW.Trod enc Tryz.prog W' 0 sp true t v d ps:=
 WideElems.Trod_stays yf3 hr aaC h (fun x hx'=>Below.same hx (hlt x hx')) hs
def ke0 : List (String × DataW Unit) := [("math/bits.deBruijn32tab", Rows.laid_math_bits_deBruijn32tab), ("math/bits.deBruijn64tab", Rows.laid_math_bits_deBruijn64tab), ("internal/strconv.uint64pow10", Rows.laid_internal_strconv_uint64pow10)]
theorem door_met (os:Os) (args:Array Value):laidMetH Tryz.prog ke0 ((World.doorLaid Tryz.prog 2000 os).forCall (fun _ _=>0) ⟨#[],args,[]⟩).memory:=
 laidMetH_of_parts3 (fuel:=8) (laidMet_of_run' 80 (by kernel_rfl) (by kernel_rfl)) (by kernel_rfl) (by kernel_rfl)
theorem ufv:Tryz.prog.readableRec 29=true:=by kernel_rfl
theorem vfv:29 < Tryz.prog.types.size:=of_decide_eq_true (by kernel_rfl)
theorem qgk:Tryz.prog.readableRec 60=true:=by kernel_rfl
theorem xgk:60 < Tryz.prog.types.size:=of_decide_eq_true (by kernel_rfl)
theorem qe6 (os:Os) (started:os.Started) (H:Type) (enc:TypeId × Value->H) :
 ReturnsInHanded {} Tryz.checked os 4 .any (fun w args => (Rows.evaluateFormsSpec.pre enc Tryz.prog Tryz.f4 [] false w args /\ laidMetH Tryz.prog ke0 w) /\ sizedMet enc Tryz.prog Tryz.f4 (OpenSpec.ofChange Rows.evaluateFormsSpec) false w args)
  (Rows.evaluateFormsSpec.post enc Tryz.prog Tryz.f4 false true false false):=by
 refine returnsInHanded_of_change_and (C := Tryz.checked) (X := fun w _ => laidMetH Tryz.prog ke0 w) (fun _ _ _ hh h => h.of_heap hh) jf0 started (by kernel_rfl) Tryz.func4
  (ChangeSpec.witness_shaped (enc:=enc) (C:=Tryz.checked) (os:=os) (X:=fun w _=>laidMetH Tryz.prog ke0 w) false (World.doorLaid Tryz.prog 2000 os) #[.agg #[.int .i64 0,.bool false,.slice none 0 0,.string ByteArray.empty,.int .i64 0,.int .i64 0,.bool false,.bool false,.slice none 0 0],.agg #[.bool false,.slice none 0 0,.slice none 0 0,.bool false,.slice none 0 0,.slice none 0 0,.bool false,.slice none 0 0,.slice none 0 0,.bool false,.slice none 0 0,.slice none 0 0]] 8 rfl (World.shaped_of_RefB (by kernel_rfl) (by kernel_rfl)) (by kernel_rfl) (by kernel_rfl) (by kernel_rfl) (door_met os _)) ?_
 intro W base args ds gs before hval0 hW _ _ _ _;have ab2:∀ (j:Nat) t v,Tryz.f4.params[j]?=some t->args[j]?=some v->Value.okWide Tryz.prog W .any base t v:=hval0;have hW':=hW;have low:∀ p ∈ before,p.block < W.heap.size:=fun p hp=>hW.lt p hp
 obtain ⟨p,q,hA0,hV,rfl,-,-⟩:=hW;have hA:DataW.TrodAll enc Tryz.prog W 0 (fun _=>true) true Tryz.f4.params.toList args.toList ds p:=hA0;rw [Tryz.params4] at hA ab2;obtain ⟨v0,vs0,d0,ds0,p0,q0,alT,rfl,rfl,h0,r0⟩:=trodAll_cons hA;obtain ⟨v1,vs1,d1,ds1,p1,q1,rfl,rfl,rfl,h1,r1⟩:=trodAll_cons r0;obtain ⟨rfl,rfl,rfl⟩:=trodAll_nil r1;obtain rfl:args=#[v0,v1]:=by cases args; simp_all
 obtain ⟨rfl,rfl⟩:=trodVars_none hV;obtain ⟨t,ht⟩:=open_tree (ab2 0 29 v0 rfl rfl) h0;obtain ⟨cs,x0,x1,x2,x3,rfl,hr⟩:=zfi (ab2 1 60 v1 rfl rfl) h1;clear hA0 hval0;simp only [tm] at hW' low;refine (we5 t v0 ht hr).mono fun e W' ⟨he,hx⟩=>?_
 subst he
 exact ⟨_, rfl, ufy (pa := p0 ++ p1) (pv := []) hW' hx (fun _ _ _ => (trodAll_cons_mk (shut_bool tR _) trodAll_mk0))
  (fun sp hs=>by
    have:=trodAll_cons_mk (wez ufv vfv h0 hx (fun x hx'=>low x (List.mem_append_left _ hx')) (fun x hx'=>hs x (List.mem_append_left _ hx'))) (trodAll_cons_mk (wez qgk xgk h1 hx (fun x hx'=>low x (tC _ hx')) (fun x hx'=>hs x (tC _ hx'))) trodAll_mk0);simp only [tm] at this
    exact this) (fun _ _=>rfl) (by simp)
  (ok_one (by kernel_rfl) rfl (okWide_bool_mk tR _))⟩
theorem je6:joinedFacts Tryz.pinned.checked.prog 4 Tryz.f4 Rows.evaluateFormsSpec Rows.evaluateFormsRow=true:=by kernel_rfl
theorem qfs (os:Os) (started:os.Started) (H:Type) (enc:TypeId × Value->H) :
 ReturnsInHanded Rows.evaluateFormsRow.assume Tryz.pinned.checked os 4 .any (Rows.evaluateFormsRow.pre enc Tryz.pinned.checked.prog Tryz.f4 (OpenSpec.ofChange Rows.evaluateFormsSpec)) (Rows.evaluateFormsSpec.post enc Tryz.pinned.checked.prog Tryz.f4 Rows.evaluateFormsRow.apart Rows.evaluateFormsRow.fresh Rows.evaluateFormsRow.handsOn Rows.evaluateFormsRow.again):=
 qe6 os started H enc
theorem yfk:Rows.evaluateFormsRow.holds Tryz.pinned (OpenSpec.ofChange Rows.evaluateFormsSpec):=
 OpenClaim.holds_of_wide 4 Tryz.f4 rfl rfl rfl rfl rfl rfl rfl ⟨rfl, rfl, rfl, rfl, rfl⟩ rfl rfl rfl rfl rfl (by kernel_rfl) Tryz.func4 je6
  (of_decide_eq_true (by kernel_rfl)) (by unfold Func.isWrapper; first | (rw [if_pos (by decide +kernel)]; kernel_rfl) | (rw [if_neg (by decide +kernel)]; exact ⟨rfl,rfl⟩))
  (fun os started H enc _=>qfs os started H enc)
theorem forms_proved:Rows.EvaluateFormsCardSaid:=
 Claim7.holds_tied_plain_at .later [] [.data, .data, .data] true (true, "b97ba35d8407b8181d843439f516b5bc0ff7270cf4b44ea1d3d2536ac07d7ba0") true
  yfk (fun _ h=>by cases h) (by kernel_rfl) (fun _ h=>by cases h) evaluateForms_row_tie rfl ⟨rfl,rfl⟩ (by kernel_rfl) rfl
  (fun f fn hf hfn=>by
    obtain rfl : f = 4 := uX ((show Tryz.prog.funcNamed "cylinder/cylinderlaw40.EvaluateForms" = some 4 by kernel_rfl).symm.trans hf) |>.symm;obtain rfl : fn = Tryz.f4 := (uX (Tryz.func4.symm.trans hfn)).symm;exact ⟨by kernel_rfl, fun j t ht => by
     rw [Tryz.params4] at ht;have h3:t=29\/t=60:=by
      rcases j with _ | _ | j
      · exact .inl (by simpa using ht.symm)
      · exact .inr (by simpa using ht.symm)
      · simp at ht
     rcases h3 with rfl | rfl
     · exact (show Tryz.prog.wantsStandIn 29=false by kernel_rfl)
     · exact (show Tryz.prog.wantsStandIn 60=false by kernel_rfl)⟩)
  (by kernel_rfl)
#print axioms forms_proved
end Go.Proofs.YtheefiaoimbeiaaGreatDoor
