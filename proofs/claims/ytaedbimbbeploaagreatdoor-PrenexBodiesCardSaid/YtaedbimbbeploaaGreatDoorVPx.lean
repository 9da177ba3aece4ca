/- Layer 38: prenex.Valid and the reference's Valid. -/
import Derived.Test.YtaedbimbbeploaaGreatDoorMb32
import Derived.Test.YtaedbimbbeploaaGreatDoorMb29
import Derived.Test.YtaedbimbbeploaaGreatDoorMb40
import Derived.Deep.RegionLaw
set_option linter.unusedSimpArgs false
set_option linter.unusedVariables false

set_option maxRecDepth 100000
set_option maxHeartbeats 8000000
namespace Go.Proofs.YtaedbimbbeploaaGreatDoor
open Go.RowKit
def uae (fr:Int) (all:List Bool) (nms:List ByteArray) (m:Mx):Bool:=jy nms && (decide (0<=fr) && (decide (IntKind.i64.wrap (fr+all.length)=(nms.length:Int)) && decide (m.lvl<=(nms.length:Int))))
theorem zcf {w:World} {q:Nat->Prop} {fr:Int} {all:List Bool} {nms:List ByteArray} {m:Mx} {v:Value} (hbig:m.sz<=1000000) (hsm:m.small) (h:PxV w q fr all nms m v):Calls Tryz.prog 27 #[v] w (qaj (uae fr all nms m) w):=by
 obtain ⟨A1,c1,A2,c2,A0,n0,c0,B,n1,c3,K,n2,c4,rfl,hb1,hs1,hm1⟩:=h;have HST:=Lib.hid hs1;have HT:=Lib.hid hm1;obtain ⟨A',c',e',l3,l4,-⟩:=id hs1;injection e' with e1 e2 e3
 subst e1 e3;obtain ⟨A',c',e',l5,l6,-⟩:=id hb1;injection e' with e1 e2' e3
 subst e1 e3;clear e2 e2' hs1 hb1 hm1;unfold mxV at HT;unfold pxC;obtain ⟨W,hW⟩:∃ W,(w.alloc (.cells #[.int .i64 fr,.slice A1 all.length c1,.slice A2 nms.length c2,.int .i64 m.kind,.int .i64 m.rel,.int .i64 m.p.lv,.bool m.p.neg,.slice A0 n0 c0,.slice B n1 c3,.slice K n2 c4] 47))=W:=⟨_,rfl⟩;obtain ⟨hWx,hWs,a0,a1,a2,a3,a4,a5,a6,a7,a8,a9⟩:=kb4 w _ _ _ _ _ _ _ _ _ _ _ W hW;have HWX:=Lib.hid hWx;have HSS:Hid (∀ wr,Ext W wr->(Ext W wr/\wr.cell? ⟨w.heap.size,0,none⟩=some (.int .i64 fr)/\wr.cell? ⟨w.heap.size,1,none⟩=some (.slice A1 all.length c1)/\wr.cell? ⟨w.heap.size,2,none⟩=some (.slice A2 nms.length c2)/\wr.cell? ⟨w.heap.size,3,none⟩=some (.int .i64 m.kind)/\wr.cell? ⟨w.heap.size,4,none⟩=some (.int .i64 m.rel)/\wr.cell? ⟨w.heap.size,5,none⟩=some (.int .i64 m.p.lv)/\wr.cell? ⟨w.heap.size,6,none⟩=some (.bool m.p.neg)/\wr.cell? ⟨w.heap.size,7,none⟩=some (.slice A0 n0 c0)/\wr.cell? ⟨w.heap.size,8,none⟩=some (.slice B n1 c3)/\wr.cell? ⟨w.heap.size,9,none⟩=some (.slice K n2 c4))):=Lib.hid (by
  intro wr hxx;have k:∀ j,wr.cell? ⟨w.heap.size,j,none⟩=W.cell? ⟨w.heap.size,j,none⟩:=fun j=>hxx.cell (p:=⟨w.heap.size,j,none⟩) (by show w.heap.size < _; omega)
  exact ⟨hxx,(k 0).trans a0,(k 1).trans a1,(k 2).trans a2,(k 3).trans a3,(k 4).trans a4,(k 5).trans a5,(k 6).trans a6,(k 7).trans a7,(k 8).trans a8,(k 9).trans a9⟩)
 have HD:=Lib.hid (fun W' (hx:Ext W W')=>wb0 (HST.out.ext (HWX.out.trans hx)));have HM:=Lib.hid (fun W' (hx:Ext W W')=>kbg m _ W' hbig hsm (HT.out.ext (HWX.out.trans hx)));have hnsz:=m.nrm_sz;have HL:Hid (∀ W',Ext W W'->∀ q v'',MxV W' q m.nrm v''->Calls Tryz.prog 74 #[v''] W' (waa m.lvl W')):=Lib.hid (fun W' hx q v'' hv=>by
  have h1:=zb1 m.nrm _ W' (by omega) hv;rw [m.lvl_nrm] at h1
  exact h1)
 clear hnsz;have Y0:=Lib.hid ((Ext.refl W).drew);clear hWx hWs a0 a1 a2 a3 a4 a5 a6 a7 a8 a9;go_enter Tryz.func27,Tryz.ntmps27;go_upto_region 1 with fail;clear hW;refine wp_region_held_drew (S:=fun wr=>Ext W wr/\wr.cell? ⟨w.heap.size,0,none⟩=some (.int .i64 fr)/\wr.cell? ⟨w.heap.size,1,none⟩=some (.slice A1 all.length c1)/\wr.cell? ⟨w.heap.size,2,none⟩=some (.slice A2 nms.length c2)/\wr.cell? ⟨w.heap.size,3,none⟩=some (.int .i64 m.kind)/\wr.cell? ⟨w.heap.size,4,none⟩=some (.int .i64 m.rel)/\wr.cell? ⟨w.heap.size,5,none⟩=some (.int .i64 m.p.lv)/\wr.cell? ⟨w.heap.size,6,none⟩=some (.bool m.p.neg)/\wr.cell? ⟨w.heap.size,7,none⟩=some (.slice A0 n0 c0)/\wr.cell? ⟨w.heap.size,8,none⟩=some (.slice B n1 c3)/\wr.cell? ⟨w.heap.size,9,none⟩=some (.slice K n2 c4)) (by kernel_rfl) (HSS.out _ Y0.out) (fun hHeld=>?_);refine tk 0 ?_;refine tk 1 ?_;refine wpAnyH_ready (rs:=[2]) (by kernel_rfl) (by simp) ?_;refine AllReadyH.cons rfl (fun K hK=>?_) AllReadyH.nil;go_simp
 go_at_call 22
 refine (HD.out _ Y0.out).mono ?_;rintro e v1 ⟨rfl,x1⟩;have z1:Ext W v1:=Ext.trans Y0.out x1;refine hK.out _ _ (HSS.out _ z1) (fun hHeld=>?_);clear hK K
 try simp only [Act.put,List.getElem_toArray,List.getElem_cons_zero,List.getElem_cons_succ,List.setIfInBounds_toArray,List.set_cons_zero,List.set_cons_succ]
 refine tk 3 ?_;refine Decidable.byCases (fun hn:jy nms=true=>?bN) (fun hn:¬ jy nms=true=>?bX)
 case' bX =>
  have hn':jy nms=false:=by simpa using hn
  have HF:Hid (uae fr all nms m=false):=Lib.hid (by unfold uae; rw [hn']; rfl);simp only [hn'];clear hn hn';refine tk 4 ?_;refine tk 5 ?_;refine tk 6 ?_;refine tk 7 ?_;refine tk 8 ?_
 case' bN =>
  have HN:=Lib.hid hn;simp only [hn];clear hn;refine tk 4 ?_;refine tk 5 ?_;refine tk 6 ?_;refine tk 7 ?_;refine tk 8 ?_;refine Decidable.byCases (fun hf:0<=fr=>?bF) (fun hf:¬ 0<=fr=>?bY)
  case' bY =>
   have hf':decide (0<=fr)=false:=by simpa using hf
   have HF:Hid (uae fr all nms m=false):=Lib.hid (by unfold uae; rw [HN.out,hf']; rfl);simp only [hf'];clear hf hf'
 any_goals
  (have hFF:=HF
   clear hFF;refine tk 9 ?_;refine tk 10 ?_;refine tk 11 ?_;refine tk 12 ?_;refine tk 13 ?_;refine tk 14 ?_;refine tk 15 ?_;refine tk 16 ?_;refine tk 17 ?_;refine tk 18 ?_;refine tk 19 ?_
   refine tk 20 ?_)
 case' bF =>
  have hf':decide (0<=fr)=true:=by simpa using hf
  have HFR:=Lib.hid hf';simp only [hf'];clear hf hf';refine tk 9 ?_;refine tk 10 ?_;refine tk 11 ?_;refine tk 12 ?_;refine tk 13 ?_;refine tk 14 ?_;refine tk 15 ?_;refine tk 16 ?_;refine tk 17 ?_;refine tk 18 ?_;refine tk 19 ?_;refine tk 20 ?_;refine Decidable.byCases (fun hs:IntKind.i64.wrap (fr+all.length)=(nms.length:Int)=>?bS) (fun hs:¬ IntKind.i64.wrap (fr+all.length)=(nms.length:Int)=>?bZ)
  case' bZ =>
   have hs':(IntKind.i64.wrap (fr+all.length) == (nms.length:Int))=false:=by simpa using hs
   have HF:Hid (uae fr all nms m=false):=Lib.hid (by unfold uae; rw [HN.out,HFR.out,decide_eq_false hs]; rfl);simp only [hs'];clear hs hs'
 any_goals
  (have hFF:=HF
   clear hFF;refine tk 21 ?_;refine tk 22 ?_;refine tk 23 ?_;refine tk 24 ?_;refine tk 25 ?_;refine tk 26 ?_;refine tk 27 ?_;refine tk 28 ?_;refine tk 29 ?_;refine tk 30 ?_;refine wpAnyH_done (by kernel_rfl) ?_ _;have XF:=Lib.hid (HWX.out.trans z1);clear z1 x1;go_wp2_with fail;go_ret
   exact ⟨by rw [HF.out]; rfl,XF.out⟩)
 have hs':(IntKind.i64.wrap (fr+all.length) == (nms.length:Int))=true:=by simpa using hs
 have HF:Hid (uae fr all nms m=decide (m.lvl<=(nms.length:Int))):=Lib.hid (by unfold uae; rw [HN.out,HFR.out,decide_eq_true hs]; rfl);simp only [hs'];clear hs hs';refine tk 21 ?_;refine tk 22 ?_;refine tk 25 ?_;refine tk 26 ?_;refine tk 27 ?_;refine wpAnyH_ready (rs:=[23]) (by kernel_rfl) (by simp) ?_;refine AllReadyH.cons rfl (fun K hK=>?_) AllReadyH.nil;go_simp
 go_at_call 32
 refine (HM.out _ z1).mono ?_;rintro e v2 ⟨mv,rfl,m2,x2⟩;obtain ⟨G0,l0,h0,G,l1,h1,L,hh,rfl,-⟩:=id m2.open_;unfold mxV;have z2:Ext W v2:=Ext.trans z1 x2;refine hK.out _ _ (HSS.out _ z2) (fun hHeld=>?_);clear hK K
 try simp only [Act.put,List.getElem_toArray,List.getElem_cons_zero,List.getElem_cons_succ,List.setIfInBounds_toArray,List.set_cons_zero,List.set_cons_succ]
 refine wpAnyH_ready (rs:=[24]) (by kernel_rfl) (by simp) ?_;refine AllReadyH.cons rfl (fun K hK=>?_) AllReadyH.nil;go_simp
 go_at_call 74
 refine (HL.out _ z2 _ _ m2).mono ?_;rintro e v3 ⟨rfl,x3⟩;have z3:Ext W v3:=Ext.trans z2 x3;refine hK.out _ _ (HSS.out _ z3) (fun hHeld=>?_);clear hK K
 try simp only [Act.put,List.getElem_toArray,List.getElem_cons_zero,List.getElem_cons_succ,List.setIfInBounds_toArray,List.set_cons_zero,List.set_cons_succ]
 refine tk 28 ?_;refine tk 29 ?_;refine tk 30 ?_;refine wpAnyH_done (by kernel_rfl) ?_ _;have XF:=Lib.hid (HWX.out.trans z3);clear z1 x1 z2 x2 z3 x3;go_wp2_with fail;go_ret;exact ⟨by rw [HF.out]; rfl,XF.out⟩
end Go.Proofs.YtaedbimbbeploaaGreatDoor
