/- PrenexBodies: for every matrix and every list of names the law answers true, and it reads as before. No condition but the listed tables, which this road never looks into. The row and the tied card. -/
import Derived.Test.YtaedbimbbeploaaGreatDoorMb52
import Derived.Test.YtaedbimbbeploaaGreatDoorMb51
import Derived.Test.YtaedbimbbeploaaGreatDoorFold
import Derived.Test.YtaedbimbbeploaaGreatDoorMb22
import Derived.Test.YtaedbimbbeploaaGreatDoorMb29
import Derived.Test.YtaedbimbbeploaaGreatDoorMb30
import Derived.Test.YtaedbimbbeploaaGreatDoorMb48
import Derived.Test.YtaedbimbbeploaaGreatDoorMb0
import Derived.WalkKit
import Derived.ProofKit
import Derived.OpenShut
import Derived.Below
import Derived.ChangeSame
import Derived.Test.YtaedbimbbeploaaGreatDoorRows
import Derived.Test.YtaedbimbbeploaaGreatDoorChecked
import Derived.LaidMore
import Derived.LaidLaws
import Derived.LaidHandle
import Derived.ChangeArms
import Derived.Test.YtaedbimbbeploaaGreatDoorCards
import Derived.Test.YtaedbimbbeploaaGreatDoorTie
import Derived.SevenTiedAt
set_option linter.unusedSimpArgs false
set_option linter.unusedVariables false

set_option maxRecDepth 100000
set_option maxHeartbeats 8000000
namespace Go.Proofs.YtaedbimbbeploaaGreatDoor
open Go.RowKit
theorem ub1 {P:ByteArray->Prop} {w0:World} {L:Nat} (hL:L<=35184372088000) (t:Fm):t.flat P->∀ (v:Value) (w:World),Ext w0 w->FmV w0 L t v->Calls Tryz.prog 37 #[v] w (uj t.plain w):=by
 induction t with
 | truth b=>exact fun _ v w hx h=>jch h
 | atom l r k=>exact fun _ v w hx h=>gcr h hx (yaz hL l) (yaz hL k)
 | and f g ihf ihg=>exact fun hq v w hx h=>wcw h hx (ihf hq.1) (ihg hq.2)
 | or f g ihf ihg=>exact fun hq v w hx h=>vcz h hx (ihf hq.1) (ihg hq.2)
 | _=>exact fun hq=>hq.elim
theorem zbz {nms:List ByteArray} {m:Mx} (hn:nms.length<=8):uae (nms.length:Int) [] nms m=true ↔ vat nms m:=by
 unfold uae vat;simp only [Bool.and_eq_true,decide_eq_true_eq,List.length_nil];have:IntKind.i64.wrap ((nms.length:Int)+((0:Nat):Int))=(nms.length:Int):=by rw [IntKind.wrap_i64]; omega
 rw [this];exact ⟨fun h=>⟨h.1,h.2.2.2⟩,fun h=>⟨h.1,by omega,rfl,h.2⟩⟩
mutual
theorem Mx.fold_each {P : Pl -> Prop} (hz : P Pl.zero) : ∀ t : Mx, t.each P -> t.fold.each P
 | .mk k r p ks,h=>by
   rw [Mx.each] at h;rw [Mx.fold]
   split
   · have hk:=ua5 hz ks h.2;cases hq:kan ks with
     | nil=>simp only [wax,Mx.each,xw]; exact ⟨hz,trivial⟩
     | cons x l =>
       rw [hq,xw] at hk;simp only;exact kba hz l x hk.1 hk.2
   · rw [Mx.each]; exact h
theorem ua5 {P : Pl -> Prop} (hz : P Pl.zero) : ∀ l : List Mx, xw P l -> xw P (kan l)
 | [],_=>by rw [kan,xw]; trivial
 | t :: r,h=>by rw [xw] at h; rw [kan,xw]; exact ⟨t.fold_each hz h.1,ua5 hz r h.2⟩
theorem kba {P : Pl -> Prop} (hz : P Pl.zero) {k : Int} : ∀ (l : List Mx) (x : Mx), x.each P -> xw P l -> (l.foldl (gab k) x).each P
 | [],_,h,_=>h
 | y :: r,x,h,hl=>by
   rw [xw] at hl;rw [List.foldl_cons];exact kba hz r _ (by simp only [gab,Mx.each,xw]; exact ⟨hz,h,hl.1,trivial⟩) hl.2
end
theorem xbm (nms:List ByteArray):xa8 nms Pl.zero:=by
 have h0:jc (Pl.zero.terms Mo.one)=[]:=(gbl (l:=Pl.zero.terms Mo.one) (l':=[]) trivial (fun x hx=>by cases hx) (fun k _=>(Pl.zero_coef Mo.one k).symm)).symm;refine ⟨Pl.nf_of_can Pl.zero_can,by show (0:Int)<=_; omega,by decide,by decide,?_⟩;rw [h0];show uf (qo 0:Nat)<=400;rw [show qo 0=1 by unfold qo; simp]
 decide
theorem qcw {nms:List ByteArray} {p:Pl} (hsz:p.sz<=40) (hdm:p.dm<=4) (hdg:p.dig) (hl:p.nf.lv<=(nms.length:Int)):xa8 nms p.nf:=by
 have e1:=Pl.nf_sz p;have e2:=Pl.nf_dm p hdg (by omega);have e3:(p.sz+2) ^ 4<=42 ^ 4:=Nat.pow_le_pow_left (by omega) 4;have e4:(42:Nat) ^ 4=3111696:=by decide
 refine ⟨Pl.nf_of_can p.nf_can,hl,by omega,by omega,?_⟩;rw [Pl.nf_sp];have hb:=(qbw (nms:=nms) (l:=jc (p.terms Mo.one)) (fun x hx=>(jr hx).1)).2;have h1:=Pl.terms_len p Mo.one;have h2:=xaq (p.terms Mo.one);have hdig0:=qao p hdg (by omega);have h3:uw (jc (p.terms Mo.one))<=160:=kag (fun x=>x.2.tot) _ _ (by omega) (fun x hx=>by
  obtain ⟨hn,y,hy,e⟩:=jr hx;have:=Pl.terms_le p Mo.one 0 Mo.one_le y hy;rw [e] at this;obtain ⟨g1,g2,g3,g4⟩:=this;show x.2.a+x.2.b+x.2.c+x.2.d<=_
  omega)
 have h4:vag (jc (p.terms Mo.one))<=60:=kag (fun x=>(qo x.1.natAbs:Nat)) _ _ (by omega) (fun x hx=>by
  have k1:=za3 x.1.natAbs;have k2:=Nat.le_trans (jh (kas hx)) (Nat.le_trans (jh (wai _)) hdig0);show ((qo x.1.natAbs:Nat):Int)<=_
  omega)
 have h5:=ya3 (a:=0) (b:=uw (jc (p.terms Mo.one))) (c:=160) (by omega) h3;omega
theorem wcs {nms:List ByteArray} (n:Nat):∀ (t:Mx),t.sz < n->t.small->t.each Pl.dig->t.lvl<=(nms.length:Int)->t.nrm.each (xa8 nms):=by
 induction n with
 | zero=>intro t h; omega
 | succ n ih =>
   intro t hsz hsm hd hl;have hz:=xbm nms;rw [Mx.nrm_eq];rw [Mx.lvl_eq] at hl
   by_cases k1:t.kind=1
   · rw [if_pos k1,Mx.each,xw]; exact ⟨hz,trivial⟩
   rw [if_neg k1]
   by_cases k2:t.kind=2
   · rw [if_pos k2,Mx.each,xw];rw [if_pos k2] at hl;have hp:=Mx.p_small hsm;exact ⟨qcw hp.1 hp.2 (Mx.each_p hd) hl,trivial⟩
   rw [if_neg k2];rw [if_neg k2] at hl
   by_cases k34:t.kind=3\/t.kind=4
   · rw [if_pos k34,Mx.each];rw [if_pos k34] at hl;have hks:=(zbd t.ks _ 0 hl).2;have hsk:=Mx.ks_small hsm;have hdk:=Mx.each_ks hd;have hk:∀ x ∈ t.ks,x.nrm.each (xa8 nms):=fun x hx=>ih x (by
      obtain ⟨i,hi,rfl⟩:=List.getElem_of_mem hx;have:=Mx.kid_le t i hi
      omega) (kae hsk hx) (wa1 hdk hx) (hks x hx)
     refine ⟨hz,?_⟩;generalize t.ks=ks at *;clear hks hsk hdk hl
     induction ks with
     | nil=>rw [List.map_nil,xw]; trivial
     | cons x r ihr=>rw [List.map_cons,xw]; exact ⟨hk x (by simp),ihr (fun y hy=>hk y (by simp [hy]))⟩
   · rw [if_neg k34,Mx.each,xw]; exact ⟨hz,trivial⟩
theorem gbi {w:World} {q:Nat->Prop} {nms:List ByteArray} {m:Mx} {v nv:Value} (h:MxV w q m v) (hs:SlR (fun _ (s:ByteArray) x=>x=.string s) w nv nms):Calls Tryz.prog 7 #[v,nv] w (qaj true w):=by
 have HMX:=Lib.hid h;have HST:=Lib.hid hs;have HDIG:=Lib.hid (MxV.dig m v h);obtain ⟨A0,n0,c0,B,n1,c3,K,c4,rfl,-⟩:=h.open_;obtain ⟨A2,c2,rfl,hn1,hn2,-⟩:=hs;obtain ⟨n2,hn2'⟩:∃ n2,m.ks.length=n2:=⟨_,rfl⟩;rw [hn2'] at HMX h ⊢;clear hn2';have HPX:Hid (∀ W',Ext w W'->PxV W' q (nms.length:Int) [] nms m (.agg #[.int .i64 (nms.length:Int),.slice none 0 0,.slice A2 nms.length c2,.int .i64 m.kind,.int .i64 m.rel,.int .i64 m.p.lv,.bool m.p.neg,.slice A0 n0 c0,.slice B n1 c3,.slice K n2 c4])):=Lib.hid (fun W' hx=>⟨none,0,A2,c2,A0,n0,c0,B,n1,c3,K,n2,c4,rfl,⟨none,0,rfl,Nat.le_refl _,by omega,fun j hj=>absurd hj (by simp)⟩,SlR.ext HST.out (fun _ _ h=>h) hx,HMX.out.ext hx⟩);clear h;unfold mxV at HMX;unfold mxV;obtain ⟨W0,hW0⟩:∃ W0,w.alloc (.cells #[.int .i64 m.kind,.int .i64 m.rel,.int .i64 m.p.lv,.bool m.p.neg,.slice A0 n0 c0,.slice B n1 c3,.slice K n2 c4] 45)=W0:=⟨_,rfl⟩;have hW0x:Ext w W0:=by rw [<- hW0]; exact (Ext.refl w).alloc _
 have hW0s:W0.heap.size=w.heap.size+1:=by rw [<- hW0]; simp
 have hb7:um W0 w.heap.size m (.slice A0 n0 c0) (.slice B n1 c3) (.slice K n2 c4):=by rw [<- hW0]; exact um.new w m _ _ _ _
 obtain ⟨W,hW⟩:∃ W,W0.alloc (.cells #[.int .i64 (nms.length:Int),.slice none 0 0,.slice A2 nms.length c2,.int .i64 m.kind,.int .i64 m.rel,.int .i64 m.p.lv,.bool m.p.neg,.slice A0 n0 c0,.slice B n1 c3,.slice K n2 c4] 47)=W:=⟨_,rfl⟩;obtain ⟨hWx',hWs,a0,a1,a2,a3,a4,a5,a6,a7,a8,a9⟩:=kb4 W0 _ _ _ _ _ _ _ _ _ _ _ W hW;rw [hW0s] at hWs a0 a1 a2 a3 a4 a5 a6 a7 a8 a9;have HWX:=Lib.hid (hW0x.trans hWx');have HB:Hid (∀ wr,Ext W wr->(wr.cell? ⟨w.heap.size,0,none⟩=some (.int .i64 m.kind)/\wr.cell? ⟨w.heap.size,1,none⟩=some (.int .i64 m.rel)/\wr.cell? ⟨w.heap.size,2,none⟩=some (.int .i64 m.p.lv)/\wr.cell? ⟨w.heap.size,3,none⟩=some (.bool m.p.neg)/\wr.cell? ⟨w.heap.size,4,none⟩=some (.slice A0 n0 c0)/\wr.cell? ⟨w.heap.size,5,none⟩=some (.slice B n1 c3)/\wr.cell? ⟨w.heap.size,6,none⟩=some (.slice K n2 c4))/\(wr.cell? ⟨w.heap.size+1,0,none⟩=some (.int .i64 (nms.length:Int))/\wr.cell? ⟨w.heap.size+1,1,none⟩=some (.slice none 0 0)/\wr.cell? ⟨w.heap.size+1,2,none⟩=some (.slice A2 nms.length c2)/\wr.cell? ⟨w.heap.size+1,3,none⟩=some (.int .i64 m.kind)/\wr.cell? ⟨w.heap.size+1,4,none⟩=some (.int .i64 m.rel)/\wr.cell? ⟨w.heap.size+1,5,none⟩=some (.int .i64 m.p.lv)/\wr.cell? ⟨w.heap.size+1,6,none⟩=some (.bool m.p.neg)/\wr.cell? ⟨w.heap.size+1,7,none⟩=some (.slice A0 n0 c0)/\wr.cell? ⟨w.heap.size+1,8,none⟩=some (.slice B n1 c3)/\wr.cell? ⟨w.heap.size+1,9,none⟩=some (.slice K n2 c4))):=Lib.hid (by
  intro wr hxx;have k:∀ j,wr.cell? ⟨w.heap.size+1,j,none⟩=W.cell? ⟨w.heap.size+1,j,none⟩:=fun j=>hxx.cell (p:=⟨w.heap.size+1,j,none⟩) (by show w.heap.size+1 < _; omega)
  exact ⟨hb7.ext (hWx'.trans hxx) (by omega),(k 0).trans a0,(k 1).trans a1,(k 2).trans a2,(k 3).trans a3,(k 4).trans a4,(k 5).trans a5,(k 6).trans a6,(k 7).trans a7,(k 8).trans a8,(k 9).trans a9⟩)
 clear hW0x hWx' a0 a1 a2 a3 a4 a5 a6 a7 a8 a9 hb7;go_enter Tryz.func7,Tryz.ntmps7;subst hW0;go_wp2_with fail;clear hW;refine (xa6 _).mono ?_;rintro e w1 ⟨rfl,x1⟩;have X1:=Lib.hid x1;have HFE:=Lib.hid (zcm 60 (by omega) (HPX.out _ (HWX.out.trans x1)));obtain ⟨⟨b0,b1,b2,b3,b4,b5,b6⟩,a0,a1,a2,a3,a4,a5,a6,a7,a8,a9⟩:=HB.out w1 x1;clear x1;go_wp2_with fail;clear b0 b1 b2 b3 b4 b5 b6 a0 a1 a2 a3 a4 a5 a6 a7 a8 a9;refine HFE.out.mono ?_;rintro e w2 ⟨rfl,x2⟩;have X2:=Lib.hid (X1.out.trans x2);obtain ⟨⟨b0,b1,b2,b3,b4,b5,b6⟩,a0,a1,a2,a3,a4,a5,a6,a7,a8,a9⟩:=HB.out w2 X2.out;clear x2 HFE
 by_cases hf:jai [] nms m 60=true
 case neg =>
  rw [show jai [] nms m 60=false by simpa using hf];clear hf;go_wp2_with fail;clear b0 b1 b2 b3 b4 b5 b6 a0 a1 a2 a3 a4 a5 a6 a7 a8 a9;refine (xa6 _).mono ?_;rintro e w9 ⟨rfl,x9⟩;have X9:=Lib.hid (HWX.out.trans (X2.out.trans x9));clear x9;go_wp2_with fail;go_ret;exact ⟨rfl,X9.out⟩
 rw [hf];have hff:nms.length<=8/\m.few 60=true:=by
  unfold jai at hf;simp only [Bool.and_eq_true,decide_eq_true_eq] at hf;exact ⟨hf.1.1,hf.2.2⟩
 obtain ⟨hnl,hfm⟩:=hff;obtain ⟨hsz,hsm⟩:=Mx.few_le hfm;have HRV:=Lib.hid (fun W' (hx:Ext W W')=>zcf (by omega) hsm (HPX.out _ (HWX.out.trans hx)));have HBD:=Lib.hid (fun W' (hx:Ext W W')=>yb9 (L:=20) (by omega) (by omega) hsm (HMX.out.ext (HWX.out.trans hx)) (SlR.ext HST.out (fun _ _ h=>h) (HWX.out.trans hx)));have hvb:=zbz (m:=m) hnl;clear hf hfm;go_wp2_with fail;clear b0 b1 b2 b3 b4 b5 b6 a0 a1 a2 a3 a4 a5 a6 a7 a8 a9;refine (HBD.out _ X2.out).mono ?_;rintro e w3 (⟨hok,fv,rfl,hf,x3⟩ | ⟨hno,rfl,x3⟩)
 case inr =>
  have X3:=Lib.hid (X2.out.trans x3);have hv:uae (nms.length:Int) [] nms m=false:=by
   cases hq:uae (nms.length:Int) [] nms m with
   | false=>rfl
   | true=>exact absurd (hvb.1 hq) hno
  rw [hv] at HRV;obtain ⟨⟨b0,b1,b2,b3,b4,b5,b6⟩,a0,a1,a2,a3,a4,a5,a6,a7,a8,a9⟩:=HB.out w3 X3.out;clear x3 HBD hno hvb hv;go_wp2_with fail;clear b0 b1 b2 b3 b4 b5 b6 a0 a1 a2 a3 a4 a5 a6 a7 a8 a9;refine (HRV.out _ X3.out).mono ?_;rintro e w4 ⟨rfl,x4⟩;have X4:=Lib.hid (X3.out.trans x4);clear x4 HRV;go_wp2_with fail;go_ret;exact ⟨rfl,HWX.out.trans X4.out⟩
 have X3:=Lib.hid (X2.out.trans x3);rw [hvb.2 hok] at HRV;obtain ⟨T3,u3,rfl⟩:=hf.iface;have HFV:=Lib.hid hf;have hbf:=wcc (nms:=nms) (m.sz+1) m (Nat.lt_succ_self _);have HSY:=Lib.hid (vcq hok.1 (kcu (m.sz+1) m (Nat.lt_succ_self _)) (Mx.fold_each (xbm nms) _ (wcs (m.sz+1) m (Nat.lt_succ_self _) hsm HDIG.out hok.2)));unfold vaq at HSY;rw [hbf] at HSY;have HIS:=Lib.hid hf.isFm;have hflat:=(zcd (P:=fun _=>True) (nms:=nms) (fun _ _=>trivial) (m.sz+1) m (Nat.lt_succ_self _) hsm hok.2).1;obtain ⟨⟨b0,b1,b2,b3,b4,b5,b6⟩,a0,a1,a2,a3,a4,a5,a6,a7,a8,a9⟩:=HB.out w3 X3.out;clear x3 HBD hok hvb hbf hf;generalize m.bodyF nms=f at *;go_wp2_with fail;clear b0 b1 b2 b3 b4 b5 b6 a0 a1 a2 a3 a4 a5 a6 a7 a8 a9;refine (HRV.out _ X3.out).mono ?_;rintro e w4 ⟨rfl,x4⟩;have X4:=Lib.hid (X3.out.trans x4);have HPL2:Hid (∀ W',Ext w4 W'->Calls Tryz.prog 37 #[.iface T3 u3] W' (uj f.plain W')):=Lib.hid (fun W' hx=>ub1 (L:=20) (by omega) f hflat _ W' (x4.trans hx) HFV.out);have HNO:=Lib.hid (fun W' (hx:Ext W W')=>kbg m _ W' (by omega) hsm (HMX.out.ext (HWX.out.trans hx)));have HFO:=Lib.hid (fun (w':World) (v:Value) (q':Nat->Prop) (h:MxV w' q' m.nrm v)=>vcl m.nrm v w' (by have:=m.nrm_sz; omega) h);have HSS:Hid (∀ W',Ext W W'->(Ext W W'/\W'.cell? ⟨w.heap.size,0,none⟩=some (.int .i64 m.kind)/\W'.cell? ⟨w.heap.size,1,none⟩=some (.int .i64 m.rel)/\W'.cell? ⟨w.heap.size,2,none⟩=some (.int .i64 m.p.lv)/\W'.cell? ⟨w.heap.size,3,none⟩=some (.bool m.p.neg)/\W'.cell? ⟨w.heap.size,4,none⟩=some (.slice A0 n0 c0)/\W'.cell? ⟨w.heap.size,5,none⟩=some (.slice B n1 c3)/\W'.cell? ⟨w.heap.size,6,none⟩=some (.slice K n2 c4))):=Lib.hid (fun W' hx=>⟨hx,(HB.out W' hx).1⟩);have Y0:=Lib.hid (X4.out.drew);have YD:Hid (Ext w4 w4.drew):=Lib.hid ((Ext.refl w4).drew);clear x4 HRV hsm hflat;go_upto_region 7 with fail
 go_region_held3 (fun W' => Ext W W' /\ W'.cell? ⟨w.heap.size, 0, none⟩ = some (.int .i64 m.kind) /\ W'.cell? ⟨w.heap.size, 1, none⟩ = some (.int .i64 m.rel) /\ W'.cell? ⟨w.heap.size, 2, none⟩ = some (.int .i64 m.p.lv) /\ W'.cell? ⟨w.heap.size, 3, none⟩ = some (.bool m.p.neg) /\ W'.cell? ⟨w.heap.size, 4, none⟩ = some (.slice A0 n0 c0) /\ W'.cell? ⟨w.heap.size, 5, none⟩ = some (.slice B n1 c3) /\ W'.cell? ⟨w.heap.size, 6, none⟩ = some (.slice K n2 c4))
  (first | with_reducible exact HSS.out _ Y0.out | with_reducible exact HSS.out _ z1 | with_reducible exact HSS.out _ z2 | with_reducible exact HSS.out _ z3 | with_reducible exact HSS.out _ z4)
  ((first
    | (go_at_call 37
       refine (HPL2.out _ YD.out).mono ?_;rintro e w5 ⟨tv,rfl,ht,y5⟩;have HT5:=Lib.hid ht.trV;obtain ⟨E0,i0,g0,E1,g1,rfl,-⟩:=id ht.open_;have z1:Ext W w5:=Y0.out.trans y5
       clear ht y5)
    | (go_at_call 32
       refine (HNO.out _ z1).mono ?_;rintro e w6 ⟨mv,rfl,m6,y6⟩;have HT6:=Lib.hid (HT5.out.ext y6);have M6:=Lib.hid m6;obtain ⟨F0,i2,g2,F1,i3,g3,F2,g4,rfl,-⟩:=id m6.open_;have z2:Ext W w6:=Ext.trans z1 y6
       clear m6 y6)
    | (go_at_call 31
       refine (HFO.out _ _ _ M6.out).mono ?_;rintro e w7 ⟨fv7,rfl,m7,y7⟩;have HT7:=Lib.hid (HT6.out.ext y7);have M7:=Lib.hid m7;obtain ⟨G0,i5,g5,G1,i6,g6,G2,g7,rfl,-⟩:=id m7.open_;have z3:Ext W w7:=Ext.trans z2 y7
       clear m7 y7)
    | (go_at_call 36
       refine (HSY.out _ _ _ w7 _ _ HIS.out HT7.out M7.out (SlR.ext HST.out (fun _ _ h=>h) (HWX.out.trans z3))).mono ?_;rintro e w8 ⟨rfl,y8⟩;have z4:Ext W w8:=Ext.trans z3 y8
       clear y8)))
 all_goals
  have Z4:=Lib.hid z4;clear z1 z2 z3 z4;go_wp2_with fail;go_ret;exact ⟨rfl,HWX.out.trans Z4.out⟩
end Go.Proofs.YtaedbimbbeploaaGreatDoor

/- Reading the arguments: a prenex form that came in. -/
namespace Go.Proofs.YtaedbimbbeploaaGreatDoor
open Go.ChangeShapes Go.WideShapes Go.RowKit
section
variable {H:Type} {enc:TypeId × Value->H} {w:World} {sp:Nat->Bool} {held:Bool}
theorem ybt {α : Type} {P : α -> Value -> Prop} {S T : TypeId} (dflt : α) (hS : Tryz.prog.underlying S = some (.slice T)) (hk : Tryz.prog.cellsOf T = 1)
 (hel:∀ (fuel:Nat) (cs:List Value) (x:DataW H × List MemPlace),DataW.trod enc Tryz.prog w 0 sp held fuel T cs=some x->∃ a v,cs=[v]/\P a v)
 {fuel:Nat} {cs:List Value} {x:DataW H × List MemPlace} (h:DataW.trod enc Tryz.prog w 0 sp held fuel S cs=some x):∃ (l:List α) (A:Option Addr) (c:Nat),cs=[.slice A l.length c]/\SlR (fun _=>P) w (.slice A l.length c) l:=by
 rcases DataW.trod_slice hS h with ⟨e8,-⟩ | ⟨a,len,cap,elems,rest,n',hfu,e8,-,-,hlc,hcm,hel',hat,-⟩
 · exact ⟨[],none,0,e8,none,0,rfl,by simp,by omega,fun j hj=>absurd hj (by simp)⟩
 · rw [hk] at hat;have each:∀ i:Nat,∃ t:α,i < len->∃ v,w.cell? (a.add i)=some v/\a.block < w.heap.size/\P t v:=by
    intro i
    by_cases hi:i < len
    · have h1:=hat i hi;rw [List.getElem?_eq_getElem (by omega),Nat.mul_one] at h1;obtain ⟨cs',hc,ht⟩:=Option.bind_eq_some_iff.1 h1;obtain ⟨t,v,rfl,hp⟩:=hel n' cs' _ ht;have c0:=(World.cells?_some hc).2.2 0 (by omega);rw [kaq] at c0;have h3:=cell_lt c0;rw [ja] at h3;exact ⟨t,fun _=>⟨v,c0,h3,hp⟩⟩
    · exact ⟨dflt,fun h=>absurd h hi⟩
   refine ⟨(List.range len).map (fun i=>Classical.choose (each i)),some a,cap,by simpa using e8,some a,cap,rfl,by simpa using hlc,by unfold maxLen at hcm; omega,fun j hj=>?_⟩;simp only [List.length_map,List.length_range] at hj;obtain ⟨v,h1,h2,h3⟩:=Classical.choose_spec (each j) hj;simp only [List.getElem_map,List.getElem_range];exact ⟨a,v,rfl,h2,h1,h3⟩
end
end Go.Proofs.YtaedbimbbeploaaGreatDoor

/- Reading the arguments: a list of texts that came in. -/
set_option maxRecDepth 100000
set_option maxHeartbeats 8000000
namespace Go.Proofs.YtaedbimbbeploaaGreatDoor
open Go.ChangeShapes Go.WideShapes Go.RowKit
section
variable {H:Type} {enc:TypeId × Value->H} {w:World} {sp:Nat->Bool} {held:Bool}
theorem open_strings {r:Reach} {b0:Nat} {v:Value} {d:DataW H} {ps:List MemPlace} (hval:Value.okWide Tryz.prog w r b0 39 v) (h:DataW.Trod enc Tryz.prog w 0 sp held 39 v d ps):∃ l,SlR (fun _ (s:ByteArray) x=>x=.string s) w v l:=by
 obtain ⟨fuel,h⟩:=h;obtain ⟨A,n,c,rfl⟩:=okWide_slice Tryz.underlying39 hval;simp only [Value.cells] at h;obtain ⟨l,A',c',e,hl⟩:=ybt (P:=fun (s:ByteArray) x=>x=.string s) ByteArray.empty Tryz.underlying39 (by kernel_rfl) (fun fuel cs x h=>by
  obtain ⟨b,e,-⟩:=DataW.trod_string Tryz.underlying9 h
  exact ⟨b,_,e,rfl⟩) h
 simp only [List.cons.injEq,and_true] at e;rw [e];exact ⟨l,hl⟩
end
end Go.Proofs.YtaedbimbbeploaaGreatDoor

/- The last step of every law that leaves its arguments alone. -/
namespace Go.Proofs.YtaedbimbbeploaaGreatDoor
open Go.ChangeShapes Go.WideShapes Go.ChangeAt Go.RowKit
theorem vcg {H : Type} {enc : TypeId × Value -> H} {P : Program} {f : Func} {s : ChangeSpec} {apart fresh handsOn again : Bool} {W W' : World} {args : Array Value} {v : Value} {ds gs : List (DataW H)} {before pa pv : List MemPlace}
 (hW:DataW.Whole enc P f.params.toList s.vars apart W args.toList ds gs before) (hx:Ext W W')
 (hres:∀ (b:Nat) (sp:Nat->Bool) (hd:Bool),DataW.TrodAll enc P W' b sp hd f.resultTypes.toList (v.resultList f.resultTypes.size) (s.fn H (ds ++ gs)).results [])
 (hargs:∀ sp:Nat->Bool,(∀ p ∈ before,sp p.block=true)->DataW.TrodAll enc P W' 0 sp true f.params.toList args.toList (s.fn H (ds ++ gs)).args pa)
 (hvars:∀ sp:Nat->Bool,(∀ p ∈ before,sp p.block=true)->DataW.TrodVars enc P W' sp s.vars (s.fn H (ds ++ gs)).vars pv) (hps:before=pa ++ pv)
 (hok:∀ (j:Nat) (t:TypeId) (r:Value),f.resultTypes[j]?=some t->(v.resultList f.resultTypes.size)[j]?=some r->Value.okWide P W' .any 0 t r) :
 s.post enc P f apart fresh handsOn again W args v W':=by
 have low:∀ p ∈ before,p.block < W.heap.size:=fun p hp=>hW.lt p hp
 have old:∀ p ∈ before,(fun b=>decide (b < W.heap.size)) p.block=true:=fun p hp=>by simpa using low p hp
 refine ⟨ds,gs,before,[],pa,pv,hW,hres _ _ _,hargs _ old,hvars _ old,World.keptBut_mono (fun p hp=>⟨hp,?_⟩) (Below.frame hx (· ∈ before)),fun _=>?_⟩
 · exact .inr (List.mem_append.1 (hps ▸ hp))
 · obtain ⟨_,_,_,_,_,hz,hn⟩:=hW;refine ⟨hok,_,_,([] ++ pa) ++ pv,⟨[] ++ pa,pv,trodAll_append (hargs _ (fun _ _=>rfl)) (hres _ _ _),hvars _ (fun _ _=>rfl),rfl,fun b off hp=>?_,fun ha=>?_⟩,?_⟩
   · have hin:MemPlace.cell b off ∈ before:=by rw [hps]; simpa using hp
     rw [hx.frozen (low _ hin)];exact hz b off hin
   · have h:=hn ha;rw [hps] at h;simpa using h
   · exact fun p hp _=>by rw [hps]; simpa using hp
theorem wch:ownKnob Tryz.prog.godebug=none:=by kernel_rfl
theorem wcj:laidOutB Tryz.prog=true:=by kernel_rfl
theorem zbi {H:Type} {enc:TypeId × Value->H} {W W':World} {t:TypeId} (hr:Tryz.prog.readableRec t=true) (hrow:t < Tryz.prog.types.size) {v:Value} {d:DataW H} {ps:List MemPlace} (h:DataW.Trod enc Tryz.prog W 0 (fun _=>true) true t v d ps) (hx:Ext W W') (hlt:∀ x ∈ ps,x.block < W.heap.size) {sp:Nat->Bool} (hs:∀ x ∈ ps,sp x.block=true):DataW.Trod enc Tryz.prog W' 0 sp true t v d ps:=
 WideElems.Trod_stays wcj hr hrow h (fun x hx'=>Below.same hx (hlt x hx')) hs
end Go.Proofs.YtaedbimbbeploaaGreatDoor

/- The world that the door's own run leaves meets the three listed tables' condition: the witness of the rows that list them. -/
namespace Go.Proofs.YtaedbimbbeploaaGreatDoor
open Go.ChangeShapes Go.WideShapes Go.ChangeAt Go.RowKit
def xbj : List (String × DataW Unit) := [("math/bits.deBruijn32tab", Rows.laid_math_bits_deBruijn32tab), ("math/bits.deBruijn64tab", Rows.laid_math_bits_deBruijn64tab), ("internal/strconv.uint64pow10", Rows.laid_internal_strconv_uint64pow10)]
theorem door_met (os:Os) (args:Array Value):laidMetH Tryz.prog xbj ((World.doorLaid Tryz.prog 2000 os).forCall (fun _ _=>0) ⟨#[],args,[]⟩).memory:=
 laidMetH_of_parts3 (fuel:=8) (laidMet_of_run' 80 (by kernel_rfl) (by kernel_rfl)) (by kernel_rfl) (by kernel_rfl)
end Go.Proofs.YtaedbimbbeploaaGreatDoor

/- PrenexBodies: for every matrix and every list of names the law answers true, and it reads as before. No condition but the listed tables, which this road never looks into. The row and the tied card. -/
set_option maxRecDepth 100000
set_option maxHeartbeats 8000000
namespace Go.Proofs.YtaedbimbbeploaaGreatDoor
open Go.ChangeShapes Go.WideShapes Go.ChangeAt Go.RowKit
theorem gct:Tryz.prog.readableRec 45=true:=by kernel_rfl
theorem uct:45 < Tryz.prog.types.size:=of_decide_eq_true (by kernel_rfl)
theorem qca:Tryz.prog.readableRec 39=true:=by kernel_rfl
theorem xca:39 < Tryz.prog.types.size:=of_decide_eq_true (by kernel_rfl)
theorem zbj (os:Os) (started:os.Started) (H:Type) (enc:TypeId × Value->H) :
 ReturnsInHanded {} Tryz.checked os 7 .any (fun w args => (Rows.prenexBodiesSpec.pre enc Tryz.prog Tryz.f7 [] false w args /\ laidMetH Tryz.prog xbj w) /\ sizedMet enc Tryz.prog Tryz.f7 (OpenSpec.ofChange Rows.prenexBodiesSpec) false w args)
  (Rows.prenexBodiesSpec.post enc Tryz.prog Tryz.f7 false true false false):=by
 refine returnsInHanded_of_change_and (C := Tryz.checked) (X := fun w _ => laidMetH Tryz.prog xbj w) (fun _ _ _ hh h => h.of_heap hh) wch started (by kernel_rfl) Tryz.func7
  (ChangeSpec.witness_shaped (enc:=enc) (C:=Tryz.checked) (os:=os) (X:=fun w _=>laidMetH Tryz.prog xbj w) false (World.doorLaid Tryz.prog 2000 os) #[.agg #[.int .i64 0,.int .i64 0,.int .i64 0,.bool false,.slice none 0 0,.slice none 0 0,.slice none 0 0],.slice none 0 0] 8 rfl (World.shaped_of_RefB (by kernel_rfl) (by kernel_rfl)) (by kernel_rfl) (by kernel_rfl) (by kernel_rfl) (door_met os _)) ?_
 intro W base args ds gs before hval0 hW _ _ _ _;have hval:∀ (j:Nat) t v,Tryz.f7.params[j]?=some t->args[j]?=some v->Value.okWide Tryz.prog W .any base t v:=hval0;have hW':=hW;have low:∀ p ∈ before,p.block < W.heap.size:=fun p hp=>hW.lt p hp
 obtain ⟨p,q,hA0,hV,rfl,-,-⟩:=hW;have hA:DataW.TrodAll enc Tryz.prog W 0 (fun _=>true) true Tryz.f7.params.toList args.toList ds p:=hA0;rw [Tryz.params7] at hA hval;obtain ⟨v0,vs0,d0,ds0,p0,q0,hargs,rfl,rfl,h0,r0⟩:=trodAll_cons hA;obtain ⟨v1,vs1,d1,ds1,p1,q1,rfl,rfl,rfl,h1,r1⟩:=trodAll_cons r0;obtain ⟨rfl,rfl,rfl⟩:=trodAll_nil r1;obtain rfl:args=#[v0,v1]:=by cases args; simp_all
 obtain ⟨rfl,rfl⟩:=trodVars_none hV;obtain ⟨t,ht⟩:=jbu (hval 0 45 v0 rfl rfl) h0;obtain ⟨nms,hn⟩:=open_strings (hval 1 39 v1 rfl rfl) h1;clear hA0 hval0;simp only [List.append_nil] at hW' low;refine (gbi ht hn).mono fun e W' ⟨he,hx⟩=>?_
 subst he
 exact ⟨_, rfl, vcg (pa := p0 ++ p1) (pv := []) hW' hx (fun _ _ _ => (trodAll_cons_mk (shut_bool Tryz.underlying4 _) trodAll_mk0))
  (fun sp hs=>by
    have:=trodAll_cons_mk (zbi gct uct h0 hx (fun x hx'=>low x (List.mem_append_left _ hx')) (fun x hx'=>hs x (List.mem_append_left _ hx'))) (trodAll_cons_mk (zbi qca xca h1 hx (fun x hx'=>low x (List.mem_append_right _ hx')) (fun x hx'=>hs x (List.mem_append_right _ hx'))) trodAll_mk0);simp only [List.append_nil] at this
    exact this) (fun _ _=>rfl) (by simp)
  (ok_one (by kernel_rfl) rfl (okWide_bool_mk Tryz.underlying4 _))⟩
theorem ybj:joinedFacts Tryz.pinned.checked.prog 7 Tryz.f7 Rows.prenexBodiesSpec Rows.prenexBodiesRow=true:=by kernel_rfl
theorem gb4 (os:Os) (started:os.Started) (H:Type) (enc:TypeId × Value->H) :
 ReturnsInHanded Rows.prenexBodiesRow.assume Tryz.pinned.checked os 7 .any (Rows.prenexBodiesRow.pre enc Tryz.pinned.checked.prog Tryz.f7 (OpenSpec.ofChange Rows.prenexBodiesSpec)) (Rows.prenexBodiesSpec.post enc Tryz.pinned.checked.prog Tryz.f7 Rows.prenexBodiesRow.apart Rows.prenexBodiesRow.fresh Rows.prenexBodiesRow.handsOn Rows.prenexBodiesRow.again):=
 zbj os started H enc
theorem ybw:Rows.prenexBodiesRow.holds Tryz.pinned (OpenSpec.ofChange Rows.prenexBodiesSpec):=
 OpenClaim.holds_of_wide 7 Tryz.f7 rfl rfl rfl rfl rfl rfl rfl ⟨rfl, rfl, rfl, rfl, rfl⟩ rfl rfl rfl rfl rfl (by kernel_rfl) Tryz.func7 ybj
  (of_decide_eq_true (by kernel_rfl)) (by unfold Func.isWrapper; first | (rw [if_pos (by decide +kernel)]; kernel_rfl) | (rw [if_neg (by decide +kernel)]; exact ⟨rfl,rfl⟩))
  (fun os started H enc _=>gb4 os started H enc)
theorem bodies_proved:Rows.PrenexBodiesCardSaid:=
 Claim7.holds_tied_plain_at .later [] [.data, .data, .data] true (true, "4038e01535e211f261e9d55ee65fe8a95351db20c49877f250a7a0cd09ddf2e8") true
  ybw (fun _ h=>by cases h) (by kernel_rfl) (fun _ h=>by cases h) prenexBodies_row_tie rfl ⟨rfl,rfl⟩ (by kernel_rfl) rfl
  (fun f fn hf hfn=>by
    obtain rfl : f = 7 := Option.some.inj ((show Tryz.prog.funcNamed "cylinder/cylinderlaw38.PrenexBodies" = some 7 by kernel_rfl).symm.trans hf) |>.symm;obtain rfl : fn = Tryz.f7 := (Option.some.inj (Tryz.func7.symm.trans hfn)).symm;exact ⟨by kernel_rfl, fun j t ht => by
     rw [Tryz.params7] at ht;have h3:t=45\/t=39:=by
      rcases j with _ | _ | j
      · exact .inl (by simpa using ht.symm)
      · exact .inr (by simpa using ht.symm)
      · simp at ht
     rcases h3 with rfl | rfl
     · exact (show Tryz.prog.wantsStandIn 45=false by kernel_rfl)
     · exact (show Tryz.prog.wantsStandIn 39=false by kernel_rfl)⟩)
  (by kernel_rfl)
#print axioms bodies_proved
end Go.Proofs.YtaedbimbbeploaaGreatDoor
