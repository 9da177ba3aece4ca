/- Layer 40: evaluate.At, Poly. -/
import Derived.Test.YtheefiaoimbeiaaGreatDoorMp45
set_option linter.unusedSimpArgs false
set_option linter.unusedVariables false

set_option maxRecDepth 100000
set_option maxHeartbeats 8000000
namespace Go.Proofs.YtheefiaoimbeiaaGreatDoor
open Lib (hid)
open Go.RowKit
theorem qgr {p:Pl} {D L K:Nat} (hdm:p.dm<=D) (hs:p.sz * (D+L+4)<=K):p.eb L<=K:=by
 have:=Pl.yU L p D hdm;omega
theorem wgd {w:World} {q:Nat->Prop} {L:Nat} {xv:Value} {xs:List Rat} (hL:1<=L) (hL2:L<=1099511627776) (hxs:RsV w L xv xs) (t:Mx) (v:Value) (agD:t.sz<=1000000) (hsm:t.each weq) (ag4:t.each (fun p=>p.eb L<=1099511627776)) (h:MxV w q t v) :
 Calls Tryz.prog 19 #[v,xv] w (ue0 (if t.za<=xs.length then (t.tv (rho xs),0) else (false,4)) w):=by
 have HH:=hid h;have HXS:=hid hxs;obtain ⟨A0,n0,c0,A,n1,c1,K,c,rfl,hp,hl1,hl2,h4⟩:=h.open_;obtain ⟨XA,Xc,rfl,-⟩:=id hxs;obtain ⟨W,hW⟩:=n_m ((w.alloc (.cells #[.int .i64 t.kind,.int .i64 t.rel,.int .i64 t.p.lv,.bool t.p.neg,.slice A0 n0 c0,.slice A n1 c1,.slice K t.ks.length c] 47)).alloc (.cells #[.slice XA xs.length Xc] 64));have hWx:Ext w W:=by rw [<- hW]; exact ((Ext.refl w).alloc _).alloc _
 have hWs:W.heap.size=w.heap.size+1+1:=by rw [<- hW]; simp
 have hbx:udu W w.heap.size t (.slice A0 n0 c0) (.slice A n1 c1) (.slice K t.ks.length c):=by rw [<- hW]; exact (udu.new w t _ _ _ _).ext ((Ext.refl _).alloc _) (by simp)
 have hxc:W.cell? ⟨w.heap.size+1,0,none⟩=some (.slice XA xs.length Xc):=by rw [<- hW]; simp [go_sem]
 have HWX:=hid hWx;have HBX:=hid hbx;have HXC:=hid hxc;have HLV:Hid (∀ W',Ext W W'->Calls Tryz.prog 54 #[mxV t (.slice A0 n0 c0) (.slice A n1 c1) (.slice K t.ks.length c)] W' (zdn t.za W')):=by
  have:∀ W',Ext W W'->Calls Tryz.prog 54 #[mxV t (.slice A0 n0 c0) (.slice A n1 c1) (.slice K t.ks.length c)] W' (zdn t.za W'):=fun W' hx=>zf2 t _ W' agD hsm (HH.out.ext (HWX.out.trans hx))
  exact this
 have HTR:Hid (∀ W',Ext W W'->Calls Tryz.prog 55 #[mxV t (.slice A0 n0 c0) (.slice A n1 c1) (.slice K t.ks.length c),.func (.func 56) #[] #[.pointer (some ⟨w.heap.size+1,0,none⟩)]] W' (wdr (t.tv (rho xs)) W')):=by
  have:∀ W',Ext W W'->Calls Tryz.prog 55 #[mxV t (.slice A0 n0 c0) (.slice A n1 c1) (.slice K t.ks.length c),.func (.func 56) #[] #[.pointer (some ⟨w.heap.size+1,0,none⟩)]] W' (wdr (t.tv (rho xs)) W'):=fun W' hx =>
   jgd (w0:=W) hL hL2 HXC.out (by omega) (HXS.out.ext HWX.out) (t.sz+1) t _ W' (pO _) agD ag4 (HH.out.ext HWX.out) hx
  exact this
 have HB:Hid (∀ W',Ext W W'->(Ext W W'/\W'.cell? ⟨w.heap.size,0,none⟩=some (.int .i64 t.kind)/\W'.cell? ⟨w.heap.size,1,none⟩=some (.int .i64 t.rel)/\W'.cell? ⟨w.heap.size,2,none⟩=some (.int .i64 t.p.lv)/\W'.cell? ⟨w.heap.size,3,none⟩=some (.bool t.p.neg)/\W'.cell? ⟨w.heap.size,4,none⟩=some (.slice A0 n0 c0)/\W'.cell? ⟨w.heap.size,5,none⟩=some (.slice A n1 c1)/\W'.cell? ⟨w.heap.size,6,none⟩=some (.slice K t.ks.length c)/\W'.cell? ⟨w.heap.size+1,0,none⟩=some (.slice XA xs.length Xc))):=by
  have:∀ W',Ext W W'->(Ext W W'/\W'.cell? ⟨w.heap.size,0,none⟩=some (.int .i64 t.kind)/\W'.cell? ⟨w.heap.size,1,none⟩=some (.int .i64 t.rel)/\W'.cell? ⟨w.heap.size,2,none⟩=some (.int .i64 t.p.lv)/\W'.cell? ⟨w.heap.size,3,none⟩=some (.bool t.p.neg)/\W'.cell? ⟨w.heap.size,4,none⟩=some (.slice A0 n0 c0)/\W'.cell? ⟨w.heap.size,5,none⟩=some (.slice A n1 c1)/\W'.cell? ⟨w.heap.size,6,none⟩=some (.slice K t.ks.length c)/\W'.cell? ⟨w.heap.size+1,0,none⟩=some (.slice XA xs.length Xc)):=fun W' hx=>by
   obtain ⟨c0,c1,c2,c3,c4,c5,c6⟩:=HBX.out.ext hx (by omega);exact ⟨hx,c0,c1,c2,c3,c4,c5,c6,(hx.cell (p:=⟨w.heap.size+1,0,none⟩) (by show w.heap.size+1 < _; omega)).trans HXC.out⟩
  exact this
 obtain ⟨b0,b1,b2,b3,b4,b5,b6⟩:=hbx;clear h hp h4 hWx hxs ag4 hsm;unfold mxV at HLV HTR;unfold mxV;generalize t.za=lv at *;generalize t.tv (rho xs)=tv at *;generalize hlen:xs.length=N at *;obtain ⟨rr,hrr⟩:∃ rr:Bool × Int,(if lv<=(N:Int) then (tv,(0:Int)) else (false,4))=rr:=⟨_,rfl⟩;rw [hrr];have HRR:=hid hrr;clear hrr;go_enter Tryz.func19,Tryz.ntmps19;go_wp2_with fail;clear hW b0 b1 b2 b3 b4 b5 b6 hxc;have y0:Ext W W.drew:=(Ext.refl W).drew;have Y0:=hid y0;clear y0
 go_region_held3 (fun W' => Ext W W' /\ W'.cell? ⟨w.heap.size, 0, none⟩ = some (.int .i64 t.kind) /\ W'.cell? ⟨w.heap.size, 1, none⟩ = some (.int .i64 t.rel) /\ W'.cell? ⟨w.heap.size, 2, none⟩ = some (.int .i64 t.p.lv) /\ W'.cell? ⟨w.heap.size, 3, none⟩ = some (.bool t.p.neg) /\ W'.cell? ⟨w.heap.size, 4, none⟩ = some (.slice A0 n0 c0) /\ W'.cell? ⟨w.heap.size, 5, none⟩ = some (.slice A n1 c1) /\ W'.cell? ⟨w.heap.size, 6, none⟩ = some (.slice K t.ks.length c) /\ W'.cell? ⟨w.heap.size + 1, 0, none⟩ = some (.slice XA N Xc))
  (first | with_reducible exact HB.out _ Y0.out | with_reducible exact HB.out _ y1)
  ((go_at_call 54
    refine (HLV.out _ Y0.out).mono ?_;rintro e v1 ⟨rfl,x1⟩
    have y1:Ext W v1:=Ext.trans Y0.out x1))
 all_goals
  have Y1:=hid y1;obtain ⟨-,b0,b1,b2,b3,b4,b5,b6,xc⟩:=HB.out _ Y1.out;clear y1 x1 HB Y0 HLV
  by_cases hle:lv<=N
  · have hgt:¬ ((N:Int) < lv):=by omega
    have HR:Hid (rr=(tv,0)):=hid (HRR.out.symm.trans (if_pos hle));clear hle HRR;go_wp2_with fail;refine (HTR.out _ Y1.out).mono ?_;rintro e w2 ⟨rfl,x2⟩;have X2:=hid ((HWX.out.trans Y1.out).trans x2);clear x2;go_wp2_with fail;exact bodyPost_ret (v:=.tuple #[.bool tv,.int .i64 0]) (by simp [results,Tryz.results19,go_sem]) rfl ⟨by rw [HR.out],X2.out⟩
  · have hgt:(N:Int) < lv:=by omega
    have HR:Hid (rr=(false,4)):=hid (HRR.out.symm.trans (if_neg hle));clear hle HRR;go_wp2_with fail;exact bodyPost_ret (v:=.tuple #[.bool false,.int .i64 4]) (by simp [results,Tryz.results19,go_sem]) rfl ⟨by rw [HR.out],HWX.out.trans Y1.out⟩
theorem qfr : ∀ (l : List Mx) (a : Int), a <= 4 -> (∀ t ∈ l, t.za <= 4) -> zdu a l <= 4
 | [],a,h,_=>by rw [zdu]; exact h
 | x :: r,a,h,hl=>by
   rw [zdu];have:=hl x (by simp);exact qfr r _ (by omega) (fun t ht=>hl t (by simp [ht]))
theorem Mx.jq (n:Nat):∀ t:Mx,t.sz < n->t.za<=4:=by
 induction n with
 | zero=>intro t h; omega
 | succ n ih =>
   intro t h;rw [Mx.yu]
   split
   · exact (Pl.Can.qp t.p.yr).2
   · split
     · refine qfr _ _ (by omega) (fun x hx=>ih x ?_);obtain ⟨i,hi,rfl⟩:=List.getElem_of_mem hx;have:=Mx.zD t i hi;omega
     · omega
structure Fr where
 neg:Bool
 ds:List Nat
 es:List Nat
def Fr.q (x:Fr):Rat:=mkRat (sgn x.neg (val x.ds)) (val x.es)
def ueq (w:World) (v:Value) (l:List Fr):Prop:=
 ∃ A c,v=.slice A l.length c/\l.length<=c/\c<=9223372036854775807/\∀ j (h:j < l.length),∃ ad A1 c1 A2 c2,A=some ad/\ad.block < w.heap.size/\(w.cell? (ad.add (j * 3))=some (.bool l[j].neg)/\w.cell? ⟨(ad.add (j * 3)).block,(ad.add (j * 3)).off+1,none⟩=some (.slice A1 l[j].ds.length c1)/\w.cell? ⟨(ad.add (j * 3)).block,(ad.add (j * 3)).off+2,none⟩=some (.slice A2 l[j].es.length c2))/\zb1 w (.slice A1 l[j].ds.length c1) l[j].ds/\zb1 w (.slice A2 l[j].es.length c2) l[j].es
def Fr.short (x:Fr):Bool:=decide (x.ds.length<=3) && decide (x.es.length<=3)
def wdy (l:List Fr):Bool:=decide (l.length<=8) && l.all Fr.short
theorem ueq.ext {w w':World} {v:Value} {l:List Fr} (h:ueq w v l) (hx:Ext w w'):ueq w' v l:=by
 obtain ⟨A,c,e,h1,h2,h3⟩:=h;refine ⟨A,c,e,h1,h2,fun j hj=>?_⟩;obtain ⟨ad,A1,c1,A2,c2,e,hb,⟨k0,k1,k2⟩,hr,hs⟩:=h3 j hj;have hb':(ad.add (j * 3)).block < w.heap.size:=by rw [zc1]; exact hb
 exact ⟨ad,A1,c1,A2,c2,e,pr hb hx.size,⟨(hx.cell hb').trans k0,(hx.cell (p:=⟨(ad.add (j * 3)).block,(ad.add (j * 3)).off+1,none⟩) hb').trans k1,(hx.cell (p:=⟨(ad.add (j * 3)).block,(ad.add (j * 3)).off+2,none⟩) hb').trans k2⟩,hr.ext hx,hs.ext hx⟩
theorem ueq.zb {w:World} {v:Value} {l:List Fr} (h:ueq w v l) (hf:wdy l=true):RsV w 3 v (l.map Fr.q):=by
 obtain ⟨A,c,e,h1,h2,h3⟩:=h;refine ⟨A,c,by rw [pC]; exact e,by rw [pC]; exact h1,h2,fun j hj=>?_⟩;rw [pC] at hj;obtain ⟨ad,A1,c1,A2,c2,e,hb,hv,hr,hs⟩:=h3 j hj;have acl:l[j].short=true:=by
  unfold wdy at hf;simp only [pj,List.all_eq_true] at hf;exact hf.2 l[j] (pt hj)
 simp only [Fr.short,pj,decide_eq_true_eq] at acl;refine ⟨ad,_,A1,_,c1,A2,_,c2,e,hb,hv,?_⟩;rw [rJ];exact ⟨_,_,_,_,_,rfl,hr,hs,rfl,acl.1,acl.2⟩
theorem wf9 (neg:Bool) (A1 A2:Option Addr) (n1 c1 n2 c2:Nat) (w:World):Calls Tryz.prog 48 #[.agg #[.bool neg,.slice A1 n1 c1,.slice A2 n2 c2]] w (wdr (decide (n1<=3) && decide (n2<=3)) w):=by
 by_cases h1:n1<=3
 · have hv:(decide (n1<=3) && decide (n2<=3))=decide (n2<=3):=by simp [h1]
   rw [hv];have hd:decide ((n1:Int)<=3)=true:=by simp; omega
   have hd2:decide ((n2:Int)<=3)=decide (n2<=3):=by simp; omega
   have HD:=hid hd2;clear hv hd2;go_enter Tryz.func48,Tryz.ntmps48;go_wp2_with fail;go_ret;exact ⟨by first | rfl | (rw [<- HD.out]; rfl),(Ext.refl w).alloc _⟩
 · have hv:(decide (n1<=3) && decide (n2<=3))=false:=by simp [h1]
   rw [hv];have hd:decide ((n1:Int)<=3)=false:=by simp; omega
   clear hv;go_enter Tryz.func48,Tryz.ntmps48;go_wp2_with fail;go_ret;exact ⟨rfl,(Ext.refl w).alloc _⟩
theorem gfs (l:List Fr) (k:Nat) (hk:k < l.length) (h:l[k].short=false):wdy l=false:=by
 unfold wdy;rw [Bool.and_eq_false_iff];refine .inr (tn.2 ⟨l[k],pt hk,?_⟩);rw [h]; simp
theorem zft {w:World} {v:Value} {l:List Fr} (h:ueq w v l):Calls Tryz.prog 17 #[v] w (wdr (wdy l) w):=by
 have H:=hid h;obtain ⟨A,c,rfl,h1,h2,-⟩:=h;have hlen:l.length<=9223372036854775807:=by omega
 go_enter Tryz.func17,Tryz.ntmps17;go_wp2_with fail
 go_loopw [6] (fun iv wr=>∃ k:Nat,k<=l.length/\k<=8/\iv=.int .i64 k/\Hid ((l.take k).all Fr.short=true/\Ext w wr)) (fun iv _=>l.length - (intOf iv).toNat)
 case atStart=>exact ⟨0,pM _,by omega,rfl,⟨by simp,Ext.refl w⟩⟩
 case round =>
  obtain ⟨k,hk,hk8,rfl,⟨acl,hx⟩⟩:=hrel;have HA:=hid acl;have HX:=hid hx;clear acl hx
  by_cases hlt:k < l.length
  · by_cases h8:8<=k
    · have hd8:decide ((8:Int)<=(k:Int))=true:=by simp; omega
      have HF:Hid (wdy l=false):=by
       have:wdy l=false:=by unfold wdy; simp; omega
       exact this
      go_wp2_with fail;go_ret;exact ⟨by rw [HF.out]; rfl,HX.out⟩
    · have hd8:decide ((8:Int)<=(k:Int))=false:=by simp; omega
      obtain ⟨A',c',e',-,-,h3⟩:=H.out.ext HX.out;injection e' with e1 e2 e3
      obtain ⟨ad,A1,c1,A2,c2,e4,hb,⟨a0,a1,a2⟩,hr1,hr2⟩:=h3 k hlt;obtain rfl:A=some ad:=e1.trans e4;clear h3 e1 e3 e4 hr1 hr2;have HOK:Hid (l[k].short=(decide (l[k].ds.length<=3) && decide (l[k].es.length<=3))):=rfl;have agt:Hid (l[k].short=false->wdy l=false):=gfs l k hlt;have HTK:Hid ((l.take (k+1)).all Fr.short=((l.take k).all Fr.short && l[k].short)):=by
       have:(l.take (k+1)).all Fr.short=((l.take k).all Fr.short && l[k].short):=by rw [pg hlt,ur]; simp
       exact this
      generalize l[k].neg=ng at *;generalize l[k].ds.length=n1 at *;generalize l[k].es.length=n2 at *;generalize l[k].short=okk at *;have HS:=hid (wf9 ng A1 A2 n1 c1 n2 c2 wr)
      by_cases hs:(decide (n1<=3) && decide (n2<=3))=true
      · rw [hs] at HS;have hok:okk=true:=by rw [HOK.out,hs]
        have HN:Hid ((l.take (k+1)).all Fr.short=true):=by
         have:(l.take (k+1)).all Fr.short=true:=by rw [HTK.out,HA.out,hok]; rfl
         exact this
        clear hs hok;go_wp2_with fail;refine HS.out.mono ?_;rintro e w2 ⟨rfl,x2⟩;have X2:=hid x2;clear x2 a0 a1 a2 HS;go_wp2_with fail
        go_roundw
        case rel=>exact ⟨k+1,by omega,by omega,by go_num,⟨HN.out,HX.out.trans X2.out⟩⟩
        case measure=>simp [intOf]; omega
      · have hs':(decide (n1<=3) && decide (n2<=3))=false:=by simpa using hs
        rw [hs'] at HS;have HF:Hid (wdy l=false):=by
         have:wdy l=false:=agt.out (by rw [HOK.out,hs']);exact this
        clear hs hs';go_wp2_with fail;refine HS.out.mono ?_;rintro e w2 ⟨rfl,x2⟩;have X2:=hid x2;clear x2 a0 a1 a2 HS;go_wp2_with fail;go_ret;exact ⟨by rw [HF.out]; rfl,HX.out.trans X2.out⟩
  · have HF:Hid (wdy l=true):=by
     have hke:k=l.length:=by omega
     have hA:=HA.out;rw [hke,pw] at hA;have:wdy l=true:=by
      unfold wdy;rw [pj];exact ⟨by simp; omega,hA⟩
     exact this
    go_wp2_with fail;go_ret;exact ⟨by rw [HF.out]; rfl,HX.out⟩
def vfl (w:World) (cs:List Value) (x0 x1 x2 x3:Fr):Prop:=
 ∃ A0 c0 B0 d0 A1 c1 B1 d1 A2 c2 B2 d2 A3 c3 B3 d3,cs=[.bool x0.neg,.slice A0 x0.ds.length c0,.slice B0 x0.es.length d0,.bool x1.neg,.slice A1 x1.ds.length c1,.slice B1 x1.es.length d1,.bool x2.neg,.slice A2 x2.ds.length c2,.slice B2 x2.es.length d2,.bool x3.neg,.slice A3 x3.ds.length c3,.slice B3 x3.es.length d3] /\
   (zb1 w (.slice A0 x0.ds.length c0) x0.ds/\zb1 w (.slice B0 x0.es.length d0) x0.es)/\(zb1 w (.slice A1 x1.ds.length c1) x1.ds/\zb1 w (.slice B1 x1.es.length d1) x1.es)/\(zb1 w (.slice A2 x2.ds.length c2) x2.ds/\zb1 w (.slice B2 x2.es.length d2) x2.es)/\(zb1 w (.slice A3 x3.ds.length c3) x3.ds/\zb1 w (.slice B3 x3.es.length d3) x3.es)
theorem kgr {w W:World} {cs:Array Value} {x0 x1 x2 x3:Fr} (h:vfl w cs.toList x0 x1 x2 x3) {g:Nat} {T:TypeId} {fr:Nat × Nat} (hb:W.heap[g]?=some (.cells cs T fr)) (hx:Ext w W):ueq W (.slice (some ⟨g,0,none⟩) 4 4) [x0,x1,x2,x3]:=by
 obtain ⟨A0,c0,B0,d0,A1,c1,B1,d1,A2,c2,B2,d2,A3,c3,B3,d3,e,⟨p0,q0⟩,⟨p1,q1⟩,⟨p2,q2⟩,⟨p3,q3⟩⟩:=h;have hg:g < W.heap.size:=(rA.1 hb).1;have hc:∀ j u,cs.toList[j]?=some u->W.cell? ⟨g,j,none⟩=some u:=fun j u hu=>by
  simp only [World.cell?,hb];simpa using hu
 rw [e] at hc;refine ⟨some ⟨g,0,none⟩,4,rfl,pf _,by omega,fun j hj=>?_⟩;have hj':j < 4:=by simpa using hj
 rcases (by omega:j=0\/j=1\/j=2\/j=3) with rfl | rfl | rfl | rfl
 · exact ⟨⟨g,0,none⟩,A0,c0,B0,d0,rfl,hg,by rw [kdo]; exact ⟨hc 0 _ rfl,hc 1 _ rfl,hc 2 _ rfl⟩,p0.ext hx,q0.ext hx⟩
 · exact ⟨⟨g,0,none⟩,A1,c1,B1,d1,rfl,hg,by rw [kdo]; exact ⟨hc 3 _ rfl,hc 4 _ rfl,hc 5 _ rfl⟩,p1.ext hx,q1.ext hx⟩
 · exact ⟨⟨g,0,none⟩,A2,c2,B2,d2,rfl,hg,by rw [kdo]; exact ⟨hc 6 _ rfl,hc 7 _ rfl,hc 8 _ rfl⟩,p2.ext hx,q2.ext hx⟩
 · exact ⟨⟨g,0,none⟩,A3,c3,B3,d3,rfl,hg,by rw [kdo]; exact ⟨hc 9 _ rfl,hc 10 _ rfl,hc 11 _ rfl⟩,p3.ext hx,q3.ext hx⟩
theorem Fm.yc (f:Fm) (h:f.lim=true):f.qJ:=by
 induction f <;> simp only [Fm.lim,Fm.qJ,pj,Tm.lim] at h ⊢
 case atom l r k=>simp at h; omega
 case not f ih=>exact ih h
 case quant a s f ih=>exact ih h
 all_goals first | trivial | (rename_i ihf ihg; exact ⟨ihf h.1,ihg h.2⟩)
theorem Fm.yi (f:Fm) (h:f.xZ=0):f.qJ:=by
 refine f.yc ?_;unfold Fm.xZ at h
 by_cases hc:f.zd=0
 · unfold Fm.zd at hc
   by_cases hl:f.lim=true
   · exact hl
   · exfalso
     split at hc
     · omega
     · rw [if_pos (by simp at hl; simp [hl])] at hc;omega
 · rw [if_neg hc] at h; omega
section
variable {L:Nat} {p:Nat->Prop} {s:Value} {vals:List (ByteArray × Rat)}
end
theorem jgg (L:Nat) (f:Fm):∀ t,vdq L f t->wdw t.d.kind=false:=by
 refine wes L (fun f t=>wdw t.d.kind=false) ?_ ?_ ?_ ?_ ?_ ?_ ?_ ?_ f <;> intros <;> unfold wdw <;> simp <;> omega
def qfi:Value:=.agg #[.int .i64 0,.slice none 0 0,.slice none 0 0,.int .i64 0,.int .i64 0,.int .i64 0,.bool false,.slice none 0 0,.slice none 0 0,.slice none 0 0]
theorem kgm {w0 w:World} {L:Nat} (hs:L<=1000000000000) (f:Fm) {v:Value} (hx0:Ext w0 w) (h:FmV w0 L f v) (hl:f.sz<=1099511627776) (hok:f.xZ ≠ 0) (hc:NmC w0 L f) :
 Calls Tryz.prog 9 #[v] w fun e w'=>e=.returned (.tuple #[qfi,.int .i64 f.xZ])/\Ext w w':=by
 obtain ⟨W1,hW⟩:=n_m (w.alloc (.cells #[.int .i64 0,.slice none 0 0,.slice none 0 0,.int .i64 0,.int .i64 0,.int .i64 0,.bool false,.slice none 0 0,.slice none 0 0,.slice none 0 0] 49));have hWx:Ext w W1:=by rw [<- hW]; exact (Ext.refl w).alloc _
 have hWs:W1.heap.size=w.heap.size+1:=by rw [<- hW]; simp
 have HZ:Hid (∀ j,j < 10->W1.cell? ⟨w.heap.size,j,none⟩=#[Value.int .i64 0,.slice none 0 0,.slice none 0 0,.int .i64 0,.int .i64 0,.int .i64 0,.bool false,.slice none 0 0,.slice none 0 0,.slice none 0 0][j]?/\W1.frozen? ⟨w.heap.size,j,none⟩=false):=hid (fun j hj=>by
  rw [<- hW]
  rcases (show j=0\/j=1\/j=2\/j=3\/j=4\/j=5\/j=6\/j=7\/j=8\/j=9 by omega) with rfl | rfl | rfl | rfl | rfl | rfl | rfl | rfl | rfl | rfl <;> (constructor <;> simp [go_sem]))
 have HN:=hid (uey hs f (hx0.trans hWx) h hl hc);have HWX:=hid hWx;have hd:(f.xZ != 0)=true:=by simpa using hok
 have HOK:=hid hok;obtain ⟨T,x,rfl⟩:=h.iface;unfold keq at HN;clear hWx h hx0 hok;generalize f.xZ=ne at *;go_enter Tryz.func9,Tryz.ntmps9;go_wp2_with fail;clear hW;refine HN.out.mono ?_;rintro e w1 ⟨s1,rfl,-,hs0,x1⟩;obtain rfl:=hs0 HOK.out;have hs1:=x1.size;have HWF:=hid (HWX.out.trans x1)
 have hz:∀ j,j < 10->w1.cell? ⟨w.heap.size,j,none⟩=#[Value.int .i64 0,.slice none 0 0,.slice none 0 0,.int .i64 0,.int .i64 0,.int .i64 0,.bool false,.slice none 0 0,.slice none 0 0,.slice none 0 0][j]?/\w1.frozen? ⟨w.heap.size,j,none⟩=false:=fun j hj =>
  ⟨(x1.cell (p:=⟨w.heap.size,j,none⟩) (by show w.heap.size < _; omega)).trans (HZ.out j hj).1,(x1.frozen (p:=⟨w.heap.size,j,none⟩) (by show w.heap.size < _; omega)).trans (HZ.out j hj).2⟩
 have z0:w1.cell? ⟨w.heap.size,0,none⟩=some (.int .i64 0):=(hz 0 (by omega)).1;have z1:w1.cell? ⟨w.heap.size,1,none⟩=some (.slice none 0 0):=(hz 1 (by omega)).1;have z2:w1.cell? ⟨w.heap.size,2,none⟩=some (.slice none 0 0):=(hz 2 (by omega)).1;have z3:w1.cell? ⟨w.heap.size,3,none⟩=some (.int .i64 0):=(hz 3 (by omega)).1;have z4:w1.cell? ⟨w.heap.size,4,none⟩=some (.int .i64 0):=(hz 4 (by omega)).1;have z5:w1.cell? ⟨w.heap.size,5,none⟩=some (.int .i64 0):=(hz 5 (by omega)).1;have z6:w1.cell? ⟨w.heap.size,6,none⟩=some (.bool false):=(hz 6 (by omega)).1;have z7:w1.cell? ⟨w.heap.size,7,none⟩=some (.slice none 0 0):=(hz 7 (by omega)).1;have z8:w1.cell? ⟨w.heap.size,8,none⟩=some (.slice none 0 0):=(hz 8 (by omega)).1;have z9:w1.cell? ⟨w.heap.size,9,none⟩=some (.slice none 0 0):=(hz 9 (by omega)).1;have q0:=(hz 0 (by omega)).2;have q1:=(hz 1 (by omega)).2;have q2:=(hz 2 (by omega)).2;have q3:=(hz 3 (by omega)).2;have q4:=(hz 4 (by omega)).2;have q5:=(hz 5 (by omega)).2;have q6:=(hz 6 (by omega)).2;have q7:=(hz 7 (by omega)).2;have q8:=(hz 8 (by omega)).2;have q9:=(hz 9 (by omega)).2;have hgl:w.heap.size < w1.heap.size:=by omega
 have asQ:Hid (Ext w (geg w1 w.heap.size (.int .i64 0) (.slice none 0 0) (.slice none 0 0) (.int .i64 0) (.int .i64 0) (.int .i64 0) (.bool false) (.slice none 0 0) (.slice none 0 0) (.slice none 0 0))):=hid (by
  rw [gee]
  exact wec (pf _) _ 0 _ HWF.out)
 unfold geg at asQ;clear x1 hz HZ HWX HN;go_wp2_with fail;clear q0 q1 q2 q3 q4 q5 q6 q7 q8 q9;exact bodyPost_ret (v:=.tuple #[qfi,.int .i64 ne]) (by simp [results,Tryz.results9,go_sem,z0,z1,z2,z3,z4,z5,z6,z7,z8,z9,qfi,hgl]) rfl ⟨rfl,asQ.out⟩
theorem zeu {p:Pl} {E D:Nat} (hp:Fit p E D) (h0:0 < p.lv) (i:Nat):Fit (Pl.at_ p.cs i) E D:=by
 unfold Pl.at_;rw [pB];rcases rz i p.cs.length with h | h
 · rw [pq h];obtain ⟨l,n,d,cs⟩:=p;exact hp.kid h0 (pt h)
 · rw [sA h];exact Fit.zero
theorem kfh {p q:Pl} {E D F G:Nat} (hp:Fit p E D) (hq:Fit q F G) (h0:0 < p.lv) (h0':0 < q.lv) (hlp:p.cs.length<=901) (hlq:q.cs.length<=901) (k:Nat) :
 (∀ r ∈ vdo p.cs q.cs (qdp (prs p.cs p.cs.length) (prs q.cs q.cs.length)) k,r.Can/\r.ex (E+F))/\lnr (vdo p.cs q.cs (qdp (prs p.cs p.cs.length) (prs q.cs q.cs.length)) k) < B32 ^ (D+G)/\(vdo p.cs q.cs (qdp (prs p.cs p.cs.length) (prs q.cs q.cs.length)) k).length<=1000000:=by
 refine ⟨fun r hr=>?_,?_,?_⟩
 · unfold vdo at hr;obtain ⟨x,-,rfl⟩:=sF.1 hr;have h:=(zeu hp h0 x.1).mul (zeu hq h0' x.2);exact ⟨h.can,h.ex⟩
 · have h1:=jfy (fun i=>(zeu hp h0 i).can) (fun i=>(zeu hq h0' i).can) k (prs p.cs p.cs.length) (prs q.cs q.cs.length);have h2:=kfc p.cs p.cs.length (pf _);have h3:=kfc q.cs q.cs.length (pf _);rw [pw] at h2 h3;have h4:jdu p.cs < B32 ^ D:=by
    have:=hp.nr;obtain ⟨l,n,d,cs⟩:=p;rw [Pl.nr,if_neg (by simp only [Pl.lv] at h0; omega)] at this;exact this
   have h5:jdu q.cs < B32 ^ G:=by
    have:=hq.nr;obtain ⟨l,n,d,cs⟩:=q;rw [Pl.nr,if_neg (by simp only [Pl.lv] at h0'; omega)] at this;exact this
   rw [su];refine sC h1 (sC (tN h2 h3) ?_);exact Nat.mul_lt_mul'' h4 h5
 · refine po (yey _ _ _ _) ?_;rw [ger];have h1:=jef p.cs p.cs.length;have h2:=jef q.cs q.cs.length;exact po (tN (po h1 hlp) (po h2 hlq)) (by decide)
end Go.Proofs.YtheefiaoimbeiaaGreatDoor
