/- recpoly.Normal at polynomials that are canonical, of any size. -/
import Derived.Test.YtcfcjabgkfehlaaGreatMf38
import Derived.Test.YtcfcjabgkfehlaaGreatMf35
import Derived.Test.YtcfcjabgkfehlaaGreatMf29
import Derived.Test.YtcfcjabgkfehlaaGreatMf33
import Derived.Deep.RegionLaw
import Derived.Test.YtcfcjabgkfehlaaGreatMf34
set_option linter.unusedSimpArgs false
set_option linter.unusedVariables false

set_option maxRecDepth 100000
set_option maxHeartbeats 8000000
namespace Go.Proofs.YtcfcjabgkfehlaaGreat
open Go.RowKit
theorem zbx {w:World} {q:Nat->Prop} (p P:Pl) (v:Value) (h:PlV w q p v) (hca:∀ W,Ext w W->Calls Tryz.prog 59 #[v] W (qi (fun b=>q b\/W.heap.size<=b) P W)) (hcan:P.Can) (hnf:P.sz<=1099511627776) (hdm2:P.dm<=35184372088832):Calls Tryz.prog 46 #[v] w (qi (fun b=>w.heap.size<=b) P w):=by
 have HH:=Lib.hid h;obtain ⟨A0,n0,c0,A,c,rfl,hnat,hl1,hl2,h4⟩:=h.open_;obtain ⟨W,hW⟩:∃ W,(w.alloc (.cells #[.int .i64 p.lv,.bool p.neg,.slice A0 n0 c0,.slice A p.cs.length c] 35)).alloc (.cells #[.int .i64 0,.bool false,.slice none 0 0,.slice none 0 0] 35)=W:=⟨_,rfl⟩;have hWx:Ext w W:=by rw [<- hW]; exact ((Ext.refl w).alloc _).alloc _
 have hWs:W.heap.size=w.heap.size+1+1:=by rw [<- hW]; simp
 obtain ⟨b0,b1,b2,b3⟩:uf W w.heap.size p (.slice A0 n0 c0) (.slice A p.cs.length c):=by rw [<- hW]; exact (uf.new w p _ _ _).ext ((Ext.refl _).alloc _) (by simp)
 have hz:ql W (w.heap.size+1):=by
  have:=ql.new (w.alloc (.cells #[.int .i64 p.lv,.bool p.neg,.slice A0 n0 c0,.slice A p.cs.length c] 35)) 35;rw [hW] at this;simpa using this
 have HWX:=Lib.hid hWx;have HZ:=Lib.hid hz;have HCA:=Lib.hid hca;clear h hnat h4 hWx hz hca;have HCAN:=Lib.hid hcan;clear hcan;unfold plV at *;go_enter Tryz.func46,Tryz.ntmps46;go_wp2_with fail;clear hW b0 b1 b2 b3;refine (HCA.out _ HWX.out).mono ?_;rintro e w1 ⟨v1,rfl,p1,x1⟩;have HC:=Lib.hid (jax P v1 HCAN.out hnf (by omega) p1);obtain ⟨C0,j0,f0,C1,f1,rfl,-⟩:=id p1.open_;have X1:=Lib.hid (HWX.out.trans x1);have HZ1:=Lib.hid (HZ.out.ext x1 (by omega));have hs1:=x1.size;clear p1 x1;unfold plV at *;go_wp2_with fail;refine HC.out.mono ?_;rintro e w2 ⟨v2,rfl,p2,x2⟩;obtain ⟨D0,j1,g0,D1,g1,rfl,-⟩:=id p2.open_;obtain ⟨⟨z0,z1,z2,z3⟩,zf⟩:=HZ1.out.ext x2 (by omega);have HF:=Lib.hid (vk (q':=fun b=>w.heap.size<=b) (X1.out.trans x2) (Nat.le_succ _) (HZ1.out.ext x2 (by omega)) p2 (fun b _ hb=>⟨by omega,by omega⟩));clear p2 x2 HC HZ1;unfold plV;go_wp2_with fail;exact bodyPost_ret (v:=plV P (.slice D0 j1 g0) (.slice D1 P.cs.length g1)) (by simp [results,Tryz.results46,go_sem,z0,z1,z2,z3,plV]) rfl HF.out
theorem ubp {w:World} {q:Nat->Prop} {p:Pl} (v:Value) (h:PlV w q p v) (hp:p.Can) (hsz:p.sz<=1099511627776) (hdm:p.dm<=35184372088832):Calls Tryz.prog 46 #[v] w (qi (fun b=>w.heap.size<=b) p w):=
 zbx p p v h (fun W hW=>kay v (h.ext hW) hp) hp hsz hdm
def wap (p:Pl):Prop:=(p.sz<=1073741824/\p.dm<=1099511627776/\p.nf.sz<=1099511627776)\/(p.Can/\p.sz<=1099511627776/\p.dm<=1099511627776)
theorem yaq {w:World} {q:Nat->Prop} {p:Pl} (v:Value) (h:PlV w q p v) (hb:wap p):Calls Tryz.prog 46 #[v] w (qi (fun b=>w.heap.size<=b) p.nf w):=by
 rcases hb with hb | hb
 · exact gbp p v h hb.1 hb.2.2 hb.2.1
 · rw [Pl.nf_of_can hb.1];exact ubp v h hb.1 hb.2.1 (by omega)
theorem yby {w:World} {q:Nat->Prop} {p:Pl} (v:Value) (h:PlV w q p v) (hb:wap p):Calls Tryz.prog 12 #[v] w fun e w'=>e=.returned (.int .i64 p.nf.lv)/\Ext w w':=
 gb6 p p.nf v h fun _ hW=>yaq v (h.ext hW) hb
end Go.Proofs.YtcfcjabgkfehlaaGreat

/- Matrices: what holds of every polynomial in them; matrices that are not too big. -/
namespace Go.Proofs.YtcfcjabgkfehlaaGreat
open Go.RowKit
mutual
def Mx.each (P : Pl -> Prop) : Mx -> Prop
 | .mk _ _ p ks=>P p/\jw P ks
def jw (P : Pl -> Prop) : List Mx -> Prop
 | []=>True
 | t :: r=>t.each P/\jw P r
end
theorem vad {P:Pl->Prop} {l:List Mx} {t:Mx} (h:jw P l) (ht:t ∈ l):t.each P:=by
 induction l with
 | nil=>cases ht
 | cons x r ih =>
   rw [jw] at h;rcases List.mem_cons.1 ht with rfl | ht
   · exact h.1
   · exact ih h.2 ht
theorem Mx.each_ks {P:Pl->Prop} {t:Mx} (h:t.each P):jw P t.ks:=by cases t; rw [Mx.each] at h; exact h.2
theorem Mx.each_p {P:Pl->Prop} {t:Mx} (h:t.each P):P t.p:=by cases t; rw [Mx.each] at h; exact h.1
mutual
theorem Mx.each_mono {P Q : Pl -> Prop} (hq : ∀ p, P p -> Q p) : ∀ t : Mx, t.each P -> t.each Q
 | .mk _ _ p ks,h=>by rw [Mx.each] at h ⊢; exact ⟨hq p h.1,ja9 hq ks h.2⟩
theorem ja9 {P Q : Pl -> Prop} (hq : ∀ p, P p -> Q p) : ∀ l : List Mx, jw P l -> jw Q l
 | [],_=>by rw [jw]; trivial
 | t :: r,h=>by rw [jw] at h ⊢; exact ⟨Mx.each_mono hq t h.1,ja9 hq r h.2⟩
end
mutual
theorem Mx.each_and {P Q : Pl -> Prop} : ∀ t : Mx, t.each P -> t.each Q -> t.each (fun p => P p /\ Q p)
 | .mk _ _ p ks,h,k=>by rw [Mx.each] at h k ⊢; exact ⟨⟨h.1,k.1⟩,ube ks h.2 k.2⟩
theorem ube {P Q : Pl -> Prop} : ∀ l : List Mx, jw P l -> jw Q l -> jw (fun p => P p /\ Q p) l
 | [],_,_=>by rw [jw]; trivial
 | t :: r,h,k=>by rw [jw] at h k ⊢; exact ⟨t.each_and h.1 k.1,ube r h.2 k.2⟩
end
mutual
theorem Mx.small_each : ∀ t : Mx, t.small -> t.each (fun p => p.sz <= 40 /\ p.dm <= 4)
 | .mk _ _ p ks,h=>by rw [Mx.small] at h; rw [Mx.each]; exact ⟨h.1,vaz ks h.2⟩
theorem vaz : ∀ l : List Mx, xap l -> jw (fun p => p.sz <= 40 /\ p.dm <= 4) l
 | [],_=>by rw [jw]; trivial
 | t :: r,h=>by rw [xap] at h; rw [jw]; exact ⟨t.small_each h.1,vaz r h.2⟩
end
theorem Mx.small_bigN {t:Mx} (hs:t.small):t.each wap:=
 Mx.each_mono (fun p hp=>.inl ⟨by have:=hp.1; omega,by have:=hp.2; omega,Nat.le_trans (Pl.nf_sz p) (Nat.le_trans (Nat.pow_le_pow_left (show p.sz+2<=42 by have:=hp.1; omega) 4) (by decide))⟩) t (t.small_each hs)
end Go.Proofs.YtcfcjabgkfehlaaGreat

/- Reference 38: Normal: a matrix in normal form. -/
set_option maxRecDepth 100000
set_option maxHeartbeats 8000000
namespace Go.Proofs.YtcfcjabgkfehlaaGreat
open Go.RowKit
def wah (r:Int):Int:=if r < 1\/6 < r then 3 else r
mutual
def Mx.nrm : Mx -> Mx
 | .mk k r p ks=>if k=1 then .mk 1 0 Pl.zero [] else if k=2 then .mk 2 (wah r) p.nf [] else if k=3\/k=4 then .mk k 0 Pl.zero (qa6 ks) else .mk 0 0 Pl.zero []
def qa6 : List Mx -> List Mx
 | []=>[]
 | t :: r=>t.nrm :: qa6 r
end
theorem ycf (l:List Mx):qa6 l=l.map Mx.nrm:=by
 induction l with
 | nil=>rfl
 | cons t r ih=>rw [qa6,ih]; rfl
theorem Mx.nrm_eq (t:Mx):t.nrm=if t.kind=1 then .mk 1 0 Pl.zero [] else if t.kind=2 then .mk 2 (wah t.rel) t.p.nf [] else if t.kind=3\/t.kind=4 then .mk t.kind 0 Pl.zero (t.ks.map Mx.nrm) else .mk 0 0 Pl.zero []:=by
 cases t with
 | mk k r p ks=>rw [Mx.nrm,ycf]; rfl
theorem Mx.kid_le (t:Mx) (k:Nat) (hk:k < t.ks.length):t.ks[k].sz < t.sz:=by
 cases t with
 | mk kd r p ks=>have:=xcf (l:=ks) (List.getElem_mem hk); simp only [Mx.sz,Mx.ks] at *; omega
theorem Mx.ks_len (t:Mx):t.ks.length < t.sz:=by
 cases t with
 | mk kd r p ks=>have:=qcf ks; simp only [Mx.sz,Mx.ks] at *; omega
theorem uaa.congr {q:Nat->Prop} {m m':Mx} {w w':World} {e:Ending} (h:m=m') (hr:uaa q m' w e w'):uaa q m w e w':=by rw [h]; exact hr
theorem xa8 (W:World) (q:Nat->Prop) (k r:Int):MxV W q (.mk k r Pl.zero []) (mxV (.mk k r Pl.zero []) (.slice none 0 0) (.slice none 0 0) (.slice none 0 0)):=
 MxV.mk (t:=.mk k r Pl.zero []) (c:=0) (Pl.zero_v W q none 0 (by omega)) (by simp [Mx.ks]) (by omega) (by unfold Mx.ks zi; trivial)
def zal (w:World) (m:Mx) (s A K:Value) (l:List Mx) (wr:World):Prop:=
 Ext w wr/\w.heap.size+1+1+1<=wr.heap.size/\zt wr w.heap.size m s A K/\wab wr (w.heap.size+1)/\∃ ov,(zt wr (w.heap.size+1+1) (.mk m.kind 0 Pl.zero []) (.slice none 0 0) (.slice none 0 0) ov/\∀ i,wr.frozen? ⟨w.heap.size+1+1,i,none⟩=false)/\qak (w.heap.size+1+1+1) wr ov l
theorem zal.step {w:World} {m:Mx} {s A K:Value} {l:List Mx} {wr:World} (h:zal w m s A K l wr) (hlen:l.length<=1000000):∃ AV cv,wr.cell? ⟨w.heap.size+1+1,6,none⟩=some (.slice AV l.length cv)/\l.length<=cv/\cv<=9223372036854775807 /\
 ∀ (w3:World) (x:Mx) (A0 A1 K1:Option Addr) (n0 c0 n1 c1 n2 c2:Nat) (ty:TypeId),Ext wr w3->MxV w3 (fun b=>wr.heap.size<=b) x (mxV x (.slice A0 n0 c0) (.slice A1 n1 c1) (.slice K1 n2 c2))->∃ AV' cv' w4,
   (Builtin.append_ #[61,61] ty #[.slice AV l.length cv,.slice (some ⟨w3.heap.size,0,none⟩) 1 1]).run Tryz.prog (w3.alloc (.cells #[.int .i64 x.kind,.int .i64 x.rel,.int .i64 x.p.lv,.bool x.p.neg,.slice A0 n0 c0,.slice A1 n1 c1,.slice K1 n2 c2] 63))=.ok (.slice AV' (l.length+1) cv') w4 /\
   w4.cell? ⟨w.heap.size+1+1,6,none⟩=some (.slice AV l.length cv)/\w4.frozen? ⟨w.heap.size+1+1,6,none⟩=false/\zal w m s A K (l ++ [x]) (w4.setCell ⟨w.heap.size+1+1,6,none⟩ (.slice AV' (l.length+1) cv')):=by
 obtain ⟨hx,hb,hbx,hz,ov,⟨hO,hf⟩,hk⟩:=h;obtain ⟨AV,cv,rfl,hc1,hc2⟩:=hk.len;refine ⟨AV,cv,hO.2.2.2.2.2.2,hc1,hc2,?_⟩;intro w3 x A0 A1 K1 n0 c0 n1 c1 n2 c2 ty h3 ht;have hs3:=h3.size;have hown:∀ R,(Value.slice AV l.length cv).ownBlock=some R->w.heap.size+1+1+1<=R/\R < wr.heap.size:=fun R hR=>hk.own hR
 obtain ⟨v4,w4,hrun,hgb,hnat,hk4⟩:=hk.step h3 hb ht hlen ty;obtain ⟨AV',cv',rfl,hc1',hc2'⟩:=hk4.len;have el:(l ++ [x]).length=l.length+1:=by simp
 rw [el] at hrun hk4;have hblk:∀ i,i < w.heap.size+1+1+1->w4.heap[i]?=wr.heap[i]?:=fun i hi=>(World.grownBy.block hgb i (by omega) (fun e=>by have:=hown i e.symm; omega)).trans (h3.below.block i (by omega))
 have hO4:zt w4 (w.heap.size+1+1) (.mk m.kind 0 Pl.zero []) (.slice none 0 0) (.slice none 0 0) (.slice AV l.length cv):=hO.turn (hblk _ (by omega));have hf4:∀ i,w4.frozen? ⟨w.heap.size+1+1,i,none⟩=false:=fun i=>(World.frozen?_of_block (a:=⟨w.heap.size+1+1,i,none⟩) (hblk (w.heap.size+1+1) (by omega))).trans (hf i)
 have hs4:=hgb.size;have hx4:Ext w w4:=Below.grown (hx.trans h3).below hgb (by omega) (fun b e=>by have:=hown b e; omega);have o:∀ i,i ≠ 6->(w4.setCell ⟨w.heap.size+1+1,6,none⟩ (.slice AV' (l.length+1) cv')).cell? ⟨w.heap.size+1+1,i,none⟩=w4.cell? ⟨w.heap.size+1+1,i,none⟩:=fun i hi=>World.cell?_setCell_other _ _ _ _ (by intro e; injection e; omega)
 have far:∀ i,i ≠ w.heap.size+1+1->(w4.setCell ⟨w.heap.size+1+1,6,none⟩ (.slice AV' (l.length+1) cv')).heap[i]?=w4.heap[i]?:=fun i hi=>Below.heap_setCell w4 _ _ i hi
 obtain ⟨p0,p1,p2,p3,p4,p5,p6⟩:=hO4;refine ⟨AV',cv',w4,hrun,p6,hf4 6,?_,?_,?_,⟨?_,fun i=>?_⟩,_,⟨⟨(o 0 (by omega)).trans p0,(o 1 (by omega)).trans p1,(o 2 (by omega)).trans p2,(o 3 (by omega)).trans p3,(o 4 (by omega)).trans p4,(o 5 (by omega)).trans p5,World.cell?_setCell_same _ _ _ p6⟩,fun i=>by simpa [go_sem] using hf4 i⟩,?_⟩
 · exact hx4.setCell (by show w.heap.size<=w.heap.size+1+1; omega) _
 · simp; omega
 · exact hbx.turn ((far _ (by omega)).trans (hblk _ (by omega)))
 · exact hz.1.turn ((far _ (by omega)).trans (hblk _ (by omega)))
 · exact (World.frozen?_of_block (a:=⟨w.heap.size+1,i,none⟩) ((far (w.heap.size+1) (by omega)).trans (hblk (w.heap.size+1) (by omega)))).trans (hz.2 i)
 · exact hk4.turn (by simp) (fun b hb' hlt=>far b (by omega)) (fun v ds hv=>hv.box p6 rfl _)
theorem zal.fin {w:World} {m:Mx} {s A K:Value} {l:List Mx} {wr:World} (h:zal w m s A K l wr):∃ AV cv,zt wr (w.heap.size+1+1) (.mk m.kind 0 Pl.zero []) (.slice none 0 0) (.slice none 0 0) (.slice AV l.length cv)/\wab wr (w.heap.size+1)/\MxV wr (fun b=>w.heap.size+1+1+1<=b) (.mk m.kind 0 Pl.zero l) (mxV (.mk m.kind 0 Pl.zero l) (.slice none 0 0) (.slice none 0 0) (.slice AV l.length cv)):=by
 obtain ⟨hx,hb,hbx,hz,ov,⟨hO,hf⟩,hk⟩:=h;obtain ⟨AV,cv,rfl,hc1,hc2⟩:=hk.len;exact ⟨AV,cv,hO,hz,MxV.mk (t:=.mk m.kind 0 Pl.zero l) (Pl.zero_v wr _ none 0 (by omega)) hc1 hc2 hk.at_⟩
def ucs (n:Nat):Prop:=∀ (q:Nat->Prop) (t:Mx) (v:Value) (w:World),t.sz < n->t.sz<=1000000->t.each wap->MxV w q t v->Calls Tryz.prog 42 #[v] w (uaa (fun b=>w.heap.size<=b) t.nrm w)
theorem vcf (n:Nat):ucs n:=by
 induction n with
 | zero=>intro q t v w h; omega
 | succ n ih =>
 intro q t v w hn hbig hsm h;have hkl:t.ks.length<=1000000:=by have:=t.ks_len; omega
 have IH:=Lib.hid ih;have HSZ:=Lib.hid (fun k hk=>t.kid_le k hk);have HSM:=Lib.hid (Mx.each_ks hsm);have hps:=Mx.each_p hsm;obtain ⟨A0,n0,c0,A,n1,c1,K,c,rfl,hp,hl1,hl2,h4⟩:=h.open_;have HP:=Lib.hid hp;have H4:=Lib.hid h4;have HNRM:Hid (t.nrm=if t.kind=1 then .mk 1 0 Pl.zero [] else if t.kind=2 then .mk 2 (wah t.rel) t.p.nf [] else if t.kind=3\/t.kind=4 then .mk t.kind 0 Pl.zero (t.ks.map Mx.nrm) else .mk 0 0 Pl.zero []):=t.nrm_eq;obtain ⟨W,hW⟩:∃ W,(w.alloc (.cells #[.int .i64 t.kind,.int .i64 t.rel,.int .i64 t.p.lv,.bool t.p.neg,.slice A0 n0 c0,.slice A n1 c1,.slice K t.ks.length c] 63)).alloc (.cells #[.int .i64 0,.int .i64 0,.int .i64 0,.bool false,.slice none 0 0,.slice none 0 0,.slice none 0 0] 63)=W:=⟨_,rfl⟩;have hWx:Ext w W:=by rw [<- hW]; exact ((Ext.refl w).alloc _).alloc _
 have hWs:W.heap.size=w.heap.size+1+1:=by rw [<- hW]; simp
 have hbx:zt W w.heap.size t (.slice A0 n0 c0) (.slice A n1 c1) (.slice K t.ks.length c):=by rw [<- hW]; exact (zt.new w t _ _ _ _).ext ((Ext.refl _).alloc _) (by simp)
 have hz:wab W (w.heap.size+1):=by
  have:=wab.new (w.alloc (.cells #[.int .i64 t.kind,.int .i64 t.rel,.int .i64 t.p.lv,.bool t.p.neg,.slice A0 n0 c0,.slice A n1 c1,.slice K t.ks.length c] 63)) 63;rw [hW] at this;simpa using this
 have HWX:=Lib.hid hWx;have HBX:=Lib.hid hbx;have HZ:=Lib.hid hz;obtain ⟨b0,b1,b2,b3,b4,b5,b6⟩:=id hbx;obtain ⟨⟨z0,z1,z2,z3,z4,z5,z6⟩,zf⟩:=id hz;simp only [Mx.kind,Mx.rel,Mx.p,Pl.zero,Pl.lv,Pl.neg] at z0 z1 z2 z3;clear h ih h4 hWx hbx hz hp hsm;unfold mxV;go_enter Tryz.func42,Tryz.ntmps42
 by_cases k1:t.kind=1
 · have hnr:=HNRM.out;rw [if_pos k1] at hnr;have HF:=Lib.hid (uaa.congr hnr (jaf (q':=fun b=>w.heap.size<=b) HWX.out (Nat.le_succ _) HZ.out (xa8 W (fun _=>False) 1 0) (fun b _ h=>h.elim)));have q1:(t.kind == 1)=true:=by simpa using k1
   clear k1 hnr HNRM;go_wp2_with fail;exact bodyPost_ret (v:=mxV (.mk 1 0 Pl.zero []) (.slice none 0 0) (.slice none 0 0) (.slice none 0 0)) (by simp [results,Tryz.results42,go_sem,z0,z1,z2,z3,z4,z5,z6,mxV,Mx.kind,Mx.rel,Mx.p,Pl.zero,Pl.lv,Pl.neg]) rfl HF.out
 by_cases k2:t.kind=2
 · have hnr:=HNRM.out;rw [if_neg k1,if_pos k2] at hnr;have q1:(t.kind == 1)=false:=by simpa using k1
   have q2:(t.kind == 2)=true:=by simpa using k2
   have HNR:=Lib.hid hnr;have HCALL:=Lib.hid (yaq _ (HP.out.ext HWX.out) hps);have hrel:wah t.rel=if t.rel < 1\/6 < t.rel then 3 else t.rel:=rfl
   unfold plV at HCALL;clear k1 k2 hnr HNRM;have HREL:=Lib.hid hrel;clear hrel;have key:∀ rr:Int,rr=wah t.rel->Hid (∀ w3 C0 j0 f0 C1 n1 f1,PlV w3 (fun b=>W.heap.size<=b) t.p.nf (plV t.p.nf (.slice C0 j0 f0) (.slice C1 n1 f1))->Ext W w3->(w3.cell? ⟨w.heap.size+1,0,none⟩=some (.int .i64 0)/\w3.cell? ⟨w.heap.size+1,1,none⟩=some (.int .i64 0)/\w3.cell? ⟨w.heap.size+1,2,none⟩=some (.int .i64 0)/\w3.cell? ⟨w.heap.size+1,3,none⟩=some (.bool false)/\w3.cell? ⟨w.heap.size+1,4,none⟩=some (.slice none 0 0)/\w3.cell? ⟨w.heap.size+1,5,none⟩=some (.slice none 0 0)/\w3.cell? ⟨w.heap.size+1,6,none⟩=some (.slice none 0 0))/\(∀ i,w3.frozen? ⟨w.heap.size+1,i,none⟩=false)/\uaa (fun b=>w.heap.size<=b) t.nrm w (.returned (mxV (.mk 2 rr t.p.nf []) (.slice C0 j0 f0) (.slice C1 n1 f1) (.slice none 0 0))) (((((((w3.setCell ⟨w.heap.size+1,0,none⟩ (.int .i64 2)).setCell ⟨w.heap.size+1,1,none⟩ (.int .i64 rr)).setCell ⟨w.heap.size+1,2,none⟩ (.int .i64 t.p.nf.lv)).setCell ⟨w.heap.size+1,3,none⟩ (.bool t.p.nf.neg)).setCell ⟨w.heap.size+1,4,none⟩ (.slice C0 j0 f0)).setCell ⟨w.heap.size+1,5,none⟩ (.slice C1 n1 f1)).setCell ⟨w.heap.size+1,6,none⟩ (.slice none 0 0))):=by
    intro rr hrr w3 C0 j0 f0 C1 n1 f1 hpl hx;have hz3:=HZ.out;have hz3':wab w3 (w.heap.size+1):=hz3.ext hx (by omega);obtain ⟨⟨y0,y1,y2,y3,y4,y5,y6⟩,yf⟩:=id hz3';refine ⟨⟨y0,y1,y2,y3,y4,y5,y6⟩,yf,uaa.congr (show t.nrm=.mk 2 rr t.p.nf [] by rw [HNR.out,hrr]) ?_⟩;exact jaf (m:=.mk 2 rr t.p.nf []) (q:=fun b=>W.heap.size<=b) (HWX.out.trans hx) (Nat.le_succ _) hz3' (MxV.mk (t:=.mk 2 rr t.p.nf []) (c:=0) hpl (by simp [Mx.ks]) (by omega) (by unfold Mx.ks zi; trivial)) (fun b _ hb=>⟨by omega,by omega⟩)
   by_cases hr:t.rel < 1\/6 < t.rel
   · have hrr:(3:Int)=wah t.rel:=by rw [HREL.out,if_pos hr]
     have HK:=key 3 hrr;clear key
     by_cases hr1:t.rel < 1
     · clear hrr hr;go_wp2_with fail;clear b0 b1 b2 b3 b4 b5 b6 z0 z1 z2 z3 z4 z5 z6 zf hW;refine HCALL.out.mono ?_;rintro e w3 ⟨v3,rfl,p3,x3⟩;obtain ⟨C0,j0,f0,C1,f1,rfl,-⟩:=id p3.open_;obtain ⟨⟨z0,z1,z2,z3,z4,z5,z6⟩,zf,hfin⟩:=HK.out w3 _ _ _ _ _ _ p3 x3;have HF:=Lib.hid hfin;clear p3 x3 hfin HCALL HK HNR;generalize t.p.nf=P at *;unfold plV;go_wp2_with fail;exact bodyPost_ret (v:=mxV (.mk 2 3 P []) (.slice C0 j0 f0) (.slice C1 P.cs.length f1) (.slice none 0 0)) (by simp [results,Tryz.results42,go_sem,z0,z1,z2,z3,z4,z5,z6,mxV,Mx.kind,Mx.rel,Mx.p]) rfl HF.out
     · have hr6:6 < t.rel:=by omega
       clear hrr hr;go_wp2_with fail;clear b0 b1 b2 b3 b4 b5 b6 z0 z1 z2 z3 z4 z5 z6 zf hW;refine HCALL.out.mono ?_;rintro e w3 ⟨v3,rfl,p3,x3⟩;obtain ⟨C0,j0,f0,C1,f1,rfl,-⟩:=id p3.open_;obtain ⟨⟨z0,z1,z2,z3,z4,z5,z6⟩,zf,hfin⟩:=HK.out w3 _ _ _ _ _ _ p3 x3;have HF:=Lib.hid hfin;clear p3 x3 hfin HCALL HK HNR;generalize t.p.nf=P at *;unfold plV;go_wp2_with fail;exact bodyPost_ret (v:=mxV (.mk 2 3 P []) (.slice C0 j0 f0) (.slice C1 P.cs.length f1) (.slice none 0 0)) (by simp [results,Tryz.results42,go_sem,z0,z1,z2,z3,z4,z5,z6,mxV,Mx.kind,Mx.rel,Mx.p]) rfl HF.out
   · have hrr:t.rel=wah t.rel:=by rw [HREL.out,if_neg hr]
     have HK:=key t.rel hrr;clear key;have hr1:¬ t.rel < 1:=by omega
     have hr6:¬ 6 < t.rel:=by omega
     clear hrr hr;go_wp2_with fail;clear b0 b1 b2 b3 b4 b5 b6 z0 z1 z2 z3 z4 z5 z6 zf hW;refine HCALL.out.mono ?_;rintro e w3 ⟨v3,rfl,p3,x3⟩;obtain ⟨C0,j0,f0,C1,f1,rfl,-⟩:=id p3.open_;obtain ⟨⟨z0,z1,z2,z3,z4,z5,z6⟩,zf,hfin⟩:=HK.out w3 _ _ _ _ _ _ p3 x3;have HF:=Lib.hid hfin;clear p3 x3 hfin HCALL HK HNR;generalize t.p.nf=P at *;unfold plV;go_wp2_with fail;exact bodyPost_ret (v:=mxV (.mk 2 t.rel P []) (.slice C0 j0 f0) (.slice C1 P.cs.length f1) (.slice none 0 0)) (by simp [results,Tryz.results42,go_sem,z0,z1,z2,z3,z4,z5,z6,mxV,Mx.kind,Mx.rel,Mx.p]) rfl HF.out
 by_cases k34:t.kind=3\/t.kind=4
 · have hnr:=HNRM.out;rw [if_neg k1,if_neg k2,if_pos k34] at hnr;have HNR:=Lib.hid hnr;have q1:(t.kind == 1)=false:=by simpa using k1
   have q2:(t.kind == 2)=false:=by simpa using k2
   obtain ⟨W2,hW2⟩:∃ W2,W.alloc (.cells #[.int .i64 t.kind,.int .i64 0,.int .i64 0,.bool false,.slice none 0 0,.slice none 0 0,.slice none 0 0] 63)=W2:=⟨_,rfl⟩;have hW2x:Ext W W2:=by rw [<- hW2]; exact (Ext.refl W).alloc _
   have hW2s:W2.heap.size=w.heap.size+1+1+1:=by rw [<- hW2]; simp; omega
   have hG0:zal w t (.slice A0 n0 c0) (.slice A n1 c1) (.slice K t.ks.length c) [] W2:=by
    refine ⟨HWX.out.trans hW2x,by omega,HBX.out.ext hW2x (by omega),HZ.out.ext hW2x (by omega),_,⟨?_,fun i=>?_⟩,qak.nil _ _⟩
    · have hb:=zt.new W (.mk t.kind 0 Pl.zero []) (.slice none 0 0) (.slice none 0 0) (.slice none 0 0) 63;rw [hWs] at hb;rw [<- hW2]; exact hb
    · rw [<- hW2,<- hWs]; simp [go_sem]
   have HG0:=Lib.hid hG0;have d6:W2.cell? ⟨w.heap.size,6,none⟩=some (.slice K t.ks.length c):=(hW2x.cell (p:=⟨w.heap.size,6,none⟩) (by show w.heap.size < _; omega)).trans b6;rw [<- hW2] at d6;have HW2:=Lib.hid hW2;clear hW2;have HW2X:=Lib.hid (HWX.out.trans hW2x);clear k1 k2 hnr HNRM hW2x hG0 HP HZ HBX HWX z0 z1 z2 z3 z4 z5 z6 zf;rcases k34 with k3 | k4
   · have q3:(t.kind == 3)=true:=by simpa using k3
     clear k3;go_wp2_with fail;rw [HW2.out];clear hW b0 b1 b2 b3 b4 b5 b6 d6
     go_loopw [35] (fun iv wr=>∃ k:Nat,k<=t.ks.length/\iv=.int .i64 k/\Hid (zal w t (.slice A0 n0 c0) (.slice A n1 c1) (.slice K t.ks.length c) ((t.ks.take k).map Mx.nrm) wr)) (fun iv _=>t.ks.length - (intOf iv).toNat)
     case atStart=>exact ⟨0,Nat.zero_le _,rfl,HG0⟩
     case round =>
      obtain ⟨k,hk,rfl,HG⟩:=hrel
      by_cases hlt:k < t.ks.length
      · have hln:((t.ks.take k).map Mx.nrm).length=k:=by rw [List.length_map,List.length_take]; omega
        obtain ⟨AV,cv,hv6,hcv1,hcv2,hnext⟩:=HG.out.step (by omega);rw [hln] at hv6 hcv1 hnext;obtain ⟨hxw,hbs,hbx,-⟩:=HG.out;obtain ⟨ad,B0,m0,d0,B1,m1,d1,K2,n2,c2,hA,hadb,hnd,hkt⟩:=zi.kid H4.out k hlt;subst hA;obtain ⟨e0,e1,e2,e3,e4,e5,e6⟩:=hnd.ext hxw (by rw [ja]; exact hadb);have b6:wr.cell? ⟨w.heap.size,6,none⟩=some (.slice (some ad) t.ks.length c):=hbx.2.2.2.2.2.2;have hsz:=HSZ.out k hlt
        have HC:Hid (Calls Tryz.prog 42 #[.agg #[.int .i64 t.ks[k].kind,.int .i64 t.ks[k].rel,.int .i64 t.ks[k].p.lv,.bool t.ks[k].p.neg,.slice B0 m0 d0,.slice B1 m1 d1,.slice K2 n2 c2]] wr.drew (uaa (fun b=>wr.drew.heap.size<=b) t.ks[k].nrm wr.drew)):=
         IH.out q t.ks[k] _ wr.drew (by omega) (by omega) (vad HSM.out (List.getElem_mem hlt)) (hkt.ext hxw.drew)
        have HNEXT:=Lib.hid hnext;have HTK:Hid ((t.ks.take (k+1)).map Mx.nrm=(t.ks.take k).map Mx.nrm ++ [t.ks[k].nrm]):=by
         have:(t.ks.take (k+1)).map Mx.nrm=(t.ks.take k).map Mx.nrm ++ [t.ks[k].nrm]:=by rw [List.take_succ_eq_append_getElem hlt,List.map_append]; rfl
         exact this
        clear hnext hxw hbx hnd hkt hadb hsz hln;generalize t.ks[k].nrm=tk at *;go_upto_region 15 with fail
        go_region_law (first
         | (go_simp
            go_at_call 42
            refine HC.out.mono ?_;rintro e w3 ⟨v3,rfl,t3,x3⟩;have y3:Ext wr w3:=Ext.trans ((Ext.refl wr).drew) x3;obtain ⟨C0,j0,f0,C1,j1,f1,C2,f2,rfl,-⟩:=id t3.open_;obtain ⟨AV',cv',w4,hrun,h6,hf6,hgn⟩:=HNEXT.out w3 _ _ _ _ _ _ _ _ _ _ 61 y3 t3;have HGN:=Lib.hid hgn;have g6:w3.cell? ⟨w.heap.size+1+1,6,none⟩=some (.slice AV k cv):=(y3.cell (p:=⟨w.heap.size+1+1,6,none⟩) (by show w.heap.size+1+1 < _; omega)).trans hv6;have hs3:w.heap.size+1+1 < w3.heap.size:=by have:=y3.size; omega
            unfold mxV
            clear hgn t3 x3 y3)
         | (refine xai rfl (.tmp 39) (.tmp 46) 61 61 rfl _ _ _ _ (by simp [Act.eval,Act.put]) (by simp [Act.eval,Act.put]) hrun ?_))
        all_goals
         have hgn2:=HGN.out;rw [<- HTK.out] at hgn2;have HN:=Lib.hid hgn2;clear hgn2 HGN hrun h6 hf6 g6 hs3 HNEXT HC HTK;go_wp2_with fail
         go_roundw
         case rel=>exact ⟨k+1,by omega,by go_num,HN⟩
         case measure=>simp [intOf]; omega
      · have hke:k=t.ks.length:=by omega
        subst hke;have hg:=HG.out;rw [List.take_length] at hg;obtain ⟨AV,cv,⟨x0,x1,x2,x3,x4,x5,x6⟩,hz,hm⟩:=hg.fin;have hlm:(t.ks.map Mx.nrm).length=t.ks.length:=List.length_map _;rw [hlm] at hm x6;have hf:=jaf (m:=.mk t.kind 0 Pl.zero (t.ks.map Mx.nrm)) (q':=fun b=>w.heap.size<=b) hg.1 (Nat.le_succ _) hz hm (fun b _ hb=>⟨by omega,by omega⟩);have HF:=Lib.hid (uaa.congr HNR.out hf);obtain ⟨⟨z0,z1,z2,z3,z4,z5,z6⟩,zf⟩:=hz;have d6:wr.cell? ⟨w.heap.size,6,none⟩=some (.slice K t.ks.length c):=hg.2.2.1.2.2.2.2.2.2
        replace x0:wr.cell? ⟨w.heap.size+1+1,0,none⟩=some (.int .i64 t.kind):=x0
        replace x1:wr.cell? ⟨w.heap.size+1+1,1,none⟩=some (.int .i64 0):=x1
        replace x2:wr.cell? ⟨w.heap.size+1+1,2,none⟩=some (.int .i64 0):=x2
        replace x3:wr.cell? ⟨w.heap.size+1+1,3,none⟩=some (.bool false):=x3
        replace z0:wr.cell? ⟨w.heap.size+1,0,none⟩=some (.int .i64 0):=z0
        replace z1:wr.cell? ⟨w.heap.size+1,1,none⟩=some (.int .i64 0):=z1
        replace z2:wr.cell? ⟨w.heap.size+1,2,none⟩=some (.int .i64 0):=z2
        replace z3:wr.cell? ⟨w.heap.size+1,3,none⟩=some (.bool false):=z3
        clear hf hm hg HG HG0 hlm HNR;go_wp2_with fail;exact bodyPost_ret (v:=mxV (.mk t.kind 0 Pl.zero (t.ks.map Mx.nrm)) (.slice none 0 0) (.slice none 0 0) (.slice AV t.ks.length cv)) (by simp [results,Tryz.results42,go_sem,z0,z1,z2,z3,z4,z5,z6,mxV,Mx.kind,Mx.rel,Mx.p,Pl.zero,Pl.lv,Pl.neg]) rfl HF.out
   · have q3:(t.kind == 3)=false:=by simp; omega
     have q4:(t.kind == 4)=true:=by simpa using k4
     clear k4;go_wp2_with fail;rw [HW2.out];clear hW b0 b1 b2 b3 b4 b5 b6 d6
     go_loopw [35] (fun iv wr=>∃ k:Nat,k<=t.ks.length/\iv=.int .i64 k/\Hid (zal w t (.slice A0 n0 c0) (.slice A n1 c1) (.slice K t.ks.length c) ((t.ks.take k).map Mx.nrm) wr)) (fun iv _=>t.ks.length - (intOf iv).toNat)
     case atStart=>exact ⟨0,Nat.zero_le _,rfl,HG0⟩
     case round =>
      obtain ⟨k,hk,rfl,HG⟩:=hrel
      by_cases hlt:k < t.ks.length
      · have hln:((t.ks.take k).map Mx.nrm).length=k:=by rw [List.length_map,List.length_take]; omega
        obtain ⟨AV,cv,hv6,hcv1,hcv2,hnext⟩:=HG.out.step (by omega);rw [hln] at hv6 hcv1 hnext;obtain ⟨hxw,hbs,hbx,-⟩:=HG.out;obtain ⟨ad,B0,m0,d0,B1,m1,d1,K2,n2,c2,hA,hadb,hnd,hkt⟩:=zi.kid H4.out k hlt;subst hA;obtain ⟨e0,e1,e2,e3,e4,e5,e6⟩:=hnd.ext hxw (by rw [ja]; exact hadb);have b6:wr.cell? ⟨w.heap.size,6,none⟩=some (.slice (some ad) t.ks.length c):=hbx.2.2.2.2.2.2;have hsz:=HSZ.out k hlt
        have HC:Hid (Calls Tryz.prog 42 #[.agg #[.int .i64 t.ks[k].kind,.int .i64 t.ks[k].rel,.int .i64 t.ks[k].p.lv,.bool t.ks[k].p.neg,.slice B0 m0 d0,.slice B1 m1 d1,.slice K2 n2 c2]] wr.drew (uaa (fun b=>wr.drew.heap.size<=b) t.ks[k].nrm wr.drew)):=
         IH.out q t.ks[k] _ wr.drew (by omega) (by omega) (vad HSM.out (List.getElem_mem hlt)) (hkt.ext hxw.drew)
        have HNEXT:=Lib.hid hnext;have HTK:Hid ((t.ks.take (k+1)).map Mx.nrm=(t.ks.take k).map Mx.nrm ++ [t.ks[k].nrm]):=by
         have:(t.ks.take (k+1)).map Mx.nrm=(t.ks.take k).map Mx.nrm ++ [t.ks[k].nrm]:=by rw [List.take_succ_eq_append_getElem hlt,List.map_append]; rfl
         exact this
        clear hnext hxw hbx hnd hkt hadb hsz hln;generalize t.ks[k].nrm=tk at *;go_upto_region 15 with fail
        go_region_law (first
         | (go_simp
            go_at_call 42
            refine HC.out.mono ?_;rintro e w3 ⟨v3,rfl,t3,x3⟩;have y3:Ext wr w3:=Ext.trans ((Ext.refl wr).drew) x3;obtain ⟨C0,j0,f0,C1,j1,f1,C2,f2,rfl,-⟩:=id t3.open_;obtain ⟨AV',cv',w4,hrun,h6,hf6,hgn⟩:=HNEXT.out w3 _ _ _ _ _ _ _ _ _ _ 61 y3 t3;have HGN:=Lib.hid hgn;have g6:w3.cell? ⟨w.heap.size+1+1,6,none⟩=some (.slice AV k cv):=(y3.cell (p:=⟨w.heap.size+1+1,6,none⟩) (by show w.heap.size+1+1 < _; omega)).trans hv6;have hs3:w.heap.size+1+1 < w3.heap.size:=by have:=y3.size; omega
            unfold mxV
            clear hgn t3 x3 y3)
         | (refine xai rfl (.tmp 39) (.tmp 46) 61 61 rfl _ _ _ _ (by simp [Act.eval,Act.put]) (by simp [Act.eval,Act.put]) hrun ?_))
        all_goals
         have hgn2:=HGN.out;rw [<- HTK.out] at hgn2;have HN:=Lib.hid hgn2;clear hgn2 HGN hrun h6 hf6 g6 hs3 HNEXT HC HTK;go_wp2_with fail
         go_roundw
         case rel=>exact ⟨k+1,by omega,by go_num,HN⟩
         case measure=>simp [intOf]; omega
      · have hke:k=t.ks.length:=by omega
        subst hke;have hg:=HG.out;rw [List.take_length] at hg;obtain ⟨AV,cv,⟨x0,x1,x2,x3,x4,x5,x6⟩,hz,hm⟩:=hg.fin;have hlm:(t.ks.map Mx.nrm).length=t.ks.length:=List.length_map _;rw [hlm] at hm x6;have hf:=jaf (m:=.mk t.kind 0 Pl.zero (t.ks.map Mx.nrm)) (q':=fun b=>w.heap.size<=b) hg.1 (Nat.le_succ _) hz hm (fun b _ hb=>⟨by omega,by omega⟩);have HF:=Lib.hid (uaa.congr HNR.out hf);obtain ⟨⟨z0,z1,z2,z3,z4,z5,z6⟩,zf⟩:=hz;have d6:wr.cell? ⟨w.heap.size,6,none⟩=some (.slice K t.ks.length c):=hg.2.2.1.2.2.2.2.2.2
        replace x0:wr.cell? ⟨w.heap.size+1+1,0,none⟩=some (.int .i64 t.kind):=x0
        replace x1:wr.cell? ⟨w.heap.size+1+1,1,none⟩=some (.int .i64 0):=x1
        replace x2:wr.cell? ⟨w.heap.size+1+1,2,none⟩=some (.int .i64 0):=x2
        replace x3:wr.cell? ⟨w.heap.size+1+1,3,none⟩=some (.bool false):=x3
        replace z0:wr.cell? ⟨w.heap.size+1,0,none⟩=some (.int .i64 0):=z0
        replace z1:wr.cell? ⟨w.heap.size+1,1,none⟩=some (.int .i64 0):=z1
        replace z2:wr.cell? ⟨w.heap.size+1,2,none⟩=some (.int .i64 0):=z2
        replace z3:wr.cell? ⟨w.heap.size+1,3,none⟩=some (.bool false):=z3
        clear hf hm hg HG HG0 hlm HNR;go_wp2_with fail;exact bodyPost_ret (v:=mxV (.mk t.kind 0 Pl.zero (t.ks.map Mx.nrm)) (.slice none 0 0) (.slice none 0 0) (.slice AV t.ks.length cv)) (by simp [results,Tryz.results42,go_sem,z0,z1,z2,z3,z4,z5,z6,mxV,Mx.kind,Mx.rel,Mx.p,Pl.zero,Pl.lv,Pl.neg]) rfl HF.out
 · have hnr:=HNRM.out;rw [if_neg k1,if_neg k2,if_neg k34] at hnr;have HF:=Lib.hid (uaa.congr hnr (jaf (q':=fun b=>w.heap.size<=b) HWX.out (Nat.le_succ _) HZ.out (xa8 W (fun _=>False) 0 0) (fun b _ h=>h.elim)));have q1:(t.kind == 1)=false:=by simpa using k1
   have q2:(t.kind == 2)=false:=by simpa using k2
   have q3:(t.kind == 3)=false:=by simp; omega
   have q4:(t.kind == 4)=false:=by simp; omega
   clear k1 k2 k34 hnr HNRM;go_wp2_with fail;exact bodyPost_ret (v:=mxV (.mk 0 0 Pl.zero []) (.slice none 0 0) (.slice none 0 0) (.slice none 0 0)) (by simp [results,Tryz.results42,go_sem,z0,z1,z2,z3,z4,z5,z6,mxV,Mx.kind,Mx.rel,Mx.p,Pl.zero,Pl.lv,Pl.neg]) rfl HF.out
theorem vb6 {q:Nat->Prop} (t:Mx) (v:Value) (w:World) (hbig:t.sz<=1000000) (hsm:t.each wap) (h:MxV w q t v):Calls Tryz.prog 42 #[v] w (uaa (fun b=>w.heap.size<=b) t.nrm w):=
 vcf (t.sz+1) q t v w (Nat.lt_succ_self _) hbig hsm h
end Go.Proofs.YtcfcjabgkfehlaaGreat

/- Rows of polynomials that grow. -/
namespace Go.Proofs.YtcfcjabgkfehlaaGreat
open Go.RowKit
theorem wcd : ka2 24 35 4 64 (.agg #[.int .i64 0, .bool false, .slice none 0 0, .slice none 0 0]) where
 und:=Tryz.underlying24
 info:=ybe
 cells:=rfl
 pos:=by omega
 nodig:=by
  intro u hu;simp only [Value.cells] at hu;simp only [List.mem_cons,List.not_mem_nil,or_false] at hu;rcases hu with rfl | rfl | rfl | rfl <;> rfl
def plC (r:Pl × Value × Value):List Value:=[.int .i64 r.1.lv,.bool r.1.neg,r.2.1,r.2.2]
def xao (rs:List (Pl × Value × Value)):List Value:=rs.flatMap plC
theorem zbm (a b:List (Pl × Value × Value)):xao (a ++ b)=xao a ++ xao b:=by simp [xao]
theorem ua0 (a:List (Pl × Value × Value)):(xao a).length=a.length * 4:=by
 induction a with
 | nil=>rfl
 | cons r rs ih=>simp only [xao,List.flatMap_cons,List.length_append,List.length_cons] at *; rw [ih]; simp [plC]; omega
theorem jbe (rs:List (Pl × Value × Value)) (k:Nat) (hk:k < rs.length) (j:Nat) (hj:j < 4):(xao rs)[k * 4+j]?=(plC rs[k])[j]?:=by
 induction rs generalizing k with
 | nil=>simp at hk
 | cons r rs ih =>
   have hl:(plC r).length=4:=rfl;simp only [xao,List.flatMap_cons];cases k with
   | zero=>simp only [Nat.zero_mul,Nat.zero_add,List.getElem_cons_zero]; rw [List.getElem?_append_left (by omega)]
   | succ k =>
     rw [List.getElem?_append_right (by omega),hl,show (k+1) * 4+j - 4=k * 4+j by omega];exact ih k (by simpa using hk)
def kz (base:Nat) (q:Nat->Prop) (W:World) (v:Value) (l:List Pl):Prop:=
 ∃ rs:List (Pl × Value × Value),rs.map (fun r=>r.1)=l/\yx 35 4 base W v rs.length (xao rs)/\∀ r ∈ rs,(∃ A0 n0 c0 A1 n1 c1,r.2=(.slice A0 n0 c0,.slice A1 n1 c1))/\PlV W (fun b=>v.ownBlock ≠ some b/\q b) r.1 (plV r.1 r.2.1 r.2.2)
section
variable {base:Nat} {q:Nat->Prop} {W W':World} {v:Value} {l:List Pl}
theorem kz.nil (base:Nat) (q:Nat->Prop) (W:World):kz base q W (.slice none 0 0) []:=⟨[],rfl,yx.nil _ _ _ _,by simp⟩
theorem kz.own (h:kz base q W v l) {R:Nat} (hR:v.ownBlock=some R):base<=R/\R < W.heap.size:=by
 obtain ⟨rs,-,h2,-⟩:=h;exact h2.own hR
theorem kz.len (h:kz base q W v l):∃ A c,v=.slice A l.length c/\l.length<=c/\c<=9223372036854775807:=by
 obtain ⟨rs,rfl,h2,-⟩:=h;rw [List.length_map];exact h2.len
theorem kz.ext (h:kz base q W v l) (hx:Ext W W'):kz base q W' v l:=by
 obtain ⟨rs,e,h2,h3⟩:=h;exact ⟨rs,e,h2.ext hx,fun r hr=>⟨(h3 r hr).1,(h3 r hr).2.ext hx⟩⟩
theorem kz.less {base':Nat} (h:kz base q W v l) (hb:base'<=base):kz base' q W v l:=by
 obtain ⟨rs,e,h2,h3⟩:=h;exact ⟨rs,e,h2.less hb,h3⟩
theorem kz.at_ {A:Option Addr} {n c:Nat} (h:kz base q W (.slice A n c) l):jd W (fun b=>base<=b\/q b) l A 0:=by
 obtain ⟨rs,rfl,h2,h3⟩:=h;refine jd.of _ _ 0 fun i hi=>?_
 rw [List.length_map] at hi;obtain ⟨g,c',e',-,-,hbg,hlt,-⟩:=h2.pos (by omega);injection e' with e1 e2 e3
 subst e1 e2 e3;have hcell:∀ j,j < 4->W.cell? ⟨g,i * 4+j,none⟩=(plC rs[i])[j]?:=by
  intro j hj;rw [h2.cell (i * 4+j) (by omega)];exact jbe rs i hi j hj
 refine ⟨⟨g,0,none⟩,rs[i].2.1,rs[i].2.2,rfl,hlt,.inl hbg,?_,?_⟩
 · rw [jq,Nat.zero_add,Nat.zero_add,List.getElem_map];exact ⟨hcell 0 (by omega),hcell 1 (by omega),hcell 2 (by omega),hcell 3 (by omega)⟩
 · rw [List.getElem_map]; exact (h3 rs[i] (List.getElem_mem hi)).2.mono fun b hb=>.inr hb.2
end
theorem vbx (a:Addr) (n:Nat):(a.add n).off=a.off+n:=by unfold Addr.add; split <;> simp_all
theorem ycs (a:Addr) (n:Nat) (h:0 < n):a.add n=⟨a.block,a.off+n,none⟩:=by unfold Addr.add; rw [if_neg (by omega)]
theorem xal.cells {W:World} {ad:Addr} {r:Pl × Value × Value} {i:Nat} (h:xal W (ad.add (i * 4)) r.1 r.2.1 r.2.2) (j:Nat) (hj:j < 4) (u:Value) (hu:(plC r)[j]?=some u):W.cell? (ad.add (i * 4+j))=some u:=by
 obtain ⟨h0,h1,h2,h3⟩:=h;rw [ja,vbx] at h1 h2 h3;rcases (show j=0\/j=1\/j=2\/j=3 by omega) with rfl | rfl | rfl | rfl
 · simp only [plC,List.getElem?_cons_zero,Option.some.injEq] at hu;subst hu; exact h0
 all_goals
  rw [ycs _ _ (by omega)];simp only [plC,List.getElem?_cons_zero,List.getElem?_cons_succ,Option.some.injEq] at hu;subst hu
  first | exact h1 | exact h2 | exact h3
theorem kz.append_ {base:Nat} {q:Nat->Prop} {W:World} {ov:Value} {l:List Pl} {ad:Addr} (h:kz base q W ov l) (hbase:base<=W.heap.size) (rs2:List (Pl × Value × Value)) (e2:∀ r ∈ rs2,(∃ A0 n0 c0 A1 n1 c1,r.2=(.slice A0 n0 c0,.slice A1 n1 c1))/\PlV W (fun b=>ov.ownBlock ≠ some b/\q b) r.1 (plV r.1 r.2.1 r.2.2)) (e3:∀ i (hi:i < rs2.length),xal W (ad.add (i * 4)) rs2[i].1 rs2[i].2.1 rs2[i].2.2) (hpos:0 < rs2.length) (hlen:l.length+rs2.length<=1000000000) (c:Nat) (ty:TypeId) :
 ∃ v4 w4,(Builtin.append_ #[24,24] ty #[ov,.slice (some ad) rs2.length c]).run Tryz.prog W=.ok v4 w4/\W.grownBy w4 ov.ownBlock/\(∀ v ds,jb W v ds->jb w4 v ds)/\kz base q w4 v4 (l ++ rs2.map (fun r=>r.1))/\(v4.ownBlock=ov.ownBlock\/v4.ownBlock=some W.heap.size):=by
 obtain ⟨rs,rfl,h2,h3⟩:=h;rw [List.length_map] at hlen;obtain ⟨v4,w4,hrun,r1,r2,r3,r4⟩:=h2.append wcd hbase ad rs2.length c (xao rs2) (ua0 rs2) (by
  intro j u hu;have hj:j < rs2.length * 4:=by rw [<- ua0]; exact (List.getElem?_eq_some_iff.1 hu).1
  have hd:j / 4 * 4+j % 4=j:=by omega
  have hm:=e3 (j / 4) (by omega);have hg:=jbe rs2 (j / 4) (by omega) (j % 4) (by omega);rw [hd,hu] at hg;have:=hm.cells (j % 4) (by omega) u hg.symm
  rwa [hd] at this) (by
  intro u hu;simp only [xao,List.mem_flatMap] at hu;obtain ⟨r,hr,hu⟩:=hu;obtain ⟨⟨A0,n0,c0,A1,n1,c1,er⟩,-⟩:=e2 r hr;simp only [plC,er,List.mem_cons,List.not_mem_nil,or_false] at hu
  rcases hu with rfl | rfl | rfl | rfl <;> exact ⟨rfl,rfl⟩) hpos (by omega) (by omega) ty
 refine ⟨v4,w4,hrun,r2,r3,⟨rs ++ rs2,by simp,?_,fun r hr=>?_⟩,r4⟩
 · rw [zbm,List.length_append]; exact r1
 · have hv4:∀ b,b < W.heap.size->ov.ownBlock ≠ some b->v4.ownBlock ≠ some b:=by
    intro b hb hne e;rcases r4 with r4 | r4
    · exact hne (by rw [<- r4]; exact e)
    · rw [r4] at e; injection e with e; omega
   have hblk:∀ b,b < W.heap.size->ov.ownBlock ≠ some b->w4.heap[b]?=W.heap[b]?:=fun b hb hne=>World.grownBy.block r2 b hb (fun e=>hne e.symm)
   rcases List.mem_append.1 hr with hr | hr
   · exact ⟨(h3 r hr).1,PlV.turn_ r2.size r3 (fun b hb hp=>⟨⟨hv4 b hb hp.1,hp.2⟩,hblk b hb hp.1⟩) (h3 r hr).2⟩
   · exact ⟨(e2 r hr).1,PlV.turn_ r2.size r3 (fun b hb hp=>⟨⟨hv4 b hb hp.1,hp.2⟩,hblk b hb hp.1⟩) (e2 r hr).2⟩
theorem kz.push {base:Nat} {q:Nat->Prop} {W:World} {ov:Value} {l:List Pl} (h:kz base q W ov l) (hbase:base<=W.heap.size) {x:Pl} {A0 A1:Option Addr} {n0 c0 n1 c1:Nat} (hx:PlV W (fun b=>ov.ownBlock ≠ some b/\q b) x (plV x (.slice A0 n0 c0) (.slice A1 n1 c1))) (hlen:l.length+1<=1000000000) (ty:TypeId) :
 ∃ v4 w4,(Builtin.append_ #[24,24] ty #[ov,.slice (some ⟨W.heap.size,0,none⟩) 1 1]).run Tryz.prog (W.alloc (.cells #[.int .i64 x.lv,.bool x.neg,.slice A0 n0 c0,.slice A1 n1 c1] 35))=.ok v4 w4/\W.grownBy w4 ov.ownBlock/\(∀ v ds,jb W v ds->jb w4 v ds)/\kz base q w4 v4 (l ++ [x])/\(v4.ownBlock=ov.ownBlock\/v4.ownBlock=some (W.heap.size+1)):=by
 have hxa:Ext W (W.alloc (.cells #[.int .i64 x.lv,.bool x.neg,.slice A0 n0 c0,.slice A1 n1 c1] 35)):=(Ext.refl W).alloc _;obtain ⟨v4,w4,hrun,h2,h3,h4,h5⟩:=(h.ext hxa).append_ (ad:=⟨W.heap.size,0,none⟩) (by have:=hxa.size; omega) [(x,.slice A0 n0 c0,.slice A1 n1 c1)] (by
  intro r hr;obtain rfl:=List.mem_singleton.1 hr;exact ⟨⟨_,_,_,_,_,_,rfl⟩,hx.ext hxa⟩) (by
  intro i hi;obtain rfl:i=0:=by simpa using hi
  rw [Nat.zero_mul,jq,Nat.zero_add]
  refine ⟨?_,?_,?_,?_⟩ <;> simp [go_sem]) (by simp) (by simpa using hlen) 1 ty
 refine ⟨v4,w4,hrun,⟨h2.os.trans hxa.below.os,h2.tape.trans hxa.below.tape,h2.output.trans hxa.below.output,Nat.le_trans hxa.size h2.size,fun i hi hne=>(World.grownBy.block h2 i (Nat.lt_of_lt_of_le hi hxa.size) hne).trans (hxa.below.block i hi)⟩,fun v ds hv=>h3 v ds (hv.ext hxa),h4,?_⟩
 rwa [World.size_alloc] at h5
end Go.Proofs.YtcfcjabgkfehlaaGreat
