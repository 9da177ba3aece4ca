/- Reference 38: Normal: a matrix in normal form. -/
import Derived.Test.YtaedbimbbeploaaGreatDoorMRow
import Derived.Test.YtaedbimbbeploaaGreatDoorRNorm
import Derived.Test.YtaedbimbbeploaaGreatDoorMb11
import Derived.Deep.RegionLaw
import Derived.Test.YtaedbimbbeploaaGreatDoorNatProd2
set_option linter.unusedSimpArgs false
set_option linter.unusedVariables false
set_option maxRecDepth 100000
set_option maxHeartbeats 8000000
namespace Go.Proofs.YtaedbimbbeploaaGreatDoor
open Go.RowKit
def zad (r:Int):Int:=if r < 1\/6 < r then 3 else r
mutual
def Mx.nrm : Mx -> Mx
 | .mk k r p ks=>if k=1 then .mk 1 0 Pl.zero [] else if k=2 then .mk 2 (zad r) p.nf [] else if k=3\/k=4 then .mk k 0 Pl.zero (vav ks) else .mk 0 0 Pl.zero []
def vav : List Mx -> List Mx
 | []=>[]
 | t :: r=>t.nrm :: vav r
end
theorem yci (l:List Mx):vav l=l.map Mx.nrm:=by
 induction l with
 | nil=>rfl
 | cons t r ih=>rw [vav,ih]; rfl
theorem Mx.nrm_eq (t:Mx):t.nrm=if t.kind=1 then .mk 1 0 Pl.zero [] else if t.kind=2 then .mk 2 (zad t.rel) t.p.nf [] else if t.kind=3\/t.kind=4 then .mk t.kind 0 Pl.zero (t.ks.map Mx.nrm) else .mk 0 0 Pl.zero []:=by
 cases t with
 | mk k r p ks=>rw [Mx.nrm,yci]; rfl
theorem Mx.kid_le (t:Mx) (k:Nat) (hk:k < t.ks.length):t.ks[k].sz < t.sz:=by
 cases t with
 | mk kd r p ks=>have:=jci (l:=ks) (List.getElem_mem hk); simp only [Mx.sz,Mx.ks] at *; omega
theorem Mx.ks_small {t:Mx} (h:t.small):xam t.ks:=by
 cases t with
 | mk kd r p ks=>simp only [Mx.small,Mx.ks] at *; exact h.2
theorem Mx.p_small {t:Mx} (h:t.small):t.p.sz<=40/\t.p.dm<=4:=by
 cases t with
 | mk kd r p ks=>simp only [Mx.small,Mx.p] at *; exact h.1
theorem Mx.ks_len (t:Mx):t.ks.length < t.sz:=by
 cases t with
 | mk kd r p ks=>have:=kci ks; simp only [Mx.sz,Mx.ks] at *; omega
theorem yae.congr {q:Nat->Prop} {m m':Mx} {w w':World} {e:Ending} (h:m=m') (hr:yae q m' w e w'):yae q m w e w':=by rw [h]; exact hr
theorem xbo (W:World) (q:Nat->Prop) (k r:Int):MxV W q (.mk k r Pl.zero []) (mxV (.mk k r Pl.zero []) (.slice none 0 0) (.slice none 0 0) (.slice none 0 0)):=
 MxV.mk (t:=.mk k r Pl.zero []) (c:=0) (Pl.zero_v W q none 0 (by omega)) (by simp [Mx.ks]) (by omega) (by unfold Mx.ks jg; trivial)
def xav (w:World) (m:Mx) (s A K:Value) (l:List Mx) (wr:World):Prop:=
 Ext w wr/\w.heap.size+1+1+1<=wr.heap.size/\um wr w.heap.size m s A K/\qy wr (w.heap.size+1)/\∃ ov,(um wr (w.heap.size+1+1) (.mk m.kind 0 Pl.zero []) (.slice none 0 0) (.slice none 0 0) ov/\∀ i,wr.frozen? ⟨w.heap.size+1+1,i,none⟩=false)/\kak (w.heap.size+1+1+1) wr ov l
theorem xav.step {w:World} {m:Mx} {s A K:Value} {l:List Mx} {wr:World} (h:xav w m s A K l wr) (hlen:l.length<=1000000):∃ AV cv,wr.cell? ⟨w.heap.size+1+1,6,none⟩=some (.slice AV l.length cv)/\l.length<=cv/\cv<=9223372036854775807 /\
 ∀ (w3:World) (x:Mx) (A0 A1 K1:Option Addr) (n0 c0 n1 c1 n2 c2:Nat) (ty:TypeId),Ext wr w3->MxV w3 (fun b=>wr.heap.size<=b) x (mxV x (.slice A0 n0 c0) (.slice A1 n1 c1) (.slice K1 n2 c2))->∃ AV' cv' w4,
   (Builtin.append_ #[43,43] ty #[.slice AV l.length cv,.slice (some ⟨w3.heap.size,0,none⟩) 1 1]).run Tryz.prog (w3.alloc (.cells #[.int .i64 x.kind,.int .i64 x.rel,.int .i64 x.p.lv,.bool x.p.neg,.slice A0 n0 c0,.slice A1 n1 c1,.slice K1 n2 c2] 45))=.ok (.slice AV' (l.length+1) cv') w4 /\
   w4.cell? ⟨w.heap.size+1+1,6,none⟩=some (.slice AV l.length cv)/\w4.frozen? ⟨w.heap.size+1+1,6,none⟩=false/\xav w m s A K (l ++ [x]) (w4.setCell ⟨w.heap.size+1+1,6,none⟩ (.slice AV' (l.length+1) cv')):=by
 obtain ⟨hx,hb,hbx,hz,ov,⟨hO,hf⟩,hk⟩:=h;obtain ⟨AV,cv,rfl,hc1,hc2⟩:=hk.len;refine ⟨AV,cv,hO.2.2.2.2.2.2,hc1,hc2,?_⟩;intro w3 x A0 A1 K1 n0 c0 n1 c1 n2 c2 ty h3 ht;have hs3:=h3.size;have hown:∀ R,(Value.slice AV l.length cv).ownBlock=some R->w.heap.size+1+1+1<=R/\R < wr.heap.size:=fun R hR=>hk.own hR
 obtain ⟨v4,w4,hrun,hgb,hnat,hk4⟩:=hk.step h3 hb ht hlen ty;obtain ⟨AV',cv',rfl,hc1',hc2'⟩:=hk4.len;have el:(l ++ [x]).length=l.length+1:=by simp
 rw [el] at hrun hk4;have hblk:∀ i,i < w.heap.size+1+1+1->w4.heap[i]?=wr.heap[i]?:=fun i hi=>(World.grownBy.block hgb i (by omega) (fun e=>by have:=hown i e.symm; omega)).trans (h3.below.block i (by omega))
 have hO4:um w4 (w.heap.size+1+1) (.mk m.kind 0 Pl.zero []) (.slice none 0 0) (.slice none 0 0) (.slice AV l.length cv):=hO.turn (hblk _ (by omega));have hf4:∀ i,w4.frozen? ⟨w.heap.size+1+1,i,none⟩=false:=fun i=>(World.frozen?_of_block (a:=⟨w.heap.size+1+1,i,none⟩) (hblk (w.heap.size+1+1) (by omega))).trans (hf i)
 have hs4:=hgb.size;have hx4:Ext w w4:=Below.grown (hx.trans h3).below hgb (by omega) (fun b e=>by have:=hown b e; omega);have o:∀ i,i ≠ 6->(w4.setCell ⟨w.heap.size+1+1,6,none⟩ (.slice AV' (l.length+1) cv')).cell? ⟨w.heap.size+1+1,i,none⟩=w4.cell? ⟨w.heap.size+1+1,i,none⟩:=fun i hi=>World.cell?_setCell_other _ _ _ _ (by intro e; injection e; omega)
 have far:∀ i,i ≠ w.heap.size+1+1->(w4.setCell ⟨w.heap.size+1+1,6,none⟩ (.slice AV' (l.length+1) cv')).heap[i]?=w4.heap[i]?:=fun i hi=>Below.heap_setCell w4 _ _ i hi
 obtain ⟨p0,p1,p2,p3,p4,p5,p6⟩:=hO4;refine ⟨AV',cv',w4,hrun,p6,hf4 6,?_,?_,?_,⟨?_,fun i=>?_⟩,_,⟨⟨(o 0 (by omega)).trans p0,(o 1 (by omega)).trans p1,(o 2 (by omega)).trans p2,(o 3 (by omega)).trans p3,(o 4 (by omega)).trans p4,(o 5 (by omega)).trans p5,World.cell?_setCell_same _ _ _ p6⟩,fun i=>by simpa [go_sem] using hf4 i⟩,?_⟩
 · exact hx4.setCell (by show w.heap.size<=w.heap.size+1+1; omega) _
 · simp; omega
 · exact hbx.turn ((far _ (by omega)).trans (hblk _ (by omega)))
 · exact hz.1.turn ((far _ (by omega)).trans (hblk _ (by omega)))
 · exact (World.frozen?_of_block (a:=⟨w.heap.size+1,i,none⟩) ((far (w.heap.size+1) (by omega)).trans (hblk (w.heap.size+1) (by omega)))).trans (hz.2 i)
 · exact hk4.turn (by simp) (fun b hb' hlt=>far b (by omega)) (fun v ds hv=>hv.box p6 rfl _)
theorem xav.fin {w:World} {m:Mx} {s A K:Value} {l:List Mx} {wr:World} (h:xav w m s A K l wr):∃ AV cv,um wr (w.heap.size+1+1) (.mk m.kind 0 Pl.zero []) (.slice none 0 0) (.slice none 0 0) (.slice AV l.length cv)/\qy wr (w.heap.size+1)/\MxV wr (fun b=>w.heap.size+1+1+1<=b) (.mk m.kind 0 Pl.zero l) (mxV (.mk m.kind 0 Pl.zero l) (.slice none 0 0) (.slice none 0 0) (.slice AV l.length cv)):=by
 obtain ⟨hx,hb,hbx,hz,ov,⟨hO,hf⟩,hk⟩:=h;obtain ⟨AV,cv,rfl,hc1,hc2⟩:=hk.len;exact ⟨AV,cv,hO,hz,MxV.mk (t:=.mk m.kind 0 Pl.zero l) (Pl.zero_v wr _ none 0 (by omega)) hc1 hc2 hk.at_⟩
def wcv (n:Nat):Prop:=∀ (q:Nat->Prop) (t:Mx) (v:Value) (w:World),t.sz < n->t.sz<=1000000->t.small->MxV w q t v->Calls Tryz.prog 32 #[v] w (yae (fun b=>w.heap.size<=b) t.nrm w)
theorem xcj (n:Nat):wcv n:=by
 induction n with
 | zero=>intro q t v w h; omega
 | succ n ih =>
 intro q t v w hn hbig hsm h;have hkl:t.ks.length<=1000000:=by have:=t.ks_len; omega
 have IH:=Lib.hid ih;have HSZ:=Lib.hid (fun k hk=>t.kid_le k hk);have HSM:=Lib.hid (Mx.ks_small hsm);have hps:=Mx.p_small hsm;obtain ⟨A0,n0,c0,A,n1,c1,K,c,rfl,hp,hl1,hl2,h4⟩:=h.open_;have HP:=Lib.hid hp;have H4:=Lib.hid h4;have HNRM:Hid (t.nrm=if t.kind=1 then .mk 1 0 Pl.zero [] else if t.kind=2 then .mk 2 (zad t.rel) t.p.nf [] else if t.kind=3\/t.kind=4 then .mk t.kind 0 Pl.zero (t.ks.map Mx.nrm) else .mk 0 0 Pl.zero []):=t.nrm_eq;obtain ⟨W,hW⟩:∃ W,(w.alloc (.cells #[.int .i64 t.kind,.int .i64 t.rel,.int .i64 t.p.lv,.bool t.p.neg,.slice A0 n0 c0,.slice A n1 c1,.slice K t.ks.length c] 45)).alloc (.cells #[.int .i64 0,.int .i64 0,.int .i64 0,.bool false,.slice none 0 0,.slice none 0 0,.slice none 0 0] 45)=W:=⟨_,rfl⟩;have hWx:Ext w W:=by rw [<- hW]; exact ((Ext.refl w).alloc _).alloc _
 have hWs:W.heap.size=w.heap.size+1+1:=by rw [<- hW]; simp
 have hbx:um W w.heap.size t (.slice A0 n0 c0) (.slice A n1 c1) (.slice K t.ks.length c):=by rw [<- hW]; exact (um.new w t _ _ _ _).ext ((Ext.refl _).alloc _) (by simp)
 have hz:qy W (w.heap.size+1):=by
  have:=qy.new (w.alloc (.cells #[.int .i64 t.kind,.int .i64 t.rel,.int .i64 t.p.lv,.bool t.p.neg,.slice A0 n0 c0,.slice A n1 c1,.slice K t.ks.length c] 45)) 45;rw [hW] at this;simpa using this
 have HWX:=Lib.hid hWx;have HBX:=Lib.hid hbx;have HZ:=Lib.hid hz;obtain ⟨b0,b1,b2,b3,b4,b5,b6⟩:=id hbx;obtain ⟨⟨z0,z1,z2,z3,z4,z5,z6⟩,zf⟩:=id hz;simp only [Mx.kind,Mx.rel,Mx.p,Pl.zero,Pl.lv,Pl.neg] at z0 z1 z2 z3;clear h ih h4 hWx hbx hz hp hsm;unfold mxV;go_enter Tryz.func32,Tryz.ntmps32
 by_cases k1:t.kind=1
 · have hnr:=HNRM.out;rw [if_pos k1] at hnr;have HF:=Lib.hid (yae.congr hnr (xaj (q':=fun b=>w.heap.size<=b) HWX.out (Nat.le_succ _) HZ.out (xbo W (fun _=>False) 1 0) (fun b _ h=>h.elim)));have q1:(t.kind == 1)=true:=by simpa using k1
   clear k1 hnr HNRM;go_wp2_with fail;exact bodyPost_ret (v:=mxV (.mk 1 0 Pl.zero []) (.slice none 0 0) (.slice none 0 0) (.slice none 0 0)) (by simp [results,Tryz.results32,go_sem,z0,z1,z2,z3,z4,z5,z6,mxV,Mx.kind,Mx.rel,Mx.p,Pl.zero,Pl.lv,Pl.neg]) rfl HF.out
 by_cases k2:t.kind=2
 · have hnr:=HNRM.out;rw [if_neg k1,if_pos k2] at hnr;have q1:(t.kind == 1)=false:=by simpa using k1
   have q2:(t.kind == 2)=true:=by simpa using k2
   have HNR:=Lib.hid hnr;have hnf:t.p.nf.sz<=1099511627776:=by
    refine Nat.le_trans (Pl.nf_sz t.p) (Nat.le_trans (Nat.pow_le_pow_left (show t.p.sz+2<=42 by omega) 4) (by decide))
   have HCALL:=Lib.hid (qa4 t.p _ (HP.out.ext HWX.out) (by omega) hnf (by omega));have hrel:zad t.rel=if t.rel < 1\/6 < t.rel then 3 else t.rel:=rfl
   unfold plV at HCALL;clear k1 k2 hnr hnf HNRM;have HREL:=Lib.hid hrel;clear hrel;have key:∀ rr:Int,rr=zad t.rel->Hid (∀ w3 C0 j0 f0 C1 n1 f1,PlV w3 (fun b=>W.heap.size<=b) t.p.nf (plV t.p.nf (.slice C0 j0 f0) (.slice C1 n1 f1))->Ext W w3->(w3.cell? ⟨w.heap.size+1,0,none⟩=some (.int .i64 0)/\w3.cell? ⟨w.heap.size+1,1,none⟩=some (.int .i64 0)/\w3.cell? ⟨w.heap.size+1,2,none⟩=some (.int .i64 0)/\w3.cell? ⟨w.heap.size+1,3,none⟩=some (.bool false)/\w3.cell? ⟨w.heap.size+1,4,none⟩=some (.slice none 0 0)/\w3.cell? ⟨w.heap.size+1,5,none⟩=some (.slice none 0 0)/\w3.cell? ⟨w.heap.size+1,6,none⟩=some (.slice none 0 0))/\(∀ i,w3.frozen? ⟨w.heap.size+1,i,none⟩=false)/\yae (fun b=>w.heap.size<=b) t.nrm w (.returned (mxV (.mk 2 rr t.p.nf []) (.slice C0 j0 f0) (.slice C1 n1 f1) (.slice none 0 0))) (((((((w3.setCell ⟨w.heap.size+1,0,none⟩ (.int .i64 2)).setCell ⟨w.heap.size+1,1,none⟩ (.int .i64 rr)).setCell ⟨w.heap.size+1,2,none⟩ (.int .i64 t.p.nf.lv)).setCell ⟨w.heap.size+1,3,none⟩ (.bool t.p.nf.neg)).setCell ⟨w.heap.size+1,4,none⟩ (.slice C0 j0 f0)).setCell ⟨w.heap.size+1,5,none⟩ (.slice C1 n1 f1)).setCell ⟨w.heap.size+1,6,none⟩ (.slice none 0 0))):=by
    intro rr hrr w3 C0 j0 f0 C1 n1 f1 hpl hx;have hz3:=HZ.out;have hz3':qy w3 (w.heap.size+1):=hz3.ext hx (by omega);obtain ⟨⟨y0,y1,y2,y3,y4,y5,y6⟩,yf⟩:=id hz3';refine ⟨⟨y0,y1,y2,y3,y4,y5,y6⟩,yf,yae.congr (show t.nrm=.mk 2 rr t.p.nf [] by rw [HNR.out,hrr]) ?_⟩;exact xaj (m:=.mk 2 rr t.p.nf []) (q:=fun b=>W.heap.size<=b) (HWX.out.trans hx) (Nat.le_succ _) hz3' (MxV.mk (t:=.mk 2 rr t.p.nf []) (c:=0) hpl (by simp [Mx.ks]) (by omega) (by unfold Mx.ks jg; trivial)) (fun b _ hb=>⟨by omega,by omega⟩)
   by_cases hr:t.rel < 1\/6 < t.rel
   · have hrr:(3:Int)=zad t.rel:=by rw [HREL.out,if_pos hr]
     have HK:=key 3 hrr;clear key
     by_cases hr1:t.rel < 1
     · clear hrr hr;go_wp2_with fail;clear b0 b1 b2 b3 b4 b5 b6 z0 z1 z2 z3 z4 z5 z6 zf hW;refine HCALL.out.mono ?_;rintro e w3 ⟨v3,rfl,p3,x3⟩;obtain ⟨C0,j0,f0,C1,f1,rfl,-⟩:=id p3.open_;obtain ⟨⟨z0,z1,z2,z3,z4,z5,z6⟩,zf,hfin⟩:=HK.out w3 _ _ _ _ _ _ p3 x3;have HF:=Lib.hid hfin;clear p3 x3 hfin HCALL HK HNR;generalize t.p.nf=P at *;unfold plV;go_wp2_with fail;exact bodyPost_ret (v:=mxV (.mk 2 3 P []) (.slice C0 j0 f0) (.slice C1 P.cs.length f1) (.slice none 0 0)) (by simp [results,Tryz.results32,go_sem,z0,z1,z2,z3,z4,z5,z6,mxV,Mx.kind,Mx.rel,Mx.p]) rfl HF.out
     · have hr6:6 < t.rel:=by omega
       clear hrr hr;go_wp2_with fail;clear b0 b1 b2 b3 b4 b5 b6 z0 z1 z2 z3 z4 z5 z6 zf hW;refine HCALL.out.mono ?_;rintro e w3 ⟨v3,rfl,p3,x3⟩;obtain ⟨C0,j0,f0,C1,f1,rfl,-⟩:=id p3.open_;obtain ⟨⟨z0,z1,z2,z3,z4,z5,z6⟩,zf,hfin⟩:=HK.out w3 _ _ _ _ _ _ p3 x3;have HF:=Lib.hid hfin;clear p3 x3 hfin HCALL HK HNR;generalize t.p.nf=P at *;unfold plV;go_wp2_with fail;exact bodyPost_ret (v:=mxV (.mk 2 3 P []) (.slice C0 j0 f0) (.slice C1 P.cs.length f1) (.slice none 0 0)) (by simp [results,Tryz.results32,go_sem,z0,z1,z2,z3,z4,z5,z6,mxV,Mx.kind,Mx.rel,Mx.p]) rfl HF.out
   · have hrr:t.rel=zad t.rel:=by rw [HREL.out,if_neg hr]
     have HK:=key t.rel hrr;clear key;have hr1:¬ t.rel < 1:=by omega
     have hr6:¬ 6 < t.rel:=by omega
     clear hrr hr;go_wp2_with fail;clear b0 b1 b2 b3 b4 b5 b6 z0 z1 z2 z3 z4 z5 z6 zf hW;refine HCALL.out.mono ?_;rintro e w3 ⟨v3,rfl,p3,x3⟩;obtain ⟨C0,j0,f0,C1,f1,rfl,-⟩:=id p3.open_;obtain ⟨⟨z0,z1,z2,z3,z4,z5,z6⟩,zf,hfin⟩:=HK.out w3 _ _ _ _ _ _ p3 x3;have HF:=Lib.hid hfin;clear p3 x3 hfin HCALL HK HNR;generalize t.p.nf=P at *;unfold plV;go_wp2_with fail;exact bodyPost_ret (v:=mxV (.mk 2 t.rel P []) (.slice C0 j0 f0) (.slice C1 P.cs.length f1) (.slice none 0 0)) (by simp [results,Tryz.results32,go_sem,z0,z1,z2,z3,z4,z5,z6,mxV,Mx.kind,Mx.rel,Mx.p]) rfl HF.out
 by_cases k34:t.kind=3\/t.kind=4
 · have hnr:=HNRM.out;rw [if_neg k1,if_neg k2,if_pos k34] at hnr;have HNR:=Lib.hid hnr;have q1:(t.kind == 1)=false:=by simpa using k1
   have q2:(t.kind == 2)=false:=by simpa using k2
   obtain ⟨W2,hW2⟩:∃ W2,W.alloc (.cells #[.int .i64 t.kind,.int .i64 0,.int .i64 0,.bool false,.slice none 0 0,.slice none 0 0,.slice none 0 0] 45)=W2:=⟨_,rfl⟩;have hW2x:Ext W W2:=by rw [<- hW2]; exact (Ext.refl W).alloc _
   have hW2s:W2.heap.size=w.heap.size+1+1+1:=by rw [<- hW2]; simp; omega
   have hG0:xav w t (.slice A0 n0 c0) (.slice A n1 c1) (.slice K t.ks.length c) [] W2:=by
    refine ⟨HWX.out.trans hW2x,by omega,HBX.out.ext hW2x (by omega),HZ.out.ext hW2x (by omega),_,⟨?_,fun i=>?_⟩,kak.nil _ _⟩
    · have hb:=um.new W (.mk t.kind 0 Pl.zero []) (.slice none 0 0) (.slice none 0 0) (.slice none 0 0) 45;rw [hWs] at hb;rw [<- hW2]; exact hb
    · rw [<- hW2,<- hWs]; simp [go_sem]
   have HG0:=Lib.hid hG0;have d6:W2.cell? ⟨w.heap.size,6,none⟩=some (.slice K t.ks.length c):=(hW2x.cell (p:=⟨w.heap.size,6,none⟩) (by show w.heap.size < _; omega)).trans b6;rw [<- hW2] at d6;have HW2:=Lib.hid hW2;clear hW2;have HW2X:=Lib.hid (HWX.out.trans hW2x);clear k1 k2 hnr HNRM hW2x hG0 HP HZ HBX HWX z0 z1 z2 z3 z4 z5 z6 zf;rcases k34 with k3 | k4
   · have q3:(t.kind == 3)=true:=by simpa using k3
     clear k3;go_wp2_with fail;rw [HW2.out];clear hW b0 b1 b2 b3 b4 b5 b6 d6
     go_loopw [35] (fun iv wr=>∃ k:Nat,k<=t.ks.length/\iv=.int .i64 k/\Hid (xav w t (.slice A0 n0 c0) (.slice A n1 c1) (.slice K t.ks.length c) ((t.ks.take k).map Mx.nrm) wr)) (fun iv _=>t.ks.length - (intOf iv).toNat)
     case atStart=>exact ⟨0,Nat.zero_le _,rfl,HG0⟩
     case round =>
      obtain ⟨k,hk,rfl,HG⟩:=hrel
      by_cases hlt:k < t.ks.length
      · have hln:((t.ks.take k).map Mx.nrm).length=k:=by rw [List.length_map,List.length_take]; omega
        obtain ⟨AV,cv,hv6,hcv1,hcv2,hnext⟩:=HG.out.step (by omega);rw [hln] at hv6 hcv1 hnext;obtain ⟨hxw,hbs,hbx,-⟩:=HG.out;obtain ⟨ad,B0,m0,d0,B1,m1,d1,K2,n2,c2,hA,hadb,hnd,hkt⟩:=jg.kid H4.out k hlt;subst hA;obtain ⟨e0,e1,e2,e3,e4,e5,e6⟩:=hnd.ext hxw (by rw [ja]; exact hadb);have b6:wr.cell? ⟨w.heap.size,6,none⟩=some (.slice (some ad) t.ks.length c):=hbx.2.2.2.2.2.2;have hsz:=HSZ.out k hlt
        have HC:Hid (Calls Tryz.prog 32 #[.agg #[.int .i64 t.ks[k].kind,.int .i64 t.ks[k].rel,.int .i64 t.ks[k].p.lv,.bool t.ks[k].p.neg,.slice B0 m0 d0,.slice B1 m1 d1,.slice K2 n2 c2]] wr.drew (yae (fun b=>wr.drew.heap.size<=b) t.ks[k].nrm wr.drew)):=
         IH.out q t.ks[k] _ wr.drew (by omega) (by omega) (kae HSM.out (List.getElem_mem hlt)) (hkt.ext hxw.drew)
        have HNEXT:=Lib.hid hnext;have HTK:Hid ((t.ks.take (k+1)).map Mx.nrm=(t.ks.take k).map Mx.nrm ++ [t.ks[k].nrm]):=by
         have:(t.ks.take (k+1)).map Mx.nrm=(t.ks.take k).map Mx.nrm ++ [t.ks[k].nrm]:=by rw [List.take_succ_eq_append_getElem hlt,List.map_append]; rfl
         exact this
        clear hnext hxw hbx hnd hkt hadb hsz hln;generalize t.ks[k].nrm=tk at *;go_upto_region 15 with fail
        go_region_law (first
         | (go_simp
            go_at_call 32
            refine HC.out.mono ?_;rintro e w3 ⟨v3,rfl,t3,x3⟩;have y3:Ext wr w3:=Ext.trans ((Ext.refl wr).drew) x3;obtain ⟨C0,j0,f0,C1,j1,f1,C2,f2,rfl,-⟩:=id t3.open_;obtain ⟨AV',cv',w4,hrun,h6,hf6,hgn⟩:=HNEXT.out w3 _ _ _ _ _ _ _ _ _ _ 43 y3 t3;have HGN:=Lib.hid hgn;have g6:w3.cell? ⟨w.heap.size+1+1,6,none⟩=some (.slice AV k cv):=(y3.cell (p:=⟨w.heap.size+1+1,6,none⟩) (by show w.heap.size+1+1 < _; omega)).trans hv6;have hs3:w.heap.size+1+1 < w3.heap.size:=by have:=y3.size; omega
            unfold mxV
            clear hgn t3 x3 y3)
         | (refine yab rfl (.tmp 39) (.tmp 46) 43 43 rfl _ _ _ _ (by simp [Act.eval,Act.put]) (by simp [Act.eval,Act.put]) hrun ?_))
        all_goals
         have hgn2:=HGN.out;rw [<- HTK.out] at hgn2;have HN:=Lib.hid hgn2;clear hgn2 HGN hrun h6 hf6 g6 hs3 HNEXT HC HTK;go_wp2_with fail
         go_roundw
         case rel=>exact ⟨k+1,by omega,by go_num,HN⟩
         case measure=>simp [intOf]; omega
      · have hke:k=t.ks.length:=by omega
        subst hke;have hg:=HG.out;rw [List.take_length] at hg;obtain ⟨AV,cv,⟨x0,x1,x2,x3,x4,x5,x6⟩,hz,hm⟩:=hg.fin;have hlm:(t.ks.map Mx.nrm).length=t.ks.length:=List.length_map _;rw [hlm] at hm x6;have hf:=xaj (m:=.mk t.kind 0 Pl.zero (t.ks.map Mx.nrm)) (q':=fun b=>w.heap.size<=b) hg.1 (Nat.le_succ _) hz hm (fun b _ hb=>⟨by omega,by omega⟩);have HF:=Lib.hid (yae.congr HNR.out hf);obtain ⟨⟨z0,z1,z2,z3,z4,z5,z6⟩,zf⟩:=hz;have d6:wr.cell? ⟨w.heap.size,6,none⟩=some (.slice K t.ks.length c):=hg.2.2.1.2.2.2.2.2.2
        replace x0:wr.cell? ⟨w.heap.size+1+1,0,none⟩=some (.int .i64 t.kind):=x0
        replace x1:wr.cell? ⟨w.heap.size+1+1,1,none⟩=some (.int .i64 0):=x1
        replace x2:wr.cell? ⟨w.heap.size+1+1,2,none⟩=some (.int .i64 0):=x2
        replace x3:wr.cell? ⟨w.heap.size+1+1,3,none⟩=some (.bool false):=x3
        replace z0:wr.cell? ⟨w.heap.size+1,0,none⟩=some (.int .i64 0):=z0
        replace z1:wr.cell? ⟨w.heap.size+1,1,none⟩=some (.int .i64 0):=z1
        replace z2:wr.cell? ⟨w.heap.size+1,2,none⟩=some (.int .i64 0):=z2
        replace z3:wr.cell? ⟨w.heap.size+1,3,none⟩=some (.bool false):=z3
        clear hf hm hg HG HG0 hlm HNR;go_wp2_with fail;exact bodyPost_ret (v:=mxV (.mk t.kind 0 Pl.zero (t.ks.map Mx.nrm)) (.slice none 0 0) (.slice none 0 0) (.slice AV t.ks.length cv)) (by simp [results,Tryz.results32,go_sem,z0,z1,z2,z3,z4,z5,z6,mxV,Mx.kind,Mx.rel,Mx.p,Pl.zero,Pl.lv,Pl.neg]) rfl HF.out
   · have q3:(t.kind == 3)=false:=by simp; omega
     have q4:(t.kind == 4)=true:=by simpa using k4
     clear k4;go_wp2_with fail;rw [HW2.out];clear hW b0 b1 b2 b3 b4 b5 b6 d6
     go_loopw [35] (fun iv wr=>∃ k:Nat,k<=t.ks.length/\iv=.int .i64 k/\Hid (xav w t (.slice A0 n0 c0) (.slice A n1 c1) (.slice K t.ks.length c) ((t.ks.take k).map Mx.nrm) wr)) (fun iv _=>t.ks.length - (intOf iv).toNat)
     case atStart=>exact ⟨0,Nat.zero_le _,rfl,HG0⟩
     case round =>
      obtain ⟨k,hk,rfl,HG⟩:=hrel
      by_cases hlt:k < t.ks.length
      · have hln:((t.ks.take k).map Mx.nrm).length=k:=by rw [List.length_map,List.length_take]; omega
        obtain ⟨AV,cv,hv6,hcv1,hcv2,hnext⟩:=HG.out.step (by omega);rw [hln] at hv6 hcv1 hnext;obtain ⟨hxw,hbs,hbx,-⟩:=HG.out;obtain ⟨ad,B0,m0,d0,B1,m1,d1,K2,n2,c2,hA,hadb,hnd,hkt⟩:=jg.kid H4.out k hlt;subst hA;obtain ⟨e0,e1,e2,e3,e4,e5,e6⟩:=hnd.ext hxw (by rw [ja]; exact hadb);have b6:wr.cell? ⟨w.heap.size,6,none⟩=some (.slice (some ad) t.ks.length c):=hbx.2.2.2.2.2.2;have hsz:=HSZ.out k hlt
        have HC:Hid (Calls Tryz.prog 32 #[.agg #[.int .i64 t.ks[k].kind,.int .i64 t.ks[k].rel,.int .i64 t.ks[k].p.lv,.bool t.ks[k].p.neg,.slice B0 m0 d0,.slice B1 m1 d1,.slice K2 n2 c2]] wr.drew (yae (fun b=>wr.drew.heap.size<=b) t.ks[k].nrm wr.drew)):=
         IH.out q t.ks[k] _ wr.drew (by omega) (by omega) (kae HSM.out (List.getElem_mem hlt)) (hkt.ext hxw.drew)
        have HNEXT:=Lib.hid hnext;have HTK:Hid ((t.ks.take (k+1)).map Mx.nrm=(t.ks.take k).map Mx.nrm ++ [t.ks[k].nrm]):=by
         have:(t.ks.take (k+1)).map Mx.nrm=(t.ks.take k).map Mx.nrm ++ [t.ks[k].nrm]:=by rw [List.take_succ_eq_append_getElem hlt,List.map_append]; rfl
         exact this
        clear hnext hxw hbx hnd hkt hadb hsz hln;generalize t.ks[k].nrm=tk at *;go_upto_region 15 with fail
        go_region_law (first
         | (go_simp
            go_at_call 32
            refine HC.out.mono ?_;rintro e w3 ⟨v3,rfl,t3,x3⟩;have y3:Ext wr w3:=Ext.trans ((Ext.refl wr).drew) x3;obtain ⟨C0,j0,f0,C1,j1,f1,C2,f2,rfl,-⟩:=id t3.open_;obtain ⟨AV',cv',w4,hrun,h6,hf6,hgn⟩:=HNEXT.out w3 _ _ _ _ _ _ _ _ _ _ 43 y3 t3;have HGN:=Lib.hid hgn;have g6:w3.cell? ⟨w.heap.size+1+1,6,none⟩=some (.slice AV k cv):=(y3.cell (p:=⟨w.heap.size+1+1,6,none⟩) (by show w.heap.size+1+1 < _; omega)).trans hv6;have hs3:w.heap.size+1+1 < w3.heap.size:=by have:=y3.size; omega
            unfold mxV
            clear hgn t3 x3 y3)
         | (refine yab rfl (.tmp 39) (.tmp 46) 43 43 rfl _ _ _ _ (by simp [Act.eval,Act.put]) (by simp [Act.eval,Act.put]) hrun ?_))
        all_goals
         have hgn2:=HGN.out;rw [<- HTK.out] at hgn2;have HN:=Lib.hid hgn2;clear hgn2 HGN hrun h6 hf6 g6 hs3 HNEXT HC HTK;go_wp2_with fail
         go_roundw
         case rel=>exact ⟨k+1,by omega,by go_num,HN⟩
         case measure=>simp [intOf]; omega
      · have hke:k=t.ks.length:=by omega
        subst hke;have hg:=HG.out;rw [List.take_length] at hg;obtain ⟨AV,cv,⟨x0,x1,x2,x3,x4,x5,x6⟩,hz,hm⟩:=hg.fin;have hlm:(t.ks.map Mx.nrm).length=t.ks.length:=List.length_map _;rw [hlm] at hm x6;have hf:=xaj (m:=.mk t.kind 0 Pl.zero (t.ks.map Mx.nrm)) (q':=fun b=>w.heap.size<=b) hg.1 (Nat.le_succ _) hz hm (fun b _ hb=>⟨by omega,by omega⟩);have HF:=Lib.hid (yae.congr HNR.out hf);obtain ⟨⟨z0,z1,z2,z3,z4,z5,z6⟩,zf⟩:=hz;have d6:wr.cell? ⟨w.heap.size,6,none⟩=some (.slice K t.ks.length c):=hg.2.2.1.2.2.2.2.2.2
        replace x0:wr.cell? ⟨w.heap.size+1+1,0,none⟩=some (.int .i64 t.kind):=x0
        replace x1:wr.cell? ⟨w.heap.size+1+1,1,none⟩=some (.int .i64 0):=x1
        replace x2:wr.cell? ⟨w.heap.size+1+1,2,none⟩=some (.int .i64 0):=x2
        replace x3:wr.cell? ⟨w.heap.size+1+1,3,none⟩=some (.bool false):=x3
        replace z0:wr.cell? ⟨w.heap.size+1,0,none⟩=some (.int .i64 0):=z0
        replace z1:wr.cell? ⟨w.heap.size+1,1,none⟩=some (.int .i64 0):=z1
        replace z2:wr.cell? ⟨w.heap.size+1,2,none⟩=some (.int .i64 0):=z2
        replace z3:wr.cell? ⟨w.heap.size+1,3,none⟩=some (.bool false):=z3
        clear hf hm hg HG HG0 hlm HNR;go_wp2_with fail;exact bodyPost_ret (v:=mxV (.mk t.kind 0 Pl.zero (t.ks.map Mx.nrm)) (.slice none 0 0) (.slice none 0 0) (.slice AV t.ks.length cv)) (by simp [results,Tryz.results32,go_sem,z0,z1,z2,z3,z4,z5,z6,mxV,Mx.kind,Mx.rel,Mx.p,Pl.zero,Pl.lv,Pl.neg]) rfl HF.out
 · have hnr:=HNRM.out;rw [if_neg k1,if_neg k2,if_neg k34] at hnr;have HF:=Lib.hid (yae.congr hnr (xaj (q':=fun b=>w.heap.size<=b) HWX.out (Nat.le_succ _) HZ.out (xbo W (fun _=>False) 0 0) (fun b _ h=>h.elim)));have q1:(t.kind == 1)=false:=by simpa using k1
   have q2:(t.kind == 2)=false:=by simpa using k2
   have q3:(t.kind == 3)=false:=by simp; omega
   have q4:(t.kind == 4)=false:=by simp; omega
   clear k1 k2 k34 hnr HNRM;go_wp2_with fail;exact bodyPost_ret (v:=mxV (.mk 0 0 Pl.zero []) (.slice none 0 0) (.slice none 0 0) (.slice none 0 0)) (by simp [results,Tryz.results32,go_sem,z0,z1,z2,z3,z4,z5,z6,mxV,Mx.kind,Mx.rel,Mx.p,Pl.zero,Pl.lv,Pl.neg]) rfl HF.out
theorem kbg {q:Nat->Prop} (t:Mx) (v:Value) (w:World) (hbig:t.sz<=1000000) (hsm:t.small) (h:MxV w q t v):Calls Tryz.prog 32 #[v] w (yae (fun b=>w.heap.size<=b) t.nrm w):=
 xcj (t.sz+1) q t v w (Nat.lt_succ_self _) hbig hsm h
/- Layer 1 (natural): division by one digit, shifts. -/
theorem ycm (d r x q:Nat) (hq:q=(r * B32+x) / d) (V Z X:Nat) (h:V=d * Z+r) (hX:X=x+B32 * V):X=d * (q+B32 * Z)+(r * B32+x) % d:=by
 have e:=Nat.div_add_mod (r * B32+x) d;rw [<- hq] at e;have e2:B32 * V=d * (B32 * Z)+r * B32:=by rw [h,Nat.mul_add,Nat.mul_left_comm,Nat.mul_comm B32 r]
 rw [hX,Nat.mul_add];omega
end Go.Proofs.YtaedbimbbeploaaGreatDoor
