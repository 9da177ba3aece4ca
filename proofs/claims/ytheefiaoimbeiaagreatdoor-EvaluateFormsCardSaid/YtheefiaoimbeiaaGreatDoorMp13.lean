/- Layer 22: recpoly.isLevel, isZero, isCanonical. -/
import Derived.Test.YtheefiaoimbeiaaGreatDoorMp12
set_option linter.unusedSimpArgs false
set_option linter.unusedVariables false

set_option maxRecDepth 100000
set_option maxHeartbeats 8000000
namespace Go.Proofs.YtheefiaoimbeiaaGreatDoor
open Lib (hid)
open Go.RowKit
theorem yef (l:Int) (w:World):Calls Tryz.prog 132 #[.int .i64 l] w fun e w'=>e=.returned (.bool (decide (1<=l) && decide (l<=4)))/\w'=w:=by
 by_cases h:1<=l
 · go_enter Tryz.func132,Tryz.ntmps132;go_wp2_with fail;go_ret;simp [h]
 · go_enter Tryz.func132,Tryz.ntmps132;go_wp2_with fail;go_ret;have h':l < 1:=by omega
   simp [h]; omega
theorem gd0 {w:World} {q:Nat->Prop} (p:Pl) (v:Value) (h:PlV w q p v):Calls Tryz.prog 146 #[v] w fun e w'=>e=.returned (.bool p.xw)/\Ext w w':=by
 obtain ⟨A0,n0,c0,A,c,rfl,⟨A0',c0',e,-,-,-⟩,hl1,hl2,h4⟩:=h.open_;injection e with e1 e2 e3
 subst e1 e2 e3;have HX:Hid (∀ o,Ext w (w.alloc o)):=fun o=>(Ext.refl w).alloc o
 unfold plV Pl.xw;clear h h4
 by_cases hl:p.lv=0
 · go_enter Tryz.func146,Tryz.ntmps146;go_wp2_with fail;go_ret;exact ⟨by simp [hl]; cases p.ds <;> simp <;> omega,HX.out _⟩
 · go_enter Tryz.func146,Tryz.ntmps146;go_wp2_with fail;go_ret;exact ⟨by simp [hl],HX.out _⟩
def ugi (w0:World) (q:Nat->Prop) (n:Nat):Prop:=∀ (p:Pl) (v:Value) (w:World),p.sz < n->PlV w0 q p v->Ext w0 w->Calls Tryz.prog 127 #[v] w fun e w'=>e=.returned (.bool p.qu)/\Ext w w'
theorem vfj {w0 w:World} {q:Nat->Prop} (p:Pl) (v:Value) (h:PlV w0 q p v) (hx0:Ext w0 w) (hl:p.lv=0):Calls Tryz.prog 127 #[v] w fun e w'=>e=.returned (.bool p.qu)/\Ext w w':=by
 obtain ⟨A0,n0,c0,A,c,rfl,⟨A0',c0',e,hd1,hd2,hd⟩,hl1,hl2,h4⟩:=h.open_;injection e with e1 e2 e3
 subst e1 e2 e3;obtain ⟨l,ng,ds,cs⟩:=p
 change l=0 at hl
 subst hl;have HX:Hid (∀ o,Ext w (w.alloc o)):=fun o=>(Ext.refl w).alloc o
 have HDX:Hid (ydm (w.alloc (.cells #[.int .i64 0,.bool ng,.slice A0 ds.length c0,.slice A cs.length c] 44)) A0 ds):=hd.ext (hx0.trans ((Ext.refl w).alloc _));simp only [Pl.cs,Pl.ds,Pl.lv,Pl.neg,plV] at *;clear h h4 hd
 by_cases hc:0 < cs.length
 · have HF:Hid ((Pl.mk 0 ng ds cs).qu=false):=by
    have:(Pl.mk 0 ng ds cs).qu=false:=by rw [Pl.qu,if_pos rfl,if_pos hc]
    exact this
   go_enter Tryz.func127,uR;go_wp2_with fail;go_ret;exact ⟨by rw [HF.out]; rfl,HX.out _⟩
 · have HF:Hid ((Pl.mk 0 ng ds cs).qu=((decide (ds.length=0) && !ng) || (decide (0 < ds.length) && decide (ds.getLast? ≠ some 0)))):=by
    have:(Pl.mk 0 ng ds cs).qu=((decide (ds.length=0) && !ng) || (decide (0 < ds.length) && decide (ds.getLast? ≠ some 0))):=by rw [Pl.qu,if_pos rfl,if_neg hc]
    exact this
   by_cases hds:0 < ds.length
   · obtain ⟨ad,x,rfl,hb,abZ,hx,HG⟩:=HDX.out.qt (ds.length - 1) (by omega);obtain ⟨k,hk⟩:∃ k:Nat,ds.length - 1=k:=⟨_,rfl⟩;have hk2:ds.length=k+1:=by omega
     rw [hk] at abZ HG;have HG2:Hid (ds.getLast?=some x):=by
      have:ds.getLast?=some x:=by rw [sH,hk]; exact HG.out
      exact this
     generalize ds.length=N at *;subst hk2;have hwr:IntKind.i64.wrap (((k+1:Nat):Int) - 1)=k:=by simp [IntKind.wrap,IntKind.bits,IntKind.signed]; omega
     go_enter Tryz.func127,uR;go_wp2_with fail;go_ret;exact ⟨by rw [HF.out,HG2.out]; simp; by_cases hx0:x=0 <;> simp [hx0] <;> omega,HX.out _⟩
   · have hN:ds.length=0:=by omega
     rw [hN] at HF HDX;rw [hN];cases ng
     · go_enter Tryz.func127,uR;go_wp2_with fail;go_ret;exact ⟨by rw [HF.out]; rfl,HX.out _⟩
     · go_enter Tryz.func127,uR;go_wp2_with fail;go_ret;exact ⟨by rw [HF.out]; rfl,HX.out _⟩
theorem zf4 (w0:World) (q:Nat->Prop) (n:Nat):ugi w0 q n:=by
 induction n with
 | zero=>intro p v w h; omega
 | succ n ih =>
 intro p v w hn h hx0
 by_cases hl:p.lv=0
 · exact vfj p v h hx0 hl
 obtain ⟨A0,n0,c0,A,c,rfl,⟨A0',c0',e,hd1,hd2,hd⟩,hl1,hl2,h4⟩:=h.open_;injection e with e1 e2 e3
 subst e1 e2 e3;obtain ⟨l,ng,ds,cs⟩:=p;simp only [Pl.cs,Pl.ds,Pl.lv,Pl.neg,plV] at *;have IH:=hid ih;have H4:=hid h4;have HX0:=hid hx0;have HSZ:Hid (∀ k (hk:k < cs.length),cs[k].sz < n):=by
  have:∀ k (hk:k < cs.length),cs[k].sz < n:=fun k hk=>by
   have h1:=keh (pt hk);have h2:(Pl.mk l ng ds cs).sz=zdx cs+1:=by rw [Pl.sz]
   omega
  exact this
 clear h h4 hd ih hx0;obtain ⟨W,hW⟩:=n_m (w.alloc (.cells #[.int .i64 l,.bool ng,.slice A0 ds.length c0,.slice A cs.length c] 44));have hWx:Ext w W:=by rw [<- hW]; exact (Ext.refl w).alloc _
 have hWs:W.heap.size=w.heap.size+1:=by rw [<- hW]; simp
 have hbx:jdm W w.heap.size (.mk l ng ds cs) (.slice A0 ds.length c0) (.slice A cs.length c):=by rw [<- hW]; exact jdm.new w (.mk l ng ds cs) _ _ _
 have HWX:=hid hWx;have HBX:=hid hbx;obtain ⟨b0,b1,b2,b3⟩:=hbx;simp only [Pl.lv,Pl.neg] at b0 b1;have hl0:(l == 0)=false:=by simpa using hl
 by_cases hg:(l < 1\/4 < l)\/0 < ds.length\/ng=true\/cs.length < 2
 · have HF:Hid ((Pl.mk l ng ds cs).qu=false):=by
    have:(Pl.mk l ng ds cs).qu=false:=by rw [Pl.qu,if_neg hl,if_pos hg]
    exact this
   clear hWx;go_enter Tryz.func127,uR;go_wp2_with fail;refine (yef l _).mono ?_;rintro e w1 ⟨rfl,rfl⟩
   by_cases hg1:1<=l/\l<=4
   · have hg2:(decide (1<=l) && decide (l<=4))=true:=by simp [hg1]
     rw [hg2]
     by_cases hg3:0 < ds.length
     · have hg4:decide ((ds.length:Int) > 0)=true:=decide_eq_true (by omega);go_wp2_with fail;go_ret;exact ⟨by rw [HF.out]; rfl,HWX.out⟩
     · obtain rfl:ds=[]:=pV (by omega);simp only [pQ] at *;cases ng
       · have hg5:decide ((cs.length:Int) < 2)=true:=decide_eq_true (by
          have:cs.length < 2:=by
           rcases hg with h | h | h | h
           · omega
           · exact absurd h (by decide)
           · cases h
           · exact h
          omega)
         go_wp2_with fail;go_ret;exact ⟨by rw [HF.out]; rfl,HWX.out⟩
       · go_wp2_with fail;go_ret;exact ⟨by rw [HF.out]; rfl,HWX.out⟩
   · have hg2:(decide (1<=l) && decide (l<=4))=false:=by simp at hg1 ⊢; omega
     rw [hg2];go_wp2_with fail;go_ret;exact ⟨by rw [HF.out]; rfl,HWX.out⟩
 · have hg2:(decide (1<=l) && decide (l<=4))=true:=by simp; omega
   obtain rfl:ds=[]:=pV (by omega);have hng:ng=false:=by
    cases ng
    · rfl
    · exact absurd (.inr (.inr (.inl rfl))) hg
   have hg5:decide ((cs.length:Int) < 2)=false:=decide_eq_false (by omega);have hlen:2<=cs.length:=by omega
   have HG:=hid hg;have HL:=hid hl;subst hng;clear hWx hg;simp only [pQ] at *;go_enter Tryz.func127,uR;go_wp2_with fail;refine (yef l _).mono ?_;rintro e w1 ⟨rfl,rfl⟩;rw [hg2];go_wp2_with fail;clear hW b0 b1 b2 b3
   go_loopw [63] (fun iv wr=>∃ k:Nat,k<=cs.length/\iv=.int .i64 k/\Hid ((∀ c ∈ cs.take k,c.lv < l/\c.qu=true)/\Ext w1 wr)) (fun iv _=>cs.length - (intOf iv).toNat)
   case atStart=>exact ⟨0,pM _,rfl,⟨by simp,Ext.refl _⟩⟩
   case round =>
    obtain ⟨k,hk,rfl,⟨acl,hx⟩⟩:=hrel;have aec:=hid acl;have HX:=hid hx;obtain ⟨b0,b1,b2,b3⟩:=HBX.out.ext hx (by omega);simp only [Pl.lv,Pl.neg] at b0 b1;have hws:w.heap.size < wr.heap.size:=by have:=hx.size; omega
    by_cases hlt:k < cs.length
    · obtain ⟨ad,B0,m0,d0,B1,m1,d1,rfl,abW,hnd,hkt⟩:=jdk.kid H4.out k hlt;have hxx:Ext w0 wr:=(HX0.out.trans HWX.out).trans hx;obtain ⟨e0,e1,e2,e3⟩:=hnd.ext hxx (by rw [zc1]; exact abW);have hsz:=HSZ.out k hlt;have HC:=hid (fun W (hxW:Ext wr W)=>IH.out cs[k] _ W hsz hkt (hxx.trans hxW));have agt:Hid (l<=cs[k].lv\/cs[k].qu=false->(Pl.mk l false [] cs).qu=false):=fun h=>Pl.yf HL.out (pt hlt) h
      have amc:Hid (cs[k].lv < l->cs[k].qu=true->∀ c ∈ cs.take (k+1),c.lv < l/\c.qu=true):=fun h1 h2 c hc=>by
       rw [pg hlt] at hc;rcases rq.1 hc with hc | hc
       · exact aec.out c hc
       · rw [rb.1 hc]; exact ⟨h1,h2⟩
      generalize cs[k]=ck at *;clear hx acl hnd hkt abW hsz hxx
      by_cases hlv:l<=ck.lv
      · have hq:decide (ck.lv ≥ l)=true:=by simpa using hlv
        go_wp2_with fail;go_ret;exact ⟨by rw [agt.out (.inl hlv)]; rfl,(HWX.out.trans HX.out).alloc _⟩
      · have hq:decide (ck.lv ≥ l)=false:=by simpa using hlv
        go_wp2_with fail;refine (HC.out _ ((Ext.refl _).alloc _)).mono ?_;rintro e w2 ⟨rfl,x2⟩;have X2:Hid (Ext w1 w2):=(HX.out.trans ((Ext.refl _).alloc _)).trans x2;clear x2 HC;cases hci:ck.qu
        · go_wp2_with fail;go_ret;exact ⟨by rw [agt.out (.inr hci)]; rfl,HWX.out.trans X2.out⟩
        · go_wp2_with fail
          go_roundw
          case rel=>exact ⟨k+1,by omega,by go_num,amc.out (by omega) hci,X2.out⟩
          case measure=>simp [intOf]; omega
    · have hke:k=cs.length:=by omega
      rw [hke,pw] at aec;obtain ⟨j,hj⟩:∃ j:Nat,cs.length=j+1:=⟨cs.length - 1,by omega⟩;have hjl:j < cs.length:=by omega
      obtain ⟨ad,B0,m0,d0,B1,m1,d1,rfl,abW,hnd,hkt⟩:=jdk.kid H4.out j hjl;have hxx:Ext w0 wr:=(HX0.out.trans HWX.out).trans hx;obtain ⟨e0,e1,e2,e3⟩:=hnd.ext hxx (by rw [zc1]; exact abW);have HKT:=hid (hkt.ext hxx);have ach:Hid ((Pl.mk l false [] cs).qu=!(cs[j]).xw):=by
       have h:=Pl.ye (n:=false) (d:=[]) HL.out HG.out aec.out (by omega);have hj':cs.length - 1=j:=by omega
       simp only [hj'] at h;exact h
      generalize cs[j]=cj at *;rw [hj] at hke;subst hke;have hwr:IntKind.i64.wrap (((j+1:Nat):Int) - 1)=j:=by simp [IntKind.wrap,IntKind.bits,IntKind.signed]; omega
      clear hx acl hnd hkt abW hxx;rw [hj];go_wp2_with fail;refine (gd0 _ _ HKT.out).mono ?_;rintro e w2 ⟨rfl,x2⟩;have X2:=hid (HX.out.trans x2);clear x2;go_wp2_with fail;go_ret;exact ⟨by rw [ach.out]; rfl,HWX.out.trans X2.out⟩
theorem kfr {w:World} {q:Nat->Prop} (p:Pl) (v:Value) (h:PlV w q p v):Calls Tryz.prog 127 #[v] w fun e w'=>e=.returned (.bool p.qu)/\Ext w w':=
 zf4 w q (p.sz+1) p v w (pO _) h (Ext.refl w)
def gdl (q:Nat->Prop) (p:Pl) (w:World) (e:Ending) (w':World):Prop:=∃ v,e=.returned v/\PlV w' q p v/\Ext w w'
theorem Pl.qV (w:World) (q:Nat->Prop) (A:Option Addr) (c:Nat) (hc:c<=9223372036854775807):PlV w q Pl.zero (plV Pl.zero (.slice none 0 0) (.slice A 0 c)):=
 PlV.mk (t:=Pl.zero) (c:=c) (zb1.nil w) (by simp [Pl.zero,Pl.cs]) hc (by unfold Pl.zero Pl.cs jdk; trivial)
def yd9 (W:World) (q:Nat->Prop) (R:Nat) (l:List Pl):Prop:=
 R < W.heap.size/\(∀ i,W.frozen? ⟨R,i,none⟩=false)/\∀ i (h:i < l.length),∃ A0 n0 c0 A1 n1 c1,qdw W ⟨R,i * 4,none⟩ l[i] (.slice A0 n0 c0) (.slice A1 n1 c1)/\PlV W (fun b=>q b/\b ≠ R) l[i] (plV l[i] (.slice A0 n0 c0) (.slice A1 n1 c1))
section
variable {W W':World} {q q':Nat->Prop} {R:Nat} {l:List Pl}
theorem yd9.ext (h:yd9 W q R l) (hx:Ext W W'):yd9 W' q R l:=by
 obtain ⟨h1,h2,h3⟩:=h;refine ⟨pr h1 hx.size,fun i=>(hx.frozen (p:=⟨R,i,none⟩) h1).trans (h2 i),fun i hi=>?_⟩;obtain ⟨A0,n0,c0,A1,n1,c1,h4,h5⟩:=h3 i hi;exact ⟨A0,n0,c0,A1,n1,c1,h4.ext hx h1,h5.ext hx⟩
theorem yd9.fin (h:yd9 W q R l) (hR:q R):jdk W q l (some ⟨R,0,none⟩) 0:=by
 obtain ⟨h1,h2,h3⟩:=h;refine jdk.of l _ 0 fun i hi=>?_
 obtain ⟨A0,n0,c0,A1,n1,c1,h4,h5⟩:=h3 i hi;refine ⟨⟨R,0,none⟩,_,_,rfl,h1,hR,?_,h5.mono fun b hb=>hb.1⟩;rw [kdo,pH,pH];exact h4
theorem yd9.qG (h:yd9 W q R l) (k:Nat) (hk:k < l.length) (p:Pl) {A0 A1:Option Addr} {n0 c0 n1 c1:Nat} (hp:PlV W (fun b=>q b/\b ≠ R) p (plV p (.slice A0 n0 c0) (.slice A1 n1 c1))) :
 yd9 ((((W.setCell ⟨R,k * 4,none⟩ (.int .i64 p.lv)).setCell ⟨R,k * 4+1,none⟩ (.bool p.neg)).setCell ⟨R,k * 4+2,none⟩ (.slice A0 n0 c0)).setCell ⟨R,k * 4+3,none⟩ (.slice A1 n1 c1)) q R (l.set k p) /\
 ∀ v ds,zb1 W v ds->zb1 ((((W.setCell ⟨R,k * 4,none⟩ (.int .i64 p.lv)).setCell ⟨R,k * 4+1,none⟩ (.bool p.neg)).setCell ⟨R,k * 4+2,none⟩ (.slice A0 n0 c0)).setCell ⟨R,k * 4+3,none⟩ (.slice A1 n1 c1)) v ds:=by
 obtain ⟨h1,h2,h3⟩:=h;obtain ⟨B0,m0,d0,B1,m1,d1,⟨g0,g1,g2,g3⟩,-⟩:=h3 k hk;simp only at g0 g1 g2 g3;obtain ⟨W1,hW1⟩:=n_m (W.setCell ⟨R,k * 4,none⟩ (.int .i64 p.lv));obtain ⟨W2,hW2⟩:=n_m (W1.setCell ⟨R,k * 4+1,none⟩ (.bool p.neg));obtain ⟨W3,hW3⟩:=n_m (W2.setCell ⟨R,k * 4+2,none⟩ (.slice A0 n0 c0));obtain ⟨W4,hW4⟩:=n_m (W3.setCell ⟨R,k * 4+3,none⟩ (.slice A1 n1 c1));rw [hW1,hW2,hW3,hW4];have e1:∀ i,i ≠ k * 4->W1.cell? ⟨R,i,none⟩=W.cell? ⟨R,i,none⟩:=fun i hi=>by rw [<- hW1,pe _ _ _ _ (by intro e; injection e; omega)]
 have e2:∀ i,i ≠ k * 4+1->W2.cell? ⟨R,i,none⟩=W1.cell? ⟨R,i,none⟩:=fun i hi=>by rw [<- hW2,pe _ _ _ _ (by intro e; injection e; omega)]
 have e3:∀ i,i ≠ k * 4+2->W3.cell? ⟨R,i,none⟩=W2.cell? ⟨R,i,none⟩:=fun i hi=>by rw [<- hW3,pe _ _ _ _ (by intro e; injection e; omega)]
 have e4:∀ i,i ≠ k * 4+3->W4.cell? ⟨R,i,none⟩=W3.cell? ⟨R,i,none⟩:=fun i hi=>by rw [<- hW4,pe _ _ _ _ (by intro e; injection e; omega)]
 have s1:W1.cell? ⟨R,k * 4,none⟩=some (.int .i64 p.lv):=by rw [<- hW1]; exact pG _ _ _ g0
 have q1:W1.cell? ⟨R,k * 4+1,none⟩=some (.bool l[k].neg):=(e1 _ (by omega)).trans g1;have s2:W2.cell? ⟨R,k * 4+1,none⟩=some (.bool p.neg):=by rw [<- hW2]; exact pG _ _ _ q1
 have q2:W2.cell? ⟨R,k * 4+2,none⟩=some (.slice B0 m0 d0):=((e2 _ (by omega)).trans (e1 _ (by omega))).trans g2;have s3:W3.cell? ⟨R,k * 4+2,none⟩=some (.slice A0 n0 c0):=by rw [<- hW3]; exact pG _ _ _ q2
 have q3:W3.cell? ⟨R,k * 4+3,none⟩=some (.slice B1 m1 d1):=((e3 _ (by omega)).trans ((e2 _ (by omega)).trans (e1 _ (by omega)))).trans g3;have s4:W4.cell? ⟨R,k * 4+3,none⟩=some (.slice A1 n1 c1):=by rw [<- hW4]; exact pG _ _ _ q3
 have abM:∀ v ds,zb1 W v ds->zb1 W4 v ds:=fun v ds hv=>by
  rw [<- hW4];refine zb1.box ?_ q3 rfl _;rw [<- hW3];refine zb1.box ?_ q2 rfl _;rw [<- hW2];refine zb1.box ?_ q1 rfl _;rw [<- hW1];exact hv.box g0 rfl _
 have afg:∀ b,b ≠ R->W4.heap[b]?=W.heap[b]?:=fun b hb=>by
  rw [<- hW4,<- hW3,<- hW2,<- hW1];rw [Below.heap_setCell _ _ _ b hb,Below.heap_setCell _ _ _ b hb,Below.heap_setCell _ _ _ b hb,Below.heap_setCell _ _ _ b hb]
 have hsz:W4.heap.size=W.heap.size:=by rw [<- hW4,<- hW3,<- hW2,<- hW1]; simp [World.setCell]
 have hfr:∀ i,W4.frozen? ⟨R,i,none⟩=false:=fun i=>by rw [<- hW4,<- hW3,<- hW2,<- hW1]; simp only [pJ]; exact h2 i
 refine ⟨⟨by omega,hfr,fun i hi=>?_⟩,abM⟩;rw [pN] at hi;have keep:∀ t v,PlV W (fun b=>q b/\b ≠ R) t v->PlV W4 (fun b=>q b/\b ≠ R) t v:=fun t v ht=>PlV.qO (by omega) abM (fun b hb hq=>⟨hq,afg b hq.2⟩) ht
 by_cases hik:i=k
 · subst hik;rw [sy];refine ⟨A0,n0,c0,A1,n1,c1,⟨?_,?_,?_,s4⟩,keep _ _ hp⟩
   · exact (e4 (i * 4) (by omega)).trans ((e3 (i * 4) (by omega)).trans ((e2 (i * 4) (by omega)).trans s1))
   · exact (e4 (i * 4+1) (by omega)).trans ((e3 (i * 4+1) (by omega)).trans s2)
   · exact (e4 (i * 4+2) (by omega)).trans s3
 · rw [uY (Ne.symm hik)];obtain ⟨C0,j0,f0,C1,j1,f1,h4,h5⟩:=h3 i hi;have far:∀ j,j < 4->W4.cell? ⟨R,i * 4+j,none⟩=W.cell? ⟨R,i * 4+j,none⟩:=fun j hj=>(e4 _ (by omega)).trans ((e3 _ (by omega)).trans ((e2 _ (by omega)).trans (e1 _ (by omega))))
   exact ⟨C0,j0,f0,C1,j1,f1,h4.same (far 0 (by omega)) (fun n hn=>far n hn),keep _ _ h5⟩
end
theorem yez:(Tryz.prog.info? 44).map (fun i=>(i.zero,i.size,i.bytes))=some (some (.agg #[.int .i64 0,.bool false,.slice none 0 0,.slice none 0 0]),4,64):=by kernel_rfl
theorem jd9 (n:Int) (h0:0<=n) (h1:n<=1099511627776) (w:World) :
 ∃ w',(Instr.makeSlice 42 (.int .i64 n) (.int .i64 n)).run Tryz.prog w=.ok (.slice (some ⟨w.heap.size,0,none⟩) n.toNat n.toNat) w'/\Ext w w'/\w'.heap.size=w.heap.size+1/\∀ q,yd9 w' q w.heap.size (List.replicate n.toNat Pl.zero):=by
 obtain ⟨i0,hi,hz0,hz1,hz2⟩:=info_parts yez;refine ⟨_,run_make w 42 44 i0 _ Tryz.underlying42 hi hz0 .i64 .i64 n n h0 (by omega) (by rw [hz2]; omega) (by omega),(Ext.refl w).alloc _,by simp,fun q=>⟨by simp,fun i=>by simp [go_sem],fun i hi2=>?_⟩⟩;rw [rp] at hi2;have hc:∀ j,j < 4->(w.alloc (.cells (madeCells (Value.agg #[.int .i64 0,.bool false,.slice none 0 0,.slice none 0 0]).cells (n.toNat * i0.size)) 44)).cell? ⟨w.heap.size,i * 4+j,none⟩=#[Value.int .i64 0,.bool false,.slice none 0 0,.slice none 0 0][j]?:=by
  intro j hj;have hlt:i * 4+j < n.toNat * 4:=by omega
  have alA:(i * 4+j) % 4=j:=by omega
  rw [cell_of_row _ _ (i * 4+j) _ _ (0,0) (heap_alloc_new w _)];rw [hz1];unfold madeCells;rw [Array.getElem?_map,Array.getElem?_range,if_pos hlt];show some ((#[Value.int .i64 0,.bool false,.slice none 0 0,.slice none 0 0]:Array Value)[(i * 4+j) % 4]!)=_;rw [alA];rcases (show j=0\/j=1\/j=2\/j=3 by omega) with rfl | rfl | rfl | rfl <;> rfl
 rw [List.getElem_replicate];exact ⟨none,0,0,none,0,0,⟨hc 0 (by omega),hc 1 (by omega),hc 2 (by omega),hc 3 (by omega)⟩,Pl.qV _ _ none 0 (by omega)⟩
def zdl (w:World) (g:Nat):Prop:=(w.cell? ⟨g,0,none⟩=some (.int .i64 0)/\w.cell? ⟨g,1,none⟩=some (.bool false)/\w.cell? ⟨g,2,none⟩=some (.slice none 0 0)/\w.cell? ⟨g,3,none⟩=some (.slice none 0 0))/\∀ i,w.frozen? ⟨g,i,none⟩=false
theorem zdl.ext {w w':World} {g:Nat} (h:zdl w g) (hx:Ext w w') (hg:g < w.heap.size):zdl w' g:=by
 obtain ⟨⟨h0,h1,h2,h3⟩,h4⟩:=h;have k:∀ i,w'.cell? ⟨g,i,none⟩=w.cell? ⟨g,i,none⟩:=fun i=>hx.cell (p:=⟨g,i,none⟩) hg
 exact ⟨⟨(k _).trans h0,(k _).trans h1,(k _).trans h2,(k _).trans h3⟩,fun i=>(hx.frozen (p:=⟨g,i,none⟩) hg).trans (h4 i)⟩
theorem zdl.new (w:World) (T:TypeId):zdl (w.alloc (.cells #[.int .i64 0,.bool false,.slice none 0 0,.slice none 0 0] T)) w.heap.size:=by
 refine ⟨⟨?_,?_,?_,?_⟩,fun i=>?_⟩ <;> simp [go_sem]
theorem zdm {w W:World} {g:Nat} {p:Pl} {q q':Nat->Prop} {A0 A1:Option Addr} {n0 c0 n1 c1:Nat} (hx:Ext w W) (hg:w.heap.size<=g) (hz:zdl W g) (hp:PlV W q p (plV p (.slice A0 n0 c0) (.slice A1 n1 c1))) (hq:∀ b,b < W.heap.size->q b->b ≠ g/\q' b) :
 gdl q' p w (.returned (plV p (.slice A0 n0 c0) (.slice A1 n1 c1))) ((((W.setCell ⟨g,0,none⟩ (.int .i64 p.lv)).setCell ⟨g,1,none⟩ (.bool p.neg)).setCell ⟨g,2,none⟩ (.slice A0 n0 c0)).setCell ⟨g,3,none⟩ (.slice A1 n1 c1)):=by
 obtain ⟨⟨z0,z1,z2,z3⟩,-⟩:=hz;refine ⟨_,rfl,?_,(((hx.setCell hg _).setCell hg _).setCell hg _).setCell hg _⟩;refine PlV.qO (by simp [World.setCell]) (fun v ds hv=>?_) (fun b hlt hb=>⟨(hq b hlt hb).2,?_⟩) hp
 · refine (((hv.box z0 rfl _).box (u:=.bool false) ?_ rfl _).box (u:=.slice none 0 0) ?_ rfl _).box (u:=.slice none 0 0) ?_ rfl _
   · rw [pe _ _ _ _ (by simp)]; exact z1
   · rw [pe _ _ _ _ (by simp),pe _ _ _ _ (by simp)]; exact z2
   · rw [pe _ _ _ _ (by simp),pe _ _ _ _ (by simp),pe _ _ _ _ (by simp)]; exact z3
 · have hne:=(hq b hlt hb).1;rw [Below.heap_setCell _ _ _ b hne,Below.heap_setCell _ _ _ b hne,Below.heap_setCell _ _ _ b hne,Below.heap_setCell _ _ _ b hne]
theorem kd1 {α:Type} (L l:List α) (k:Nat) (h:L.take k=l.take k) (hL:k < L.length) (hl:k < l.length):(L.set k l[k]).take (k+1)=l.take (k+1):=by
 have h1:k < (L.set k l[k]).length:=by rw [pN]; exact hL
 rw [pg h1,pg hl,sy,tU (pf _),h]
def gdt : List Int -> Int
 | []=>0
 | z :: r=>z+gdt r
def inr : List Int -> Nat
 | []=>0
 | z :: r=>z.natAbs+inr r
theorem yfb (a b:List Int):gdt (a ++ b)=gdt a+gdt b:=by
 induction a with
 | nil=>simp [gdt]
 | cons x a ih=>rw [rj,gdt,gdt,ih]; omega
theorem jfr (l:List Int) (k:Nat) (h:k < l.length):gdt (l.take (k+1))=gdt (l.take k)+l[k]:=by
 rw [pg h,yfb]; simp [gdt]
theorem jf3 (l:List Int) (k:Nat):(gdt (l.take k)).natAbs<=inr l:=by
 induction l generalizing k with
 | nil=>simp [gdt,inr]
 | cons x l ih =>
   cases k with
   | zero=>simp [gdt]
   | succ k =>
     rw [tt,gdt,inr];have:=ih k;omega
theorem vgf {l:List Int} {z:Int} (h:z ∈ l):z.natAbs<=inr l:=by
 induction l with
 | nil=>cases h
 | cons x l ih =>
   rw [inr];rcases pI.1 h with rfl | h
   · omega
   · have:=ih h; omega
def IsV (w:World) (v:Value) (zs:List Int):Prop:=
 ∃ A c,v=.slice A zs.length c/\zs.length<=c/\c<=9223372036854775807/\∀ k (h:k < zs.length),∃ ad B n d,A=some ad/\ad.block < w.heap.size/\w.cell? (ad.add (k * 2))=some (.bool (decide (zs[k] < 0)))/\w.cell? ⟨(ad.add (k * 2)).block,(ad.add (k * 2)).off+1,none⟩=some (.slice B n d)/\zb1 w (.slice B n d) (dg zs[k].natAbs)
theorem IsV.ext {w w':World} {v:Value} {l:List Int} (h:IsV w v l) (hx:Ext w w'):IsV w' v l:=by
 obtain ⟨A,c,rfl,h1,h2,h3⟩:=h;refine ⟨A,c,rfl,h1,h2,fun k hk=>?_⟩;obtain ⟨ad,B,n,d,rfl,h4,h5,h6,h7⟩:=h3 k hk;have hb:(ad.add (k * 2)).block < w.heap.size:=by rw [zc1]; exact h4
 exact ⟨ad,B,n,d,rfl,pr h4 hx.size,(hx.cell hb).trans h5,(hx.cell (p:=⟨(ad.add (k * 2)).block,(ad.add (k * 2)).off+1,none⟩) hb).trans h6,h7.ext hx⟩
def ved (w:World) (g:Nat) (z:Int):Prop:=(∃ A n c,w.cell? ⟨g,0,none⟩=some (.bool (decide (z < 0)))/\w.cell? ⟨g,1,none⟩=some (.slice A n c)/\zb1 w (.slice A n c) (dg z.natAbs))/\∀ i,w.frozen? ⟨g,i,none⟩=false
theorem ved.ext {w w':World} {g:Nat} {z:Int} (h:ved w g z) (hx:Ext w w') (hg:g < w.heap.size):ved w' g z:=by
 obtain ⟨⟨A,n,c,h1,h2,h3⟩,h4⟩:=h;exact ⟨⟨A,n,c,(hx.cell (p:=⟨g,0,none⟩) hg).trans h1,(hx.cell (p:=⟨g,1,none⟩) hg).trans h2,h3.ext hx⟩,fun i=>(hx.frozen (p:=⟨g,i,none⟩) hg).trans (h4 i)⟩
theorem ved.set {w:World} {g:Nat} {z y:Int} {A:Option Addr} {n c:Nat} (h:ved w g z) (hy:zb1 w (.slice A n c) (dg y.natAbs)):ved ((w.setCell ⟨g,0,none⟩ (.bool (decide (y < 0)))).setCell ⟨g,1,none⟩ (.slice A n c)) g y:=by
 obtain ⟨⟨B,m,d,h1,h2,-⟩,h4⟩:=h;have e1:(w.setCell ⟨g,0,none⟩ (.bool (decide (y < 0)))).cell? ⟨g,1,none⟩=some (.slice B m d):=by rw [pe _ _ _ _ (by simp)]; exact h2
 refine ⟨⟨A,n,c,?_,pG _ _ _ e1,(hy.box h1 rfl _).box e1 rfl _⟩,fun i=>?_⟩
 · rw [pe _ _ _ _ (by simp)]; exact pG _ _ _ h1
 · rw [pJ,pJ]; exact h4 i
theorem zf9 {w:World} {v:Value} {zs:List Int} {D:Nat} (h:IsV w v zs) (hn:inr zs < B32 ^ D) (hD:D<=17592186044000):Calls Tryz.prog 125 #[v] w (vdz (gdt zs) w):=by
 have HH:=hid h;obtain ⟨A,c,rfl,h1,h2,-⟩:=h;have HL:Hid (∀ k,(dg (gdt (zs.take k)).natAbs).length<=D):=hid (fun k=>gdk (sC (jf3 zs k) hn));have HZ:Hid (∀ k (hk:k < zs.length),(dg zs[k].natAbs).length<=D):=hid (fun k hk=>gdk (sC (vgf (pt hk)) hn));clear hn;obtain ⟨W,hW⟩:=n_m ((w.alloc (.cells #[.bool false,.slice none 0 0] 25)).alloc (.cells #[.bool false,.slice none 0 0] 25));have hWx:Ext w W:=by rw [<- hW]; exact ((Ext.refl w).alloc _).alloc _
 have hWs:W.heap.size=w.heap.size+1+1:=by rw [<- hW]; simp
 have hb1:ved W w.heap.size 0:=by
  rw [<- hW];refine ⟨⟨none,0,0,by simp [go_sem],by simp [go_sem],by rw [Int.natAbs_zero,jdn]; exact zb1.nil _⟩,fun i=>by simp [go_sem]⟩
 have hb2:ved W (w.heap.size+1) 0:=by
  rw [<- hW];refine ⟨⟨none,0,0,by simp [go_sem],by simp [go_sem],by rw [Int.natAbs_zero,jdn]; exact zb1.nil _⟩,fun i=>by simp [go_sem]⟩
 have HWX:=hid hWx;have HB1:=hid hb1;have HB2:=hid hb2;have HW:=hid hW;clear hWx hb1 hb2 hW;go_enter Tryz.func125,Tryz.ntmps125;go_wp2_with fail;rw [HW.out];clear HW
 go_loopw [9] (fun iv wr=>∃ k:Nat,k<=zs.length/\iv=.int .i64 k/\Hid (Ext w wr/\W.heap.size<=wr.heap.size/\ved wr w.heap.size 0/\ved wr (w.heap.size+1) (gdt (zs.take k)))) (fun iv _=>zs.length - (intOf iv).toNat)
 case atStart=>exact ⟨0,pM _,rfl,⟨HWX.out,pf _,HB1.out,HB2.out⟩⟩
 case round =>
  obtain ⟨k,hk,rfl,⟨hx,hws,hi1,hi2⟩⟩:=hrel;have HX:=hid hx;have HI1:=hid hi1;have HI2:=hid hi2;clear hx hi1
  by_cases hlt:k < zs.length
  · obtain ⟨A',c',e',-,-,h3⟩:=HH.out.ext HX.out;injection e' with e1 e2 e3
    obtain ⟨ad,B,n,d,e4,hb,c0,c1,hnz⟩:=h3 k hlt;obtain rfl:A=some ad:=e1.trans e4;obtain ⟨⟨SA,sn,sc,s0,s1,hs⟩,sf⟩:=hi2;obtain ⟨U,hU⟩:=n_m (wr.alloc (.cells #[.bool (decide (zs[k] < 0)),.slice B n d] 25));have hUx:Ext wr U:=by rw [<- hU]; exact (Ext.refl _).alloc _
    have hUs:U.heap.size=wr.heap.size+1:=by rw [<- hU]; simp
    have u0:U.cell? ⟨wr.heap.size,0,none⟩=some (.bool (decide (zs[k] < 0))):=by rw [<- hU]; simp [go_sem]
    have u1:U.cell? ⟨wr.heap.size,1,none⟩=some (.slice B n d):=by rw [<- hU]; simp [go_sem]
    have s0':=(hUx.cell (p:=⟨w.heap.size+1,0,none⟩) (by show w.heap.size+1 < _; omega)).trans s0;have s1':=(hUx.cell (p:=⟨w.heap.size+1,1,none⟩) (by show w.heap.size+1 < _; omega)).trans s1;have amg:=hid (vew _ _ (gdt (zs.take k)) zs[k] D D U ⟨_,_,_,rfl,hs.ext hUx,by rw [zdk,gd2],HL.out k⟩ ⟨_,_,_,rfl,hnz.ext hUx,by rw [zdk,gd2],HZ.out k hlt⟩ (by omega));have HST:=hid (jfr zs k hlt);have HUX:=hid hUx;clear h3 e1 e3 e4 hnz hs hUx;generalize gdt (zs.take k)=S at *;generalize zs[k]=z at *;go_wp2_with fail;clear hU u0 u1 s0 s1 s0' s1' c0 c1;refine amg.out.mono ?_;rintro e w2 ⟨z2,rfl,⟨y2,rfl,m2⟩,x2⟩;obtain ⟨C2,k2,rfl,-⟩:=id m2;have hs2:=x2.size;have hib:=HI2.out.ext (HUX.out.trans x2) (by omega);have HIB:=hid (hib.set m2);have aw6:Hid (ved ((w2.setCell ⟨w.heap.size+1,0,none⟩ (.bool (decide (S+z < 0)))).setCell ⟨w.heap.size+1,1,none⟩ (.slice C2 (dg (S+z).natAbs).length k2)) w.heap.size 0):=by
     obtain ⟨⟨F,m,f,f0,f1,f2⟩,ff⟩:=HI1.out.ext (HUX.out.trans x2) (by omega);obtain ⟨⟨G,gm,gf,g0,g1,-⟩,-⟩:=hib;have e1:(w2.setCell ⟨w.heap.size+1,0,none⟩ (.bool (decide (S+z < 0)))).cell? ⟨w.heap.size+1,1,none⟩=some (.slice G gm gf):=by rw [pe _ _ _ _ (by simp)]; exact g1
     exact ⟨⟨F,m,f,by rw [pe _ _ _ _ (by simp),pe _ _ _ _ (by simp)]; exact f0,by rw [pe _ _ _ _ (by simp),pe _ _ _ _ (by simp)]; exact f1,(f2.box g0 rfl _).box e1 rfl _⟩,fun i=>by rw [pJ,pJ]; exact ff i⟩
    have HXN:Hid (Ext w ((w2.setCell ⟨w.heap.size+1,0,none⟩ (.bool (decide (S+z < 0)))).setCell ⟨w.heap.size+1,1,none⟩ (.slice C2 (dg (S+z).natAbs).length k2))):=hid (((HX.out.trans (HUX.out.trans x2)).setCell (by show w.heap.size<=w.heap.size+1; omega) _).setCell (by show w.heap.size<=w.heap.size+1; omega) _);obtain ⟨⟨G,gm,gf,g0,g1,-⟩,gff⟩:=hib;clear x2 m2 amg HI1 HI2 sf;go_wp2_with fail
    go_roundw
    case rel=>exact ⟨k+1,by omega,by go_num,⟨HXN.out,by simp [World.setCell]; omega,aw6.out,by rw [HST.out]; exact HIB.out⟩⟩
    case measure=>simp [intOf]; omega
  · have hke:k=zs.length:=by omega
    obtain ⟨⟨SA,sn,sc,s0,s1,hs⟩,sf⟩:=HI2.out;obtain ⟨⟨F,m,f,f0,f1,f2⟩,ff⟩:=HI1.out;rw [hke,pw] at s0 hs;have HF:=hid (jds (g:=w.heap.size) (z:=gdt zs) HX.out (pf _) f0 f1 rfl rfl ⟨_,rfl,hs⟩);clear hke hs hi2 HI1 HI2;generalize gdt zs=S at *;go_wp2_with fail;exact bodyPost_ret (v:=.agg #[.bool (decide (S < 0)),.slice SA sn sc]) (by simp [results,Tryz.results125,go_sem,f0,f1]) rfl HF.out
end Go.Proofs.YtheefiaoimbeiaaGreatDoor
