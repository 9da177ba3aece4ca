/- Layer 22: recpoly.isLevel, isZero, isCanonical. -/
import Derived.Test.YtcfcjabgkfehlaaGreatMf33
set_option linter.unusedSimpArgs false
set_option linter.unusedVariables false

set_option maxRecDepth 100000
set_option maxHeartbeats 8000000
namespace Go.Proofs.YtcfcjabgkfehlaaGreat
open Go.RowKit
theorem wau (l:Int) (w:World):Calls Tryz.prog 61 #[.int .i64 l] w fun e w'=>e=.returned (.bool (decide (1<=l) && decide (l<=4)))/\w'=w:=by
 by_cases h:1<=l
 · go_enter Tryz.func61,Tryz.ntmps61;go_wp2_with fail;go_ret;simp [h]
 · go_enter Tryz.func61,Tryz.ntmps61;go_wp2_with fail;go_ret;have h':l < 1:=by omega
   simp [h]; omega
theorem zao {w:World} {q:Nat->Prop} (p:Pl) (v:Value) (h:PlV w q p v):Calls Tryz.prog 77 #[v] w fun e w'=>e=.returned (.bool p.isZ)/\Ext w w':=by
 obtain ⟨A0,n0,c0,A,c,rfl,⟨A0',c0',e,-,-,-⟩,hl1,hl2,h4⟩:=h.open_;injection e with e1 e2 e3
 subst e1 e2 e3;have HX:Hid (∀ o,Ext w (w.alloc o)):=fun o=>(Ext.refl w).alloc o
 unfold plV Pl.isZ;clear h h4
 by_cases hl:p.lv=0
 · go_enter Tryz.func77,Tryz.ntmps77;go_wp2_with fail;go_ret;exact ⟨by simp [hl]; cases p.ds <;> simp <;> omega,HX.out _⟩
 · go_enter Tryz.func77,Tryz.ntmps77;go_wp2_with fail;go_ret;exact ⟨by simp [hl],HX.out _⟩
def gcs (w0:World) (q:Nat->Prop) (n:Nat):Prop:=∀ (p:Pl) (v:Value) (w:World),p.sz < n->PlV w0 q p v->Ext w0 w->Calls Tryz.prog 106 #[v] w fun e w'=>e=.returned (.bool p.isCan)/\Ext w w'
theorem vby {w0 w:World} {q:Nat->Prop} (p:Pl) (v:Value) (h:PlV w0 q p v) (hx0:Ext w0 w) (hl:p.lv=0):Calls Tryz.prog 106 #[v] w fun e w'=>e=.returned (.bool p.isCan)/\Ext w w':=by
 obtain ⟨A0,n0,c0,A,c,rfl,⟨A0',c0',e,hd1,hd2,hd⟩,hl1,hl2,h4⟩:=h.open_;injection e with e1 e2 e3
 subst e1 e2 e3;obtain ⟨l,ng,ds,cs⟩:=p
 change l=0 at hl
 subst hl;have HX:Hid (∀ o,Ext w (w.alloc o)):=fun o=>(Ext.refl w).alloc o
 have HDX:Hid (ji (w.alloc (.cells #[.int .i64 0,.bool ng,.slice A0 ds.length c0,.slice A cs.length c] 35)) A0 ds):=hd.ext (hx0.trans ((Ext.refl w).alloc _));simp only [Pl.cs,Pl.ds,Pl.lv,Pl.neg,plV] at *;clear h h4 hd
 by_cases hc:0 < cs.length
 · have HF:Hid ((Pl.mk 0 ng ds cs).isCan=false):=by
    have:(Pl.mk 0 ng ds cs).isCan=false:=by rw [Pl.isCan,if_pos rfl,if_pos hc]
    exact this
   go_enter Tryz.func106,Tryz.ntmps106;go_wp2_with fail;go_ret;exact ⟨by rw [HF.out]; rfl,HX.out _⟩
 · have HF:Hid ((Pl.mk 0 ng ds cs).isCan=((decide (ds.length=0) && !ng) || (decide (0 < ds.length) && decide (ds.getLast? ≠ some 0)))):=by
    have:(Pl.mk 0 ng ds cs).isCan=((decide (ds.length=0) && !ng) || (decide (0 < ds.length) && decide (ds.getLast? ≠ some 0))):=by rw [Pl.isCan,if_pos rfl,if_neg hc]
    exact this
   by_cases hds:0 < ds.length
   · obtain ⟨ad,x,rfl,hb,hcell,hx,HG⟩:=HDX.out.get_ (ds.length - 1) (by omega);obtain ⟨k,hk⟩:∃ k:Nat,ds.length - 1=k:=⟨_,rfl⟩;have hk2:ds.length=k+1:=by omega
     rw [hk] at hcell HG;have HG2:Hid (ds.getLast?=some x):=by
      have:ds.getLast?=some x:=by rw [List.getLast?_eq_getElem?,hk]; exact HG.out
      exact this
     generalize ds.length=N at *;subst hk2;have hwr:IntKind.i64.wrap (((k+1:Nat):Int) - 1)=k:=by simp [IntKind.wrap,IntKind.bits,IntKind.signed]; omega
     go_enter Tryz.func106,Tryz.ntmps106;go_wp2_with fail;go_ret;exact ⟨by rw [HF.out,HG2.out]; simp; by_cases hx0:x=0 <;> simp [hx0] <;> omega,HX.out _⟩
   · have hN:ds.length=0:=by omega
     rw [hN] at HF HDX;rw [hN];cases ng
     · go_enter Tryz.func106,Tryz.ntmps106;go_wp2_with fail;go_ret;exact ⟨by rw [HF.out]; rfl,HX.out _⟩
     · go_enter Tryz.func106,Tryz.ntmps106;go_wp2_with fail;go_ret;exact ⟨by rw [HF.out]; rfl,HX.out _⟩
theorem xcg (w0:World) (q:Nat->Prop) (n:Nat):gcs w0 q n:=by
 induction n with
 | zero=>intro p v w h; omega
 | succ n ih =>
 intro p v w hn h hx0
 by_cases hl:p.lv=0
 · exact vby p v h hx0 hl
 obtain ⟨A0,n0,c0,A,c,rfl,⟨A0',c0',e,hd1,hd2,hd⟩,hl1,hl2,h4⟩:=h.open_;injection e with e1 e2 e3
 subst e1 e2 e3;obtain ⟨l,ng,ds,cs⟩:=p;simp only [Pl.cs,Pl.ds,Pl.lv,Pl.neg,plV] at *;have IH:=Lib.hid ih;have H4:=Lib.hid h4;have HX0:=Lib.hid hx0;have HSZ:Hid (∀ k (hk:k < cs.length),cs[k].sz < n):=by
  have:∀ k (hk:k < cs.length),cs[k].sz < n:=fun k hk=>by
   have h1:=uai (List.getElem_mem hk);have h2:(Pl.mk l ng ds cs).sz=uj cs+1:=by rw [Pl.sz]
   omega
  exact this
 clear h h4 hd ih hx0;obtain ⟨W,hW⟩:∃ W,w.alloc (.cells #[.int .i64 l,.bool ng,.slice A0 ds.length c0,.slice A cs.length c] 35)=W:=⟨_,rfl⟩;have hWx:Ext w W:=by rw [<- hW]; exact (Ext.refl w).alloc _
 have hWs:W.heap.size=w.heap.size+1:=by rw [<- hW]; simp
 have hbx:uf W w.heap.size (.mk l ng ds cs) (.slice A0 ds.length c0) (.slice A cs.length c):=by rw [<- hW]; exact uf.new w (.mk l ng ds cs) _ _ _
 have HWX:=Lib.hid hWx;have HBX:=Lib.hid hbx;obtain ⟨b0,b1,b2,b3⟩:=hbx;simp only [Pl.lv,Pl.neg] at b0 b1;have hl0:(l == 0)=false:=by simpa using hl
 by_cases hg:(l < 1\/4 < l)\/0 < ds.length\/ng=true\/cs.length < 2
 · have HF:Hid ((Pl.mk l ng ds cs).isCan=false):=by
    have:(Pl.mk l ng ds cs).isCan=false:=by rw [Pl.isCan,if_neg hl,if_pos hg]
    exact this
   clear hWx;go_enter Tryz.func106,Tryz.ntmps106;go_wp2_with fail;refine (wau l _).mono ?_;rintro e w1 ⟨rfl,rfl⟩
   by_cases hg1:1<=l/\l<=4
   · have hg2:(decide (1<=l) && decide (l<=4))=true:=by simp [hg1]
     rw [hg2]
     by_cases hg3:0 < ds.length
     · have hg4:decide ((ds.length:Int) > 0)=true:=decide_eq_true (by omega);go_wp2_with fail;go_ret;exact ⟨by rw [HF.out]; rfl,HWX.out⟩
     · obtain rfl:ds=[]:=List.eq_nil_of_length_eq_zero (by omega);simp only [List.length_nil] at *;cases ng
       · have hg5:decide ((cs.length:Int) < 2)=true:=decide_eq_true (by
          have:cs.length < 2:=by
           rcases hg with h | h | h | h
           · omega
           · exact absurd h (by decide)
           · cases h
           · exact h
          omega)
         go_wp2_with fail;go_ret;exact ⟨by rw [HF.out]; rfl,HWX.out⟩
       · go_wp2_with fail;go_ret;exact ⟨by rw [HF.out]; rfl,HWX.out⟩
   · have hg2:(decide (1<=l) && decide (l<=4))=false:=by simp at hg1 ⊢; omega
     rw [hg2];go_wp2_with fail;go_ret;exact ⟨by rw [HF.out]; rfl,HWX.out⟩
 · have hg2:(decide (1<=l) && decide (l<=4))=true:=by simp; omega
   obtain rfl:ds=[]:=List.eq_nil_of_length_eq_zero (by omega);have hng:ng=false:=by
    cases ng
    · rfl
    · exact absurd (.inr (.inr (.inl rfl))) hg
   have hg5:decide ((cs.length:Int) < 2)=false:=decide_eq_false (by omega);have hlen:2<=cs.length:=by omega
   have HG:=Lib.hid hg;have HL:=Lib.hid hl;subst hng;clear hWx hg;simp only [List.length_nil] at *;go_enter Tryz.func106,Tryz.ntmps106;go_wp2_with fail;refine (wau l _).mono ?_;rintro e w1 ⟨rfl,rfl⟩;rw [hg2];go_wp2_with fail;clear hW b0 b1 b2 b3
   go_loopw [63] (fun iv wr=>∃ k:Nat,k<=cs.length/\iv=.int .i64 k/\Hid ((∀ c ∈ cs.take k,c.lv < l/\c.isCan=true)/\Ext w1 wr)) (fun iv _=>cs.length - (intOf iv).toNat)
   case atStart=>exact ⟨0,Nat.zero_le _,rfl,⟨by simp,Ext.refl _⟩⟩
   case round =>
    obtain ⟨k,hk,rfl,⟨hall,hx⟩⟩:=hrel;have HALL:=Lib.hid hall;have HX:=Lib.hid hx;obtain ⟨b0,b1,b2,b3⟩:=HBX.out.ext hx (by omega);simp only [Pl.lv,Pl.neg] at b0 b1;have hws:w.heap.size < wr.heap.size:=by have:=hx.size; omega
    by_cases hlt:k < cs.length
    · obtain ⟨ad,B0,m0,d0,B1,m1,d1,rfl,hadb,hnd,hkt⟩:=jd.kid H4.out k hlt;have hxx:Ext w0 wr:=(HX0.out.trans HWX.out).trans hx;obtain ⟨e0,e1,e2,e3⟩:=hnd.ext hxx (by rw [ja]; exact hadb);have hsz:=HSZ.out k hlt;have HC:=Lib.hid (fun W (hxW:Ext wr W)=>IH.out cs[k] _ W hsz hkt (hxx.trans hxW));have HBAD:Hid (l<=cs[k].lv\/cs[k].isCan=false->(Pl.mk l false [] cs).isCan=false):=fun h=>Pl.isCan_bad HL.out (List.getElem_mem hlt) h
      have HGOOD:Hid (cs[k].lv < l->cs[k].isCan=true->∀ c ∈ cs.take (k+1),c.lv < l/\c.isCan=true):=fun h1 h2 c hc=>by
       rw [List.take_succ_eq_append_getElem hlt] at hc;rcases List.mem_append.1 hc with hc | hc
       · exact HALL.out c hc
       · rw [List.mem_singleton.1 hc]; exact ⟨h1,h2⟩
      generalize cs[k]=ck at *;clear hx hall hnd hkt hadb hsz hxx
      by_cases hlv:l<=ck.lv
      · have hq:decide (ck.lv ≥ l)=true:=by simpa using hlv
        go_wp2_with fail;go_ret;exact ⟨by rw [HBAD.out (.inl hlv)]; rfl,(HWX.out.trans HX.out).alloc _⟩
      · have hq:decide (ck.lv ≥ l)=false:=by simpa using hlv
        go_wp2_with fail;refine (HC.out _ ((Ext.refl _).alloc _)).mono ?_;rintro e w2 ⟨rfl,x2⟩;have X2:Hid (Ext w1 w2):=(HX.out.trans ((Ext.refl _).alloc _)).trans x2;clear x2 HC;cases hci:ck.isCan
        · go_wp2_with fail;go_ret;exact ⟨by rw [HBAD.out (.inr hci)]; rfl,HWX.out.trans X2.out⟩
        · go_wp2_with fail
          go_roundw
          case rel=>exact ⟨k+1,by omega,by go_num,HGOOD.out (by omega) hci,X2.out⟩
          case measure=>simp [intOf]; omega
    · have hke:k=cs.length:=by omega
      rw [hke,List.take_length] at HALL;obtain ⟨j,hj⟩:∃ j:Nat,cs.length=j+1:=⟨cs.length - 1,by omega⟩;have hjl:j < cs.length:=by omega
      obtain ⟨ad,B0,m0,d0,B1,m1,d1,rfl,hadb,hnd,hkt⟩:=jd.kid H4.out j hjl;have hxx:Ext w0 wr:=(HX0.out.trans HWX.out).trans hx;obtain ⟨e0,e1,e2,e3⟩:=hnd.ext hxx (by rw [ja]; exact hadb);have HKT:=Lib.hid (hkt.ext hxx);have HFIN:Hid ((Pl.mk l false [] cs).isCan=!(cs[j]).isZ):=by
       have h:=Pl.isCan_fin (n:=false) (d:=[]) HL.out HG.out HALL.out (by omega);have hj':cs.length - 1=j:=by omega
       simp only [hj'] at h;exact h
      generalize cs[j]=cj at *;rw [hj] at hke;subst hke;have hwr:IntKind.i64.wrap (((j+1:Nat):Int) - 1)=j:=by simp [IntKind.wrap,IntKind.bits,IntKind.signed]; omega
      clear hx hall hnd hkt hadb hxx;rw [hj];go_wp2_with fail;refine (zao _ _ HKT.out).mono ?_;rintro e w2 ⟨rfl,x2⟩;have X2:=Lib.hid (HX.out.trans x2);clear x2;go_wp2_with fail;go_ret;exact ⟨by rw [HFIN.out]; rfl,HWX.out.trans X2.out⟩
theorem zbe {w:World} {q:Nat->Prop} (p:Pl) (v:Value) (h:PlV w q p v):Calls Tryz.prog 106 #[v] w fun e w'=>e=.returned (.bool p.isCan)/\Ext w w':=
 xcg w q (p.sz+1) p v w (Nat.lt_succ_self _) h (Ext.refl w)
end Go.Proofs.YtcfcjabgkfehlaaGreat

/- Rows of polynomials that a call makes and fills; what a call that returns a polynomial leaves. -/
namespace Go.Proofs.YtcfcjabgkfehlaaGreat
open Go.RowKit
def qi (q:Nat->Prop) (p:Pl) (w:World) (e:Ending) (w':World):Prop:=∃ v,e=.returned v/\PlV w' q p v/\Ext w w'
theorem Pl.zero_v (w:World) (q:Nat->Prop) (A:Option Addr) (c:Nat) (hc:c<=9223372036854775807):PlV w q Pl.zero (plV Pl.zero (.slice none 0 0) (.slice A 0 c)):=
 PlV.mk (t:=Pl.zero) (c:=c) (jb.nil w) (by simp [Pl.zero,Pl.cs]) hc (by unfold Pl.zero Pl.cs jd; trivial)
def qal (W:World) (q:Nat->Prop) (R:Nat) (l:List Pl):Prop:=
 R < W.heap.size/\(∀ i,W.frozen? ⟨R,i,none⟩=false)/\∀ i (h:i < l.length),∃ A0 n0 c0 A1 n1 c1,xal W ⟨R,i * 4,none⟩ l[i] (.slice A0 n0 c0) (.slice A1 n1 c1)/\PlV W (fun b=>q b/\b ≠ R) l[i] (plV l[i] (.slice A0 n0 c0) (.slice A1 n1 c1))
section
variable {W W':World} {q q':Nat->Prop} {R:Nat} {l:List Pl}
theorem qal.ext (h:qal W q R l) (hx:Ext W W'):qal W' q R l:=by
 obtain ⟨h1,h2,h3⟩:=h;refine ⟨Nat.lt_of_lt_of_le h1 hx.size,fun i=>(hx.frozen (p:=⟨R,i,none⟩) h1).trans (h2 i),fun i hi=>?_⟩;obtain ⟨A0,n0,c0,A1,n1,c1,h4,h5⟩:=h3 i hi;exact ⟨A0,n0,c0,A1,n1,c1,h4.ext hx h1,h5.ext hx⟩
theorem qal.fin (h:qal W q R l) (hR:q R):jd W q l (some ⟨R,0,none⟩) 0:=by
 obtain ⟨h1,h2,h3⟩:=h;refine jd.of l _ 0 fun i hi=>?_
 obtain ⟨A0,n0,c0,A1,n1,c1,h4,h5⟩:=h3 i hi;refine ⟨⟨R,0,none⟩,_,_,rfl,h1,hR,?_,h5.mono fun b hb=>hb.1⟩;rw [jq,Nat.zero_add,Nat.zero_add];exact h4
theorem qal.set_ (h:qal W q R l) (k:Nat) (hk:k < l.length) (p:Pl) {A0 A1:Option Addr} {n0 c0 n1 c1:Nat} (hp:PlV W (fun b=>q b/\b ≠ R) p (plV p (.slice A0 n0 c0) (.slice A1 n1 c1))) :
 qal ((((W.setCell ⟨R,k * 4,none⟩ (.int .i64 p.lv)).setCell ⟨R,k * 4+1,none⟩ (.bool p.neg)).setCell ⟨R,k * 4+2,none⟩ (.slice A0 n0 c0)).setCell ⟨R,k * 4+3,none⟩ (.slice A1 n1 c1)) q R (l.set k p) /\
 ∀ v ds,jb W v ds->jb ((((W.setCell ⟨R,k * 4,none⟩ (.int .i64 p.lv)).setCell ⟨R,k * 4+1,none⟩ (.bool p.neg)).setCell ⟨R,k * 4+2,none⟩ (.slice A0 n0 c0)).setCell ⟨R,k * 4+3,none⟩ (.slice A1 n1 c1)) v ds:=by
 obtain ⟨h1,h2,h3⟩:=h;obtain ⟨B0,m0,d0,B1,m1,d1,⟨g0,g1,g2,g3⟩,-⟩:=h3 k hk;simp only at g0 g1 g2 g3;obtain ⟨W1,hW1⟩:∃ W1,W.setCell ⟨R,k * 4,none⟩ (.int .i64 p.lv)=W1:=⟨_,rfl⟩;obtain ⟨W2,hW2⟩:∃ W2,W1.setCell ⟨R,k * 4+1,none⟩ (.bool p.neg)=W2:=⟨_,rfl⟩;obtain ⟨W3,hW3⟩:∃ W3,W2.setCell ⟨R,k * 4+2,none⟩ (.slice A0 n0 c0)=W3:=⟨_,rfl⟩;obtain ⟨W4,hW4⟩:∃ W4,W3.setCell ⟨R,k * 4+3,none⟩ (.slice A1 n1 c1)=W4:=⟨_,rfl⟩;rw [hW1,hW2,hW3,hW4];have e1:∀ i,i ≠ k * 4->W1.cell? ⟨R,i,none⟩=W.cell? ⟨R,i,none⟩:=fun i hi=>by rw [<- hW1,World.cell?_setCell_other _ _ _ _ (by intro e; injection e; omega)]
 have e2:∀ i,i ≠ k * 4+1->W2.cell? ⟨R,i,none⟩=W1.cell? ⟨R,i,none⟩:=fun i hi=>by rw [<- hW2,World.cell?_setCell_other _ _ _ _ (by intro e; injection e; omega)]
 have e3:∀ i,i ≠ k * 4+2->W3.cell? ⟨R,i,none⟩=W2.cell? ⟨R,i,none⟩:=fun i hi=>by rw [<- hW3,World.cell?_setCell_other _ _ _ _ (by intro e; injection e; omega)]
 have e4:∀ i,i ≠ k * 4+3->W4.cell? ⟨R,i,none⟩=W3.cell? ⟨R,i,none⟩:=fun i hi=>by rw [<- hW4,World.cell?_setCell_other _ _ _ _ (by intro e; injection e; omega)]
 have s1:W1.cell? ⟨R,k * 4,none⟩=some (.int .i64 p.lv):=by rw [<- hW1]; exact World.cell?_setCell_same _ _ _ g0
 have q1:W1.cell? ⟨R,k * 4+1,none⟩=some (.bool l[k].neg):=(e1 _ (by omega)).trans g1;have s2:W2.cell? ⟨R,k * 4+1,none⟩=some (.bool p.neg):=by rw [<- hW2]; exact World.cell?_setCell_same _ _ _ q1
 have q2:W2.cell? ⟨R,k * 4+2,none⟩=some (.slice B0 m0 d0):=((e2 _ (by omega)).trans (e1 _ (by omega))).trans g2;have s3:W3.cell? ⟨R,k * 4+2,none⟩=some (.slice A0 n0 c0):=by rw [<- hW3]; exact World.cell?_setCell_same _ _ _ q2
 have q3:W3.cell? ⟨R,k * 4+3,none⟩=some (.slice B1 m1 d1):=((e3 _ (by omega)).trans ((e2 _ (by omega)).trans (e1 _ (by omega)))).trans g3;have s4:W4.cell? ⟨R,k * 4+3,none⟩=some (.slice A1 n1 c1):=by rw [<- hW4]; exact World.cell?_setCell_same _ _ _ q3
 have hnat:∀ v ds,jb W v ds->jb W4 v ds:=fun v ds hv=>by
  rw [<- hW4];refine jb.box ?_ q3 rfl _;rw [<- hW3];refine jb.box ?_ q2 rfl _;rw [<- hW2];refine jb.box ?_ q1 rfl _;rw [<- hW1];exact hv.box g0 rfl _
 have hother:∀ b,b ≠ R->W4.heap[b]?=W.heap[b]?:=fun b hb=>by
  rw [<- hW4,<- hW3,<- hW2,<- hW1];rw [Below.heap_setCell _ _ _ b hb,Below.heap_setCell _ _ _ b hb,Below.heap_setCell _ _ _ b hb,Below.heap_setCell _ _ _ b hb]
 have hsz:W4.heap.size=W.heap.size:=by rw [<- hW4,<- hW3,<- hW2,<- hW1]; simp [World.setCell]
 have hfr:∀ i,W4.frozen? ⟨R,i,none⟩=false:=fun i=>by rw [<- hW4,<- hW3,<- hW2,<- hW1]; simp only [World.frozen?_setCell]; exact h2 i
 refine ⟨⟨by omega,hfr,fun i hi=>?_⟩,hnat⟩;rw [List.length_set] at hi;have keep:∀ t v,PlV W (fun b=>q b/\b ≠ R) t v->PlV W4 (fun b=>q b/\b ≠ R) t v:=fun t v ht=>PlV.turn_ (by omega) hnat (fun b hb hq=>⟨hq,hother b hq.2⟩) ht
 by_cases hik:i=k
 · subst hik;rw [List.getElem_set_self];refine ⟨A0,n0,c0,A1,n1,c1,⟨?_,?_,?_,s4⟩,keep _ _ hp⟩
   · exact (e4 (i * 4) (by omega)).trans ((e3 (i * 4) (by omega)).trans ((e2 (i * 4) (by omega)).trans s1))
   · exact (e4 (i * 4+1) (by omega)).trans ((e3 (i * 4+1) (by omega)).trans s2)
   · exact (e4 (i * 4+2) (by omega)).trans s3
 · rw [List.getElem_set_ne (Ne.symm hik)];obtain ⟨C0,j0,f0,C1,j1,f1,h4,h5⟩:=h3 i hi;have far:∀ j,j < 4->W4.cell? ⟨R,i * 4+j,none⟩=W.cell? ⟨R,i * 4+j,none⟩:=fun j hj=>(e4 _ (by omega)).trans ((e3 _ (by omega)).trans ((e2 _ (by omega)).trans (e1 _ (by omega))))
   exact ⟨C0,j0,f0,C1,j1,f1,h4.same (far 0 (by omega)) (fun n hn=>far n hn),keep _ _ h5⟩
end
theorem ybe:(Tryz.prog.info? 35).map (fun i=>(i.zero,i.size,i.bytes))=some (some (.agg #[.int .i64 0,.bool false,.slice none 0 0,.slice none 0 0]),4,64):=by kernel_rfl
theorem jal (n:Int) (h0:0<=n) (h1:n<=1099511627776) (w:World) :
 ∃ w',(Instr.makeSlice 24 (.int .i64 n) (.int .i64 n)).run Tryz.prog w=.ok (.slice (some ⟨w.heap.size,0,none⟩) n.toNat n.toNat) w'/\Ext w w'/\w'.heap.size=w.heap.size+1/\∀ q,qal w' q w.heap.size (List.replicate n.toNat Pl.zero):=by
 obtain ⟨i0,hi,hz0,hz1,hz2⟩:=info_parts ybe;refine ⟨_,run_make w 24 35 i0 _ Tryz.underlying24 hi hz0 .i64 .i64 n n h0 (by omega) (by rw [hz2]; omega) (by omega),(Ext.refl w).alloc _,by simp,fun q=>⟨by simp,fun i=>by simp [go_sem],fun i hi2=>?_⟩⟩;rw [List.length_replicate] at hi2;have hc:∀ j,j < 4->(w.alloc (.cells (madeCells (Value.agg #[.int .i64 0,.bool false,.slice none 0 0,.slice none 0 0]).cells (n.toNat * i0.size)) 35)).cell? ⟨w.heap.size,i * 4+j,none⟩=#[Value.int .i64 0,.bool false,.slice none 0 0,.slice none 0 0][j]?:=by
  intro j hj;have hlt:i * 4+j < n.toNat * 4:=by omega
  have hmod:(i * 4+j) % 4=j:=by omega
  rw [cell_of_row _ _ (i * 4+j) _ _ (0,0) (heap_alloc_new w _)];rw [hz1];unfold madeCells;rw [Array.getElem?_map,Array.getElem?_range,if_pos hlt];show some ((#[Value.int .i64 0,.bool false,.slice none 0 0,.slice none 0 0]:Array Value)[(i * 4+j) % 4]!)=_;rw [hmod];rcases (show j=0\/j=1\/j=2\/j=3 by omega) with rfl | rfl | rfl | rfl <;> rfl
 rw [List.getElem_replicate];exact ⟨none,0,0,none,0,0,⟨hc 0 (by omega),hc 1 (by omega),hc 2 (by omega),hc 3 (by omega)⟩,Pl.zero_v _ _ none 0 (by omega)⟩
def ql (w:World) (g:Nat):Prop:=(w.cell? ⟨g,0,none⟩=some (.int .i64 0)/\w.cell? ⟨g,1,none⟩=some (.bool false)/\w.cell? ⟨g,2,none⟩=some (.slice none 0 0)/\w.cell? ⟨g,3,none⟩=some (.slice none 0 0))/\∀ i,w.frozen? ⟨g,i,none⟩=false
theorem ql.ext {w w':World} {g:Nat} (h:ql w g) (hx:Ext w w') (hg:g < w.heap.size):ql w' g:=by
 obtain ⟨⟨h0,h1,h2,h3⟩,h4⟩:=h;have k:∀ i,w'.cell? ⟨g,i,none⟩=w.cell? ⟨g,i,none⟩:=fun i=>hx.cell (p:=⟨g,i,none⟩) hg
 exact ⟨⟨(k _).trans h0,(k _).trans h1,(k _).trans h2,(k _).trans h3⟩,fun i=>(hx.frozen (p:=⟨g,i,none⟩) hg).trans (h4 i)⟩
theorem ql.new (w:World) (T:TypeId):ql (w.alloc (.cells #[.int .i64 0,.bool false,.slice none 0 0,.slice none 0 0] T)) w.heap.size:=by
 refine ⟨⟨?_,?_,?_,?_⟩,fun i=>?_⟩ <;> simp [go_sem]
theorem vk {w W:World} {g:Nat} {p:Pl} {q q':Nat->Prop} {A0 A1:Option Addr} {n0 c0 n1 c1:Nat} (hx:Ext w W) (hg:w.heap.size<=g) (hz:ql W g) (hp:PlV W q p (plV p (.slice A0 n0 c0) (.slice A1 n1 c1))) (hq:∀ b,b < W.heap.size->q b->b ≠ g/\q' b) :
 qi q' p w (.returned (plV p (.slice A0 n0 c0) (.slice A1 n1 c1))) ((((W.setCell ⟨g,0,none⟩ (.int .i64 p.lv)).setCell ⟨g,1,none⟩ (.bool p.neg)).setCell ⟨g,2,none⟩ (.slice A0 n0 c0)).setCell ⟨g,3,none⟩ (.slice A1 n1 c1)):=by
 obtain ⟨⟨z0,z1,z2,z3⟩,-⟩:=hz;refine ⟨_,rfl,?_,(((hx.setCell hg _).setCell hg _).setCell hg _).setCell hg _⟩;refine PlV.turn_ (by simp [World.setCell]) (fun v ds hv=>?_) (fun b hlt hb=>⟨(hq b hlt hb).2,?_⟩) hp
 · refine (((hv.box z0 rfl _).box (u:=.bool false) ?_ rfl _).box (u:=.slice none 0 0) ?_ rfl _).box (u:=.slice none 0 0) ?_ rfl _
   · rw [World.cell?_setCell_other _ _ _ _ (by simp)]; exact z1
   · rw [World.cell?_setCell_other _ _ _ _ (by simp),World.cell?_setCell_other _ _ _ _ (by simp)]; exact z2
   · rw [World.cell?_setCell_other _ _ _ _ (by simp),World.cell?_setCell_other _ _ _ _ (by simp),World.cell?_setCell_other _ _ _ _ (by simp)]; exact z3
 · have hne:=(hq b hlt hb).1;rw [Below.heap_setCell _ _ _ b hne,Below.heap_setCell _ _ _ b hne,Below.heap_setCell _ _ _ b hne,Below.heap_setCell _ _ _ b hne]
theorem kae {α:Type} (L l:List α) (k:Nat) (h:L.take k=l.take k) (hL:k < L.length) (hl:k < l.length):(L.set k l[k]).take (k+1)=l.take (k+1):=by
 have h1:k < (L.set k l[k]).length:=by rw [List.length_set]; exact hL
 rw [List.take_succ_eq_append_getElem h1,List.take_succ_eq_append_getElem hl,List.getElem_set_self,List.take_set_of_le (Nat.le_refl _),h]
end Go.Proofs.YtcfcjabgkfehlaaGreat

/- Layer 22: recpoly.copyOf. -/
set_option maxRecDepth 100000
set_option maxHeartbeats 8000000
namespace Go.Proofs.YtcfcjabgkfehlaaGreat
open Go.RowKit
def kcx (w0:World) (q:Nat->Prop) (n:Nat):Prop:=∀ (p:Pl) (v:Value) (w:World),p.sz < n->p.Can->p.sz<=1099511627776->p.dm<=35184372088832->PlV w0 q p v->Ext w0 w->Calls Tryz.prog 54 #[v] w (qi (fun b=>w.heap.size<=b) p w)
theorem wb8 {w0 w:World} {q:Nat->Prop} (p:Pl) (v:Value) (hcan:p.Can) (hdm:p.dm<=35184372088832) (h:PlV w0 q p v) (hx0:Ext w0 w) (hl:p.lv=0):Calls Tryz.prog 54 #[v] w (qi (fun b=>w.heap.size<=b) p w):=by
 have hds:=p.dm_ds;obtain ⟨A0,n0,c0,A,c,rfl,hnat,hl1,hl2,h4⟩:=h.open_;obtain ⟨l,ng,ds,cs⟩:=p
 change l=0 at hl
 subst hl;simp only [Pl.cs,Pl.ds,Pl.lv,Pl.neg,plV] at *;have hc2:cs=[]/\ds=dg (val ds)/\(ds=[]->ng=false):=by
  unfold Pl.Can at hcan;rcases hcan with h | h
  · exact h.2
  · omega
 obtain ⟨rfl,hdg,hng⟩:=hc2;have hngz:ng=decide (sgn ng (val ds) < 0):=by
  rw [qa3,<- hdg];cases ng
  · rfl
  · have:0 < ds.length:=List.length_pos_iff.2 (fun e=>by have:=hng e; cases this);simp [this]
 have HNG:=Lib.hid hngz;have HDG:=Lib.hid hdg;obtain ⟨W,hW⟩:∃ W,(w.alloc (.cells #[.int .i64 0,.bool ng,.slice A0 n0 c0,.slice A ([]:List Pl).length c] 35)).alloc (.cells #[.int .i64 0,.bool false,.slice none 0 0,.slice none 0 0] 35)=W:=⟨_,rfl⟩;have hWx:Ext w W:=by rw [<- hW]; exact ((Ext.refl w).alloc _).alloc _
 have hWs:W.heap.size=w.heap.size+1+1:=by rw [<- hW]; simp
 have hz:ql W (w.heap.size+1):=by
  have:=ql.new (w.alloc (.cells #[.int .i64 0,.bool ng,.slice A0 n0 c0,.slice A ([]:List Pl).length c] 35)) 35;rw [hW] at this;simpa using this
 have HNAT:=Lib.hid (hnat.ext (hx0.trans hWx));have HWX:=Lib.hid hWx;have HZ:=Lib.hid hz;clear h h4 hnat hx0 hcan hng hdg hngz hWx hz;go_enter Tryz.func54,Tryz.ntmps54;go_wp2_with fail;rw [List.length_nil] at hW;rw [hW];clear hW;refine (gak _ (sgn ng (val ds)) ds.length W ⟨ng,_,ds,rfl,HNAT.out,rfl,Nat.le_refl _⟩ (by omega)).mono ?_;rintro e w1 ⟨x,rfl,⟨v1,rfl,hv1⟩,x1⟩;rw [jr,<- HDG.out] at hv1;rw [<- HNG.out];obtain ⟨⟨z0,z1,z2,z3⟩,zf⟩:=HZ.out.ext x1 (by omega);have hws:=x1.size;have HF:Hid (∀ A' n' c',v1=.slice A' n' c'->qi (fun b=>w.heap.size<=b) (.mk 0 ng ds []) w (.returned (plV (.mk 0 ng ds []) (.slice A' n' c') (.slice none 0 0))) ((((w1.setCell ⟨w.heap.size+1,0,none⟩ (.int .i64 0)).setCell ⟨w.heap.size+1,1,none⟩ (.bool ng)).setCell ⟨w.heap.size+1,2,none⟩ (.slice A' n' c')).setCell ⟨w.heap.size+1,3,none⟩ (.slice none 0 0))):=by
  intro A' n' c' e;subst e;exact vk (p:=.mk 0 ng ds []) (q:=fun _=>False) (HWX.out.trans x1) (by omega) (HZ.out.ext x1 (by omega)) (PlV.mk (t:=.mk 0 ng ds []) hv1 (Nat.le_refl _) (by simp [Pl.cs]) (by unfold Pl.cs jd; trivial)) (fun b _ h=>h.elim)
 obtain ⟨A1,d1,rfl,-⟩:=hv1;have HF2:=Lib.hid (HF.out _ _ _ rfl);clear HF x1 HZ;go_wp2_with fail;exact bodyPost_ret (v:=plV (.mk 0 ng ds []) (.slice A1 ds.length d1) (.slice none 0 0)) (by simp [results,Tryz.results54,go_sem,z0,z1,z2,z3,plV,Pl.lv,Pl.neg]) rfl HF2.out
theorem qcr (w0:World) (q:Nat->Prop) (n:Nat):kcx w0 q n:=by
 induction n with
 | zero=>intro p v w h; omega
 | succ n ih =>
 intro p v w hn hcan hbig hdm h hx0
 by_cases hl:p.lv=0
 · exact wb8 p v hcan hdm h hx0 hl
 obtain ⟨A0,n0,c0,A,c,rfl,hnat,hl1,hl2,h4⟩:=h.open_;obtain ⟨l,ng,ds,cs⟩:=p;simp only [Pl.cs,Pl.ds,Pl.lv,Pl.neg,plV] at *;have hk:=hcan.kids (by have:=hcan.lv_nonneg.1; simp only [Pl.lv] at this; omega);obtain ⟨rfl,rfl,hlen,hcs,-⟩:=hk;have hszp:(Pl.mk l false [] cs).sz=uj cs+1:=by rw [Pl.sz]
 have hdmp:waa cs<=(Pl.mk l false [] cs).dm:=by rw [Pl.dm]; exact Nat.le_max_right _ _
 have hlb:=xaf cs;have IH:=Lib.hid ih;have H4:=Lib.hid h4;have HX0:=Lib.hid hx0;have HSZ:Hid (∀ k (hk:k < cs.length),cs[k].sz < n/\cs[k].Can/\cs[k].sz<=1099511627776/\cs[k].dm<=35184372088832):=by
  have:∀ k (hk:k < cs.length),cs[k].sz < n/\cs[k].Can/\cs[k].sz<=1099511627776/\cs[k].dm<=35184372088832:=fun k hk=>by
   have h1:=uai (List.getElem_mem hk);have h2:=jat (List.getElem_mem hk);exact ⟨by omega,(hcs.mem _ (List.getElem_mem hk)).2,by omega,by omega⟩
  exact this
 have hlz:(l == 0)=false:=by simpa using hl
 have hcb:cs.length<=1099511627776:=by omega
 clear h h4 ih hx0 hnat hcan hcs hdmp hdm hlb;obtain ⟨W,hW⟩:∃ W,(w.alloc (.cells #[.int .i64 l,.bool false,.slice A0 n0 c0,.slice A cs.length c] 35)).alloc (.cells #[.int .i64 0,.bool false,.slice none 0 0,.slice none 0 0] 35)=W:=⟨_,rfl⟩;have hWx:Ext w W:=by rw [<- hW]; exact ((Ext.refl w).alloc _).alloc _
 have hWs:W.heap.size=w.heap.size+1+1:=by rw [<- hW]; simp
 have hbx:uf W w.heap.size (.mk l false [] cs) (.slice A0 n0 c0) (.slice A cs.length c):=by rw [<- hW]; exact (uf.new w (.mk l false [] cs) _ _ _).ext ((Ext.refl _).alloc _) (by simp)
 have hz:ql W (w.heap.size+1):=by
  have:=ql.new (w.alloc (.cells #[.int .i64 l,.bool false,.slice A0 n0 c0,.slice A cs.length c] 35)) 35;rw [hW] at this;simpa using this
 obtain ⟨V,hmk,hVx,hVs,hrow⟩:=jal (cs.length:Int) (by omega) (by omega) W;rw [Int.toNat_natCast] at hmk hrow;have HWX:=Lib.hid hWx;have HVX:=Lib.hid hVx;have hrow0:=hrow (fun b=>w.heap.size+1+1<=b);rw [hWs] at hmk hrow0;have HROW:=Lib.hid hrow0;have HBX:=Lib.hid hbx;have HZ:=Lib.hid hz;obtain ⟨b0,b1,b2,b3⟩:=id hbx;obtain ⟨d0,d1,d2,d3⟩:=hbx.ext hVx (by omega);simp only [Pl.lv,Pl.neg] at b0 b1 d0 d1;clear hWx hVx hrow hrow0 hbx hz;go_enter Tryz.func54,Tryz.ntmps54;go_wp2_with fail;clear hW hmk b0 b1 b2 b3 d0 d1 d2 d3
 go_loopw [20] (fun iv wr=>∃ k:Nat,k<=cs.length/\iv=.int .i64 k/\Hid ((∃ L:List Pl,L.length=cs.length/\L.take k=cs.take k/\qal wr (fun b=>w.heap.size+1+1<=b) (w.heap.size+1+1) L)/\Ext W wr)) (fun iv _=>cs.length - (intOf iv).toNat)
 case atStart=>exact ⟨0,Nat.zero_le _,rfl,⟨⟨_,List.length_replicate,by simp,HROW.out⟩,HVX.out⟩⟩
 case round =>
  obtain ⟨k,hk,rfl,⟨⟨L,hLl,hLt,hrow⟩,hx⟩⟩:=hrel;have HX:=Lib.hid hx;have HROWk:=Lib.hid hrow;have HLT:=Lib.hid hLt;obtain ⟨b0,b1,b2,b3⟩:=HBX.out.ext hx (by omega);simp only [Pl.lv,Pl.neg] at b0 b1;have hRlt:w.heap.size+1+1 < wr.heap.size:=hrow.1;clear hx hrow hLt HVX HROW
  by_cases hlt:k < cs.length
  · obtain ⟨ad,B0,m0,e0,B1,m1,e1,rfl,hadb,hnd,hkt⟩:=jd.kid H4.out k hlt;have hxx:Ext w0 wr:=(HX0.out.trans HWX.out).trans HX.out;obtain ⟨a0,a1,a2,a3⟩:=hnd.ext hxx (by rw [ja]; exact hadb);obtain ⟨hsz1,hsz2,hsz3,hsz4⟩:=HSZ.out k hlt;have HC:=Lib.hid (fun W' (hxW:Ext wr W')=>IH.out cs[k] _ W' hsz1 hsz2 hsz3 hsz4 hkt (hxx.trans hxW));have HSET:Hid ((L.set k cs[k]).take (k+1)=cs.take (k+1)):=kae L cs k HLT.out (by omega) hlt;generalize cs[k]=ck at *;clear hnd hkt hadb hsz1 hsz2 hsz3 hsz4 hxx HLT;go_wp2_with fail;refine (HC.out _ ((Ext.refl _).alloc _)).mono ?_;rintro e w2 ⟨v2,rfl,p2,x2⟩;have x2':Ext wr w2:=((Ext.refl wr).alloc _).trans x2;obtain ⟨C0,j0,f0,C1,f1,rfl,-⟩:=id p2.open_;have hr2:=HROWk.out.ext x2';obtain ⟨D0,n2,g0,D1,n3,g1,⟨r0,r1,r2,r3⟩,-⟩:=hr2.2.2 k (by omega);have hfr:=hr2.2.1;have hst:=(hr2.set_ k (by omega) ck (p2.mono fun b hb=>by
     have hb':wr.heap.size+1<=b:=by simpa using hb
     exact ⟨by omega,by omega⟩)).1
    simp only at r0 r1 r2 r3;have HST:=Lib.hid hst;have X2:=Lib.hid (HX.out.trans x2');unfold plV;clear hr2 hst p2 x2 x2' HC HROWk a0 a1 a2 a3 b0 b1 b2 b3;go_wp2_with fail
    go_roundw
    case rel=>exact ⟨k+1,by omega,by go_num,⟨_,by rw [List.length_set]; exact hLl,HSET.out,HST.out⟩,(((X2.out.setCell (by show W.heap.size<=w.heap.size+1+1; omega) _).setCell (by show W.heap.size<=w.heap.size+1+1; omega) _).setCell (by show W.heap.size<=w.heap.size+1+1; omega) _).setCell (by show W.heap.size<=w.heap.size+1+1; omega) _⟩
    case measure=>simp [intOf]; omega
  · have hke:k=cs.length:=by omega
    have hLe:L=cs:=by
     have h:=HLT.out;rw [hke,List.take_length,<- hLl,List.take_length] at h;exact h
    obtain ⟨⟨z0,z1,z2,z3⟩,zf⟩:=HZ.out.ext HX.out (by omega);have hfin:=HROWk.out.fin (Nat.le_refl _);rw [hLe] at hfin;have HF:=Lib.hid (vk (p:=.mk l false [] cs) (q':=fun b=>w.heap.size<=b) (HWX.out.trans HX.out) (Nat.le_succ _) (HZ.out.ext HX.out (by omega)) (PlV.mk (t:=.mk l false [] cs) (c:=cs.length) (jb.nil _) (Nat.le_refl _) (by omega) hfin) (fun b _ hb=>⟨by omega,by omega⟩));clear hfin HROWk HLT hLe HZ;go_wp2_with fail;exact bodyPost_ret (v:=plV (.mk l false [] cs) (.slice none 0 0) (.slice (some ⟨w.heap.size+1+1,0,none⟩) cs.length cs.length)) (by simp [results,Tryz.results54,go_sem,z0,z1,z2,z3,plV,Pl.lv,Pl.neg]) rfl HF.out
theorem jax {w:World} {q:Nat->Prop} (p:Pl) (v:Value) (hcan:p.Can) (hsz:p.sz<=1099511627776) (hdm:p.dm<=35184372088832) (h:PlV w q p v):Calls Tryz.prog 54 #[v] w (qi (fun b=>w.heap.size<=b) p w):=
 qcr w q (p.sz+1) p v w (Nat.lt_succ_self _) hcan hsz hdm h (Ext.refl w)
end Go.Proofs.YtcfcjabgkfehlaaGreat
