/- Layer 22: recpoly.build. -/
import Derived.Test.YtcepajijiabkmaaGreatMp11
set_option linter.unusedSimpArgs false
set_option linter.unusedVariables false
set_option maxRecDepth 100000
set_option maxHeartbeats 8000000
namespace Go.Proofs.YtcepajijiabkmaaGreat
open Lib (hid)
open Go.RowKit
theorem gbq (c:Int) (m:Mo) (r:Sp) (j:Nat):∀ n,j<=n->(∀ i:Nat,j < i->i<=n->m.get i=0)->bld n ((c,m) :: r)=bld j ((c,m) :: r):=by
 intro n
 induction n with
 | zero=>intro h _; rw [show j=0 by omega]
 | succ n ih =>
   intro h hz
   by_cases hj:j=n+1
   · rw [hj]
   · rw [bld,if_pos (hz (n+1) (by omega) (pj _))];exact ih (by omega) (fun i h1 h2=>hz i h1 (by omega))
theorem kal.xS {w:World} {ad:Addr} {b:Bool} {s:Value} {m:Mo} (h:kal w ad b s m) (j:Nat) (hj:j < 4):w.cell? ⟨ad.block,ad.off+2+j,none⟩=some (.int .i64 (m.get ((j+1:Nat):Int))):=by
 obtain ⟨-,-,h2,h3,h4,h5⟩:=h;rcases (show j=0\/j=1\/j=2\/j=3 by omega) with rfl | rfl | rfl | rfl
 · exact h2
 · exact h3
 · exact h4
 · exact h5
theorem gaq.sub {w:World} {k:Option Nat} {ad:Addr} {l:Sp} (h:gaq w k (some ad) l) (s n:Nat) (hn:s+n<=l.length):gaq w k (some (ad.add (s * 6))) ((l.drop s).take n):=by
 intro i hi;rw [pA,re] at hi;obtain ⟨ad',b,B,n',c,e,hb,h1,h2⟩:=h (s+i) (by omega);injection e with e
 subst e;refine ⟨_,b,B,n',c,rfl,by rw [ja]; exact hb,?_,?_⟩
 · rw [ybk,<- rN,tz,u9]; exact h1
 · rw [tz,u9]; exact h2
theorem uf.congr {q:Nat->Prop} {p p':Pl} {w w':World} {e:Ending} (h:p'=p) (hr:uf q p w e w'):uf q p' w e w':=by rw [h]; exact hr
structure gae (n : Nat) (l : Sp) : Prop where
 can:yt l
 nn:∀ x ∈ l,x.2.qe
 ab:∃ m,va9 n m l
 ex:∀ x ∈ l,x.2.le 1073741824
theorem gae.down {n j:Nat} {l:Sp} (h:gae n l) (hn:n<=4) (hj:j<=n) (hz:∀ x ∈ l,∀ i:Nat,j < i->i<=n->x.2.get i=0):gae j l:=by
 obtain ⟨m,hm⟩:=h.ab;refine ⟨h.can,h.nn,?_,h.ex⟩;cases l with
 | nil=>exact ⟨m,fun x hx=>by cases hx⟩
 | cons y r =>
   refine ⟨y.2,fun x hx i h1 h2=>?_⟩
   by_cases hi:i<=n
   · rw [hz x hx i h1 hi,hz y (by simp) i h1 hi]
   · rw [hm x hx i (by omega) h2,hm y (by simp) i (by omega) h2]
theorem gae.desc {n:Nat} {l:Sp} (h:gae n l) (hn:0 < n) (iy:n<=4) (i j:Nat) (hi:i < l.length) (hj:j < l.length) (oI:i<=j):l[j].2.get n<=l[i].2.get n:=by
 obtain ⟨m,hm⟩:=h.ab
 by_cases he:i=j
 · subst he; exact ub _
 have af:(l[j].2).lt l[i].2:=by
  have hc:=h.can;clear h hm
  induction l generalizing i j with
  | nil=>simp at hi
  | cons x r ih =>
    obtain ⟨c,k⟩:=x;cases j with
    | zero=>omega
    | succ j =>
      cases i with
      | zero=>exact hc.2.1 _ (pt _)
      | succ i=>exact ih i j (by simpa using hi) (by simpa using hj) (by omega) (by omega) hc.2.2
 exact Mo.Ki hn iy af (fun q h1 h2=>(hm _ (pt hj) q h1 h2).trans (hm _ (pt hi) q h1 h2).symm)
theorem gae.strip {l:Sp} {x0:Int × Mo} {r:Sp} (hl:l=x0 :: r) (j:Nat):∀ n,n<=4->j<=n->gae n l->(∀ i:Nat,j < i->i<=n->x0.2.get i=0)->gae j l:=by
 intro n
 induction n with
 | zero=>intro _ h lU _; rw [show j=0 by omega]; exact lU
 | succ n ih =>
   intro hn h lU hz
   by_cases hj:j=n+1
   · rw [hj]; exact lU
   · refine ih (by omega) (by omega) (lU.down hn (r6 n) fun x hx i h1 h2=>?_) (fun i h1 h2=>hz i h1 (by omega));have hi:i=n+1:=by omega
     subst hi;obtain ⟨k,hk,rfl⟩:=tj hx;have h0:0 < l.length:=by omega
     have h3:=lU.desc (Nat.succ_pos n) hn 0 k h0 hk (pS _);have h4:l[0]=x0:=by simp [hl]
     rw [h4,hz (n+1) (by omega) (pj _)] at h3;have h5:=Mo.jx (lU.nn _ (pt hk)) ((n+1:Nat):Int);omega
theorem zcy {n:Nat} {l:Sp} {s t:Nat} {e:Int} (hs:s<=t) (ht:t<=l.length) (h1:∀ j (hj:j < l.length),j < s->l[j].2.get n ≠ e) (h2:∀ j (hj:j < l.length),s<=j->j < t->l[j].2.get n=e) (h3:∀ j (hj:j < l.length),t<=j->l[j].2.get n ≠ e) :
 l.filter (fun x=>decide (x.2.get n=e))=(l.drop s).take (t - s):=by
 have hl:l=l.take s ++ ((l.drop s).take (t - s) ++ l.drop t):=by
  have h4:l.drop t=(l.drop s).drop (t - s):=by rw [tM]; congr 1; omega
  rw [h4,wj,wj]
 have f1:(l.take s).filter (fun x=>decide (x.2.get n=e))=[]:=Rp.2 fun x hx=>by
  obtain ⟨j,hj,rfl⟩:=tj hx;rw [pA] at hj;rw [tz];simpa using h1 j (by omega) (by omega)
 have f2:((l.drop s).take (t - s)).filter (fun x=>decide (x.2.get n=e))=(l.drop s).take (t - s):=List.filter_eq_self.2 fun x hx=>by
  obtain ⟨j,hj,rfl⟩:=tj hx;rw [pA,re] at hj;rw [tz,u9];simpa using h2 (s+j) (by omega) (by omega) (by omega)
 have f3:(l.drop t).filter (fun x=>decide (x.2.get n=e))=[]:=Rp.2 fun x hx=>by
  obtain ⟨j,hj,rfl⟩:=tj hx;rw [re] at hj;rw [u9];simpa using h3 (t+j) (by omega) (by omega)
 conv=>lhs; rw [hl]
 rw [uE,uE,f1,f2,f3]; simp
def xci (w0:World) (n:Nat):Prop:=∀ (l:Sp) (A:Option Addr) (c:Nat) (w:World),gaq w0 none A l->l.length<=c->c<=9223372036854775807->gae n l->Ext w0 w->Calls Tryz.prog 30 #[.slice A l.length c,.int .i64 n] w (uf (fun b=>w.heap.size<=b) (bld n l) w)
theorem ucq (n:Nat) (A:Option Addr) (c:Nat) (w:World):Calls Tryz.prog 30 #[.slice A 0 c,.int .i64 n] w (uf (fun b=>w.heap.size<=b) (bld n []) w):=by
 rw [show bld n []=Pl.zero by unfold bld; rfl];obtain ⟨W,hW⟩:=n_m (w.alloc (.cells #[.int .i64 0,.bool false,.slice none 0 0,.slice none 0 0] 33));have ai:Ext w W:=by rw [<- hW]; exact (Ext.refl w).alloc _
 have hz:jf W w.heap.size:=by rw [<- hW]; exact jf.new w _
 have HF:=hid (qf (p:=Pl.zero) (q:=fun _=>False) (q':=fun b=>w.heap.size<=b) ai (pj _) hz (Pl.xt W _ none 0 (by omega)) (fun b _ h=>h.elim));obtain ⟨⟨z0,z1,z2,z3⟩,zf⟩:=hz;clear ai;go_enter Tryz.func30,Tryz.ntmps30;go_wp2_with fail;exact bodyPost_ret (v:=plV Pl.zero (.slice none 0 0) (.slice none 0 0)) (by simp [results,Tryz.results30,go_sem,z0,z1,z2,z3,plV,Pl.zero,Pl.lv,Pl.neg]) rfl HF.out
def bco (j:Nat) (l:Sp) (i:Nat):Pl:=bld j (l.filter fun x=>decide (x.2.get ((j+1:Nat):Int)=Int.ofNat i))
theorem zc9 {j:Nat} {c:Int} {m:Mo} {r:Sp} (h:m.get ((j+1:Nat):Int) ≠ 0):bld (j+1) ((c,m) :: r)=.mk (j+1:Nat) false [] ((List.range ((m.get (j+1:Nat)).toNat+1)).map (bco j ((c,m) :: r))):=by
 rw [bld,if_neg h]; rfl
def uah (W:World) (q:Nat->Prop) (R j E:Nat) (l:Sp) (s:Nat) (wr:World):Prop:=
 (∃ Lc:List Pl,Lc.length=E+1/\(∀ i (hi:i < Lc.length),(∀ x ∈ l.drop s,x.2.get ((j+1:Nat):Int) ≠ Int.ofNat i)->Lc[i]=bco j l i)/\xh wr q R Lc)/\Ext W wr/\∀ a b (ha:a < l.length) (hb:b < l.length),a < s->s<=b->l[b].2.get ((j+1:Nat):Int) < l[a].2.get ((j+1:Nat):Int)
theorem uah.start {W wr:World} {q:Nat->Prop} {R j E:Nat} {l:Sp} (h:xh wr q R (List.replicate (E+1) Pl.zero)) (hx:Ext W wr):uah W q R j E l 0 wr:=by
 refine ⟨⟨_,p8,fun i hi hn=>?_,h⟩,hx,fun a b ha hb h1=>by omega⟩;rw [u7,bco,Rp.2 (fun x hx=>by simpa using hn x (by simpa using hx))];unfold bld; rfl
theorem uah.fin {W wr:World} {q:Nat->Prop} {R j E:Nat} {l:Sp} (h:uah W q R j E l l.length wr):xh wr q R ((List.range (E+1)).map (bco j l)):=by
 obtain ⟨⟨Lc,h1,h2,h3⟩,-⟩:=h;have:Lc=(List.range (E+1)).map (bco j l):=by
  refine sR (by rw [px,tt]; exact h1) fun i hi jI=>?_
  rw [h2 i hi (by rw [List.drop_length]; simp),rK,tF]
 rw [<- this]; exact h3
theorem uah.group {W wr:World} {q:Nat->Prop} {R j E:Nat} {l:Sp} {s t:Nat} {e:Nat} (h:uah W q R j E l s wr) (lU:gae (j+1) l) (rD:j+1<=4) (dV:s < t) (ht:t<=l.length) (kU:∀ a (ha:a < l.length),s<=a->a < t->l[a].2.get ((j+1:Nat):Int)=e) (pG:∀ (ha:t < l.length),l[t].2.get ((j+1:Nat):Int) ≠ e) :
 (∀ a (ha:a < l.length),t<=a->l[a].2.get ((j+1:Nat):Int) < e)/\l.filter (fun x=>decide (x.2.get ((j+1:Nat):Int)=Int.ofNat e))=(l.drop s).take (t - s):=by
 have Ip:∀ a (ha:a < l.length),t<=a->l[a].2.get ((j+1:Nat):Int) < e:=fun a ha ZG=>by
  have h1:=lU.desc (Nat.succ_pos j) rD s t (by omega) (by omega) (by omega);have h2:=lU.desc (Nat.succ_pos j) rD t a (by omega) ha ZG;have h3:=kU s (by omega) (pj _) dV;have h4:=pG (by omega);omega
 refine ⟨Ip,zcy (n:=j+1) (Sf dV) ht (fun a ha has=>?_) (fun a ha h1 h2=>by simpa using kU a ha h1 h2) (fun a ha ZG=>?_)⟩
 · have h1:=h.2.2 a s ha (by omega) has (pj _);have h2:=kU s (by omega) (pj _) dV;simp only [PC]; omega
 · have:=Ip a ha ZG;simp only [PC]; omega
theorem uah.step {W wr w2:World} {R j E:Nat} {l:Sp} {s t:Nat} {e:Nat} (h:uah W (fun b=>R<=b) R j E l s wr) (hR:W.heap.size<=R) (lU:gae (j+1) l) (rD:j+1<=4) (dV:s < t) (ht:t<=l.length) (he:e<=E) (kU:∀ a (ha:a < l.length),s<=a->a < t->l[a].2.get ((j+1:Nat):Int)=e) (pG:∀ (ha:t < l.length),l[t].2.get ((j+1:Nat):Int) ≠ e) (aN:Ext wr w2) {A0 A1:Option Addr} {n0 c0 n1 c1:Nat} (hp:PlV w2 (fun b=>wr.heap.size<=b) (bco j l e) (plV (bco j l e) (.slice A0 n0 c0) (.slice A1 n1 c1))) :
 (∃ u0 u1 B0 m0 d0 B1 m1 d1,w2.cell? ⟨R,e * 4,none⟩=some (.int .i64 u0)/\w2.cell? ⟨R,e * 4+1,none⟩=some (.bool u1)/\w2.cell? ⟨R,e * 4+2,none⟩=some (.slice B0 m0 d0)/\w2.cell? ⟨R,e * 4+3,none⟩=some (.slice B1 m1 d1))/\(∀ i,w2.frozen? ⟨R,i,none⟩=false) /\
 uah W (fun b=>R<=b) R j E l t ((((w2.setCell ⟨R,e * 4,none⟩ (.int .i64 (bco j l e).lv)).setCell ⟨R,e * 4+1,none⟩ (.bool (bco j l e).neg)).setCell ⟨R,e * 4+2,none⟩ (.slice A0 n0 c0)).setCell ⟨R,e * 4+3,none⟩ (.slice A1 n1 c1)):=by
 obtain ⟨af,-⟩:=h.group lU rD dV ht kU pG;obtain ⟨⟨Lc,h1,h2,h3⟩,hx,ZN⟩:=h;have fJ:=h3.ext aN;obtain ⟨D0,n2,g0,D1,n3,g1,⟨r0,r1,r2,r3⟩,-⟩:=fJ.2.2 e (by omega);have gV:=h3.1;have ZJ:=(fJ.xD e (by omega) (bco j l e) (hp.mono fun b hb=>⟨by omega,by omega⟩)).1;refine ⟨⟨_,_,_,_,_,_,_,_,r0,r1,r2,r3⟩,fJ.2.1,⟨Lc.set e (bco j l e),by rw [pH]; exact h1,fun i hi hn=>?_,ZJ⟩,((((hx.trans aN).setCell hR _).setCell hR _).setCell hR _).setCell hR _,fun a b ha hb aK htb=>?_⟩
 · rw [pH] at hi
   by_cases H5:i=e
   · subst H5; rw [rR]
   · rw [sX (Ne.symm H5)];refine h2 i hi fun x iY=>?_
     obtain ⟨k,hk,rfl⟩:=tj iY;rw [re] at hk;rw [u9]
     by_cases bC:s+k < t
     · rw [kU (s+k) (by omega) (by omega) bC];simp only [PC]; omega
     · refine hn _ (List.mem_iff_getElem.2 ⟨s+k - t,by rw [re]; omega,?_⟩);rw [u9]
       congr 1; omega
 · have h4:=af b hb htb
   by_cases has:a < s
   · have:=ZN a s ha (by omega) has (pj _);rw [kU s (by omega) (pj _) dV] at this;omega
   · rw [kU a ha (by omega) aK]; exact h4
theorem gae.part {j:Nat} {l:Sp} (h:gae (j+1) l) (e:Int):gae j (l.filter fun x=>decide (x.2.get ((j+1:Nat):Int)=e)):=by
 obtain ⟨m,hm⟩:=h.ab;refine ⟨h.can.filter _,fun x hx=>h.nn x (sq.1 hx).1,?_,fun x hx=>h.ex x (sq.1 hx).1⟩;cases hf:l.filter (fun x=>decide (x.2.get ((j+1:Nat):Int)=e)) with
 | nil=>exact ⟨m,fun x hx=>by cases hx⟩
 | cons y r =>
   refine ⟨y.2,fun x hx i h1 h2=>?_⟩;rw [<- hf] at hx;have hy:y ∈ l.filter (fun x=>decide (x.2.get ((j+1:Nat):Int)=e)):=by rw [hf]; simp
   obtain ⟨hx1,aN⟩:=sq.1 hx;obtain ⟨DW,hy2⟩:=sq.1 hy
   by_cases hi:i=j+1
   · subst hi;rw [of_decide_eq_true aN,of_decide_eq_true hy2]
   · rw [hm x hx1 i (by omega) h2,hm y DW i (by omega) h2]
theorem vch (w0:World) (n:Nat) (iy:n<=4) (ih:∀ m,m < n->xci w0 m):xci w0 n:=by
 intro l A c w aK dP dC lU aC;cases hl:l with
 | nil=>exact ucq n A c w
 | cons x0 r =>
 rw [<- hl];have di:0 < l.length:=by rw [hl]; simp
 obtain ⟨ad,b,B,n1,c1,rfl,ah,kN,eF⟩:=aK 0 di;have lV:l[0]=x0:=by simp [hl]
 rw [sY,show ad.add 0=ad by unfold Addr.add; simp,lV] at kN;rw [lV] at eF;have lQ:=hid aK;have VI:=hid lU;have IH:=hid ih;have ay:=hid aC;have Yr:=hid kN;have ou:=hid eF;have HL:=hid hl;clear aK lU ih hl lV eF;obtain ⟨W,hW⟩:=n_m (w.alloc (.cells #[.int .i64 0,.bool false,.slice none 0 0,.slice none 0 0] 33));have ai:Ext w W:=by rw [<- hW]; exact (Ext.refl w).alloc _
 have dG:W.heap.size=w.heap.size+1:=by rw [<- hW]; simp
 have HZ:Hid (jf W w.heap.size):=by
  have:jf W w.heap.size:=by rw [<- hW]; exact jf.new w _
  exact this
 have ajC:ad.block < W.heap.size:=by have:=(aC.trans ai).size; omega
 have QB:=kN.ext (aC.trans ai) ah;have HTW:Hid (∀ j:Nat,j < 4->W.cell? ⟨ad.block,ad.off+2+j,none⟩=some (.int .i64 (x0.2.get ((j+1:Nat):Int)))):=QB.xS;have aG:=hid ai;have hle:((l.length:Int) == 0)=false:=by
  rw [SJ]; intro h; rw [beq_iff_eq] at h; omega
 clear kN aC ai QB;go_enter Tryz.func30,Tryz.ntmps30;go_wp2_with fail;clear hW
 go_loopw [1] (fun lv wr=>∃ j:Nat,j<=n/\lv=.int .i64 j/\wr=W/\Hid (∀ i:Nat,j < i->i<=n->x0.2.get i=0)) (fun lv _=>(intOf lv).toNat)
 case atStart=>exact ⟨n,pj _,rfl,rfl,fun i h1 h2=>by omega⟩
 case round =>
  obtain ⟨j,hj,rfl,jL,FY⟩:=hrel;subst wr
  by_cases hj0:j=0
  · subst hj0;have hbz:bld n l=Pl.const x0.1:=by
     rw [HL.out];have:=gbq x0.1 x0.2 r 0 n (pS _) FY.out;rw [show (x0.1,x0.2) :: r=x0 :: r from rfl] at this;rw [this]; unfold bld; rfl
    obtain ⟨sv,BF,hnv⟩:=ou.out;simp only [tm,tD,so,and_true,Value.bool.injEq] at BF;obtain ⟨rfl,rfl⟩:=BF;have Rf:=hnv.ext (ay.out.trans aG.out);obtain ⟨t0,t1,-⟩:=Yr.out.ext (ay.out.trans aG.out) ah;obtain ⟨⟨z0,z1,z2,z3⟩,zf⟩:=HZ.out;obtain ⟨A9,c9,e9,-⟩:=id hnv;injection e9 with e91 e92 e93
    subst e91 e92 e93;have jH:PlV W (fun _=>False) (Pl.const x0.1) (plV (Pl.const x0.1) (.slice B (dg x0.1.natAbs).length c1) (.slice none 0 0)):=PlV.mk (t:=Pl.const x0.1) (c:=0) (A:=none) Rf (by simp [Pl.const,Pl.cs]) (by omega) (by unfold Pl.const Pl.cs jd; trivial);have hf:=qf (q':=fun b=>w.heap.size<=b) aG.out (pj _) HZ.out jH (fun b _ h=>h.elim);have HF:=hid (uf.congr hbz hf);clear hf jH hnv Rf hbz;go_wp2_with fail;exact bodyPost_ret (v:=plV (Pl.const x0.1) (.slice B (dg x0.1.natAbs).length c1) (.slice none 0 0)) (by simp [results,Tryz.results30,go_sem,z0,z1,z2,z3,plV,Pl.const,Pl.lv,Pl.neg]) rfl HF.out
  · obtain ⟨j',Hz⟩:∃ j',j=j'+1:=⟨j - 1,by omega⟩;have HJ:=hid Hz;have Oy:j'+1<=n:=by omega
    have hjq:((j:Int) == 0)=false:=by
     rw [SJ]; intro h; rw [beq_iff_eq] at h; omega
    have hjp:decide ((j:Int) > 0)=true:=decide_eq_true (by omega);have MJ:Hid (∀ i:Nat,j'+1 < i->i<=n->x0.2.get i=0):=fun i h1 h2=>FY.out i (by omega) h2
    have hc:=HTW.out j' (by omega);have Rj:0<=x0.2.get ((j'+1:Nat):Int):=Mo.jx (VI.out.nn x0 (by rw [HL.out]; simp)) _;have aav:x0.2.get ((j'+1:Nat):Int)<=1073741824:=(VI.out.ex x0 (by rw [HL.out]; simp)).get _;obtain ⟨E,hE⟩:∃ E:Nat,x0.2.get ((j'+1:Nat):Int)=E:=⟨_,(Int.toNat_of_nonneg Rj).symm⟩;rw [hE] at hc Rj aav;have ah5:IntKind.i64.wrap ((j:Int) - 1)=j':=by rw [rk]; omega
    clear Hz
    by_cases OY:E=0
    · subst OY;go_wp2_with fail
      go_roundw
      case rel=>exact ⟨j',by omega,by go_num,trivial,fun i h1 h2=>by
        by_cases hi:i=j'+1
        · rw [hi]; exact hE
        · exact MJ.out i (by omega) h2⟩
      case measure=>have:=HJ.out; first | (simp [intOf]; omega) | (simp [intOf]; done)
    · have hEq:((E:Int) == 0)=false:=by
       rw [SJ]; intro h; rw [beq_iff_eq] at h; omega
      have hEg:decide ((E:Int) > 1073741824)=false:=decide_eq_false (by omega);have ah4:IntKind.i64.wrap ((E:Int)+1)=E+1:=by rw [rk]; omega
      have lU:=VI.out.strip HL.out (j'+1) n iy Oy MJ.out;have hb:bld n l=.mk (j'+1:Nat) false [] ((List.range (E+1)).map (bco j' l)):=by
       have h1:=gbq x0.1 x0.2 r (j'+1) n Oy MJ.out;have h2:=zc9 (j:=j') (c:=x0.1) (m:=x0.2) (r:=r) (by rw [hE]; omega);rw [show (x0.1,x0.2) :: r=l from HL.out.symm] at h1 h2;rw [h1,h2,hE,sT]
      obtain ⟨V,dw,eQ,xG,ae⟩:=uw ((E:Int)+1) (by omega) (by omega) W;rw [show ((E:Int)+1).toNat=E+1 by omega] at dw ae;rw [dG] at dw;have gK:=ae (fun b=>w.heap.size+1<=b);rw [dG] at gK;have kK:=hid (uah.start (W:=W) (j:=j') (l:=l) gK eQ);have HB:=hid hb;have DC:=hid lU;clear lU hb eQ ae gK;have HDS:=hid (fun a b (ha:a < l.length) (hb:b < l.length) (oK:a<=b)=>DC.out.desc (Nat.succ_pos j') (by omega) a b ha hb oK);have oh:Hid (∀ k (hk:k < l.length),∃ e:Nat,l[k].2.get ((j'+1:Nat):Int)=e/\e<=E):=by
       have:∀ k (hk:k < l.length),∃ e:Nat,l[k].2.get ((j'+1:Nat):Int)=e/\e<=E:=fun k hk=>by
        have h1:=Mo.jx (DC.out.nn _ (pt hk)) ((j'+1:Nat):Int);have h2:=HDS.out 0 k di hk (pS _);have h4:l[0]=x0:=by simp [HL.out]
        rw [h4,hE] at h2;exact ⟨(l[k].2.get ((j'+1:Nat):Int)).toNat,(Int.toNat_of_nonneg h1).symm,by omega⟩
       exact this
      have Jr:Hid (∀ k (hk:k < l.length) W2,Ext W W2->W2.cell? ⟨(ad.add (k * 6)).block,(ad.add (k * 6)).off+2+j',none⟩=some (.int .i64 (l[k].2.get ((j'+1:Nat):Int)))):=by
       have:∀ k (hk:k < l.length) W2,Ext W W2->W2.cell? ⟨(ad.add (k * 6)).block,(ad.add (k * 6)).off+2+j',none⟩=some (.int .i64 (l[k].2.get ((j'+1:Nat):Int))):=fun k hk W2 zK=>by
        obtain ⟨ad',b',B',n',c',e',eP,h1,-⟩:=lQ.out.ext ((ay.out.trans aG.out).trans zK) k hk;injection e' with e'
        subst e';exact h1.xS j' (by omega)
       exact this
      have mF:=hid hE;go_wp2_with fail;clear dw hc hE
      go_loopw [6] (fun sv wv=>∃ s:Nat,s<=l.length/\sv=.int .i64 s/\Hid (uah W (fun b=>w.heap.size+1<=b) (w.heap.size+1) j' E l s wv)) (fun sv _=>l.length - (intOf sv).toNat)
      case atStart=>exact ⟨0,pS _,rfl,kK⟩
      case round =>
       obtain ⟨s,hs,rfl,HI⟩:=hrel;obtain ⟨U,hU⟩:=n_m (wr);subst wr;have rQ:=HI.out.2.1
       by_cases af:s < l.length
       · obtain ⟨e,he,heE⟩:=oh.out s af;have fB:=Jr.out s af _ rQ;rw [he] at fB;have hsc:¬ c=s:=by omega
         have bY:Hid (∀ t:Nat,s < t->t<=l.length->(∀ a (ha:a < l.length),s<=a->a < t->l[a].2.get ((j'+1:Nat):Int)=e)->(∀ (ha:t < l.length),l[t].2.get ((j'+1:Nat):Int) ≠ e)->Calls Tryz.prog 30 #[.slice (some (ad.add (s * 6))) (t - s) (c - s),.int .i64 j'] U (fun e2 w2=>∃ A0 n0 c0 A1 n1 c1,e2=.returned (plV (bco j' l e) (.slice A0 n0 c0) (.slice A1 n1 c1))/\(∃ u0 u1 B0 m0 d0 B1 m1 d1,w2.cell? ⟨w.heap.size+1,e * 4,none⟩=some (.int .i64 u0)/\w2.cell? ⟨w.heap.size+1,e * 4+1,none⟩=some (.bool u1)/\w2.cell? ⟨w.heap.size+1,e * 4+2,none⟩=some (.slice B0 m0 d0)/\w2.cell? ⟨w.heap.size+1,e * 4+3,none⟩=some (.slice B1 m1 d1))/\(∀ i,w2.frozen? ⟨w.heap.size+1,i,none⟩=false)/\uah W (fun b=>w.heap.size+1<=b) (w.heap.size+1) j' E l t ((((w2.setCell ⟨w.heap.size+1,e * 4,none⟩ (.int .i64 (bco j' l e).lv)).setCell ⟨w.heap.size+1,e * 4+1,none⟩ (.bool (bco j' l e).neg)).setCell ⟨w.heap.size+1,e * 4+2,none⟩ (.slice A0 n0 c0)).setCell ⟨w.heap.size+1,e * 4+3,none⟩ (.slice A1 n1 c1)))):=by
          intro t dV ht kU pG;obtain ⟨-,hg⟩:=HI.out.group DC.out (by omega) dV ht kU pG;have ZI:((l.drop s).take (t - s)).length=t - s:=by rw [pA,re]; omega
          have aO:=IH.out j' (by omega) ((l.drop s).take (t - s)) (some (ad.add (s * 6))) (c - s) U (lQ.out.sub s (t - s) (by omega)) (by omega) (by omega) (by rw [<- hg]; exact DC.out.part _) ((ay.out.trans aG.out).trans rQ);rw [ZI,<- hg,show bld j' (l.filter fun x=>decide (x.2.get ((j'+1:Nat):Int)=Int.ofNat e))=bco j' l e from rfl] at aO;refine aO.mono ?_;rintro e2 w2 ⟨v2,rfl,p2,x2⟩;obtain ⟨A0,n0,c0,A1,c1,e3,-⟩:=id p2.open_;subst e3;obtain ⟨k1,k2,k3⟩:=HI.out.step (by omega) DC.out (by omega) dV ht heE kU pG x2 p2;exact ⟨_,_,_,_,_,_,rfl,k1,k2,k3⟩
         have NH:=hid (fun k hk=>Jr.out k hk _ rQ);have HSE:=hid he;have ah3:(⟨w.heap.size+1,0,none⟩:Addr).add (e * 4)=⟨w.heap.size+1,e * 4,none⟩:=by rw [zu,rh]
         clear oh HI rQ he;go_wp2_with fail
         go_loopw [8] (fun tv wv=>∃ t:Nat,s<=t/\t<=l.length/\tv=.int .i64 t/\wv=U/\Hid (∀ a (ha:a < l.length),s<=a->a < t->l[a].2.get ((j'+1:Nat):Int)=e)) (fun tv _=>l.length - (intOf tv).toNat)
         case atStart=>exact ⟨s,pj _,hs,rfl,rfl,fun a ha h1 h2=>by omega⟩
         case round =>
          obtain ⟨t,dV,ht,rfl,hwv,vY⟩:=hrel;subst wr
          by_cases GI:t < l.length
          · have hct:=NH.out t GI
            by_cases OG:l[t].2.get ((j'+1:Nat):Int)=e
            · rw [OG] at hct;have YC:Hid (∀ a (ha:a < l.length),s<=a->a < t+1->l[a].2.get ((j'+1:Nat):Int)=e):=fun a ha h1 h2=>by
               by_cases aK:a=t
               · subst aK; exact OG
               · exact vY.out a ha h1 (by omega)
              clear OG;go_wp2_with fail
              go_roundw
              case rel=>exact ⟨t+1,by omega,by omega,by go_num,trivial,YC⟩
              case measure=>simp [intOf]; omega
            · have JK:s < t:=by
               rcases tG s t with h | h
               · exact h
               · obtain rfl:s=t:=by omega
                 exact absurd HSE.out OG
              have pG:∀ (ha:t < l.length),l[t].2.get ((j'+1:Nat):Int) ≠ e:=fun _=>OG
              have hq:(l[t].2.get ((j'+1:Nat):Int) == (e:Int))=false:=by rw [SJ]; intro h; exact OG (beq_iff_eq.1 h)
              generalize hX:l[t].2.get ((j'+1:Nat):Int)=X at hct hq;have aO:=bY.out t JK ht vY.out pG;have bH:=hid aO;clear aO bY NH vY HSE;have htc:(t:Int)<=c:=by omega
              go_wp2_with fail;refine bH.out.mono ?_;rintro e2 w2 ⟨A0,n0,c0,A1,n2,c2,rfl,⟨u0,u1,B0,m0,d0,B2,m1,d1,r0,r1,r2,r3⟩,rf,hinv⟩;have cZ:=hid hinv;generalize bco j' l e=P at *;unfold plV;clear hinv bH;go_wp2_with fail
              go_roundw
              case rel=>exact ⟨t,ht,rfl,cZ⟩
              case measure=>simp [intOf]; omega
          · have JK:s < t:=by omega
            have pG:∀ (ha:t < l.length),l[t].2.get ((j'+1:Nat):Int) ≠ e:=fun h=>absurd h GI
            have aO:=bY.out t JK ht vY.out pG;have bH:=hid aO;clear aO bY NH vY HSE;have htc:(t:Int)<=c:=by omega
            go_wp2_with fail;refine bH.out.mono ?_;rintro e2 w2 ⟨A0,n0,c0,A1,n2,c2,rfl,⟨u0,u1,B0,m0,d0,B2,m1,d1,r0,r1,r2,r3⟩,rf,hinv⟩;have cZ:=hid hinv;generalize bco j' l e=P at *;unfold plV;clear hinv bH;go_wp2_with fail
            go_roundw
            case rel=>exact ⟨t,ht,rfl,cZ⟩
            case measure=>simp [intOf]; omega
       · have ZM:s=l.length:=by omega
         rw [ZM] at HI;have aS:=HI.out.fin.fin (pj _);obtain ⟨⟨z0,z1,z2,z3⟩,zf⟩:=HZ.out.ext rQ (by omega);have qO:((List.range (E+1)).map (bco j' l)).length=E+1:=by simp
         have jH:=PlV.mk (t:=.mk (j'+1:Nat) false [] ((List.range (E+1)).map (bco j' l))) (c:=E+1) (jc.nil U) (by simp only [Pl.cs]; omega) (by omega) aS;simp only [Pl.cs,qO] at jH;have hf:=qf (q':=fun b=>w.heap.size<=b) (aG.out.trans rQ) (pj _) (HZ.out.ext rQ (by omega)) jH (fun b _ hb=>⟨by omega,by omega⟩);have lY:=uf.congr HB.out hf;simp only [Pl.lv,Pl.neg] at lY;rw [<- HJ.out] at lY;have HF:=hid lY;clear hf lY jH aS qO HI HB rQ;go_wp2_with fail;exact bodyPost_ret (v:=plV (.mk (j:Int) false [] ((List.range (E+1)).map (bco j' l))) (.slice none 0 0) (.slice (some ⟨w.heap.size+1,0,none⟩) (E+1) (E+1))) (by simp [results,Tryz.results30,go_sem,z0,z1,z2,z3,plV,Pl.lv,Pl.neg]) rfl HF.out
theorem kbf (w0:World) (n:Nat):n<=4->xci w0 n:=by
 induction n using Nat.strongRecOn with
 | _ n ih=>exact fun h=>vch w0 n h (fun m hm=>ih m hm (by omega))
def vao (b:Bool) (w:World) (e:Ending) (w':World):Prop:=e=.returned (.bool b)/\Ext w w'
end Go.Proofs.YtcepajijiabkmaaGreat
