/- Layer 22: recpoly.build. -/
import Derived.Test.YtcepajijiabkmaaGreatMq11
set_option linter.unusedSimpArgs false
set_option linter.unusedVariables false
set_option maxRecDepth 100000
set_option maxHeartbeats 8000000
namespace Go.Proofs.YtcepajijiabkmaaGreat
open Lib (hid)
open Go.RowKit
theorem gbn (c:Int) (m:Mo) (r:Sp) (j:Nat):∀ n,j<=n->(∀ i:Nat,j < i->i<=n->m.get i=0)->bld n ((c,m) :: r)=bld j ((c,m) :: r):=by
 intro n
 induction n with
 | zero=>intro h _; rw [show j=0 by omega]
 | succ n ih =>
   intro h hz
   by_cases hj:j=n+1
   · rw [hj]
   · rw [bld,if_pos (hz (n+1) (by omega) (Nat.le_refl _))];exact ih (by omega) (fun i h1 h2=>hz i h1 (by omega))
theorem vak.get_ {w:World} {ad:Addr} {b:Bool} {s:Value} {m:Mo} (h:vak w ad b s m) (j:Nat) (hj:j < 4):w.cell? ⟨ad.block,ad.off+2+j,none⟩=some (.int .i64 (m.get ((j+1:Nat):Int))):=by
 obtain ⟨-,-,h2,h3,h4,h5⟩:=h;rcases (show j=0\/j=1\/j=2\/j=3 by omega) with rfl | rfl | rfl | rfl
 · exact h2
 · exact h3
 · exact h4
 · exact h5
theorem vao.sub {w:World} {k:Option Nat} {ad:Addr} {l:Sp} (h:vao w k (some ad) l) (s n:Nat) (hn:s+n<=l.length):vao w k (some (ad.add (s * 6))) ((l.drop s).take n):=by
 intro i hi;rw [List.length_take,List.length_drop] at hi;obtain ⟨ad',b,B,n',c,e,hb,h1,h2⟩:=h (s+i) (by omega);injection e with e
 subst e;refine ⟨_,b,B,n',c,rfl,by rw [ja]; exact hb,?_,?_⟩
 · rw [wbh,<- Nat.add_mul,List.getElem_take,List.getElem_drop]; exact h1
 · rw [List.getElem_take,List.getElem_drop]; exact h2
theorem zg.congr {q:Nat->Prop} {p p':Pl} {w w':World} {e:Ending} (h:p'=p) (hr:zg q p w e w'):zg q p' w e w':=by rw [h]; exact hr
structure uad (n : Nat) (l : Sp) : Prop where
 can:qp l
 nn:∀ x ∈ l,x.2.nonneg
 ab:∃ m,ga7 n m l
 ex:∀ x ∈ l,x.2.le 1073741824
theorem uad.down {n j:Nat} {l:Sp} (h:uad n l) (hn:n<=4) (hj:j<=n) (hz:∀ x ∈ l,∀ i:Nat,j < i->i<=n->x.2.get i=0):uad j l:=by
 obtain ⟨m,hm⟩:=h.ab;refine ⟨h.can,h.nn,?_,h.ex⟩;cases l with
 | nil=>exact ⟨m,fun x hx=>by cases hx⟩
 | cons y r =>
   refine ⟨y.2,fun x hx i h1 h2=>?_⟩
   by_cases hi:i<=n
   · rw [hz x hx i h1 hi,hz y (by simp) i h1 hi]
   · rw [hm x hx i (by omega) h2,hm y (by simp) i (by omega) h2]
theorem uad.desc {n:Nat} {l:Sp} (h:uad n l) (hn:0 < n) (ik:n<=4) (i j:Nat) (hi:i < l.length) (hj:j < l.length) (oL:i<=j):l[j].2.get n<=l[i].2.get n:=by
 obtain ⟨m,hm⟩:=h.ab
 by_cases he:i=j
 · subst he; exact Int.le_refl _
 have af:(l[j].2).lt l[i].2:=by
  have hc:=h.can;clear h hm
  induction l generalizing i j with
  | nil=>simp at hi
  | cons x r ih =>
    obtain ⟨c,k⟩:=x;cases j with
    | zero=>omega
    | succ j =>
      cases i with
      | zero=>exact hc.2.1 _ (List.getElem_mem _)
      | succ i=>exact ih i j (by simpa using hi) (by simpa using hj) (by omega) (by omega) hc.2.2
 exact Mo.lt_get hn ik af (fun q h1 h2=>(hm _ (List.getElem_mem hj) q h1 h2).trans (hm _ (List.getElem_mem hi) q h1 h2).symm)
theorem uad.strip {l:Sp} {x0:Int × Mo} {r:Sp} (hl:l=x0 :: r) (j:Nat):∀ n,n<=4->j<=n->uad n l->(∀ i:Nat,j < i->i<=n->x0.2.get i=0)->uad j l:=by
 intro n
 induction n with
 | zero=>intro _ h jX _; rw [show j=0 by omega]; exact jX
 | succ n ih =>
   intro hn h jX hz
   by_cases hj:j=n+1
   · rw [hj]; exact jX
   · refine ih (by omega) (by omega) (jX.down hn (Nat.le_succ n) fun x hx i h1 h2=>?_) (fun i h1 h2=>hz i h1 (by omega));have hi:i=n+1:=by omega
     subst hi;obtain ⟨k,hk,rfl⟩:=List.getElem_of_mem hx;have h0:0 < l.length:=by omega
     have h3:=jX.desc (Nat.succ_pos n) hn 0 k h0 hk (Nat.zero_le _);have h4:l[0]=x0:=by simp [hl]
     rw [h4,hz (n+1) (by omega) (Nat.le_refl _)] at h3;have h5:=Mo.get_nonneg (jX.nn _ (List.getElem_mem hk)) ((n+1:Nat):Int);omega
theorem vcu {n:Nat} {l:Sp} {s t:Nat} {e:Int} (hs:s<=t) (ht:t<=l.length) (h1:∀ j (hj:j < l.length),j < s->l[j].2.get n ≠ e) (h2:∀ j (hj:j < l.length),s<=j->j < t->l[j].2.get n=e) (h3:∀ j (hj:j < l.length),t<=j->l[j].2.get n ≠ e) :
 l.filter (fun x=>decide (x.2.get n=e))=(l.drop s).take (t - s):=by
 have hl:l=l.take s ++ ((l.drop s).take (t - s) ++ l.drop t):=by
  have h4:l.drop t=(l.drop s).drop (t - s):=by rw [List.drop_drop]; congr 1; omega
  rw [h4,List.take_append_drop,List.take_append_drop]
 have f1:(l.take s).filter (fun x=>decide (x.2.get n=e))=[]:=List.filter_eq_nil_iff.2 fun x hx=>by
  obtain ⟨j,hj,rfl⟩:=List.getElem_of_mem hx;rw [List.length_take] at hj;rw [List.getElem_take];simpa using h1 j (by omega) (by omega)
 have f2:((l.drop s).take (t - s)).filter (fun x=>decide (x.2.get n=e))=(l.drop s).take (t - s):=List.filter_eq_self.2 fun x hx=>by
  obtain ⟨j,hj,rfl⟩:=List.getElem_of_mem hx;rw [List.length_take,List.length_drop] at hj;rw [List.getElem_take,List.getElem_drop];simpa using h2 (s+j) (by omega) (by omega) (by omega)
 have f3:(l.drop t).filter (fun x=>decide (x.2.get n=e))=[]:=List.filter_eq_nil_iff.2 fun x hx=>by
  obtain ⟨j,hj,rfl⟩:=List.getElem_of_mem hx;rw [List.length_drop] at hj;rw [List.getElem_drop];simpa using h3 (t+j) (by omega) (by omega)
 conv=>lhs; rw [hl]
 rw [List.filter_append,List.filter_append,f1,f2,f3]; simp
def zcf (w0:World) (n:Nat):Prop:=∀ (l:Sp) (A:Option Addr) (c:Nat) (w:World),vao w0 none A l->l.length<=c->c<=9223372036854775807->uad n l->Ext w0 w->Calls Tryz.prog 30 #[.slice A l.length c,.int .i64 n] w (zg (fun b=>w.heap.size<=b) (bld n l) w)
theorem gcm (n:Nat) (A:Option Addr) (c:Nat) (w:World):Calls Tryz.prog 30 #[.slice A 0 c,.int .i64 n] w (zg (fun b=>w.heap.size<=b) (bld n []) w):=by
 rw [show bld n []=Pl.zero by unfold bld; rfl];obtain ⟨W,hW⟩:=n_m (w.alloc (.cells #[.int .i64 0,.bool false,.slice none 0 0,.slice none 0 0] 33));have ag:Ext w W:=by rw [<- hW]; exact (Ext.refl w).alloc _
 have hz:uf W w.heap.size:=by rw [<- hW]; exact uf.new w _
 have HF:=hid (jg (p:=Pl.zero) (q:=fun _=>False) (q':=fun b=>w.heap.size<=b) ag (Nat.le_refl _) hz (Pl.zero_v W _ none 0 (by omega)) (fun b _ h=>h.elim));obtain ⟨⟨z0,z1,z2,z3⟩,zf⟩:=hz;clear ag;go_enter Tryz.func30,Tryz.ntmps30;go_wp2_with fail;exact bodyPost_ret (v:=plV Pl.zero (.slice none 0 0) (.slice none 0 0)) (by simp [results,Tryz.results30,go_sem,z0,z1,z2,z3,plV,Pl.zero,Pl.lv,Pl.neg]) rfl HF.out
def bco (j:Nat) (l:Sp) (i:Nat):Pl:=bld j (l.filter fun x=>decide (x.2.get ((j+1:Nat):Int)=Int.ofNat i))
theorem kc3 {j:Nat} {c:Int} {m:Mo} {r:Sp} (h:m.get ((j+1:Nat):Int) ≠ 0):bld (j+1) ((c,m) :: r)=.mk (j+1:Nat) false [] ((List.range ((m.get (j+1:Nat)).toNat+1)).map (bco j ((c,m) :: r))):=by
 rw [bld,if_neg h]; rfl
def yag (W:World) (q:Nat->Prop) (R j E:Nat) (l:Sp) (s:Nat) (wr:World):Prop:=
 (∃ Lc:List Pl,Lc.length=E+1/\(∀ i (hi:i < Lc.length),(∀ x ∈ l.drop s,x.2.get ((j+1:Nat):Int) ≠ Int.ofNat i)->Lc[i]=bco j l i)/\zi wr q R Lc)/\Ext W wr/\∀ a b (ha:a < l.length) (hb:b < l.length),a < s->s<=b->l[b].2.get ((j+1:Nat):Int) < l[a].2.get ((j+1:Nat):Int)
theorem yag.start {W wr:World} {q:Nat->Prop} {R j E:Nat} {l:Sp} (h:zi wr q R (List.replicate (E+1) Pl.zero)) (hx:Ext W wr):yag W q R j E l 0 wr:=by
 refine ⟨⟨_,List.length_replicate,fun i hi hn=>?_,h⟩,hx,fun a b ha hb h1=>by omega⟩;rw [List.getElem_replicate,bco,List.filter_eq_nil_iff.2 (fun x hx=>by simpa using hn x (by simpa using hx))];unfold bld; rfl
theorem yag.fin {W wr:World} {q:Nat->Prop} {R j E:Nat} {l:Sp} (h:yag W q R j E l l.length wr):zi wr q R ((List.range (E+1)).map (bco j l)):=by
 obtain ⟨⟨Lc,h1,h2,h3⟩,-⟩:=h;have:Lc=(List.range (E+1)).map (bco j l):=by
  refine List.ext_getElem (by rw [List.length_map,List.length_range]; exact h1) fun i hi iO=>?_
  rw [h2 i hi (by rw [List.drop_length]; simp),List.getElem_map,List.getElem_range]
 rw [<- this]; exact h3
theorem yag.group {W wr:World} {q:Nat->Prop} {R j E:Nat} {l:Sp} {s t:Nat} {e:Nat} (h:yag W q R j E l s wr) (jX:uad (j+1) l) (oW:j+1<=4) (dF:s < t) (ht:t<=l.length) (jC:∀ a (ha:a < l.length),s<=a->a < t->l[a].2.get ((j+1:Nat):Int)=e) (mQ:∀ (ha:t < l.length),l[t].2.get ((j+1:Nat):Int) ≠ e) :
 (∀ a (ha:a < l.length),t<=a->l[a].2.get ((j+1:Nat):Int) < e)/\l.filter (fun x=>decide (x.2.get ((j+1:Nat):Int)=Int.ofNat e))=(l.drop s).take (t - s):=by
 have FK:∀ a (ha:a < l.length),t<=a->l[a].2.get ((j+1:Nat):Int) < e:=fun a ha V4=>by
  have h1:=jX.desc (Nat.succ_pos j) oW s t (by omega) (by omega) (by omega);have h2:=jX.desc (Nat.succ_pos j) oW t a (by omega) ha V4;have h3:=jC s (by omega) (Nat.le_refl _) dF;have h4:=mQ (by omega);omega
 refine ⟨FK,vcu (n:=j+1) (Nat.le_of_lt dF) ht (fun a ha has=>?_) (fun a ha h1 h2=>by simpa using jC a ha h1 h2) (fun a ha V4=>?_)⟩
 · have h1:=h.2.2 a s ha (by omega) has (Nat.le_refl _);have h2:=jC s (by omega) (Nat.le_refl _) dF;simp only [Int.ofNat_eq_natCast]; omega
 · have:=FK a ha V4;simp only [Int.ofNat_eq_natCast]; omega
theorem yag.step {W wr w2:World} {R j E:Nat} {l:Sp} {s t:Nat} {e:Nat} (h:yag W (fun b=>R<=b) R j E l s wr) (hR:W.heap.size<=R) (jX:uad (j+1) l) (oW:j+1<=4) (dF:s < t) (ht:t<=l.length) (he:e<=E) (jC:∀ a (ha:a < l.length),s<=a->a < t->l[a].2.get ((j+1:Nat):Int)=e) (mQ:∀ (ha:t < l.length),l[t].2.get ((j+1:Nat):Int) ≠ e) (aO:Ext wr w2) {A0 A1:Option Addr} {n0 c0 n1 c1:Nat} (hp:PlV w2 (fun b=>wr.heap.size<=b) (bco j l e) (plV (bco j l e) (.slice A0 n0 c0) (.slice A1 n1 c1))) :
 (∃ u0 u1 B0 m0 d0 B1 m1 d1,w2.cell? ⟨R,e * 4,none⟩=some (.int .i64 u0)/\w2.cell? ⟨R,e * 4+1,none⟩=some (.bool u1)/\w2.cell? ⟨R,e * 4+2,none⟩=some (.slice B0 m0 d0)/\w2.cell? ⟨R,e * 4+3,none⟩=some (.slice B1 m1 d1))/\(∀ i,w2.frozen? ⟨R,i,none⟩=false) /\
 yag W (fun b=>R<=b) R j E l t ((((w2.setCell ⟨R,e * 4,none⟩ (.int .i64 (bco j l e).lv)).setCell ⟨R,e * 4+1,none⟩ (.bool (bco j l e).neg)).setCell ⟨R,e * 4+2,none⟩ (.slice A0 n0 c0)).setCell ⟨R,e * 4+3,none⟩ (.slice A1 n1 c1)):=by
 obtain ⟨af,-⟩:=h.group jX oW dF ht jC mQ;obtain ⟨⟨Lc,h1,h2,h3⟩,hx,Wq⟩:=h;have fA:=h3.ext aO;obtain ⟨D0,n2,g0,D1,n3,g1,⟨r0,r1,r2,r3⟩,-⟩:=fA.2.2 e (by omega);have oN:=h3.1;have Wh:=(fA.set_ e (by omega) (bco j l e) (hp.mono fun b hb=>⟨by omega,by omega⟩)).1;refine ⟨⟨_,_,_,_,_,_,_,_,r0,r1,r2,r3⟩,fA.2.1,⟨Lc.set e (bco j l e),by rw [List.length_set]; exact h1,fun i hi hn=>?_,Wh⟩,((((hx.trans aO).setCell hR _).setCell hR _).setCell hR _).setCell hR _,fun a b ha hb aK htb=>?_⟩
 · rw [List.length_set] at hi
   by_cases Fg:i=e
   · subst Fg; rw [List.getElem_set_self]
   · rw [List.getElem_set_ne (Ne.symm Fg)];refine h2 i hi fun x ed=>?_
     obtain ⟨k,hk,rfl⟩:=List.getElem_of_mem ed;rw [List.length_drop] at hk;rw [List.getElem_drop]
     by_cases aV:s+k < t
     · rw [jC (s+k) (by omega) (by omega) aV];simp only [Int.ofNat_eq_natCast]; omega
     · refine hn _ (List.mem_iff_getElem.2 ⟨s+k - t,by rw [List.length_drop]; omega,?_⟩);rw [List.getElem_drop]
       congr 1; omega
 · have h4:=af b hb htb
   by_cases has:a < s
   · have:=Wq a s ha (by omega) has (Nat.le_refl _);rw [jC s (by omega) (Nat.le_refl _) dF] at this;omega
   · rw [jC a ha (by omega) aK]; exact h4
theorem uad.part {j:Nat} {l:Sp} (h:uad (j+1) l) (e:Int):uad j (l.filter fun x=>decide (x.2.get ((j+1:Nat):Int)=e)):=by
 obtain ⟨m,hm⟩:=h.ab;refine ⟨h.can.filter _,fun x hx=>h.nn x (List.mem_filter.1 hx).1,?_,fun x hx=>h.ex x (List.mem_filter.1 hx).1⟩;cases hf:l.filter (fun x=>decide (x.2.get ((j+1:Nat):Int)=e)) with
 | nil=>exact ⟨m,fun x hx=>by cases hx⟩
 | cons y r =>
   refine ⟨y.2,fun x hx i h1 h2=>?_⟩;rw [<- hf] at hx;have hy:y ∈ l.filter (fun x=>decide (x.2.get ((j+1:Nat):Int)=e)):=by rw [hf]; simp
   obtain ⟨hx1,aO⟩:=List.mem_filter.1 hx;obtain ⟨BP,hy2⟩:=List.mem_filter.1 hy
   by_cases hi:i=j+1
   · subst hi;rw [of_decide_eq_true aO,of_decide_eq_true hy2]
   · rw [hm x hx1 i (by omega) h2,hm y BP i (by omega) h2]
theorem vce (w0:World) (n:Nat) (ik:n<=4) (ih:∀ m,m < n->zcf w0 m):zcf w0 n:=by
 intro l A c w aK dY dK jX aF;cases hl:l with
 | nil=>exact gcm n A c w
 | cons x0 r =>
 rw [<- hl];have dh:0 < l.length:=by rw [hl]; simp
 obtain ⟨ad,b,B,n1,c1,rfl,ah,jA,dE⟩:=aK 0 dh;have kV:l[0]=x0:=by simp [hl]
 rw [Nat.zero_mul,show ad.add 0=ad by unfold Addr.add; simp,kV] at jA;rw [kV] at dE;have lJ:=hid aK;have RV:=hid jX;have IH:=hid ih;have ay:=hid aF;have U4:=hid jA;have lI:=hid dE;have HL:=hid hl;clear aK jX ih hl kV dE;obtain ⟨W,hW⟩:=n_m (w.alloc (.cells #[.int .i64 0,.bool false,.slice none 0 0,.slice none 0 0] 33));have ag:Ext w W:=by rw [<- hW]; exact (Ext.refl w).alloc _
 have bY:W.heap.size=w.heap.size+1:=by rw [<- hW]; simp
 have HZ:Hid (uf W w.heap.size):=by
  have:uf W w.heap.size:=by rw [<- hW]; exact uf.new w _
  exact this
 have agd:ad.block < W.heap.size:=by have:=(aF.trans ag).size; omega
 have NL:=jA.ext (aF.trans ag) ah;have ZE:Hid (∀ j:Nat,j < 4->W.cell? ⟨ad.block,ad.off+2+j,none⟩=some (.int .i64 (x0.2.get ((j+1:Nat):Int)))):=NL.get_;have aB:=hid ag;have hle:((l.length:Int) == 0)=false:=by
  rw [Bool.eq_false_iff]; intro h; rw [beq_iff_eq] at h; omega
 clear jA aF ag NL;go_enter Tryz.func30,Tryz.ntmps30;go_wp2_with fail;clear hW
 go_loopw [1] (fun lv wr=>∃ j:Nat,j<=n/\lv=.int .i64 j/\wr=W/\Hid (∀ i:Nat,j < i->i<=n->x0.2.get i=0)) (fun lv _=>(intOf lv).toNat)
 case atStart=>exact ⟨n,Nat.le_refl _,rfl,rfl,fun i h1 h2=>by omega⟩
 case round =>
  obtain ⟨j,hj,rfl,og,Rj⟩:=hrel;subst wr
  by_cases Xr:j=0
  · subst Xr;have hbz:bld n l=Pl.const x0.1:=by
     rw [HL.out];have:=gbn x0.1 x0.2 r 0 n (Nat.zero_le _) Rj.out;rw [show (x0.1,x0.2) :: r=x0 :: r from rfl] at this;rw [this]; unfold bld; rfl
    obtain ⟨sv,zL,WV⟩:=lI.out;simp only [Value.agg.injEq,Array.mk.injEq,List.cons.injEq,and_true,Value.bool.injEq] at zL;obtain ⟨rfl,rfl⟩:=zL;have Ox:=WV.ext (ay.out.trans aB.out);obtain ⟨t0,t1,-⟩:=U4.out.ext (ay.out.trans aB.out) ah;obtain ⟨⟨z0,z1,z2,z3⟩,zf⟩:=HZ.out;obtain ⟨A9,c9,e9,-⟩:=id WV;injection e9 with e91 e92 e93
    subst e91 e92 e93;have jV:PlV W (fun _=>False) (Pl.const x0.1) (plV (Pl.const x0.1) (.slice B (dg x0.1.natAbs).length c1) (.slice none 0 0)):=PlV.mk (t:=Pl.const x0.1) (c:=0) (A:=none) Ox (by simp [Pl.const,Pl.cs]) (by omega) (by unfold Pl.const Pl.cs jd; trivial);have hf:=jg (q':=fun b=>w.heap.size<=b) aB.out (Nat.le_refl _) HZ.out jV (fun b _ h=>h.elim);have HF:=hid (zg.congr hbz hf);clear hf jV WV Ox hbz;go_wp2_with fail;exact bodyPost_ret (v:=plV (Pl.const x0.1) (.slice B (dg x0.1.natAbs).length c1) (.slice none 0 0)) (by simp [results,Tryz.results30,go_sem,z0,z1,z2,z3,plV,Pl.const,Pl.lv,Pl.neg]) rfl HF.out
  · obtain ⟨j',Ff⟩:∃ j',j=j'+1:=⟨j - 1,by omega⟩;have HJ:=hid Ff;have Xo:j'+1<=n:=by omega
    have hjq:((j:Int) == 0)=false:=by
     rw [Bool.eq_false_iff]; intro h; rw [beq_iff_eq] at h; omega
    have hjp:decide ((j:Int) > 0)=true:=decide_eq_true (by omega);have JB:Hid (∀ i:Nat,j'+1 < i->i<=n->x0.2.get i=0):=fun i h1 h2=>Rj.out i (by omega) h2
    have hc:=ZE.out j' (by omega);have OA:0<=x0.2.get ((j'+1:Nat):Int):=Mo.get_nonneg (RV.out.nn x0 (by rw [HL.out]; simp)) _;have Xi:x0.2.get ((j'+1:Nat):Int)<=1073741824:=(RV.out.ex x0 (by rw [HL.out]; simp)).get _;obtain ⟨E,hE⟩:∃ E:Nat,x0.2.get ((j'+1:Nat):Int)=E:=⟨_,(Int.toNat_of_nonneg OA).symm⟩;rw [hE] at hc OA Xi;have aeQ:IntKind.i64.wrap ((j:Int) - 1)=j':=by rw [IntKind.wrap_i64]; omega
    clear Ff
    by_cases LU:E=0
    · subst LU;go_wp2_with fail
      go_roundw
      case rel=>exact ⟨j',by omega,by go_num,trivial,fun i h1 h2=>by
        by_cases hi:i=j'+1
        · rw [hi]; exact hE
        · exact JB.out i (by omega) h2⟩
      case measure=>have:=HJ.out; first | (simp [intOf]; omega) | (simp [intOf]; done)
    · have hEq:((E:Int) == 0)=false:=by
       rw [Bool.eq_false_iff]; intro h; rw [beq_iff_eq] at h; omega
      have YY:decide ((E:Int) > 1073741824)=false:=decide_eq_false (by omega);have aeP:IntKind.i64.wrap ((E:Int)+1)=E+1:=by rw [IntKind.wrap_i64]; omega
      have jX:=RV.out.strip HL.out (j'+1) n ik Xo JB.out;have hb:bld n l=.mk (j'+1:Nat) false [] ((List.range (E+1)).map (bco j' l)):=by
       have h1:=gbn x0.1 x0.2 r (j'+1) n Xo JB.out;have h2:=kc3 (j:=j') (c:=x0.1) (m:=x0.2) (r:=r) (by rw [hE]; omega);rw [show (x0.1,x0.2) :: r=l from HL.out.symm] at h1 h2;rw [h1,h2,hE,Int.toNat_natCast]
      obtain ⟨V,dB,fD,AV,ae⟩:=qab ((E:Int)+1) (by omega) (by omega) W;rw [show ((E:Int)+1).toNat=E+1 by omega] at dB ae;rw [bY] at dB;have eF:=ae (fun b=>w.heap.size+1<=b);rw [bY] at eF;have kE:=hid (yag.start (W:=W) (j:=j') (l:=l) eF fD);have HB:=hid hb;have BF:=hid jX;clear jX hb fD ae eF;have HDS:=hid (fun a b (ha:a < l.length) (hb:b < l.length) (kZ:a<=b)=>BF.out.desc (Nat.succ_pos j') (by omega) a b ha hb kZ);have nX:Hid (∀ k (hk:k < l.length),∃ e:Nat,l[k].2.get ((j'+1:Nat):Int)=e/\e<=E):=by
       have:∀ k (hk:k < l.length),∃ e:Nat,l[k].2.get ((j'+1:Nat):Int)=e/\e<=E:=fun k hk=>by
        have h1:=Mo.get_nonneg (BF.out.nn _ (List.getElem_mem hk)) ((j'+1:Nat):Int);have h2:=HDS.out 0 k dh hk (Nat.zero_le _);have h4:l[0]=x0:=by simp [HL.out]
        rw [h4,hE] at h2;exact ⟨(l[k].2.get ((j'+1:Nat):Int)).toNat,(Int.toNat_of_nonneg h1).symm,by omega⟩
       exact this
      have GY:Hid (∀ k (hk:k < l.length) W2,Ext W W2->W2.cell? ⟨(ad.add (k * 6)).block,(ad.add (k * 6)).off+2+j',none⟩=some (.int .i64 (l[k].2.get ((j'+1:Nat):Int)))):=by
       have:∀ k (hk:k < l.length) W2,Ext W W2->W2.cell? ⟨(ad.add (k * 6)).block,(ad.add (k * 6)).off+2+j',none⟩=some (.int .i64 (l[k].2.get ((j'+1:Nat):Int))):=fun k hk W2 xM=>by
        obtain ⟨ad',b',B',n',c',e',dX,h1,-⟩:=lJ.out.ext ((ay.out.trans aB.out).trans xM) k hk;injection e' with e'
        subst e';exact h1.get_ j' (by omega)
       exact this
      have vY:=hid hE;go_wp2_with fail;clear dB hc hE
      go_loopw [6] (fun sv wv=>∃ s:Nat,s<=l.length/\sv=.int .i64 s/\Hid (yag W (fun b=>w.heap.size+1<=b) (w.heap.size+1) j' E l s wv)) (fun sv _=>l.length - (intOf sv).toNat)
      case atStart=>exact ⟨0,Nat.zero_le _,rfl,kE⟩
      case round =>
       obtain ⟨s,hs,rfl,HI⟩:=hrel;obtain ⟨U,hU⟩:=n_m (wr);subst wr;have pF:=HI.out.2.1
       by_cases af:s < l.length
       · obtain ⟨e,he,heE⟩:=nX.out s af;have eH:=GY.out s af _ pF;rw [he] at eH;have hsc:¬ c=s:=by omega
         have bG:Hid (∀ t:Nat,s < t->t<=l.length->(∀ a (ha:a < l.length),s<=a->a < t->l[a].2.get ((j'+1:Nat):Int)=e)->(∀ (ha:t < l.length),l[t].2.get ((j'+1:Nat):Int) ≠ e)->Calls Tryz.prog 30 #[.slice (some (ad.add (s * 6))) (t - s) (c - s),.int .i64 j'] U (fun e2 w2=>∃ A0 n0 c0 A1 n1 c1,e2=.returned (plV (bco j' l e) (.slice A0 n0 c0) (.slice A1 n1 c1))/\(∃ u0 u1 B0 m0 d0 B1 m1 d1,w2.cell? ⟨w.heap.size+1,e * 4,none⟩=some (.int .i64 u0)/\w2.cell? ⟨w.heap.size+1,e * 4+1,none⟩=some (.bool u1)/\w2.cell? ⟨w.heap.size+1,e * 4+2,none⟩=some (.slice B0 m0 d0)/\w2.cell? ⟨w.heap.size+1,e * 4+3,none⟩=some (.slice B1 m1 d1))/\(∀ i,w2.frozen? ⟨w.heap.size+1,i,none⟩=false)/\yag W (fun b=>w.heap.size+1<=b) (w.heap.size+1) j' E l t ((((w2.setCell ⟨w.heap.size+1,e * 4,none⟩ (.int .i64 (bco j' l e).lv)).setCell ⟨w.heap.size+1,e * 4+1,none⟩ (.bool (bco j' l e).neg)).setCell ⟨w.heap.size+1,e * 4+2,none⟩ (.slice A0 n0 c0)).setCell ⟨w.heap.size+1,e * 4+3,none⟩ (.slice A1 n1 c1)))):=by
          intro t dF ht jC mQ;obtain ⟨-,hg⟩:=HI.out.group BF.out (by omega) dF ht jC mQ;have We:((l.drop s).take (t - s)).length=t - s:=by rw [List.length_take,List.length_drop]; omega
          have aJ:=IH.out j' (by omega) ((l.drop s).take (t - s)) (some (ad.add (s * 6))) (c - s) U (lJ.out.sub s (t - s) (by omega)) (by omega) (by omega) (by rw [<- hg]; exact BF.out.part _) ((ay.out.trans aB.out).trans pF);rw [We,<- hg,show bld j' (l.filter fun x=>decide (x.2.get ((j'+1:Nat):Int)=Int.ofNat e))=bco j' l e from rfl] at aJ;refine aJ.mono ?_;rintro e2 w2 ⟨v2,rfl,p2,x2⟩;obtain ⟨A0,n0,c0,A1,c1,e3,-⟩:=id p2.open_;subst e3;obtain ⟨k1,k2,k3⟩:=HI.out.step (by omega) BF.out (by omega) dF ht heE jC mQ x2 p2;exact ⟨_,_,_,_,_,_,rfl,k1,k2,k3⟩
         have Kt:=hid (fun k hk=>GY.out k hk _ pF);have ZH:=hid he;have aeO:(⟨w.heap.size+1,0,none⟩:Addr).add (e * 4)=⟨w.heap.size+1,e * 4,none⟩:=by rw [uq,Nat.zero_add]
         clear nX HI pF he;go_wp2_with fail
         go_loopw [8] (fun tv wv=>∃ t:Nat,s<=t/\t<=l.length/\tv=.int .i64 t/\wv=U/\Hid (∀ a (ha:a < l.length),s<=a->a < t->l[a].2.get ((j'+1:Nat):Int)=e)) (fun tv _=>l.length - (intOf tv).toNat)
         case atStart=>exact ⟨s,Nat.le_refl _,hs,rfl,rfl,fun a ha h1 h2=>by omega⟩
         case round =>
          obtain ⟨t,dF,ht,rfl,hwv,tN⟩:=hrel;subst wr
          by_cases EJ:t < l.length
          · have hct:=Kt.out t EJ
            by_cases Lt:l[t].2.get ((j'+1:Nat):Int)=e
            · rw [Lt] at hct;have Vf:Hid (∀ a (ha:a < l.length),s<=a->a < t+1->l[a].2.get ((j'+1:Nat):Int)=e):=fun a ha h1 h2=>by
               by_cases aK:a=t
               · subst aK; exact Lt
               · exact tN.out a ha h1 (by omega)
              clear Lt;go_wp2_with fail
              go_roundw
              case rel=>exact ⟨t+1,by omega,by omega,by go_num,trivial,Vf⟩
              case measure=>simp [intOf]; omega
            · have H5:s < t:=by
               rcases Nat.lt_or_ge s t with h | h
               · exact h
               · obtain rfl:s=t:=by omega
                 exact absurd ZH.out Lt
              have mQ:∀ (ha:t < l.length),l[t].2.get ((j'+1:Nat):Int) ≠ e:=fun _=>Lt
              have hq:(l[t].2.get ((j'+1:Nat):Int) == (e:Int))=false:=by rw [Bool.eq_false_iff]; intro h; exact Lt (beq_iff_eq.1 h)
              generalize hX:l[t].2.get ((j'+1:Nat):Int)=X at hct hq;have aJ:=bG.out t H5 ht tN.out mQ;have aY:=hid aJ;clear aJ bG Kt tN ZH;have htc:(t:Int)<=c:=by omega
              go_wp2_with fail;refine aY.out.mono ?_;rintro e2 w2 ⟨A0,n0,c0,A1,n2,c2,rfl,⟨u0,u1,B0,m0,d0,B2,m1,d1,r0,r1,r2,r3⟩,rf,hinv⟩;have bI:=hid hinv;generalize bco j' l e=P at *;unfold plV;clear hinv aY;go_wp2_with fail
              go_roundw
              case rel=>exact ⟨t,ht,rfl,bI⟩
              case measure=>simp [intOf]; omega
          · have H5:s < t:=by omega
            have mQ:∀ (ha:t < l.length),l[t].2.get ((j'+1:Nat):Int) ≠ e:=fun h=>absurd h EJ
            have aJ:=bG.out t H5 ht tN.out mQ;have aY:=hid aJ;clear aJ bG Kt tN ZH;have htc:(t:Int)<=c:=by omega
            go_wp2_with fail;refine aY.out.mono ?_;rintro e2 w2 ⟨A0,n0,c0,A1,n2,c2,rfl,⟨u0,u1,B0,m0,d0,B2,m1,d1,r0,r1,r2,r3⟩,rf,hinv⟩;have bI:=hid hinv;generalize bco j' l e=P at *;unfold plV;clear hinv aY;go_wp2_with fail
            go_roundw
            case rel=>exact ⟨t,ht,rfl,bI⟩
            case measure=>simp [intOf]; omega
       · have Wn:s=l.length:=by omega
         rw [Wn] at HI;have aQ:=HI.out.fin.fin (Nat.le_refl _);obtain ⟨⟨z0,z1,z2,z3⟩,zf⟩:=HZ.out.ext pF (by omega);have uN:((List.range (E+1)).map (bco j' l)).length=E+1:=by simp
         have jV:=PlV.mk (t:=.mk (j'+1:Nat) false [] ((List.range (E+1)).map (bco j' l))) (c:=E+1) (jb.nil U) (by simp only [Pl.cs]; omega) (by omega) aQ;simp only [Pl.cs,uN] at jV;have hf:=jg (q':=fun b=>w.heap.size<=b) (aB.out.trans pF) (Nat.le_refl _) (HZ.out.ext pF (by omega)) jV (fun b _ hb=>⟨by omega,by omega⟩);have nO:=zg.congr HB.out hf;simp only [Pl.lv,Pl.neg] at nO;rw [<- HJ.out] at nO;have HF:=hid nO;clear hf nO jV aQ uN HI HB pF;go_wp2_with fail;exact bodyPost_ret (v:=plV (.mk (j:Int) false [] ((List.range (E+1)).map (bco j' l))) (.slice none 0 0) (.slice (some ⟨w.heap.size+1,0,none⟩) (E+1) (E+1))) (by simp [results,Tryz.results30,go_sem,z0,z1,z2,z3,plV,Pl.lv,Pl.neg]) rfl HF.out
theorem wbd (w0:World) (n:Nat):n<=4->zcf w0 n:=by
 induction n using Nat.strongRecOn with
 | _ n ih=>exact fun h=>vce w0 n h (fun m hm=>ih m hm (by omega))
def wam (b:Bool) (w:World) (e:Ending) (w':World):Prop:=e=.returned (.bool b)/\Ext w w'
end Go.Proofs.YtcepajijiabkmaaGreat
