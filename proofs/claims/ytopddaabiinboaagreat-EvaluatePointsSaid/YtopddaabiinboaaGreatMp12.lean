/- Layer 22: recpoly.build. -/
import Derived.Test.YtopddaabiinboaaGreatMp10
import Derived.Test.YtopddaabiinboaaGreatMp11
set_option linter.unusedSimpArgs false
set_option linter.unusedVariables false
set_option maxRecDepth 100000
set_option maxHeartbeats 8000000
namespace Go.Proofs.YtopddaabiinboaaGreat
open Go.RowKit
theorem qhq (c:Int) (m:Mo) (r:Sp) (j:Nat):∀ n,j<=n->(∀ i:Nat,j < i->i<=n->m.get i=0)->bld n ((c,m) :: r)=bld j ((c,m) :: r):=by
 intro n
 induction n with
 | zero=>intro h _; rw [show j=0 by omega]
 | succ n ih =>
   intro h hz
   by_cases hj:j=n+1
   · rw [hj]
   · rw [bld,if_pos (hz (n+1) (by omega) (Nat.le_refl _))];exact ih (by omega) (fun i h1 h2=>hz i h1 (by omega))
theorem xg9.get_ {w:World} {ad:Addr} {b:Bool} {s:Value} {m:Mo} (h:xg9 w ad b s m) (j:Nat) (hj:j < 4):w.cell? ⟨ad.block,ad.off+2+j,none⟩=some (.int .i64 (m.get ((j+1:Nat):Int))):=by
 obtain ⟨-,-,h2,h3,h4,h5⟩:=h;rcases (show j=0\/j=1\/j=2\/j=3 by omega) with rfl | rfl | rfl | rfl
 · exact h2
 · exact h3
 · exact h4
 · exact h5
theorem qhc.sub {w:World} {k:Option Nat} {ad:Addr} {l:Sp} (h:qhc w k (some ad) l) (s n:Nat) (hn:s+n<=l.length):qhc w k (some (ad.add (s * 6))) ((l.drop s).take n):=by
 intro i hi;rw [List.length_take,List.length_drop] at hi;obtain ⟨ad',b,B,n',c,e,hb,h1,h2⟩:=h (s+i) (by omega);injection e with e
 subst e;refine ⟨_,b,B,n',c,rfl,by rw [uc2]; exact hb,?_,?_⟩
 · rw [zhl,<- Nat.add_mul,List.getElem_take,List.getElem_drop]; exact h1
 · rw [List.getElem_take,List.getElem_drop]; exact h2
theorem vc4.congr {q:Nat->Prop} {p p':Pl} {w w':World} {e:Ending} (h:p'=p) (hr:vc4 q p w e w'):vc4 q p' w e w':=by rw [h]; exact hr
structure kdi (n : Nat) (l : Sp) : Prop where
 can:zde l
 nn:∀ x ∈ l,x.2.nonneg
 ab:∃ m,uhd n m l
 ex:∀ x ∈ l,x.2.le 1073741824
theorem kdi.down {n j:Nat} {l:Sp} (h:kdi n l) (hn:n<=4) (hj:j<=n) (hz:∀ x ∈ l,∀ i:Nat,j < i->i<=n->x.2.get i=0):kdi j l:=by
 obtain ⟨m,hm⟩:=h.ab;refine ⟨h.can,h.nn,?_,h.ex⟩;cases l with
 | nil=>exact ⟨m,fun x hx=>by cases hx⟩
 | cons y r =>
   refine ⟨y.2,fun x hx i h1 h2=>?_⟩
   by_cases hi:i<=n
   · rw [hz x hx i h1 hi,hz y (by simp) i h1 hi]
   · rw [hm x hx i (by omega) h2,hm y (by simp) i (by omega) h2]
theorem kdi.desc {n:Nat} {l:Sp} (h:kdi n l) (hn:0 < n) (hn4:n<=4) (i j:Nat) (hi:i < l.length) (hj:j < l.length) (hij:i<=j):l[j].2.get n<=l[i].2.get n:=by
 obtain ⟨m,hm⟩:=h.ab
 by_cases he:i=j
 · subst he; exact Int.le_refl _
 have hlt:(l[j].2).lt l[i].2:=by
  have hc:=h.can;clear h hm
  induction l generalizing i j with
  | nil=>simp at hi
  | cons x r ih =>
    obtain ⟨c,k⟩:=x;cases j with
    | zero=>omega
    | succ j =>
      cases i with
      | zero=>exact hc.2.1 _ (List.getElem_mem _)
      | succ i=>exact ih i j (by simpa using hi) (by simpa using hj) (by omega) (by omega) hc.2.2
 exact Mo.lt_get hn hn4 hlt (fun q h1 h2=>(hm _ (List.getElem_mem hj) q h1 h2).trans (hm _ (List.getElem_mem hi) q h1 h2).symm)
theorem kdi.strip {l:Sp} {x0:Int × Mo} {r:Sp} (hl:l=x0 :: r) (j:Nat):∀ n,n<=4->j<=n->kdi n l->(∀ i:Nat,j < i->i<=n->x0.2.get i=0)->kdi j l:=by
 intro n
 induction n with
 | zero=>intro _ h hok _; rw [show j=0 by omega]; exact hok
 | succ n ih =>
   intro hn h hok hz
   by_cases hj:j=n+1
   · rw [hj]; exact hok
   · refine ih (by omega) (by omega) (hok.down hn (Nat.le_succ n) fun x hx i h1 h2=>?_) (fun i h1 h2=>hz i h1 (by omega));have hi:i=n+1:=by omega
     subst hi;obtain ⟨k,hk,rfl⟩:=List.getElem_of_mem hx;have h0:0 < l.length:=by omega
     have h3:=hok.desc (Nat.succ_pos n) hn 0 k h0 hk (Nat.zero_le _);have h4:l[0]=x0:=by simp [hl]
     rw [h4,hz (n+1) (by omega) (Nat.le_refl _)] at h3;have h5:=Mo.get_nonneg (hok.nn _ (List.getElem_mem hk)) ((n+1:Nat):Int);omega
theorem qit {n:Nat} {l:Sp} {s t:Nat} {e:Int} (hs:s<=t) (ht:t<=l.length) (h1:∀ j (hj:j < l.length),j < s->l[j].2.get n ≠ e) (h2:∀ j (hj:j < l.length),s<=j->j < t->l[j].2.get n=e) (h3:∀ j (hj:j < l.length),t<=j->l[j].2.get n ≠ e) :
 l.filter (fun x=>decide (x.2.get n=e))=(l.drop s).take (t - s):=by
 have hl:l=l.take s ++ ((l.drop s).take (t - s) ++ l.drop t):=by
  have h4:l.drop t=(l.drop s).drop (t - s):=by rw [List.drop_drop]; congr 1; omega
  rw [h4,List.take_append_drop,List.take_append_drop]
 have f1:(l.take s).filter (fun x=>decide (x.2.get n=e))=[]:=List.filter_eq_nil_iff.2 fun x hx=>by
  obtain ⟨j,hj,rfl⟩:=List.getElem_of_mem hx;rw [List.length_take] at hj;rw [List.getElem_take];simpa using h1 j (by omega) (by omega)
 have f2:((l.drop s).take (t - s)).filter (fun x=>decide (x.2.get n=e))=(l.drop s).take (t - s):=List.filter_eq_self.2 fun x hx=>by
  obtain ⟨j,hj,rfl⟩:=List.getElem_of_mem hx;rw [List.length_take,List.length_drop] at hj;rw [List.getElem_take,List.getElem_drop];simpa using h2 (s+j) (by omega) (by omega) (by omega)
 have f3:(l.drop t).filter (fun x=>decide (x.2.get n=e))=[]:=List.filter_eq_nil_iff.2 fun x hx=>by
  obtain ⟨j,hj,rfl⟩:=List.getElem_of_mem hx;rw [List.length_drop] at hj;rw [List.getElem_drop];simpa using h3 (t+j) (by omega) (by omega)
 conv=>lhs; rw [hl]
 rw [List.filter_append,List.filter_append,f1,f2,f3]; simp
def qie (w0:World) (n:Nat):Prop:=∀ (l:Sp) (A:Option Addr) (c:Nat) (w:World),qhc w0 none A l->l.length<=c->c<=9223372036854775807->kdi n l->Ext w0 w->Calls Tryz.prog 53 #[.slice A l.length c,.int .i64 n] w (vc4 (fun b=>w.heap.size<=b) (bld n l) w)
theorem jil (n:Nat) (A:Option Addr) (c:Nat) (w:World):Calls Tryz.prog 53 #[.slice A 0 c,.int .i64 n] w (vc4 (fun b=>w.heap.size<=b) (bld n []) w):=by
 rw [show bld n []=Pl.zero by unfold bld; rfl];obtain ⟨W,hW⟩:=n_m (w.alloc (.cells #[.int .i64 0,.bool false,.slice none 0 0,.slice none 0 0] 30));have hWx:Ext w W:=by rw [<- hW]; exact (Ext.refl w).alloc _
 have hz:yc5 W w.heap.size:=by rw [<- hW]; exact yc5.new w _
 have HF:=Lib.hid (gc5 (p:=Pl.zero) (q:=fun _=>False) (q':=fun b=>w.heap.size<=b) hWx (Nat.le_refl _) hz (Pl.zero_v W _ none 0 (by omega)) (fun b _ h=>h.elim));obtain ⟨⟨z0,z1,z2,z3⟩,zf⟩:=hz;clear hWx;go_enter Tryz.func53,Tryz.ntmps53;go_wp2_with fail;exact bodyPost_ret (v:=plV Pl.zero (.slice none 0 0) (.slice none 0 0)) (by simp [results,Tryz.results53,go_sem,z0,z1,z2,z3,plV,Pl.zero,Pl.lv,Pl.neg]) rfl HF.out
def bco (j:Nat) (l:Sp) (i:Nat):Pl:=bld j (l.filter fun x=>decide (x.2.get ((j+1:Nat):Int)=Int.ofNat i))
theorem ki4 {j:Nat} {c:Int} {m:Mo} {r:Sp} (h:m.get ((j+1:Nat):Int) ≠ 0):bld (j+1) ((c,m) :: r)=.mk (j+1:Nat) false [] ((List.range ((m.get (j+1:Nat)).toNat+1)).map (bco j ((c,m) :: r))):=by
 rw [bld,if_neg h]; rfl
def gdi (W:World) (q:Nat->Prop) (R j E:Nat) (l:Sp) (s:Nat) (wr:World):Prop:=
 (∃ Lc:List Pl,Lc.length=E+1/\(∀ i (hi:i < Lc.length),(∀ x ∈ l.drop s,x.2.get ((j+1:Nat):Int) ≠ Int.ofNat i)->Lc[i]=bco j l i)/\qgu wr q R Lc)/\Ext W wr/\∀ a b (ha:a < l.length) (hb:b < l.length),a < s->s<=b->l[b].2.get ((j+1:Nat):Int) < l[a].2.get ((j+1:Nat):Int)
theorem gdi.start {W wr:World} {q:Nat->Prop} {R j E:Nat} {l:Sp} (h:qgu wr q R (List.replicate (E+1) Pl.zero)) (hx:Ext W wr):gdi W q R j E l 0 wr:=by
 refine ⟨⟨_,List.length_replicate,fun i hi hn=>?_,h⟩,hx,fun a b ha hb h1=>by omega⟩;rw [List.getElem_replicate,bco,List.filter_eq_nil_iff.2 (fun x hx=>by simpa using hn x (by simpa using hx))];unfold bld; rfl
theorem gdi.fin {W wr:World} {q:Nat->Prop} {R j E:Nat} {l:Sp} (h:gdi W q R j E l l.length wr):qgu wr q R ((List.range (E+1)).map (bco j l)):=by
 obtain ⟨⟨Lc,h1,h2,h3⟩,-⟩:=h;have:Lc=(List.range (E+1)).map (bco j l):=by
  refine List.ext_getElem (by rw [List.length_map,List.length_range]; exact h1) fun i hi hi'=>?_
  rw [h2 i hi (by rw [List.drop_length]; simp),List.getElem_map,List.getElem_range]
 rw [<- this]; exact h3
theorem gdi.group {W wr:World} {q:Nat->Prop} {R j E:Nat} {l:Sp} {s t:Nat} {e:Nat} (h:gdi W q R j E l s wr) (hok:kdi (j+1) l) (hj4:j+1<=4) (hst:s < t) (ht:t<=l.length) (hmid:∀ a (ha:a < l.length),s<=a->a < t->l[a].2.get ((j+1:Nat):Int)=e) (haft:∀ (ha:t < l.length),l[t].2.get ((j+1:Nat):Int) ≠ e) :
 (∀ a (ha:a < l.length),t<=a->l[a].2.get ((j+1:Nat):Int) < e)/\l.filter (fun x=>decide (x.2.get ((j+1:Nat):Int)=Int.ofNat e))=(l.drop s).take (t - s):=by
 have haft':∀ a (ha:a < l.length),t<=a->l[a].2.get ((j+1:Nat):Int) < e:=fun a ha hta=>by
  have h1:=hok.desc (Nat.succ_pos j) hj4 s t (by omega) (by omega) (by omega);have h2:=hok.desc (Nat.succ_pos j) hj4 t a (by omega) ha hta;have h3:=hmid s (by omega) (Nat.le_refl _) hst;have h4:=haft (by omega);omega
 refine ⟨haft',qit (n:=j+1) (Nat.le_of_lt hst) ht (fun a ha has=>?_) (fun a ha h1 h2=>by simpa using hmid a ha h1 h2) (fun a ha hta=>?_)⟩
 · have h1:=h.2.2 a s ha (by omega) has (Nat.le_refl _);have h2:=hmid s (by omega) (Nat.le_refl _) hst;simp only [Int.ofNat_eq_natCast]; omega
 · have:=haft' a ha hta;simp only [Int.ofNat_eq_natCast]; omega
theorem gdi.step {W wr w2:World} {R j E:Nat} {l:Sp} {s t:Nat} {e:Nat} (h:gdi W (fun b=>R<=b) R j E l s wr) (hR:W.heap.size<=R) (hok:kdi (j+1) l) (hj4:j+1<=4) (hst:s < t) (ht:t<=l.length) (he:e<=E) (hmid:∀ a (ha:a < l.length),s<=a->a < t->l[a].2.get ((j+1:Nat):Int)=e) (haft:∀ (ha:t < l.length),l[t].2.get ((j+1:Nat):Int) ≠ e) (hx2:Ext wr w2) {A0 A1:Option Addr} {n0 c0 n1 c1:Nat} (hp:PlV w2 (fun b=>wr.heap.size<=b) (bco j l e) (plV (bco j l e) (.slice A0 n0 c0) (.slice A1 n1 c1))) :
 (∃ u0 u1 B0 m0 d0 B1 m1 d1,w2.cell? ⟨R,e * 4,none⟩=some (.int .i64 u0)/\w2.cell? ⟨R,e * 4+1,none⟩=some (.bool u1)/\w2.cell? ⟨R,e * 4+2,none⟩=some (.slice B0 m0 d0)/\w2.cell? ⟨R,e * 4+3,none⟩=some (.slice B1 m1 d1))/\(∀ i,w2.frozen? ⟨R,i,none⟩=false) /\
 gdi W (fun b=>R<=b) R j E l t ((((w2.setCell ⟨R,e * 4,none⟩ (.int .i64 (bco j l e).lv)).setCell ⟨R,e * 4+1,none⟩ (.bool (bco j l e).neg)).setCell ⟨R,e * 4+2,none⟩ (.slice A0 n0 c0)).setCell ⟨R,e * 4+3,none⟩ (.slice A1 n1 c1)):=by
 obtain ⟨hlt,-⟩:=h.group hok hj4 hst ht hmid haft;obtain ⟨⟨Lc,h1,h2,h3⟩,hx,hsep⟩:=h;have hr2:=h3.ext hx2;obtain ⟨D0,n2,g0,D1,n3,g1,⟨r0,r1,r2,r3⟩,-⟩:=hr2.2.2 e (by omega);have hRlt:=h3.1;have hst2:=(hr2.set_ e (by omega) (bco j l e) (hp.mono fun b hb=>⟨by omega,by omega⟩)).1;refine ⟨⟨_,_,_,_,_,_,_,_,r0,r1,r2,r3⟩,hr2.2.1,⟨Lc.set e (bco j l e),by rw [List.length_set]; exact h1,fun i hi hn=>?_,hst2⟩,((((hx.trans hx2).setCell hR _).setCell hR _).setCell hR _).setCell hR _,fun a b ha hb hat htb=>?_⟩
 · rw [List.length_set] at hi
   by_cases hie:i=e
   · subst hie; rw [List.getElem_set_self]
   · rw [List.getElem_set_ne (Ne.symm hie)];refine h2 i hi fun x hx'=>?_
     obtain ⟨k,hk,rfl⟩:=List.getElem_of_mem hx';rw [List.length_drop] at hk;rw [List.getElem_drop]
     by_cases hkt:s+k < t
     · rw [hmid (s+k) (by omega) (by omega) hkt];simp only [Int.ofNat_eq_natCast]; omega
     · refine hn _ (List.mem_iff_getElem.2 ⟨s+k - t,by rw [List.length_drop]; omega,?_⟩);rw [List.getElem_drop]
       congr 1; omega
 · have h4:=hlt b hb htb
   by_cases has:a < s
   · have:=hsep a s ha (by omega) has (Nat.le_refl _);rw [hmid s (by omega) (Nat.le_refl _) hst] at this;omega
   · rw [hmid a ha (by omega) hat]; exact h4
theorem kdi.part {j:Nat} {l:Sp} (h:kdi (j+1) l) (e:Int):kdi j (l.filter fun x=>decide (x.2.get ((j+1:Nat):Int)=e)):=by
 obtain ⟨m,hm⟩:=h.ab;refine ⟨h.can.filter _,fun x hx=>h.nn x (List.mem_filter.1 hx).1,?_,fun x hx=>h.ex x (List.mem_filter.1 hx).1⟩;cases hf:l.filter (fun x=>decide (x.2.get ((j+1:Nat):Int)=e)) with
 | nil=>exact ⟨m,fun x hx=>by cases hx⟩
 | cons y r =>
   refine ⟨y.2,fun x hx i h1 h2=>?_⟩;rw [<- hf] at hx;have hy:y ∈ l.filter (fun x=>decide (x.2.get ((j+1:Nat):Int)=e)):=by rw [hf]; simp
   obtain ⟨hx1,hx2⟩:=List.mem_filter.1 hx;obtain ⟨hy1,hy2⟩:=List.mem_filter.1 hy
   by_cases hi:i=j+1
   · subst hi;rw [of_decide_eq_true hx2,of_decide_eq_true hy2]
   · rw [hm x hx1 i (by omega) h2,hm y hy1 i (by omega) h2]
theorem gic (w0:World) (n:Nat) (hn4:n<=4) (ih:∀ m,m < n->qie w0 m):qie w0 n:=by
 intro l A c w hat hl1 hl2 hok hx0;cases hl:l with
 | nil=>exact jil n A c w
 | cons x0 r =>
 rw [<- hl];have hpos:0 < l.length:=by rw [hl]; simp
 obtain ⟨ad,b,B,n1,c1,rfl,hadb,htm,hcf⟩:=hat 0 hpos;have hl0:l[0]=x0:=by simp [hl]
 rw [Nat.zero_mul,show ad.add 0=ad by unfold Addr.add; simp,hl0] at htm;rw [hl0] at hcf;have HAT:=Lib.hid hat;have HOK:=Lib.hid hok;have IH:=Lib.hid ih;have HX0:=Lib.hid hx0;have HTM:=Lib.hid htm;have HCF:=Lib.hid hcf;have HL:=Lib.hid hl;clear hat hok ih hl hl0 hcf;obtain ⟨W,hW⟩:=n_m (w.alloc (.cells #[.int .i64 0,.bool false,.slice none 0 0,.slice none 0 0] 30));have hWx:Ext w W:=by rw [<- hW]; exact (Ext.refl w).alloc _
 have hWs:W.heap.size=w.heap.size+1:=by rw [<- hW]; simp
 have HZ:Hid (yc5 W w.heap.size):=by
  have:yc5 W w.heap.size:=by rw [<- hW]; exact yc5.new w _
  exact this
 have hadW:ad.block < W.heap.size:=by have:=(hx0.trans hWx).size; omega
 have htmW:=htm.ext (hx0.trans hWx) hadb;have HTW:Hid (∀ j:Nat,j < 4->W.cell? ⟨ad.block,ad.off+2+j,none⟩=some (.int .i64 (x0.2.get ((j+1:Nat):Int)))):=htmW.get_;have HWX:=Lib.hid hWx;have hle:((l.length:Int) == 0)=false:=by
  rw [Bool.eq_false_iff]; intro h; rw [beq_iff_eq] at h; omega
 clear htm hx0 hWx htmW;go_enter Tryz.func53,Tryz.ntmps53;go_wp2_with fail;clear hW
 go_loopw [1] (fun lv wr=>∃ j:Nat,j<=n/\lv=.int .i64 j/\wr=W/\Hid (∀ i:Nat,j < i->i<=n->x0.2.get i=0)) (fun lv _=>(intOf lv).toNat)
 case atStart=>exact ⟨n,Nat.le_refl _,rfl,rfl,fun i h1 h2=>by omega⟩
 case round =>
  obtain ⟨j,hj,rfl,hwr,HZR⟩:=hrel;subst wr
  by_cases hj0:j=0
  · subst hj0;have hbz:bld n l=Pl.const x0.1:=by
     rw [HL.out];have:=qhq x0.1 x0.2 r 0 n (Nat.zero_le _) HZR.out;rw [show (x0.1,x0.2) :: r=x0 :: r from rfl] at this;rw [this]; unfold bld; rfl
    obtain ⟨sv,hsv,hnv⟩:=HCF.out;simp only [Value.agg.injEq,Array.mk.injEq,List.cons.injEq,and_true,Value.bool.injEq] at hsv;obtain ⟨rfl,rfl⟩:=hsv;have hnv':=hnv.ext (HX0.out.trans HWX.out);obtain ⟨t0,t1,-⟩:=HTM.out.ext (HX0.out.trans HWX.out) hadb;obtain ⟨⟨z0,z1,z2,z3⟩,zf⟩:=HZ.out;obtain ⟨A9,c9,e9,-⟩:=id hnv;injection e9 with e91 e92 e93
    subst e91 e92 e93;have hpl:PlV W (fun _=>False) (Pl.const x0.1) (plV (Pl.const x0.1) (.slice B (dg x0.1.natAbs).length c1) (.slice none 0 0)):=PlV.mk (t:=Pl.const x0.1) (c:=0) (A:=none) hnv' (by simp [Pl.const,Pl.cs]) (by omega) (by unfold Pl.const Pl.cs kc3; trivial);have hf:=gc5 (q':=fun b=>w.heap.size<=b) HWX.out (Nat.le_refl _) HZ.out hpl (fun b _ h=>h.elim);have HF:=Lib.hid (vc4.congr hbz hf);clear hf hpl hnv hnv' hbz;go_wp2_with fail;exact bodyPost_ret (v:=plV (Pl.const x0.1) (.slice B (dg x0.1.natAbs).length c1) (.slice none 0 0)) (by simp [results,Tryz.results53,go_sem,z0,z1,z2,z3,plV,Pl.const,Pl.lv,Pl.neg]) rfl HF.out
  · obtain ⟨j',hj'⟩:∃ j',j=j'+1:=⟨j - 1,by omega⟩;have HJ:=Lib.hid hj';have hjn:j'+1<=n:=by omega
    have hjq:((j:Int) == 0)=false:=by
     rw [Bool.eq_false_iff]; intro h; rw [beq_iff_eq] at h; omega
    have hjp:decide ((j:Int) > 0)=true:=decide_eq_true (by omega);have HZR2:Hid (∀ i:Nat,j'+1 < i->i<=n->x0.2.get i=0):=fun i h1 h2=>HZR.out i (by omega) h2
    have hc:=HTW.out j' (by omega);have hnn0:0<=x0.2.get ((j'+1:Nat):Int):=Mo.get_nonneg (HOK.out.nn x0 (by rw [HL.out]; simp)) _;have hle0:x0.2.get ((j'+1:Nat):Int)<=1073741824:=(HOK.out.ex x0 (by rw [HL.out]; simp)).get _;obtain ⟨E,hE⟩:∃ E:Nat,x0.2.get ((j'+1:Nat):Int)=E:=⟨_,(Int.toNat_of_nonneg hnn0).symm⟩;rw [hE] at hc hnn0 hle0;have hwr1:IntKind.i64.wrap ((j:Int) - 1)=j':=by rw [IntKind.wrap_i64]; omega
    clear hj'
    by_cases hE0:E=0
    · subst hE0;go_wp2_with fail
      go_roundw
      case rel=>exact ⟨j',by omega,by go_num,trivial,fun i h1 h2=>by
        by_cases hi:i=j'+1
        · rw [hi]; exact hE
        · exact HZR2.out i (by omega) h2⟩
      case measure=>have:=HJ.out; first | (simp [intOf]; omega) | (simp [intOf]; done)
    · have hEq:((E:Int) == 0)=false:=by
       rw [Bool.eq_false_iff]; intro h; rw [beq_iff_eq] at h; omega
      have hEg:decide ((E:Int) > 1073741824)=false:=decide_eq_false (by omega);have hwr2:IntKind.i64.wrap ((E:Int)+1)=E+1:=by rw [IntKind.wrap_i64]; omega
      have hok:=HOK.out.strip HL.out (j'+1) n hn4 hjn HZR2.out;have hb:bld n l=.mk (j'+1:Nat) false [] ((List.range (E+1)).map (bco j' l)):=by
       have h1:=qhq x0.1 x0.2 r (j'+1) n hjn HZR2.out;have h2:=ki4 (j:=j') (c:=x0.1) (m:=x0.2) (r:=r) (by rw [hE]; omega);rw [show (x0.1,x0.2) :: r=l from HL.out.symm] at h1 h2;rw [h1,h2,hE,Int.toNat_natCast]
      obtain ⟨V,hmk,hVx,hVs,hrow⟩:=jgu ((E:Int)+1) (by omega) (by omega) W;rw [show ((E:Int)+1).toNat=E+1 by omega] at hmk hrow;rw [hWs] at hmk;have hrow0:=hrow (fun b=>w.heap.size+1<=b);rw [hWs] at hrow0;have HI0:=Lib.hid (gdi.start (W:=W) (j:=j') (l:=l) hrow0 hVx);have HB:=Lib.hid hb;have HOK2:=Lib.hid hok;clear hok hb hVx hrow hrow0;have HDS:=Lib.hid (fun a b (ha:a < l.length) (hb:b < l.length) (hab:a<=b)=>HOK2.out.desc (Nat.succ_pos j') (by omega) a b ha hb hab);have HGE:Hid (∀ k (hk:k < l.length),∃ e:Nat,l[k].2.get ((j'+1:Nat):Int)=e/\e<=E):=by
       have:∀ k (hk:k < l.length),∃ e:Nat,l[k].2.get ((j'+1:Nat):Int)=e/\e<=E:=fun k hk=>by
        have h1:=Mo.get_nonneg (HOK2.out.nn _ (List.getElem_mem hk)) ((j'+1:Nat):Int);have h2:=HDS.out 0 k hpos hk (Nat.zero_le _);have h4:l[0]=x0:=by simp [HL.out]
        rw [h4,hE] at h2;exact ⟨(l[k].2.get ((j'+1:Nat):Int)).toNat,(Int.toNat_of_nonneg h1).symm,by omega⟩
       exact this
      have HCELL:Hid (∀ k (hk:k < l.length) W2,Ext W W2->W2.cell? ⟨(ad.add (k * 6)).block,(ad.add (k * 6)).off+2+j',none⟩=some (.int .i64 (l[k].2.get ((j'+1:Nat):Int)))):=by
       have:∀ k (hk:k < l.length) W2,Ext W W2->W2.cell? ⟨(ad.add (k * 6)).block,(ad.add (k * 6)).off+2+j',none⟩=some (.int .i64 (l[k].2.get ((j'+1:Nat):Int))):=fun k hk W2 hW2=>by
        obtain ⟨ad',b',B',n',c',e',hb',h1,-⟩:=HAT.out.ext ((HX0.out.trans HWX.out).trans hW2) k hk;injection e' with e'
        subst e';exact h1.get_ j' (by omega)
       exact this
      have HEX:=Lib.hid hE;go_wp2_with fail;clear hmk hc hE
      go_loopw [6] (fun sv wv=>∃ s:Nat,s<=l.length/\sv=.int .i64 s/\Hid (gdi W (fun b=>w.heap.size+1<=b) (w.heap.size+1) j' E l s wv)) (fun sv _=>l.length - (intOf sv).toNat)
      case atStart=>exact ⟨0,Nat.zero_le _,rfl,HI0⟩
      case round =>
       obtain ⟨s,hs,rfl,HI⟩:=hrel;obtain ⟨U,hU⟩:=n_m (wr);subst wr;have hxv:=HI.out.2.1
       by_cases hlt:s < l.length
       · obtain ⟨e,he,heE⟩:=HGE.out s hlt;have hcs:=HCELL.out s hlt _ hxv;rw [he] at hcs;have hsc:¬ c=s:=by omega
         have HSTEP:Hid (∀ t:Nat,s < t->t<=l.length->(∀ a (ha:a < l.length),s<=a->a < t->l[a].2.get ((j'+1:Nat):Int)=e)->(∀ (ha:t < l.length),l[t].2.get ((j'+1:Nat):Int) ≠ e)->Calls Tryz.prog 53 #[.slice (some (ad.add (s * 6))) (t - s) (c - s),.int .i64 j'] U (fun e2 w2=>∃ A0 n0 c0 A1 n1 c1,e2=.returned (plV (bco j' l e) (.slice A0 n0 c0) (.slice A1 n1 c1))/\(∃ u0 u1 B0 m0 d0 B1 m1 d1,w2.cell? ⟨w.heap.size+1,e * 4,none⟩=some (.int .i64 u0)/\w2.cell? ⟨w.heap.size+1,e * 4+1,none⟩=some (.bool u1)/\w2.cell? ⟨w.heap.size+1,e * 4+2,none⟩=some (.slice B0 m0 d0)/\w2.cell? ⟨w.heap.size+1,e * 4+3,none⟩=some (.slice B1 m1 d1))/\(∀ i,w2.frozen? ⟨w.heap.size+1,i,none⟩=false)/\gdi W (fun b=>w.heap.size+1<=b) (w.heap.size+1) j' E l t ((((w2.setCell ⟨w.heap.size+1,e * 4,none⟩ (.int .i64 (bco j' l e).lv)).setCell ⟨w.heap.size+1,e * 4+1,none⟩ (.bool (bco j' l e).neg)).setCell ⟨w.heap.size+1,e * 4+2,none⟩ (.slice A0 n0 c0)).setCell ⟨w.heap.size+1,e * 4+3,none⟩ (.slice A1 n1 c1)))):=by
          intro t hst ht hmid haft;obtain ⟨-,hg⟩:=HI.out.group HOK2.out (by omega) hst ht hmid haft;have hsub:((l.drop s).take (t - s)).length=t - s:=by rw [List.length_take,List.length_drop]; omega
          have hcall:=IH.out j' (by omega) ((l.drop s).take (t - s)) (some (ad.add (s * 6))) (c - s) U (HAT.out.sub s (t - s) (by omega)) (by omega) (by omega) (by rw [<- hg]; exact HOK2.out.part _) ((HX0.out.trans HWX.out).trans hxv);rw [hsub,<- hg,show bld j' (l.filter fun x=>decide (x.2.get ((j'+1:Nat):Int)=Int.ofNat e))=bco j' l e from rfl] at hcall;refine hcall.mono ?_;rintro e2 w2 ⟨v2,rfl,p2,x2⟩;obtain ⟨A0,n0,c0,A1,c1,e3,-⟩:=id p2.open_;subst e3;obtain ⟨k1,k2,k3⟩:=HI.out.step (by omega) HOK2.out (by omega) hst ht heE hmid haft x2 p2;exact ⟨_,_,_,_,_,_,rfl,k1,k2,k3⟩
         have HCE:=Lib.hid (fun k hk=>HCELL.out k hk _ hxv);have HSE:=Lib.hid he;have hwre:(⟨w.heap.size+1,0,none⟩:Addr).add (e * 4)=⟨w.heap.size+1,e * 4,none⟩:=by rw [zc9,Nat.zero_add]
         clear HGE HI hxv he;go_wp2_with fail
         go_loopw [8] (fun tv wv=>∃ t:Nat,s<=t/\t<=l.length/\tv=.int .i64 t/\wv=U/\Hid (∀ a (ha:a < l.length),s<=a->a < t->l[a].2.get ((j'+1:Nat):Int)=e)) (fun tv _=>l.length - (intOf tv).toNat)
         case atStart=>exact ⟨s,Nat.le_refl _,hs,rfl,rfl,fun a ha h1 h2=>by omega⟩
         case round =>
          obtain ⟨t,hst,ht,rfl,hwv,HMID⟩:=hrel;subst wr
          by_cases htl:t < l.length
          · have hct:=HCE.out t htl
            by_cases het:l[t].2.get ((j'+1:Nat):Int)=e
            · rw [het] at hct;have HM2:Hid (∀ a (ha:a < l.length),s<=a->a < t+1->l[a].2.get ((j'+1:Nat):Int)=e):=fun a ha h1 h2=>by
               by_cases hat:a=t
               · subst hat; exact het
               · exact HMID.out a ha h1 (by omega)
              clear het;go_wp2_with fail
              go_roundw
              case rel=>exact ⟨t+1,by omega,by omega,by go_num,trivial,HM2⟩
              case measure=>simp [intOf]; omega
            · have hst':s < t:=by
               rcases Nat.lt_or_ge s t with h | h
               · exact h
               · obtain rfl:s=t:=by omega
                 exact absurd HSE.out het
              have haft:∀ (ha:t < l.length),l[t].2.get ((j'+1:Nat):Int) ≠ e:=fun _=>het
              have hq:(l[t].2.get ((j'+1:Nat):Int) == (e:Int))=false:=by rw [Bool.eq_false_iff]; intro h; exact het (beq_iff_eq.1 h)
              generalize hX:l[t].2.get ((j'+1:Nat):Int)=X at hct hq;have hcall:=HSTEP.out t hst' ht HMID.out haft;have HCALL:=Lib.hid hcall;clear hcall HSTEP HCE HMID HSE;have htc:(t:Int)<=c:=by omega
              go_wp2_with fail;refine HCALL.out.mono ?_;rintro e2 w2 ⟨A0,n0,c0,A1,n2,c2,rfl,⟨u0,u1,B0,m0,d0,B2,m1,d1,r0,r1,r2,r3⟩,rf,hinv⟩;have HINV:=Lib.hid hinv;generalize bco j' l e=P at *;unfold plV;clear hinv HCALL;go_wp2_with fail
              go_roundw
              case rel=>exact ⟨t,ht,rfl,HINV⟩
              case measure=>simp [intOf]; omega
          · have hst':s < t:=by omega
            have haft:∀ (ha:t < l.length),l[t].2.get ((j'+1:Nat):Int) ≠ e:=fun h=>absurd h htl
            have hcall:=HSTEP.out t hst' ht HMID.out haft;have HCALL:=Lib.hid hcall;clear hcall HSTEP HCE HMID HSE;have htc:(t:Int)<=c:=by omega
            go_wp2_with fail;refine HCALL.out.mono ?_;rintro e2 w2 ⟨A0,n0,c0,A1,n2,c2,rfl,⟨u0,u1,B0,m0,d0,B2,m1,d1,r0,r1,r2,r3⟩,rf,hinv⟩;have HINV:=Lib.hid hinv;generalize bco j' l e=P at *;unfold plV;clear hinv HCALL;go_wp2_with fail
            go_roundw
            case rel=>exact ⟨t,ht,rfl,HINV⟩
            case measure=>simp [intOf]; omega
       · have hsl:s=l.length:=by omega
         rw [hsl] at HI;have hfin:=HI.out.fin.fin (Nat.le_refl _);obtain ⟨⟨z0,z1,z2,z3⟩,zf⟩:=HZ.out.ext hxv (by omega);have hll:((List.range (E+1)).map (bco j' l)).length=E+1:=by simp
         have hpl:=PlV.mk (t:=.mk (j'+1:Nat) false [] ((List.range (E+1)).map (bco j' l))) (c:=E+1) (vc2.nil U) (by simp only [Pl.cs]; omega) (by omega) hfin;simp only [Pl.cs,hll] at hpl;have hf:=gc5 (q':=fun b=>w.heap.size<=b) (HWX.out.trans hxv) (Nat.le_refl _) (HZ.out.ext hxv (by omega)) hpl (fun b _ hb=>⟨by omega,by omega⟩);have hf2:=vc4.congr HB.out hf;simp only [Pl.lv,Pl.neg] at hf2;rw [<- HJ.out] at hf2;have HF:=Lib.hid hf2;clear hf hf2 hpl hfin hll HI HB hxv;go_wp2_with fail;exact bodyPost_ret (v:=plV (.mk (j:Int) false [] ((List.range (E+1)).map (bco j' l))) (.slice none 0 0) (.slice (some ⟨w.heap.size+1,0,none⟩) (E+1) (E+1))) (by simp [results,Tryz.results53,go_sem,z0,z1,z2,z3,plV,Pl.lv,Pl.neg]) rfl HF.out
theorem ziw (w0:World) (n:Nat):n<=4->qie w0 n:=by
 induction n using Nat.strongRecOn with
 | _ n ih=>exact fun h=>gic w0 n h (fun m hm=>ih m hm (by omega))
/- Layer 22: recpoly.collect. -/
set_option maxRecDepth 100000
set_option maxHeartbeats 8000000
theorem qhm (m:Mo) (l e:Int) (a b:List Pl):gc2 m l e (a ++ b)=gc2 m l e a ++ gc2 m l (e+a.length) b:=by
 induction a generalizing e with
 | nil=>simp [gc2]
 | cons x r ih =>
   simp only [List.cons_append,gc2,ih,List.append_assoc,List.length_cons];rw [show e+1+(r.length:Int)=e+((r.length+1:Nat):Int) by omega]
theorem khv (m:Mo) (l e:Int) (cs:List Pl) (k:Nat) (hk:k < cs.length):gc2 m l e (cs.take (k+1))=gc2 m l e (cs.take k) ++ cs[k].terms (m.put l (e+k)):=by
 rw [List.take_succ_eq_append_getElem hk,qhm,List.length_take,Nat.min_eq_left (by omega)];simp only [gc2,List.append_nil]
theorem kg3 (l:List Pl) (k:Nat) (hk:k < l.length):kc5 (l.take k)+l[k].sz+kc5 (l.drop (k+1))=kc5 l:=by
 have h2:kc5 l=kc5 (l.take k)+kc5 (l.drop k):=by rw [<- uhe,List.take_append_drop]
 rw [h2,jih l k hk]; omega
theorem Mo.put_get (m:Mo) (l:Int):m.put l (m.get l)=m:=by
 unfold Mo.put Mo.get; split <;> (try split) <;> (try split) <;> rfl
def vgr (k:Option Nat) (base:Nat) (tv:Value) (l:Sp) (w:World) (e:Ending) (w':World):Prop:=
 ∃ tv',e=.returned tv'/\TsV k base w' tv' l/\w.grownBy w' tv.ownBlock/\(∀ v ds,vc2 w v ds->vc2 w' v ds)/\(tv'.ownBlock=tv.ownBlock\/∀ R,tv'.ownBlock=some R->w.heap.size<=R)
def uhl (w0:World) (q:Nat->Prop) (L n:Nat):Prop:=∀ (p:Pl) (v:Value) (m:Mo) (E:Int) (l:Sp) (tv:Value) (w:World),p.sz < n->p.dm<=L->PlV w0 q p v->Ext w0 w->TsV (some L) w0.heap.size w tv l->m.nonneg->m.le E->E+p.sz<=4611686018427387904->l.length+p.sz<=1099511627776->Calls Tryz.prog 55 #[tv,v,moV m] w (vgr (some L) w0.heap.size tv (l ++ p.terms m) w)
theorem yhz {w0 w:World} {q:Nat->Prop} {L:Nat} (p:Pl) (v:Value) (m:Mo) (l:Sp) (tv:Value) (hdm:p.dm<=L) (h:PlV w0 q p v) (hx0:Ext w0 w) (ht:TsV (some L) w0.heap.size w tv l) (hlen:l.length+p.sz<=1099511627776) (hl:p.lv<=0):Calls Tryz.prog 55 #[tv,v,moV m] w (vgr (some L) w0.heap.size tv (l ++ p.terms m) w):=by
 have hds:=p.dm_ds;have hsz:=p.sz_len;obtain ⟨A0,n0,c0,A,c,rfl,hnat,hl1,hl2,h4⟩:=h.open_;obtain ⟨lv,ng,ds,cs⟩:=p;simp only [Pl.cs,Pl.ds,Pl.lv,Pl.neg,plV] at *;have hte:(Pl.mk lv ng ds cs).terms m=[(sgn ng (val ds),m)]:=by rw [Pl.terms,if_pos hl]
 rw [hte];obtain ⟨W,hW⟩:=n_m ((w.alloc (.cells #[.int .i64 lv,.bool ng,.slice A0 n0 c0,.slice A cs.length c] 30)).alloc (.cells #[.int .i64 m.a,.int .i64 m.b,.int .i64 m.c,.int .i64 m.d] 114));have hWx:Ext w W:=by rw [<- hW]; exact ((Ext.refl w).alloc _).alloc _
 have hWs:W.heap.size=w.heap.size+1+1:=by rw [<- hW]; simp
 have hbx:yc3 W w.heap.size (.mk lv ng ds cs) (.slice A0 n0 c0) (.slice A cs.length c):=by rw [<- hW]; exact (yc3.new w (.mk lv ng ds cs) _ _ _).ext ((Ext.refl _).alloc _) (by simp)
 have hmx:vc9 W (w.heap.size+1) m:=by
  have:=vc9.new (w.alloc (.cells #[.int .i64 lv,.bool ng,.slice A0 n0 c0,.slice A cs.length c] 30)) m 114;rw [hW] at this;simpa using this
 obtain ⟨b0,b1,b2,b3⟩:=hbx;obtain ⟨d0,d1,d2,d3⟩:=hmx;simp only [Pl.lv,Pl.neg] at b0 b1;have hx0s:=hx0.size;have hcf:Cf W (some L) (.agg #[.bool ng,.slice A0 n0 c0]) (sgn ng (val ds)):=⟨ng,_,ds,rfl,hnat.ext (hx0.trans hWx),rfl,by omega⟩;obtain ⟨v4,w4,hrun,t4,g4,n4,o4⟩:=(ht.ext hWx).push (by have:=hWx.size; omega) hcf m (by omega) 110;have HF:Hid (vgr (some L) w0.heap.size tv (l ++ [(sgn ng (val ds),m)]) w (.returned v4) w4):=by
  refine ⟨v4,rfl,t4,⟨g4.os.trans hWx.below.os,g4.tape.trans hWx.below.tape,g4.output.trans hWx.below.output,Nat.le_trans hWx.size g4.size,fun i hi hne=>(World.grownBy.block g4 i (Nat.lt_of_lt_of_le hi hWx.size) hne).trans (hWx.below.block i hi)⟩,fun v ds hv=>n4 v ds (hv.ext hWx),?_⟩;rcases o4 with o4 | o4
  · exact .inl o4
  · right
    intro R hR;rw [o4] at hR;injection hR with hR
    have:=hWx.size;omega
 have hlq:decide (lv<=0)=true:=decide_eq_true hl;obtain ⟨At,ct,rfl,-,-⟩:=ht.len;clear t4 g4 n4 o4 ht h hnat h4 hcf;unfold moV;rw [hWs] at hrun;go_enter Tryz.func55,Tryz.ntmps55
 go_wp2_with (at_builtin
              refine wpList_append_run rfl (.tmp 14) (.tmp 19) _ _ rfl _ _ _ _ rfl rfl hrun ?_)
 clear hrun;go_ret;exact HF.out
theorem xhz {w0 w:World} {q:Nat->Prop} {L:Nat} (p:Pl) (v:Value) (m:Mo) (l:Sp) (tv:Value) (h:PlV w0 q p v) (hx0:Ext w0 w) (ht:TsV (some L) w0.heap.size w tv l) (hl:4 < p.lv):Calls Tryz.prog 55 #[tv,v,moV m] w (vgr (some L) w0.heap.size tv (l ++ p.terms m) w):=by
 obtain ⟨A0,n0,c0,A,c,rfl,hnat,hl1,hl2,h4⟩:=h.open_;obtain ⟨lv,ng,ds,cs⟩:=p;simp only [Pl.cs,Pl.ds,Pl.lv,Pl.neg,plV] at *;have hte:(Pl.mk lv ng ds cs).terms m=[]:=by rw [Pl.terms,if_neg (by omega),if_pos hl]
 rw [hte,List.append_nil];have HF:Hid (∀ o o',vgr (some L) w0.heap.size tv l w (.returned tv) ((w.alloc o).alloc o')):=fun o o'=>by
  have hWx:Ext w ((w.alloc o).alloc o'):=((Ext.refl w).alloc _).alloc _;refine ⟨tv,rfl,ht.ext hWx,⟨hWx.below.os,hWx.below.tape,hWx.below.output,hWx.size,fun i hi _=>hWx.below.block i hi⟩,fun v ds hv=>hv.ext hWx,.inl rfl⟩
 have hlq:decide (lv<=0)=false:=decide_eq_false (by omega);have hlq2:decide (lv > 4)=true:=decide_eq_true (by omega);obtain ⟨At,ct,rfl,-,-⟩:=ht.len;clear ht h hnat h4;unfold moV;go_enter Tryz.func55,Tryz.ntmps55;go_wp2_with fail;go_ret;exact HF.out _ _
def udh (w0 w:World) (L:Nat) (p:Pl) (s A:Value) (m:Mo) (tv:Value) (l0:Sp) (k:Nat) (tvk:Value) (wr:World):Prop:=
 TsV (some L) w0.heap.size wr tvk (l0 ++ gc2 m p.lv (m.get p.lv) (p.cs.take k))/\(∃ e,vc9 wr (w.heap.size+1) (m.put p.lv e))/\(∀ i,wr.frozen? ⟨w.heap.size+1,i,none⟩=false)/\yc3 wr w.heap.size p s A/\w.grownBy wr tv.ownBlock/\(∀ v ds,vc2 w v ds->vc2 wr v ds)/\(tvk.ownBlock=tv.ownBlock\/∀ R,tvk.ownBlock=some R->w.heap.size+2<=R)/\w.heap.size+2<=wr.heap.size
theorem udh.ext0 {w0 w:World} {L:Nat} {p:Pl} {s A:Value} {m:Mo} {tv:Value} {l0 l1:Sp} {k:Nat} {tvk:Value} {wr:World} (h:udh w0 w L p s A m tv l0 k tvk wr) (hx:Ext w0 w) (ht:TsV (some L) w0.heap.size w tv l1):Ext w0 wr:=by
 obtain ⟨-,-,-,-,h5,-⟩:=h;exact Below.grown hx h5 hx.size (fun g e=>(ht.own e).1)
theorem vc9.set_ {w:World} {g:Nat} {m:Mo} {l e:Int} (h:vc9 w g (m.put l e)) (hl:l=1\/l=2\/l=3\/l=4) (e':Int):vc9 (w.setCell ⟨g,(l - 1).toNat,none⟩ (.int .i64 e')) g (m.put l e')/\(∀ v ds,vc2 w v ds->vc2 (w.setCell ⟨g,(l - 1).toNat,none⟩ (.int .i64 e')) v ds):=by
 obtain ⟨h0,h1,h2,h3⟩:=h;rcases hl with rfl | rfl | rfl | rfl
 · refine ⟨⟨World.cell?_setCell_same _ _ _ h0,?_,?_,?_⟩,fun v ds hv=>hv.box h0 rfl _⟩ <;> (rw [World.cell?_setCell_other _ _ _ _ (by simp)]; first | exact h1 | exact h2 | exact h3)
 · refine ⟨⟨?_,World.cell?_setCell_same _ _ _ h1,?_,?_⟩,fun v ds hv=>hv.box h1 rfl _⟩ <;> (rw [World.cell?_setCell_other _ _ _ _ (by simp)]; first | exact h0 | exact h2 | exact h3)
 · refine ⟨⟨?_,?_,World.cell?_setCell_same _ _ _ h2,?_⟩,fun v ds hv=>hv.box h2 rfl _⟩ <;> (rw [World.cell?_setCell_other _ _ _ _ (by simp)]; first | exact h0 | exact h1 | exact h3)
 · refine ⟨⟨?_,?_,?_,World.cell?_setCell_same _ _ _ h3⟩,fun v ds hv=>hv.box h3 rfl _⟩ <;> (rw [World.cell?_setCell_other _ _ _ _ (by simp)]; first | exact h0 | exact h1 | exact h2)
theorem udh.step {w0 w:World} {L:Nat} {p:Pl} {s A:Value} {m:Mo} {tv:Value} {l0:Sp} {k:Nat} {tvk:Value} {wr:World} (h:udh w0 w L p s A m tv l0 k tvk wr) (hx:Ext w0 w) (ht:TsV (some L) w0.heap.size w tv l0) (hl:p.lv=1\/p.lv=2\/p.lv=3\/p.lv=4) (hk:k < p.cs.length) (o:Obj) :
 ∀ W1,W1=(wr.alloc o).setCell ⟨w.heap.size+1,(p.lv - 1).toNat,none⟩ (.int .i64 (m.get p.lv+k))->TsV (some L) w0.heap.size W1 tvk (l0 ++ gc2 m p.lv (m.get p.lv) (p.cs.take k))/\vc9 W1 (w.heap.size+1) (m.put p.lv (m.get p.lv+k))/\Ext w0 W1/\(∀ i,W1.cell? ⟨wr.heap.size,i,none⟩=(wr.alloc o).cell? ⟨wr.heap.size,i,none⟩) /\
   ∀ e w2,vgr (some L) w0.heap.size tvk ((l0 ++ gc2 m p.lv (m.get p.lv) (p.cs.take k)) ++ p.cs[k].terms (m.put p.lv (m.get p.lv+k))) W1 e w2->∃ tv2 A2 c2,e=.returned tv2/\tv2=.slice A2 (l0 ++ gc2 m p.lv (m.get p.lv) (p.cs.take (k+1))).length c2/\udh w0 w L p s A m tv l0 (k+1) tv2 w2:=by
 intro W1 hW1;have hx0:=h.ext0 hx ht;obtain ⟨h1,⟨e,h2⟩,h3,h4,h5,h6,h7,h8⟩:=h;have hxa:Ext wr (wr.alloc o):=(Ext.refl wr).alloc o;obtain ⟨m1,m2⟩:=(h2.ext hxa (by omega)).set_ hl (m.get p.lv+k);rw [<- hW1] at m1 m2;have hsz:W1.heap.size=wr.heap.size+1:=by rw [hW1]; simp [World.setCell]
 have hown:∀ R,tvk.ownBlock=some R->R ≠ w.heap.size+1/\R ≠ w.heap.size/\R < wr.heap.size:=by
  intro R hR;have hlt:=(h1.own hR).2;rcases h7 with h7 | h7
  · rw [h7] at hR;have:=(ht.own hR).2;omega
  · have:=h7 R hR; omega
 have hblk:∀ b,b ≠ w.heap.size+1->b < wr.heap.size->W1.heap[b]?=wr.heap[b]?:=fun b hb hlt=>by
  rw [hW1,Below.heap_setCell _ _ _ b hb];exact hxa.below.block b hlt
 have hnat:∀ v ds,vc2 wr v ds->vc2 W1 v ds:=fun v ds hv=>m2 v ds (hv.ext hxa)
 have hxs:=hx.size;refine ⟨h1.turn (fun R hR=>hblk R (hown R hR).1 (hown R hR).2.2) hnat,m1,?_,?_,?_⟩
 · rw [hW1]; exact (hx0.alloc o).setCell (by show w0.heap.size<=w.heap.size+1; omega) _
 · intro i;rw [hW1,World.cell?_setCell_other _ _ _ _ (by intro e; injection e; omega)]
 · rintro e w2 ⟨tv2,rfl,t2,g2,n2,o2⟩;rw [List.append_assoc,<- khv _ _ _ _ k hk] at t2;have hg2:=g2.size;obtain ⟨A2,c2,e2,-,-⟩:=t2.len;have hkeep:∀ b,b < W1.heap.size->tvk.ownBlock ≠ some b->w2.heap[b]?=W1.heap[b]?:=fun b hb hne=>World.grownBy.block g2 b hb (fun e=>hne e.symm)
   refine ⟨tv2,A2,c2,rfl,e2,t2,⟨_,m1.turn (hkeep _ (by omega) (fun e=>(hown _ e).1 rfl))⟩,fun i=>?_,h4.turn ((hkeep _ (by omega) (fun e=>(hown _ e).2.1 rfl)).trans (hblk _ (by omega) (by omega))),⟨?_,?_,?_,by omega,fun b hb hne=>?_⟩,fun v ds hv=>n2 v ds (hnat v ds (h6 v ds hv)),?_,by omega⟩
   · have:w2.frozen? ⟨w.heap.size+1,i,none⟩=W1.frozen? ⟨w.heap.size+1,i,none⟩:=World.frozen?_of_block (a:=⟨w.heap.size+1,i,none⟩) (hkeep _ (by show w.heap.size+1 < _; omega) (fun e=>(hown _ e).1 rfl));rw [this,hW1,World.frozen?_setCell,hxa.frozen (p:=⟨w.heap.size+1,i,none⟩) (by show w.heap.size+1 < _; omega)];exact h3 i
   · rw [g2.os,hW1]; exact h5.os
   · rw [g2.tape,hW1]; exact h5.tape
   · rw [g2.output,hW1]; exact h5.output
   · have hgs:=h5.size
     by_cases hbk:tvk.ownBlock=some b
     · rcases h7 with h7 | h7
       · exact absurd (h7.symm.trans hbk).symm hne
       · have:=h7 b hbk; omega
     · rw [hkeep b (by omega) hbk,hblk b (by omega) (by omega)];exact World.grownBy.block h5 b hb hne
   · rcases o2 with o2 | o2
     · rcases h7 with h7 | h7
       · exact .inl (o2.trans h7)
       · exact .inr (fun R hR=>h7 R (o2.symm.trans hR))
     · exact .inr (fun R hR=>by have:=o2 R hR; omega)
end Go.Proofs.YtopddaabiinboaaGreat
