/- Layer 22: recpoly.build. -/
import Derived.Test.YtcfcjabgkfehlaaGreatMf34
import Derived.Test.YtcfcjabgkfehlaaGreatMf37
set_option linter.unusedSimpArgs false
set_option linter.unusedVariables false
set_option maxRecDepth 100000
set_option maxHeartbeats 8000000
namespace Go.Proofs.YtcfcjabgkfehlaaGreat
open Go.RowKit
theorem wbe (c:Int) (m:Mo) (r:Sp) (j:Nat):∀ n,j<=n->(∀ i:Nat,j < i->i<=n->m.get i=0)->bld n ((c,m) :: r)=bld j ((c,m) :: r):=by
 intro n
 induction n with
 | zero=>intro h _; rw [show j=0 by omega]
 | succ n ih =>
   intro h hz
   by_cases hj:j=n+1
   · rw [hj]
   · rw [bld,if_pos (hz (n+1) (by omega) (Nat.le_refl _))];exact ih (by omega) (fun i h1 h2=>hz i h1 (by omega))
theorem wax.get_ {w:World} {ad:Addr} {b:Bool} {s:Value} {m:Mo} (h:wax w ad b s m) (j:Nat) (hj:j < 4):w.cell? ⟨ad.block,ad.off+2+j,none⟩=some (.int .i64 (m.get ((j+1:Nat):Int))):=by
 obtain ⟨-,-,h2,h3,h4,h5⟩:=h;rcases (show j=0\/j=1\/j=2\/j=3 by omega) with rfl | rfl | rfl | rfl
 · exact h2
 · exact h3
 · exact h4
 · exact h5
theorem qa1.sub {w:World} {k:Option Nat} {ad:Addr} {l:Sp} (h:qa1 w k (some ad) l) (s n:Nat) (hn:s+n<=l.length):qa1 w k (some (ad.add (s * 6))) ((l.drop s).take n):=by
 intro i hi;rw [List.length_take,List.length_drop] at hi;obtain ⟨ad',b,B,n',c,e,hb,h1,h2⟩:=h (s+i) (by omega);injection e with e
 subst e;refine ⟨_,b,B,n',c,rfl,by rw [ja]; exact hb,?_,?_⟩
 · rw [yba,<- Nat.add_mul,List.getElem_take,List.getElem_drop]; exact h1
 · rw [List.getElem_take,List.getElem_drop]; exact h2
theorem qi.congr {q:Nat->Prop} {p p':Pl} {w w':World} {e:Ending} (h:p'=p) (hr:qi q p w e w'):qi q p' w e w':=by rw [h]; exact hr
structure yah (n : Nat) (l : Sp) : Prop where
 can:jad l
 nn:∀ x ∈ l,x.2.nonneg
 ab:∃ m,wa2 n m l
 ex:∀ x ∈ l,x.2.le 1073741824
theorem yah.down {n j:Nat} {l:Sp} (h:yah n l) (hn:n<=4) (hj:j<=n) (hz:∀ x ∈ l,∀ i:Nat,j < i->i<=n->x.2.get i=0):yah j l:=by
 obtain ⟨m,hm⟩:=h.ab;refine ⟨h.can,h.nn,?_,h.ex⟩;cases l with
 | nil=>exact ⟨m,fun x hx=>by cases hx⟩
 | cons y r =>
   refine ⟨y.2,fun x hx i h1 h2=>?_⟩
   by_cases hi:i<=n
   · rw [hz x hx i h1 hi,hz y (by simp) i h1 hi]
   · rw [hm x hx i (by omega) h2,hm y (by simp) i (by omega) h2]
theorem yah.desc {n:Nat} {l:Sp} (h:yah n l) (hn:0 < n) (hn4:n<=4) (i j:Nat) (hi:i < l.length) (hj:j < l.length) (hij:i<=j):l[j].2.get n<=l[i].2.get n:=by
 obtain ⟨m,hm⟩:=h.ab
 by_cases he:i=j
 · subst he; exact Int.le_refl _
 have hlt:(l[j].2).lt l[i].2:=by
  have hc:=h.can;clear h hm
  induction l generalizing i j with
  | nil=>simp at hi
  | cons x r ih =>
    obtain ⟨c,k⟩:=x;cases j with
    | zero=>omega
    | succ j =>
      cases i with
      | zero=>exact hc.2.1 _ (List.getElem_mem _)
      | succ i=>exact ih i j (by simpa using hi) (by simpa using hj) (by omega) (by omega) hc.2.2
 exact Mo.lt_get hn hn4 hlt (fun q h1 h2=>(hm _ (List.getElem_mem hj) q h1 h2).trans (hm _ (List.getElem_mem hi) q h1 h2).symm)
theorem yah.strip {l:Sp} {x0:Int × Mo} {r:Sp} (hl:l=x0 :: r) (j:Nat):∀ n,n<=4->j<=n->yah n l->(∀ i:Nat,j < i->i<=n->x0.2.get i=0)->yah j l:=by
 intro n
 induction n with
 | zero=>intro _ h hok _; rw [show j=0 by omega]; exact hok
 | succ n ih =>
   intro hn h hok hz
   by_cases hj:j=n+1
   · rw [hj]; exact hok
   · refine ih (by omega) (by omega) (hok.down hn (Nat.le_succ n) fun x hx i h1 h2=>?_) (fun i h1 h2=>hz i h1 (by omega));have hi:i=n+1:=by omega
     subst hi;obtain ⟨k,hk,rfl⟩:=List.getElem_of_mem hx;have h0:0 < l.length:=by omega
     have h3:=hok.desc (Nat.succ_pos n) hn 0 k h0 hk (Nat.zero_le _);have h4:l[0]=x0:=by simp [hl]
     rw [h4,hz (n+1) (by omega) (Nat.le_refl _)] at h3;have h5:=Mo.get_nonneg (hok.nn _ (List.getElem_mem hk)) ((n+1:Nat):Int);omega
theorem zch {n:Nat} {l:Sp} {s t:Nat} {e:Int} (hs:s<=t) (ht:t<=l.length) (h1:∀ j (hj:j < l.length),j < s->l[j].2.get n ≠ e) (h2:∀ j (hj:j < l.length),s<=j->j < t->l[j].2.get n=e) (h3:∀ j (hj:j < l.length),t<=j->l[j].2.get n ≠ e) :
 l.filter (fun x=>decide (x.2.get n=e))=(l.drop s).take (t - s):=by
 have hl:l=l.take s ++ ((l.drop s).take (t - s) ++ l.drop t):=by
  have h4:l.drop t=(l.drop s).drop (t - s):=by rw [List.drop_drop]; congr 1; omega
  rw [h4,List.take_append_drop,List.take_append_drop]
 have f1:(l.take s).filter (fun x=>decide (x.2.get n=e))=[]:=List.filter_eq_nil_iff.2 fun x hx=>by
  obtain ⟨j,hj,rfl⟩:=List.getElem_of_mem hx;rw [List.length_take] at hj;rw [List.getElem_take];simpa using h1 j (by omega) (by omega)
 have f2:((l.drop s).take (t - s)).filter (fun x=>decide (x.2.get n=e))=(l.drop s).take (t - s):=List.filter_eq_self.2 fun x hx=>by
  obtain ⟨j,hj,rfl⟩:=List.getElem_of_mem hx;rw [List.length_take,List.length_drop] at hj;rw [List.getElem_take,List.getElem_drop];simpa using h2 (s+j) (by omega) (by omega) (by omega)
 have f3:(l.drop t).filter (fun x=>decide (x.2.get n=e))=[]:=List.filter_eq_nil_iff.2 fun x hx=>by
  obtain ⟨j,hj,rfl⟩:=List.getElem_of_mem hx;rw [List.length_drop] at hj;rw [List.getElem_drop];simpa using h3 (t+j) (by omega) (by omega)
 conv=>lhs; rw [hl]
 rw [List.filter_append,List.filter_append,f1,f2,f3]; simp
def ub1 (w0:World) (n:Nat):Prop:=∀ (l:Sp) (A:Option Addr) (c:Nat) (w:World),qa1 w0 none A l->l.length<=c->c<=9223372036854775807->yah n l->Ext w0 w->Calls Tryz.prog 55 #[.slice A l.length c,.int .i64 n] w (qi (fun b=>w.heap.size<=b) (bld n l) w)
theorem xb9 (n:Nat) (A:Option Addr) (c:Nat) (w:World):Calls Tryz.prog 55 #[.slice A 0 c,.int .i64 n] w (qi (fun b=>w.heap.size<=b) (bld n []) w):=by
 rw [show bld n []=Pl.zero by unfold bld; rfl];obtain ⟨W,hW⟩:∃ W,w.alloc (.cells #[.int .i64 0,.bool false,.slice none 0 0,.slice none 0 0] 35)=W:=⟨_,rfl⟩;have hWx:Ext w W:=by rw [<- hW]; exact (Ext.refl w).alloc _
 have hz:ql W w.heap.size:=by rw [<- hW]; exact ql.new w _
 have HF:=Lib.hid (vk (p:=Pl.zero) (q:=fun _=>False) (q':=fun b=>w.heap.size<=b) hWx (Nat.le_refl _) hz (Pl.zero_v W _ none 0 (by omega)) (fun b _ h=>h.elim));obtain ⟨⟨z0,z1,z2,z3⟩,zf⟩:=hz;clear hWx;go_enter Tryz.func55,Tryz.ntmps55;go_wp2_with fail;exact bodyPost_ret (v:=plV Pl.zero (.slice none 0 0) (.slice none 0 0)) (by simp [results,Tryz.results55,go_sem,z0,z1,z2,z3,plV,Pl.zero,Pl.lv,Pl.neg]) rfl HF.out
def bco (j:Nat) (l:Sp) (i:Nat):Pl:=bld j (l.filter fun x=>decide (x.2.get ((j+1:Nat):Int)=Int.ofNat i))
theorem ucr {j:Nat} {c:Int} {m:Mo} {r:Sp} (h:m.get ((j+1:Nat):Int) ≠ 0):bld (j+1) ((c,m) :: r)=.mk (j+1:Nat) false [] ((List.range ((m.get (j+1:Nat)).toNat+1)).map (bco j ((c,m) :: r))):=by
 rw [bld,if_neg h]; rfl
def jah (W:World) (q:Nat->Prop) (R j E:Nat) (l:Sp) (s:Nat) (wr:World):Prop:=
 (∃ Lc:List Pl,Lc.length=E+1/\(∀ i (hi:i < Lc.length),(∀ x ∈ l.drop s,x.2.get ((j+1:Nat):Int) ≠ Int.ofNat i)->Lc[i]=bco j l i)/\qal wr q R Lc)/\Ext W wr/\∀ a b (ha:a < l.length) (hb:b < l.length),a < s->s<=b->l[b].2.get ((j+1:Nat):Int) < l[a].2.get ((j+1:Nat):Int)
theorem jah.start {W wr:World} {q:Nat->Prop} {R j E:Nat} {l:Sp} (h:qal wr q R (List.replicate (E+1) Pl.zero)) (hx:Ext W wr):jah W q R j E l 0 wr:=by
 refine ⟨⟨_,List.length_replicate,fun i hi hn=>?_,h⟩,hx,fun a b ha hb h1=>by omega⟩;rw [List.getElem_replicate,bco,List.filter_eq_nil_iff.2 (fun x hx=>by simpa using hn x (by simpa using hx))];unfold bld; rfl
theorem jah.fin {W wr:World} {q:Nat->Prop} {R j E:Nat} {l:Sp} (h:jah W q R j E l l.length wr):qal wr q R ((List.range (E+1)).map (bco j l)):=by
 obtain ⟨⟨Lc,h1,h2,h3⟩,-⟩:=h;have:Lc=(List.range (E+1)).map (bco j l):=by
  refine List.ext_getElem (by rw [List.length_map,List.length_range]; exact h1) fun i hi hi'=>?_
  rw [h2 i hi (by rw [List.drop_length]; simp),List.getElem_map,List.getElem_range]
 rw [<- this]; exact h3
theorem jah.group {W wr:World} {q:Nat->Prop} {R j E:Nat} {l:Sp} {s t:Nat} {e:Nat} (h:jah W q R j E l s wr) (hok:yah (j+1) l) (hj4:j+1<=4) (hst:s < t) (ht:t<=l.length) (hmid:∀ a (ha:a < l.length),s<=a->a < t->l[a].2.get ((j+1:Nat):Int)=e) (haft:∀ (ha:t < l.length),l[t].2.get ((j+1:Nat):Int) ≠ e) :
 (∀ a (ha:a < l.length),t<=a->l[a].2.get ((j+1:Nat):Int) < e)/\l.filter (fun x=>decide (x.2.get ((j+1:Nat):Int)=Int.ofNat e))=(l.drop s).take (t - s):=by
 have haft':∀ a (ha:a < l.length),t<=a->l[a].2.get ((j+1:Nat):Int) < e:=fun a ha hta=>by
  have h1:=hok.desc (Nat.succ_pos j) hj4 s t (by omega) (by omega) (by omega);have h2:=hok.desc (Nat.succ_pos j) hj4 t a (by omega) ha hta;have h3:=hmid s (by omega) (Nat.le_refl _) hst;have h4:=haft (by omega);omega
 refine ⟨haft',zch (n:=j+1) (Nat.le_of_lt hst) ht (fun a ha has=>?_) (fun a ha h1 h2=>by simpa using hmid a ha h1 h2) (fun a ha hta=>?_)⟩
 · have h1:=h.2.2 a s ha (by omega) has (Nat.le_refl _);have h2:=hmid s (by omega) (Nat.le_refl _) hst;simp only [Int.ofNat_eq_natCast]; omega
 · have:=haft' a ha hta;simp only [Int.ofNat_eq_natCast]; omega
theorem jah.step {W wr w2:World} {R j E:Nat} {l:Sp} {s t:Nat} {e:Nat} (h:jah W (fun b=>R<=b) R j E l s wr) (hR:W.heap.size<=R) (hok:yah (j+1) l) (hj4:j+1<=4) (hst:s < t) (ht:t<=l.length) (he:e<=E) (hmid:∀ a (ha:a < l.length),s<=a->a < t->l[a].2.get ((j+1:Nat):Int)=e) (haft:∀ (ha:t < l.length),l[t].2.get ((j+1:Nat):Int) ≠ e) (hx2:Ext wr w2) {A0 A1:Option Addr} {n0 c0 n1 c1:Nat} (hp:PlV w2 (fun b=>wr.heap.size<=b) (bco j l e) (plV (bco j l e) (.slice A0 n0 c0) (.slice A1 n1 c1))) :
 (∃ u0 u1 B0 m0 d0 B1 m1 d1,w2.cell? ⟨R,e * 4,none⟩=some (.int .i64 u0)/\w2.cell? ⟨R,e * 4+1,none⟩=some (.bool u1)/\w2.cell? ⟨R,e * 4+2,none⟩=some (.slice B0 m0 d0)/\w2.cell? ⟨R,e * 4+3,none⟩=some (.slice B1 m1 d1))/\(∀ i,w2.frozen? ⟨R,i,none⟩=false) /\
 jah W (fun b=>R<=b) R j E l t ((((w2.setCell ⟨R,e * 4,none⟩ (.int .i64 (bco j l e).lv)).setCell ⟨R,e * 4+1,none⟩ (.bool (bco j l e).neg)).setCell ⟨R,e * 4+2,none⟩ (.slice A0 n0 c0)).setCell ⟨R,e * 4+3,none⟩ (.slice A1 n1 c1)):=by
 obtain ⟨hlt,-⟩:=h.group hok hj4 hst ht hmid haft;obtain ⟨⟨Lc,h1,h2,h3⟩,hx,hsep⟩:=h;have hr2:=h3.ext hx2;obtain ⟨D0,n2,g0,D1,n3,g1,⟨r0,r1,r2,r3⟩,-⟩:=hr2.2.2 e (by omega);have hRlt:=h3.1;have hst2:=(hr2.set_ e (by omega) (bco j l e) (hp.mono fun b hb=>⟨by omega,by omega⟩)).1;refine ⟨⟨_,_,_,_,_,_,_,_,r0,r1,r2,r3⟩,hr2.2.1,⟨Lc.set e (bco j l e),by rw [List.length_set]; exact h1,fun i hi hn=>?_,hst2⟩,((((hx.trans hx2).setCell hR _).setCell hR _).setCell hR _).setCell hR _,fun a b ha hb hat htb=>?_⟩
 · rw [List.length_set] at hi
   by_cases hie:i=e
   · subst hie; rw [List.getElem_set_self]
   · rw [List.getElem_set_ne (Ne.symm hie)];refine h2 i hi fun x hx'=>?_
     obtain ⟨k,hk,rfl⟩:=List.getElem_of_mem hx';rw [List.length_drop] at hk;rw [List.getElem_drop]
     by_cases hkt:s+k < t
     · rw [hmid (s+k) (by omega) (by omega) hkt];simp only [Int.ofNat_eq_natCast]; omega
     · refine hn _ (List.mem_iff_getElem.2 ⟨s+k - t,by rw [List.length_drop]; omega,?_⟩);rw [List.getElem_drop]
       congr 1; omega
 · have h4:=hlt b hb htb
   by_cases has:a < s
   · have:=hsep a s ha (by omega) has (Nat.le_refl _);rw [hmid s (by omega) (Nat.le_refl _) hst] at this;omega
   · rw [hmid a ha (by omega) hat]; exact h4
theorem yah.part {j:Nat} {l:Sp} (h:yah (j+1) l) (e:Int):yah j (l.filter fun x=>decide (x.2.get ((j+1:Nat):Int)=e)):=by
 obtain ⟨m,hm⟩:=h.ab;refine ⟨h.can.filter _,fun x hx=>h.nn x (List.mem_filter.1 hx).1,?_,fun x hx=>h.ex x (List.mem_filter.1 hx).1⟩;cases hf:l.filter (fun x=>decide (x.2.get ((j+1:Nat):Int)=e)) with
 | nil=>exact ⟨m,fun x hx=>by cases hx⟩
 | cons y r =>
   refine ⟨y.2,fun x hx i h1 h2=>?_⟩;rw [<- hf] at hx;have hy:y ∈ l.filter (fun x=>decide (x.2.get ((j+1:Nat):Int)=e)):=by rw [hf]; simp
   obtain ⟨hx1,hx2⟩:=List.mem_filter.1 hx;obtain ⟨hy1,hy2⟩:=List.mem_filter.1 hy
   by_cases hi:i=j+1
   · subst hi;rw [of_decide_eq_true hx2,of_decide_eq_true hy2]
   · rw [hm x hx1 i (by omega) h2,hm y hy1 i (by omega) h2]
theorem jb0 (w0:World) (n:Nat) (hn4:n<=4) (ih:∀ m,m < n->ub1 w0 m):ub1 w0 n:=by
 intro l A c w hat hl1 hl2 hok hx0;cases hl:l with
 | nil=>exact xb9 n A c w
 | cons x0 r =>
 rw [<- hl];have hpos:0 < l.length:=by rw [hl]; simp
 obtain ⟨ad,b,B,n1,c1,rfl,hadb,htm,hcf⟩:=hat 0 hpos;have hl0:l[0]=x0:=by simp [hl]
 rw [Nat.zero_mul,show ad.add 0=ad by unfold Addr.add; simp,hl0] at htm;rw [hl0] at hcf;have HAT:=Lib.hid hat;have HOK:=Lib.hid hok;have IH:=Lib.hid ih;have HX0:=Lib.hid hx0;have HTM:=Lib.hid htm;have HCF:=Lib.hid hcf;have HL:=Lib.hid hl;clear hat hok ih hl hl0 hcf;obtain ⟨W,hW⟩:∃ W,w.alloc (.cells #[.int .i64 0,.bool false,.slice none 0 0,.slice none 0 0] 35)=W:=⟨_,rfl⟩;have hWx:Ext w W:=by rw [<- hW]; exact (Ext.refl w).alloc _
 have hWs:W.heap.size=w.heap.size+1:=by rw [<- hW]; simp
 have HZ:Hid (ql W w.heap.size):=by
  have:ql W w.heap.size:=by rw [<- hW]; exact ql.new w _
  exact this
 have hadW:ad.block < W.heap.size:=by have:=(hx0.trans hWx).size; omega
 have htmW:=htm.ext (hx0.trans hWx) hadb;have HTW:Hid (∀ j:Nat,j < 4->W.cell? ⟨ad.block,ad.off+2+j,none⟩=some (.int .i64 (x0.2.get ((j+1:Nat):Int)))):=htmW.get_;have HWX:=Lib.hid hWx;have hle:((l.length:Int) == 0)=false:=by
  rw [Bool.eq_false_iff]; intro h; rw [beq_iff_eq] at h; omega
 clear htm hx0 hWx htmW;go_enter Tryz.func55,Tryz.ntmps55;go_wp2_with fail;clear hW
 go_loopw [1] (fun lv wr=>∃ j:Nat,j<=n/\lv=.int .i64 j/\wr=W/\Hid (∀ i:Nat,j < i->i<=n->x0.2.get i=0)) (fun lv _=>(intOf lv).toNat)
 case atStart=>exact ⟨n,Nat.le_refl _,rfl,rfl,fun i h1 h2=>by omega⟩
 case round =>
  obtain ⟨j,hj,rfl,hwr,HZR⟩:=hrel;subst wr
  by_cases hj0:j=0
  · subst hj0;have hbz:bld n l=Pl.const x0.1:=by
     rw [HL.out];have:=wbe x0.1 x0.2 r 0 n (Nat.zero_le _) HZR.out;rw [show (x0.1,x0.2) :: r=x0 :: r from rfl] at this;rw [this]; unfold bld; rfl
    obtain ⟨sv,hsv,hnv⟩:=HCF.out;simp only [Value.agg.injEq,Array.mk.injEq,List.cons.injEq,and_true,Value.bool.injEq] at hsv;obtain ⟨rfl,rfl⟩:=hsv;have hnv':=hnv.ext (HX0.out.trans HWX.out);obtain ⟨t0,t1,-⟩:=HTM.out.ext (HX0.out.trans HWX.out) hadb;obtain ⟨⟨z0,z1,z2,z3⟩,zf⟩:=HZ.out;obtain ⟨A9,c9,e9,-⟩:=id hnv;injection e9 with e91 e92 e93
    subst e91 e92 e93;have hpl:PlV W (fun _=>False) (Pl.const x0.1) (plV (Pl.const x0.1) (.slice B (dg x0.1.natAbs).length c1) (.slice none 0 0)):=PlV.mk (t:=Pl.const x0.1) (c:=0) (A:=none) hnv' (by simp [Pl.const,Pl.cs]) (by omega) (by unfold Pl.const Pl.cs jd; trivial);have hf:=vk (q':=fun b=>w.heap.size<=b) HWX.out (Nat.le_refl _) HZ.out hpl (fun b _ h=>h.elim);have HF:=Lib.hid (qi.congr hbz hf);clear hf hpl hnv hnv' hbz;go_wp2_with fail;exact bodyPost_ret (v:=plV (Pl.const x0.1) (.slice B (dg x0.1.natAbs).length c1) (.slice none 0 0)) (by simp [results,Tryz.results55,go_sem,z0,z1,z2,z3,plV,Pl.const,Pl.lv,Pl.neg]) rfl HF.out
  · obtain ⟨j',hj'⟩:∃ j',j=j'+1:=⟨j - 1,by omega⟩;have HJ:=Lib.hid hj';have hjn:j'+1<=n:=by omega
    have hjq:((j:Int) == 0)=false:=by
     rw [Bool.eq_false_iff]; intro h; rw [beq_iff_eq] at h; omega
    have hjp:decide ((j:Int) > 0)=true:=decide_eq_true (by omega);have HZR2:Hid (∀ i:Nat,j'+1 < i->i<=n->x0.2.get i=0):=fun i h1 h2=>HZR.out i (by omega) h2
    have hc:=HTW.out j' (by omega);have hnn0:0<=x0.2.get ((j'+1:Nat):Int):=Mo.get_nonneg (HOK.out.nn x0 (by rw [HL.out]; simp)) _;have hle0:x0.2.get ((j'+1:Nat):Int)<=1073741824:=(HOK.out.ex x0 (by rw [HL.out]; simp)).get _;obtain ⟨E,hE⟩:∃ E:Nat,x0.2.get ((j'+1:Nat):Int)=E:=⟨_,(Int.toNat_of_nonneg hnn0).symm⟩;rw [hE] at hc hnn0 hle0;have hwr1:IntKind.i64.wrap ((j:Int) - 1)=j':=by rw [IntKind.wrap_i64]; omega
    clear hj'
    by_cases hE0:E=0
    · subst hE0;go_wp2_with fail
      go_roundw
      case rel=>exact ⟨j',by omega,by go_num,trivial,fun i h1 h2=>by
        by_cases hi:i=j'+1
        · rw [hi]; exact hE
        · exact HZR2.out i (by omega) h2⟩
      case measure=>have:=HJ.out; first | (simp [intOf]; omega) | (simp [intOf]; done)
    · have hEq:((E:Int) == 0)=false:=by
       rw [Bool.eq_false_iff]; intro h; rw [beq_iff_eq] at h; omega
      have hEg:decide ((E:Int) > 1073741824)=false:=decide_eq_false (by omega);have hwr2:IntKind.i64.wrap ((E:Int)+1)=E+1:=by rw [IntKind.wrap_i64]; omega
      have hok:=HOK.out.strip HL.out (j'+1) n hn4 hjn HZR2.out;have hb:bld n l=.mk (j'+1:Nat) false [] ((List.range (E+1)).map (bco j' l)):=by
       have h1:=wbe x0.1 x0.2 r (j'+1) n hjn HZR2.out;have h2:=ucr (j:=j') (c:=x0.1) (m:=x0.2) (r:=r) (by rw [hE]; omega);rw [show (x0.1,x0.2) :: r=l from HL.out.symm] at h1 h2;rw [h1,h2,hE,Int.toNat_natCast]
      obtain ⟨V,hmk,hVx,hVs,hrow⟩:=jal ((E:Int)+1) (by omega) (by omega) W;rw [show ((E:Int)+1).toNat=E+1 by omega] at hmk hrow;rw [hWs] at hmk;have hrow0:=hrow (fun b=>w.heap.size+1<=b);rw [hWs] at hrow0;have HI0:=Lib.hid (jah.start (W:=W) (j:=j') (l:=l) hrow0 hVx);have HB:=Lib.hid hb;have HOK2:=Lib.hid hok;clear hok hb hVx hrow hrow0;have HDS:=Lib.hid (fun a b (ha:a < l.length) (hb:b < l.length) (hab:a<=b)=>HOK2.out.desc (Nat.succ_pos j') (by omega) a b ha hb hab);have HGE:Hid (∀ k (hk:k < l.length),∃ e:Nat,l[k].2.get ((j'+1:Nat):Int)=e/\e<=E):=by
       have:∀ k (hk:k < l.length),∃ e:Nat,l[k].2.get ((j'+1:Nat):Int)=e/\e<=E:=fun k hk=>by
        have h1:=Mo.get_nonneg (HOK2.out.nn _ (List.getElem_mem hk)) ((j'+1:Nat):Int);have h2:=HDS.out 0 k hpos hk (Nat.zero_le _);have h4:l[0]=x0:=by simp [HL.out]
        rw [h4,hE] at h2;exact ⟨(l[k].2.get ((j'+1:Nat):Int)).toNat,(Int.toNat_of_nonneg h1).symm,by omega⟩
       exact this
      have HCELL:Hid (∀ k (hk:k < l.length) W2,Ext W W2->W2.cell? ⟨(ad.add (k * 6)).block,(ad.add (k * 6)).off+2+j',none⟩=some (.int .i64 (l[k].2.get ((j'+1:Nat):Int)))):=by
       have:∀ k (hk:k < l.length) W2,Ext W W2->W2.cell? ⟨(ad.add (k * 6)).block,(ad.add (k * 6)).off+2+j',none⟩=some (.int .i64 (l[k].2.get ((j'+1:Nat):Int))):=fun k hk W2 hW2=>by
        obtain ⟨ad',b',B',n',c',e',hb',h1,-⟩:=HAT.out.ext ((HX0.out.trans HWX.out).trans hW2) k hk;injection e' with e'
        subst e';exact h1.get_ j' (by omega)
       exact this
      have HEX:=Lib.hid hE;go_wp2_with fail;clear hmk hc hE
      go_loopw [6] (fun sv wv=>∃ s:Nat,s<=l.length/\sv=.int .i64 s/\Hid (jah W (fun b=>w.heap.size+1<=b) (w.heap.size+1) j' E l s wv)) (fun sv _=>l.length - (intOf sv).toNat)
      case atStart=>exact ⟨0,Nat.zero_le _,rfl,HI0⟩
      case round =>
       obtain ⟨s,hs,rfl,HI⟩:=hrel;obtain ⟨U,hU⟩:∃ U,wr=U:=⟨_,rfl⟩;subst wr;have hxv:=HI.out.2.1
       by_cases hlt:s < l.length
       · obtain ⟨e,he,heE⟩:=HGE.out s hlt;have hcs:=HCELL.out s hlt _ hxv;rw [he] at hcs;have hsc:¬ c=s:=by omega
         have HSTEP:Hid (∀ t:Nat,s < t->t<=l.length->(∀ a (ha:a < l.length),s<=a->a < t->l[a].2.get ((j'+1:Nat):Int)=e)->(∀ (ha:t < l.length),l[t].2.get ((j'+1:Nat):Int) ≠ e)->Calls Tryz.prog 55 #[.slice (some (ad.add (s * 6))) (t - s) (c - s),.int .i64 j'] U (fun e2 w2=>∃ A0 n0 c0 A1 n1 c1,e2=.returned (plV (bco j' l e) (.slice A0 n0 c0) (.slice A1 n1 c1))/\(∃ u0 u1 B0 m0 d0 B1 m1 d1,w2.cell? ⟨w.heap.size+1,e * 4,none⟩=some (.int .i64 u0)/\w2.cell? ⟨w.heap.size+1,e * 4+1,none⟩=some (.bool u1)/\w2.cell? ⟨w.heap.size+1,e * 4+2,none⟩=some (.slice B0 m0 d0)/\w2.cell? ⟨w.heap.size+1,e * 4+3,none⟩=some (.slice B1 m1 d1))/\(∀ i,w2.frozen? ⟨w.heap.size+1,i,none⟩=false)/\jah W (fun b=>w.heap.size+1<=b) (w.heap.size+1) j' E l t ((((w2.setCell ⟨w.heap.size+1,e * 4,none⟩ (.int .i64 (bco j' l e).lv)).setCell ⟨w.heap.size+1,e * 4+1,none⟩ (.bool (bco j' l e).neg)).setCell ⟨w.heap.size+1,e * 4+2,none⟩ (.slice A0 n0 c0)).setCell ⟨w.heap.size+1,e * 4+3,none⟩ (.slice A1 n1 c1)))):=by
          intro t hst ht hmid haft;obtain ⟨-,hg⟩:=HI.out.group HOK2.out (by omega) hst ht hmid haft;have hsub:((l.drop s).take (t - s)).length=t - s:=by rw [List.length_take,List.length_drop]; omega
          have hcall:=IH.out j' (by omega) ((l.drop s).take (t - s)) (some (ad.add (s * 6))) (c - s) U (HAT.out.sub s (t - s) (by omega)) (by omega) (by omega) (by rw [<- hg]; exact HOK2.out.part _) ((HX0.out.trans HWX.out).trans hxv);rw [hsub,<- hg,show bld j' (l.filter fun x=>decide (x.2.get ((j'+1:Nat):Int)=Int.ofNat e))=bco j' l e from rfl] at hcall;refine hcall.mono ?_;rintro e2 w2 ⟨v2,rfl,p2,x2⟩;obtain ⟨A0,n0,c0,A1,c1,e3,-⟩:=id p2.open_;subst e3;obtain ⟨k1,k2,k3⟩:=HI.out.step (by omega) HOK2.out (by omega) hst ht heE hmid haft x2 p2;exact ⟨_,_,_,_,_,_,rfl,k1,k2,k3⟩
         have HCE:=Lib.hid (fun k hk=>HCELL.out k hk _ hxv);have HSE:=Lib.hid he;have hwre:(⟨w.heap.size+1,0,none⟩:Addr).add (e * 4)=⟨w.heap.size+1,e * 4,none⟩:=by rw [jq,Nat.zero_add]
         clear HGE HI hxv he;go_wp2_with fail
         go_loopw [8] (fun tv wv=>∃ t:Nat,s<=t/\t<=l.length/\tv=.int .i64 t/\wv=U/\Hid (∀ a (ha:a < l.length),s<=a->a < t->l[a].2.get ((j'+1:Nat):Int)=e)) (fun tv _=>l.length - (intOf tv).toNat)
         case atStart=>exact ⟨s,Nat.le_refl _,hs,rfl,rfl,fun a ha h1 h2=>by omega⟩
         case round =>
          obtain ⟨t,hst,ht,rfl,hwv,HMID⟩:=hrel;subst wr
          by_cases htl:t < l.length
          · have hct:=HCE.out t htl
            by_cases het:l[t].2.get ((j'+1:Nat):Int)=e
            · rw [het] at hct;have HM2:Hid (∀ a (ha:a < l.length),s<=a->a < t+1->l[a].2.get ((j'+1:Nat):Int)=e):=fun a ha h1 h2=>by
               by_cases hat:a=t
               · subst hat; exact het
               · exact HMID.out a ha h1 (by omega)
              clear het;go_wp2_with fail
              go_roundw
              case rel=>exact ⟨t+1,by omega,by omega,by go_num,trivial,HM2⟩
              case measure=>simp [intOf]; omega
            · have hst':s < t:=by
               rcases Nat.lt_or_ge s t with h | h
               · exact h
               · obtain rfl:s=t:=by omega
                 exact absurd HSE.out het
              have haft:∀ (ha:t < l.length),l[t].2.get ((j'+1:Nat):Int) ≠ e:=fun _=>het
              have hq:(l[t].2.get ((j'+1:Nat):Int) == (e:Int))=false:=by rw [Bool.eq_false_iff]; intro h; exact het (beq_iff_eq.1 h)
              generalize hX:l[t].2.get ((j'+1:Nat):Int)=X at hct hq;have hcall:=HSTEP.out t hst' ht HMID.out haft;have HCALL:=Lib.hid hcall;clear hcall HSTEP HCE HMID HSE;have htc:(t:Int)<=c:=by omega
              go_wp2_with fail;refine HCALL.out.mono ?_;rintro e2 w2 ⟨A0,n0,c0,A1,n2,c2,rfl,⟨u0,u1,B0,m0,d0,B2,m1,d1,r0,r1,r2,r3⟩,rf,hinv⟩;have HINV:=Lib.hid hinv;generalize bco j' l e=P at *;unfold plV;clear hinv HCALL;go_wp2_with fail
              go_roundw
              case rel=>exact ⟨t,ht,rfl,HINV⟩
              case measure=>simp [intOf]; omega
          · have hst':s < t:=by omega
            have haft:∀ (ha:t < l.length),l[t].2.get ((j'+1:Nat):Int) ≠ e:=fun h=>absurd h htl
            have hcall:=HSTEP.out t hst' ht HMID.out haft;have HCALL:=Lib.hid hcall;clear hcall HSTEP HCE HMID HSE;have htc:(t:Int)<=c:=by omega
            go_wp2_with fail;refine HCALL.out.mono ?_;rintro e2 w2 ⟨A0,n0,c0,A1,n2,c2,rfl,⟨u0,u1,B0,m0,d0,B2,m1,d1,r0,r1,r2,r3⟩,rf,hinv⟩;have HINV:=Lib.hid hinv;generalize bco j' l e=P at *;unfold plV;clear hinv HCALL;go_wp2_with fail
            go_roundw
            case rel=>exact ⟨t,ht,rfl,HINV⟩
            case measure=>simp [intOf]; omega
       · have hsl:s=l.length:=by omega
         rw [hsl] at HI;have hfin:=HI.out.fin.fin (Nat.le_refl _);obtain ⟨⟨z0,z1,z2,z3⟩,zf⟩:=HZ.out.ext hxv (by omega);have hll:((List.range (E+1)).map (bco j' l)).length=E+1:=by simp
         have hpl:=PlV.mk (t:=.mk (j'+1:Nat) false [] ((List.range (E+1)).map (bco j' l))) (c:=E+1) (jb.nil U) (by simp only [Pl.cs]; omega) (by omega) hfin;simp only [Pl.cs,hll] at hpl;have hf:=vk (q':=fun b=>w.heap.size<=b) (HWX.out.trans hxv) (Nat.le_refl _) (HZ.out.ext hxv (by omega)) hpl (fun b _ hb=>⟨by omega,by omega⟩);have hf2:=qi.congr HB.out hf;simp only [Pl.lv,Pl.neg] at hf2;rw [<- HJ.out] at hf2;have HF:=Lib.hid hf2;clear hf hf2 hpl hfin hll HI HB hxv;go_wp2_with fail;exact bodyPost_ret (v:=plV (.mk (j:Int) false [] ((List.range (E+1)).map (bco j' l))) (.slice none 0 0) (.slice (some ⟨w.heap.size+1,0,none⟩) (E+1) (E+1))) (by simp [results,Tryz.results55,go_sem,z0,z1,z2,z3,plV,Pl.lv,Pl.neg]) rfl HF.out
theorem qcj (w0:World) (n:Nat):n<=4->ub1 w0 n:=by
 induction n using Nat.strongRecOn with
 | _ n ih=>exact fun h=>jb0 w0 n h (fun m hm=>ih m hm (by omega))
/- Layer 22: recpoly.collect. -/
set_option maxRecDepth 100000
set_option maxHeartbeats 8000000
theorem qbb (m:Mo) (l e:Int) (a b:List Pl):yc m l e (a ++ b)=yc m l e a ++ yc m l (e+a.length) b:=by
 induction a generalizing e with
 | nil=>simp [yc]
 | cons x r ih =>
   simp only [List.cons_append,yc,ih,List.append_assoc,List.length_cons];rw [show e+1+(r.length:Int)=e+((r.length+1:Nat):Int) by omega]
theorem gbj (m:Mo) (l e:Int) (cs:List Pl) (k:Nat) (hk:k < cs.length):yc m l e (cs.take (k+1))=yc m l e (cs.take k) ++ cs[k].terms (m.put l (e+k)):=by
 rw [List.take_succ_eq_append_getElem hk,qbb,List.length_take,Nat.min_eq_left (by omega)];simp only [yc,List.append_nil]
theorem xau (l:List Pl) (k:Nat) (hk:k < l.length):uj (l.take k)+l[k].sz+uj (l.drop (k+1))=uj l:=by
 have h2:uj l=uj (l.take k)+uj (l.drop k):=by rw [<- ua3,List.take_append_drop]
 rw [h2,yb5 l k hk]; omega
theorem Mo.put_get (m:Mo) (l:Int):m.put l (m.get l)=m:=by
 unfold Mo.put Mo.get; split <;> (try split) <;> (try split) <;> rfl
def jai (k:Option Nat) (base:Nat) (tv:Value) (l:Sp) (w:World) (e:Ending) (w':World):Prop:=
 ∃ tv',e=.returned tv'/\TsV k base w' tv' l/\w.grownBy w' tv.ownBlock/\(∀ v ds,jb w v ds->jb w' v ds)/\(tv'.ownBlock=tv.ownBlock\/∀ R,tv'.ownBlock=some R->w.heap.size<=R)
def uba (w0:World) (q:Nat->Prop) (L n:Nat):Prop:=∀ (p:Pl) (v:Value) (m:Mo) (E:Int) (l:Sp) (tv:Value) (w:World),p.sz < n->p.dm<=L->PlV w0 q p v->Ext w0 w->TsV (some L) w0.heap.size w tv l->m.nonneg->m.le E->E+p.sz<=4611686018427387904->l.length+p.sz<=1099511627776->Calls Tryz.prog 107 #[tv,v,moV m] w (jai (some L) w0.heap.size tv (l ++ p.terms m) w)
theorem jbn {w0 w:World} {q:Nat->Prop} {L:Nat} (p:Pl) (v:Value) (m:Mo) (l:Sp) (tv:Value) (hdm:p.dm<=L) (h:PlV w0 q p v) (hx0:Ext w0 w) (ht:TsV (some L) w0.heap.size w tv l) (hlen:l.length+p.sz<=1099511627776) (hl:p.lv<=0):Calls Tryz.prog 107 #[tv,v,moV m] w (jai (some L) w0.heap.size tv (l ++ p.terms m) w):=by
 have hds:=p.dm_ds;have hsz:=p.sz_len;obtain ⟨A0,n0,c0,A,c,rfl,hnat,hl1,hl2,h4⟩:=h.open_;obtain ⟨lv,ng,ds,cs⟩:=p;simp only [Pl.cs,Pl.ds,Pl.lv,Pl.neg,plV] at *;have hte:(Pl.mk lv ng ds cs).terms m=[(sgn ng (val ds),m)]:=by rw [Pl.terms,if_pos hl]
 rw [hte];obtain ⟨W,hW⟩:∃ W,(w.alloc (.cells #[.int .i64 lv,.bool ng,.slice A0 n0 c0,.slice A cs.length c] 35)).alloc (.cells #[.int .i64 m.a,.int .i64 m.b,.int .i64 m.c,.int .i64 m.d] 93)=W:=⟨_,rfl⟩;have hWx:Ext w W:=by rw [<- hW]; exact ((Ext.refl w).alloc _).alloc _
 have hWs:W.heap.size=w.heap.size+1+1:=by rw [<- hW]; simp
 have hbx:uf W w.heap.size (.mk lv ng ds cs) (.slice A0 n0 c0) (.slice A cs.length c):=by rw [<- hW]; exact (uf.new w (.mk lv ng ds cs) _ _ _).ext ((Ext.refl _).alloc _) (by simp)
 have hmx:zx W (w.heap.size+1) m:=by
  have:=zx.new (w.alloc (.cells #[.int .i64 lv,.bool ng,.slice A0 n0 c0,.slice A cs.length c] 35)) m 93;rw [hW] at this;simpa using this
 obtain ⟨b0,b1,b2,b3⟩:=hbx;obtain ⟨d0,d1,d2,d3⟩:=hmx;simp only [Pl.lv,Pl.neg] at b0 b1;have hx0s:=hx0.size;have hcf:Cf W (some L) (.agg #[.bool ng,.slice A0 n0 c0]) (sgn ng (val ds)):=⟨ng,_,ds,rfl,hnat.ext (hx0.trans hWx),rfl,by omega⟩;obtain ⟨v4,w4,hrun,t4,g4,n4,o4⟩:=(ht.ext hWx).push (by have:=hWx.size; omega) hcf m (by omega) 41;have HF:Hid (jai (some L) w0.heap.size tv (l ++ [(sgn ng (val ds),m)]) w (.returned v4) w4):=by
  refine ⟨v4,rfl,t4,⟨g4.os.trans hWx.below.os,g4.tape.trans hWx.below.tape,g4.output.trans hWx.below.output,Nat.le_trans hWx.size g4.size,fun i hi hne=>(World.grownBy.block g4 i (Nat.lt_of_lt_of_le hi hWx.size) hne).trans (hWx.below.block i hi)⟩,fun v ds hv=>n4 v ds (hv.ext hWx),?_⟩;rcases o4 with o4 | o4
  · exact .inl o4
  · right
    intro R hR;rw [o4] at hR;injection hR with hR
    have:=hWx.size;omega
 have hlq:decide (lv<=0)=true:=decide_eq_true hl;obtain ⟨At,ct,rfl,-,-⟩:=ht.len;clear t4 g4 n4 o4 ht h hnat h4 hcf;unfold moV;rw [hWs] at hrun;go_enter Tryz.func107,Tryz.ntmps107
 go_wp2_with (at_builtin
              refine wpList_append_run rfl (.tmp 14) (.tmp 19) _ _ rfl _ _ _ _ rfl rfl hrun ?_)
 clear hrun;go_ret;exact HF.out
theorem kbn {w0 w:World} {q:Nat->Prop} {L:Nat} (p:Pl) (v:Value) (m:Mo) (l:Sp) (tv:Value) (h:PlV w0 q p v) (hx0:Ext w0 w) (ht:TsV (some L) w0.heap.size w tv l) (hl:4 < p.lv):Calls Tryz.prog 107 #[tv,v,moV m] w (jai (some L) w0.heap.size tv (l ++ p.terms m) w):=by
 obtain ⟨A0,n0,c0,A,c,rfl,hnat,hl1,hl2,h4⟩:=h.open_;obtain ⟨lv,ng,ds,cs⟩:=p;simp only [Pl.cs,Pl.ds,Pl.lv,Pl.neg,plV] at *;have hte:(Pl.mk lv ng ds cs).terms m=[]:=by rw [Pl.terms,if_neg (by omega),if_pos hl]
 rw [hte,List.append_nil];have HF:Hid (∀ o o',jai (some L) w0.heap.size tv l w (.returned tv) ((w.alloc o).alloc o')):=fun o o'=>by
  have hWx:Ext w ((w.alloc o).alloc o'):=((Ext.refl w).alloc _).alloc _;refine ⟨tv,rfl,ht.ext hWx,⟨hWx.below.os,hWx.below.tape,hWx.below.output,hWx.size,fun i hi _=>hWx.below.block i hi⟩,fun v ds hv=>hv.ext hWx,.inl rfl⟩
 have hlq:decide (lv<=0)=false:=decide_eq_false (by omega);have hlq2:decide (lv > 4)=true:=decide_eq_true (by omega);obtain ⟨At,ct,rfl,-,-⟩:=ht.len;clear ht h hnat h4;unfold moV;go_enter Tryz.func107,Tryz.ntmps107;go_wp2_with fail;go_ret;exact HF.out _ _
def qag (w0 w:World) (L:Nat) (p:Pl) (s A:Value) (m:Mo) (tv:Value) (l0:Sp) (k:Nat) (tvk:Value) (wr:World):Prop:=
 TsV (some L) w0.heap.size wr tvk (l0 ++ yc m p.lv (m.get p.lv) (p.cs.take k))/\(∃ e,zx wr (w.heap.size+1) (m.put p.lv e))/\(∀ i,wr.frozen? ⟨w.heap.size+1,i,none⟩=false)/\uf wr w.heap.size p s A/\w.grownBy wr tv.ownBlock/\(∀ v ds,jb w v ds->jb wr v ds)/\(tvk.ownBlock=tv.ownBlock\/∀ R,tvk.ownBlock=some R->w.heap.size+2<=R)/\w.heap.size+2<=wr.heap.size
theorem qag.ext0 {w0 w:World} {L:Nat} {p:Pl} {s A:Value} {m:Mo} {tv:Value} {l0 l1:Sp} {k:Nat} {tvk:Value} {wr:World} (h:qag w0 w L p s A m tv l0 k tvk wr) (hx:Ext w0 w) (ht:TsV (some L) w0.heap.size w tv l1):Ext w0 wr:=by
 obtain ⟨-,-,-,-,h5,-⟩:=h;exact Below.grown hx h5 hx.size (fun g e=>(ht.own e).1)
theorem zx.set_ {w:World} {g:Nat} {m:Mo} {l e:Int} (h:zx w g (m.put l e)) (hl:l=1\/l=2\/l=3\/l=4) (e':Int):zx (w.setCell ⟨g,(l - 1).toNat,none⟩ (.int .i64 e')) g (m.put l e')/\(∀ v ds,jb w v ds->jb (w.setCell ⟨g,(l - 1).toNat,none⟩ (.int .i64 e')) v ds):=by
 obtain ⟨h0,h1,h2,h3⟩:=h;rcases hl with rfl | rfl | rfl | rfl
 · refine ⟨⟨World.cell?_setCell_same _ _ _ h0,?_,?_,?_⟩,fun v ds hv=>hv.box h0 rfl _⟩ <;> (rw [World.cell?_setCell_other _ _ _ _ (by simp)]; first | exact h1 | exact h2 | exact h3)
 · refine ⟨⟨?_,World.cell?_setCell_same _ _ _ h1,?_,?_⟩,fun v ds hv=>hv.box h1 rfl _⟩ <;> (rw [World.cell?_setCell_other _ _ _ _ (by simp)]; first | exact h0 | exact h2 | exact h3)
 · refine ⟨⟨?_,?_,World.cell?_setCell_same _ _ _ h2,?_⟩,fun v ds hv=>hv.box h2 rfl _⟩ <;> (rw [World.cell?_setCell_other _ _ _ _ (by simp)]; first | exact h0 | exact h1 | exact h3)
 · refine ⟨⟨?_,?_,?_,World.cell?_setCell_same _ _ _ h3⟩,fun v ds hv=>hv.box h3 rfl _⟩ <;> (rw [World.cell?_setCell_other _ _ _ _ (by simp)]; first | exact h0 | exact h1 | exact h2)
theorem qag.step {w0 w:World} {L:Nat} {p:Pl} {s A:Value} {m:Mo} {tv:Value} {l0:Sp} {k:Nat} {tvk:Value} {wr:World} (h:qag w0 w L p s A m tv l0 k tvk wr) (hx:Ext w0 w) (ht:TsV (some L) w0.heap.size w tv l0) (hl:p.lv=1\/p.lv=2\/p.lv=3\/p.lv=4) (hk:k < p.cs.length) (o:Obj) :
 ∀ W1,W1=(wr.alloc o).setCell ⟨w.heap.size+1,(p.lv - 1).toNat,none⟩ (.int .i64 (m.get p.lv+k))->TsV (some L) w0.heap.size W1 tvk (l0 ++ yc m p.lv (m.get p.lv) (p.cs.take k))/\zx W1 (w.heap.size+1) (m.put p.lv (m.get p.lv+k))/\Ext w0 W1/\(∀ i,W1.cell? ⟨wr.heap.size,i,none⟩=(wr.alloc o).cell? ⟨wr.heap.size,i,none⟩) /\
   ∀ e w2,jai (some L) w0.heap.size tvk ((l0 ++ yc m p.lv (m.get p.lv) (p.cs.take k)) ++ p.cs[k].terms (m.put p.lv (m.get p.lv+k))) W1 e w2->∃ tv2 A2 c2,e=.returned tv2/\tv2=.slice A2 (l0 ++ yc m p.lv (m.get p.lv) (p.cs.take (k+1))).length c2/\qag w0 w L p s A m tv l0 (k+1) tv2 w2:=by
 intro W1 hW1;have hx0:=h.ext0 hx ht;obtain ⟨h1,⟨e,h2⟩,h3,h4,h5,h6,h7,h8⟩:=h;have hxa:Ext wr (wr.alloc o):=(Ext.refl wr).alloc o;obtain ⟨m1,m2⟩:=(h2.ext hxa (by omega)).set_ hl (m.get p.lv+k);rw [<- hW1] at m1 m2;have hsz:W1.heap.size=wr.heap.size+1:=by rw [hW1]; simp [World.setCell]
 have hown:∀ R,tvk.ownBlock=some R->R ≠ w.heap.size+1/\R ≠ w.heap.size/\R < wr.heap.size:=by
  intro R hR;have hlt:=(h1.own hR).2;rcases h7 with h7 | h7
  · rw [h7] at hR;have:=(ht.own hR).2;omega
  · have:=h7 R hR; omega
 have hblk:∀ b,b ≠ w.heap.size+1->b < wr.heap.size->W1.heap[b]?=wr.heap[b]?:=fun b hb hlt=>by
  rw [hW1,Below.heap_setCell _ _ _ b hb];exact hxa.below.block b hlt
 have hnat:∀ v ds,jb wr v ds->jb W1 v ds:=fun v ds hv=>m2 v ds (hv.ext hxa)
 have hxs:=hx.size;refine ⟨h1.turn (fun R hR=>hblk R (hown R hR).1 (hown R hR).2.2) hnat,m1,?_,?_,?_⟩
 · rw [hW1]; exact (hx0.alloc o).setCell (by show w0.heap.size<=w.heap.size+1; omega) _
 · intro i;rw [hW1,World.cell?_setCell_other _ _ _ _ (by intro e; injection e; omega)]
 · rintro e w2 ⟨tv2,rfl,t2,g2,n2,o2⟩;rw [List.append_assoc,<- gbj _ _ _ _ k hk] at t2;have hg2:=g2.size;obtain ⟨A2,c2,e2,-,-⟩:=t2.len;have hkeep:∀ b,b < W1.heap.size->tvk.ownBlock ≠ some b->w2.heap[b]?=W1.heap[b]?:=fun b hb hne=>World.grownBy.block g2 b hb (fun e=>hne e.symm)
   refine ⟨tv2,A2,c2,rfl,e2,t2,⟨_,m1.turn (hkeep _ (by omega) (fun e=>(hown _ e).1 rfl))⟩,fun i=>?_,h4.turn ((hkeep _ (by omega) (fun e=>(hown _ e).2.1 rfl)).trans (hblk _ (by omega) (by omega))),⟨?_,?_,?_,by omega,fun b hb hne=>?_⟩,fun v ds hv=>n2 v ds (hnat v ds (h6 v ds hv)),?_,by omega⟩
   · have:w2.frozen? ⟨w.heap.size+1,i,none⟩=W1.frozen? ⟨w.heap.size+1,i,none⟩:=World.frozen?_of_block (a:=⟨w.heap.size+1,i,none⟩) (hkeep _ (by show w.heap.size+1 < _; omega) (fun e=>(hown _ e).1 rfl));rw [this,hW1,World.frozen?_setCell,hxa.frozen (p:=⟨w.heap.size+1,i,none⟩) (by show w.heap.size+1 < _; omega)];exact h3 i
   · rw [g2.os,hW1]; exact h5.os
   · rw [g2.tape,hW1]; exact h5.tape
   · rw [g2.output,hW1]; exact h5.output
   · have hgs:=h5.size
     by_cases hbk:tvk.ownBlock=some b
     · rcases h7 with h7 | h7
       · exact absurd (h7.symm.trans hbk).symm hne
       · have:=h7 b hbk; omega
     · rw [hkeep b (by omega) hbk,hblk b (by omega) (by omega)];exact World.grownBy.block h5 b hb hne
   · rcases o2 with o2 | o2
     · rcases h7 with h7 | h7
       · exact .inl (o2.trans h7)
       · exact .inr (fun R hR=>h7 R (o2.symm.trans hR))
     · exact .inr (fun R hR=>by have:=o2 R hR; omega)
/- Layer 22: recpoly.collect: the loop, once for each level; the whole. -/
set_option maxRecDepth 100000
set_option maxHeartbeats 8000000
theorem jbs {w0 w:World} {q:Nat->Prop} {L n:Nat} (ih:uba w0 q L n) (p:Pl) (v:Value) (m:Mo) (E:Int) (l:Sp) (tv:Value) (hn:p.sz < n+1) (hdm:p.dm<=L) (h:PlV w0 q p v) (hx0:Ext w0 w) (ht:TsV (some L) w0.heap.size w tv l) (hm:m.nonneg) (hE:m.le E) (hES:E+p.sz<=4611686018427387904) (hlen:l.length+p.sz<=1099511627776) (hl:p.lv=1):Calls Tryz.prog 107 #[tv,v,moV m] w (jai (some L) w0.heap.size tv (l ++ p.terms m) w):=by
 have HTV:=Lib.hid ht;have HX0:=Lib.hid hx0;have IH:=Lib.hid ih;obtain ⟨A0,n0,c0,A,c,rfl,hnat,hl1,hl2,h4⟩:=h.open_;obtain ⟨lv,ng,ds,cs⟩:=p
 change lv=1 at hl
 subst hl;simp only [Pl.cs,Pl.ds,Pl.lv,Pl.neg,plV] at *;have hte:(Pl.mk 1 ng ds cs).terms m=yc m 1 (m.get 1) cs:=by rw [Pl.terms,if_neg (by omega),if_neg (by omega)]
 rw [hte];have hszp:(Pl.mk 1 ng ds cs).sz=uj cs+1:=by rw [Pl.sz]
 have hdmp:waa cs<=(Pl.mk 1 ng ds cs).dm:=by rw [Pl.dm]; exact Nat.le_max_right _ _
 have H4:=Lib.hid h4;have hgm:0<=m.a/\m.a<=E:=⟨by unfold Mo.nonneg at hm; omega,by unfold Mo.le at hE; omega⟩;have hlb:=xaf cs;have HARG:Hid (∀ k (hk:k < cs.length),cs[k].sz < n/\cs[k].dm<=L/\(m.put 1 (m.get 1+k)).nonneg/\(m.put 1 (m.get 1+k)).le (E+k)/\E+k+cs[k].sz<=4611686018427387904/\(l ++ yc m 1 (m.get 1) (cs.take k)).length+cs[k].sz<=1099511627776):=by
  have:∀ k (hk:k < cs.length),cs[k].sz < n/\cs[k].dm<=L/\(m.put 1 (m.get 1+k)).nonneg/\(m.put 1 (m.get 1+k)).le (E+k)/\E+k+cs[k].sz<=4611686018427387904/\(l ++ yc m 1 (m.get 1) (cs.take k)).length+cs[k].sz<=1099511627776:=fun k hk=>by
   have h1:=uai (List.getElem_mem hk);have h2:=jat (List.getElem_mem hk);have h3:=uah (cs.take k) m 1 (m.get 1);have h5:=xau cs k hk;have h6:=xaf (cs.take k);rw [List.length_take] at h6;have hg:m.get 1=m.a:=rfl;exact ⟨by omega,by omega,Mo.put_nonneg hm (by omega),(hE.mono (by omega)).put _ _ (by omega),by omega,by rw [List.length_append]; omega⟩
  exact this
 obtain ⟨W,hW⟩:∃ W,(w.alloc (.cells #[.int .i64 1,.bool ng,.slice A0 n0 c0,.slice A cs.length c] 35)).alloc (.cells #[.int .i64 m.a,.int .i64 m.b,.int .i64 m.c,.int .i64 m.d] 93)=W:=⟨_,rfl⟩;have hWx:Ext w W:=by rw [<- hW]; exact ((Ext.refl w).alloc _).alloc _
 have hWs:W.heap.size=w.heap.size+1+1:=by rw [<- hW]; simp
 have hbx:uf W w.heap.size (.mk 1 ng ds cs) (.slice A0 n0 c0) (.slice A cs.length c):=by rw [<- hW]; exact (uf.new w (.mk 1 ng ds cs) _ _ _).ext ((Ext.refl _).alloc _) (by simp)
 have hmx:zx W (w.heap.size+1) m:=by
  have:=zx.new (w.alloc (.cells #[.int .i64 1,.bool ng,.slice A0 n0 c0,.slice A cs.length c] 35)) m 93;rw [hW] at this;simpa using this
 have hmf:∀ i,W.frozen? ⟨w.heap.size+1,i,none⟩=false:=fun i=>by rw [<- hW]; simp [go_sem]
 have HI0:Hid (qag w0 w L (.mk 1 ng ds cs) (.slice A0 n0 c0) (.slice A cs.length c) m tv l 0 tv W):=by
  refine ⟨?_,⟨m.get 1,?_⟩,hmf,hbx,⟨hWx.below.os,hWx.below.tape,hWx.below.output,hWx.size,fun i hi _=>hWx.below.block i hi⟩,fun v ds hv=>hv.ext hWx,.inl rfl,by omega⟩
  · simp only [Pl.cs,List.take_zero,yc,List.append_nil]; exact ht.ext hWx
  · rw [show (Pl.mk 1 ng ds cs).lv=1 from rfl,Mo.put_get]; exact hmx
 obtain ⟨b0,b1,b2,b3⟩:=hbx;obtain ⟨d0,d1,d2,d3⟩:=hmx;simp only [Pl.lv,Pl.neg] at b0 b1;obtain ⟨At,ct,rfl,-,-⟩:=ht.len;have hcb:cs.length<=1099511627776:=by omega
 have HE:=Lib.hid hES;clear ht h hnat h4 hWx ih hx0 hm hE hte hdmp hlb hmf hdm;unfold moV;go_enter Tryz.func107,Tryz.ntmps107;go_wp2_with fail;clear hW b0 b1 b2 b3 d0 d1 d2 d3
 go_loopw [0,34] (fun tvk iv wr=>∃ k:Nat,k<=cs.length/\iv=.int .i64 k/\(∃ Ak ck,tvk=.slice Ak (l.length+(yc m 1 (m.get 1) (cs.take k)).length) ck)/\Hid (qag w0 w L (.mk 1 ng ds cs) (.slice A0 n0 c0) (.slice A cs.length c) m (.slice At l.length ct) l k tvk wr)) (fun _ iv _=>cs.length - (intOf iv).toNat)
 case atStart=>exact ⟨0,Nat.zero_le _,rfl,⟨At,ct,by rw [List.take_zero,yc,List.length_nil,Nat.add_zero]⟩,HI0⟩
 case round =>
  obtain ⟨k,hk,rfl,⟨Ak,ck,rfl⟩,HI⟩:=hrel;have hx:=HI.out.ext0 HX0.out HTV.out;obtain ⟨-,⟨e,d0,d1,d2,d3⟩,hfr,⟨b0,b1,b2,b3⟩,-,-,-,hwz⟩:=id HI.out;simp only [Pl.lv,Pl.neg] at b0 b1 d0 d1 d2 d3
  by_cases hlt:k < cs.length
  · obtain ⟨ad,B0,m0,e0,B1,m1,e1,rfl,hadb,hnd,hkt⟩:=jd.kid H4.out k hlt;obtain ⟨a0,a1,a2,a3⟩:=hnd.ext hx (by rw [ja]; exact hadb);obtain ⟨q1,q2,q3,q4,q5,q6⟩:=HARG.out k hlt;have hstep:=HI.out.step HX0.out HTV.out (by simp [Pl.lv]) hlt (.cells #[.int .i64 cs[k].lv,.bool cs[k].neg,.slice B0 m0 e0,.slice B1 m1 e1] 35) _ rfl;obtain ⟨s1,s2,s3,s4,s5⟩:=hstep;have HC:=Lib.hid (IH.out cs[k] _ _ _ _ _ _ q1 q2 (hkt) s3 s1 q3 q4 q5 q6);have S5:=Lib.hid s5;obtain ⟨W1,hW1⟩:∃ W1,(wr.alloc (.cells #[.int .i64 cs[k].lv,.bool cs[k].neg,.slice B0 m0 e0,.slice B1 m1 e1] 35)).setCell ⟨w.heap.size+1,0,none⟩ (.int .i64 (m.a+k))=W1:=⟨_,rfl⟩;have hW1':(wr.alloc (.cells #[.int .i64 cs[k].lv,.bool cs[k].neg,.slice B0 m0 e0,.slice B1 m1 e1] 35)).setCell ⟨w.heap.size+1,((Pl.mk 1 ng ds cs).lv - 1).toNat,none⟩ (.int .i64 (m.get (Pl.mk 1 ng ds cs).lv+k))=W1:=hW1;rw [hW1'] at s2 s4 S5 HC;have t0:W1.cell? ⟨wr.heap.size,0,none⟩=some (.int .i64 cs[k].lv):=by rw [s4]; simp [go_sem]
    have t1:W1.cell? ⟨wr.heap.size,1,none⟩=some (.bool cs[k].neg):=by rw [s4]; simp [go_sem]
    have t2:W1.cell? ⟨wr.heap.size,2,none⟩=some (.slice B0 m0 e0):=by rw [s4]; simp [go_sem]
    have t3:W1.cell? ⟨wr.heap.size,3,none⟩=some (.slice B1 m1 e1):=by rw [s4]; simp [go_sem]
    obtain ⟨x0,x1,x2,x3⟩:=s2;have HS1:=Lib.hid hW1;clear hnd hkt hadb q1 q2 q3 q4 q5 q6 s1 s3 s4 s5 hx hW1'
    change W1.cell? ⟨w.heap.size+1,0,none⟩=some (.int .i64 (m.a+k)) at x0
    change W1.cell? ⟨w.heap.size+1,1,none⟩=some (.int .i64 m.b) at x1
    change W1.cell? ⟨w.heap.size+1,2,none⟩=some (.int .i64 m.c) at x2
    change W1.cell? ⟨w.heap.size+1,3,none⟩=some (.int .i64 m.d) at x3
    simp only [Pl.lv,Pl.cs] at HC S5;have hws:w.heap.size < wr.heap.size:=by omega
    have hws1:w.heap.size+1 < wr.heap.size:=by omega
    have hwr:IntKind.i64.wrap (m.a+k)=m.a+k:=by rw [IntKind.wrap_i64]; omega
    generalize cs[k]=ckk at *;go_wp2_with fail;refine HC.out.mono ?_;rintro e w2 hret;obtain ⟨tv2,A2,c2,rfl,e2,hinv⟩:=S5.out _ _ hret;rw [List.length_append] at e2;subst e2;have HN:=Lib.hid hinv;clear hret hinv HC S5 HS1 hW1 t0 t1 t2 t3 x0 x1 x2 x3 a0 a1 a2 a3 d0 d1 d2 d3 b0 b1 b2 b3 hfr;go_wp2_with fail
    go_roundw
    case rel=>exact ⟨k+1,by omega,by go_num,⟨A2,c2,rfl⟩,HN⟩
    case measure=>simp [intOf]; omega
  · have hke:k=cs.length:=by omega
    have htk:cs.take k=cs:=by rw [hke,List.take_length]
    rw [htk] at HI;rw [htk];have HF:Hid (jai (some L) w0.heap.size (.slice At l.length ct) (l ++ yc m 1 (m.get 1) cs) w (.returned (.slice Ak (l.length+(yc m 1 (m.get 1) cs).length) ck)) wr):=by
     obtain ⟨h1,-,-,-,h5,h6,h7,-⟩:=HI.out;simp only [Pl.cs,Pl.lv,htk] at h1;exact ⟨_,rfl,h1,h5,h6,h7.imp id (fun h R hR=>by have:=h R hR; omega)⟩
    clear hx hfr HI htk hke;go_wp2_with fail;go_ret;exact HF.out
theorem qbs {w0 w:World} {q:Nat->Prop} {L n:Nat} (ih:uba w0 q L n) (p:Pl) (v:Value) (m:Mo) (E:Int) (l:Sp) (tv:Value) (hn:p.sz < n+1) (hdm:p.dm<=L) (h:PlV w0 q p v) (hx0:Ext w0 w) (ht:TsV (some L) w0.heap.size w tv l) (hm:m.nonneg) (hE:m.le E) (hES:E+p.sz<=4611686018427387904) (hlen:l.length+p.sz<=1099511627776) (hl:p.lv=2):Calls Tryz.prog 107 #[tv,v,moV m] w (jai (some L) w0.heap.size tv (l ++ p.terms m) w):=by
 have HTV:=Lib.hid ht;have HX0:=Lib.hid hx0;have IH:=Lib.hid ih;obtain ⟨A0,n0,c0,A,c,rfl,hnat,hl1,hl2,h4⟩:=h.open_;obtain ⟨lv,ng,ds,cs⟩:=p
 change lv=2 at hl
 subst hl;simp only [Pl.cs,Pl.ds,Pl.lv,Pl.neg,plV] at *;have hte:(Pl.mk 2 ng ds cs).terms m=yc m 2 (m.get 2) cs:=by rw [Pl.terms,if_neg (by omega),if_neg (by omega)]
 rw [hte];have hszp:(Pl.mk 2 ng ds cs).sz=uj cs+1:=by rw [Pl.sz]
 have hdmp:waa cs<=(Pl.mk 2 ng ds cs).dm:=by rw [Pl.dm]; exact Nat.le_max_right _ _
 have H4:=Lib.hid h4;have hgm:0<=m.b/\m.b<=E:=⟨by unfold Mo.nonneg at hm; omega,by unfold Mo.le at hE; omega⟩;have hlb:=xaf cs;have HARG:Hid (∀ k (hk:k < cs.length),cs[k].sz < n/\cs[k].dm<=L/\(m.put 2 (m.get 2+k)).nonneg/\(m.put 2 (m.get 2+k)).le (E+k)/\E+k+cs[k].sz<=4611686018427387904/\(l ++ yc m 2 (m.get 2) (cs.take k)).length+cs[k].sz<=1099511627776):=by
  have:∀ k (hk:k < cs.length),cs[k].sz < n/\cs[k].dm<=L/\(m.put 2 (m.get 2+k)).nonneg/\(m.put 2 (m.get 2+k)).le (E+k)/\E+k+cs[k].sz<=4611686018427387904/\(l ++ yc m 2 (m.get 2) (cs.take k)).length+cs[k].sz<=1099511627776:=fun k hk=>by
   have h1:=uai (List.getElem_mem hk);have h2:=jat (List.getElem_mem hk);have h3:=uah (cs.take k) m 2 (m.get 2);have h5:=xau cs k hk;have h6:=xaf (cs.take k);rw [List.length_take] at h6;have hg:m.get 2=m.b:=rfl;exact ⟨by omega,by omega,Mo.put_nonneg hm (by omega),(hE.mono (by omega)).put _ _ (by omega),by omega,by rw [List.length_append]; omega⟩
  exact this
 obtain ⟨W,hW⟩:∃ W,(w.alloc (.cells #[.int .i64 2,.bool ng,.slice A0 n0 c0,.slice A cs.length c] 35)).alloc (.cells #[.int .i64 m.a,.int .i64 m.b,.int .i64 m.c,.int .i64 m.d] 93)=W:=⟨_,rfl⟩;have hWx:Ext w W:=by rw [<- hW]; exact ((Ext.refl w).alloc _).alloc _
 have hWs:W.heap.size=w.heap.size+1+1:=by rw [<- hW]; simp
 have hbx:uf W w.heap.size (.mk 2 ng ds cs) (.slice A0 n0 c0) (.slice A cs.length c):=by rw [<- hW]; exact (uf.new w (.mk 2 ng ds cs) _ _ _).ext ((Ext.refl _).alloc _) (by simp)
 have hmx:zx W (w.heap.size+1) m:=by
  have:=zx.new (w.alloc (.cells #[.int .i64 2,.bool ng,.slice A0 n0 c0,.slice A cs.length c] 35)) m 93;rw [hW] at this;simpa using this
 have hmf:∀ i,W.frozen? ⟨w.heap.size+1,i,none⟩=false:=fun i=>by rw [<- hW]; simp [go_sem]
 have HI0:Hid (qag w0 w L (.mk 2 ng ds cs) (.slice A0 n0 c0) (.slice A cs.length c) m tv l 0 tv W):=by
  refine ⟨?_,⟨m.get 2,?_⟩,hmf,hbx,⟨hWx.below.os,hWx.below.tape,hWx.below.output,hWx.size,fun i hi _=>hWx.below.block i hi⟩,fun v ds hv=>hv.ext hWx,.inl rfl,by omega⟩
  · simp only [Pl.cs,List.take_zero,yc,List.append_nil]; exact ht.ext hWx
  · rw [show (Pl.mk 2 ng ds cs).lv=2 from rfl,Mo.put_get]; exact hmx
 obtain ⟨b0,b1,b2,b3⟩:=hbx;obtain ⟨d0,d1,d2,d3⟩:=hmx;simp only [Pl.lv,Pl.neg] at b0 b1;obtain ⟨At,ct,rfl,-,-⟩:=ht.len;have hcb:cs.length<=1099511627776:=by omega
 have HE:=Lib.hid hES;clear ht h hnat h4 hWx ih hx0 hm hE hte hdmp hlb hmf hdm;unfold moV;go_enter Tryz.func107,Tryz.ntmps107;go_wp2_with fail;clear hW b0 b1 b2 b3 d0 d1 d2 d3
 go_loopw [0,34] (fun tvk iv wr=>∃ k:Nat,k<=cs.length/\iv=.int .i64 k/\(∃ Ak ck,tvk=.slice Ak (l.length+(yc m 2 (m.get 2) (cs.take k)).length) ck)/\Hid (qag w0 w L (.mk 2 ng ds cs) (.slice A0 n0 c0) (.slice A cs.length c) m (.slice At l.length ct) l k tvk wr)) (fun _ iv _=>cs.length - (intOf iv).toNat)
 case atStart=>exact ⟨0,Nat.zero_le _,rfl,⟨At,ct,by rw [List.take_zero,yc,List.length_nil,Nat.add_zero]⟩,HI0⟩
 case round =>
  obtain ⟨k,hk,rfl,⟨Ak,ck,rfl⟩,HI⟩:=hrel;have hx:=HI.out.ext0 HX0.out HTV.out;obtain ⟨-,⟨e,d0,d1,d2,d3⟩,hfr,⟨b0,b1,b2,b3⟩,-,-,-,hwz⟩:=id HI.out;simp only [Pl.lv,Pl.neg] at b0 b1 d0 d1 d2 d3
  by_cases hlt:k < cs.length
  · obtain ⟨ad,B0,m0,e0,B1,m1,e1,rfl,hadb,hnd,hkt⟩:=jd.kid H4.out k hlt;obtain ⟨a0,a1,a2,a3⟩:=hnd.ext hx (by rw [ja]; exact hadb);obtain ⟨q1,q2,q3,q4,q5,q6⟩:=HARG.out k hlt;have hstep:=HI.out.step HX0.out HTV.out (by simp [Pl.lv]) hlt (.cells #[.int .i64 cs[k].lv,.bool cs[k].neg,.slice B0 m0 e0,.slice B1 m1 e1] 35) _ rfl;obtain ⟨s1,s2,s3,s4,s5⟩:=hstep;have HC:=Lib.hid (IH.out cs[k] _ _ _ _ _ _ q1 q2 (hkt) s3 s1 q3 q4 q5 q6);have S5:=Lib.hid s5;obtain ⟨W1,hW1⟩:∃ W1,(wr.alloc (.cells #[.int .i64 cs[k].lv,.bool cs[k].neg,.slice B0 m0 e0,.slice B1 m1 e1] 35)).setCell ⟨w.heap.size+1,1,none⟩ (.int .i64 (m.b+k))=W1:=⟨_,rfl⟩;have hW1':(wr.alloc (.cells #[.int .i64 cs[k].lv,.bool cs[k].neg,.slice B0 m0 e0,.slice B1 m1 e1] 35)).setCell ⟨w.heap.size+1,((Pl.mk 2 ng ds cs).lv - 1).toNat,none⟩ (.int .i64 (m.get (Pl.mk 2 ng ds cs).lv+k))=W1:=hW1;rw [hW1'] at s2 s4 S5 HC;have t0:W1.cell? ⟨wr.heap.size,0,none⟩=some (.int .i64 cs[k].lv):=by rw [s4]; simp [go_sem]
    have t1:W1.cell? ⟨wr.heap.size,1,none⟩=some (.bool cs[k].neg):=by rw [s4]; simp [go_sem]
    have t2:W1.cell? ⟨wr.heap.size,2,none⟩=some (.slice B0 m0 e0):=by rw [s4]; simp [go_sem]
    have t3:W1.cell? ⟨wr.heap.size,3,none⟩=some (.slice B1 m1 e1):=by rw [s4]; simp [go_sem]
    obtain ⟨x0,x1,x2,x3⟩:=s2;have HS1:=Lib.hid hW1;clear hnd hkt hadb q1 q2 q3 q4 q5 q6 s1 s3 s4 s5 hx hW1'
    change W1.cell? ⟨w.heap.size+1,0,none⟩=some (.int .i64 m.a) at x0
    change W1.cell? ⟨w.heap.size+1,1,none⟩=some (.int .i64 (m.b+k)) at x1
    change W1.cell? ⟨w.heap.size+1,2,none⟩=some (.int .i64 m.c) at x2
    change W1.cell? ⟨w.heap.size+1,3,none⟩=some (.int .i64 m.d) at x3
    simp only [Pl.lv,Pl.cs] at HC S5;have hws:w.heap.size < wr.heap.size:=by omega
    have hws1:w.heap.size+1 < wr.heap.size:=by omega
    have hwr:IntKind.i64.wrap (m.b+k)=m.b+k:=by rw [IntKind.wrap_i64]; omega
    generalize cs[k]=ckk at *;go_wp2_with fail;refine HC.out.mono ?_;rintro e w2 hret;obtain ⟨tv2,A2,c2,rfl,e2,hinv⟩:=S5.out _ _ hret;rw [List.length_append] at e2;subst e2;have HN:=Lib.hid hinv;clear hret hinv HC S5 HS1 hW1 t0 t1 t2 t3 x0 x1 x2 x3 a0 a1 a2 a3 d0 d1 d2 d3 b0 b1 b2 b3 hfr;go_wp2_with fail
    go_roundw
    case rel=>exact ⟨k+1,by omega,by go_num,⟨A2,c2,rfl⟩,HN⟩
    case measure=>simp [intOf]; omega
  · have hke:k=cs.length:=by omega
    have htk:cs.take k=cs:=by rw [hke,List.take_length]
    rw [htk] at HI;rw [htk];have HF:Hid (jai (some L) w0.heap.size (.slice At l.length ct) (l ++ yc m 2 (m.get 2) cs) w (.returned (.slice Ak (l.length+(yc m 2 (m.get 2) cs).length) ck)) wr):=by
     obtain ⟨h1,-,-,-,h5,h6,h7,-⟩:=HI.out;simp only [Pl.cs,Pl.lv,htk] at h1;exact ⟨_,rfl,h1,h5,h6,h7.imp id (fun h R hR=>by have:=h R hR; omega)⟩
    clear hx hfr HI htk hke;go_wp2_with fail;go_ret;exact HF.out
theorem xbs {w0 w:World} {q:Nat->Prop} {L n:Nat} (ih:uba w0 q L n) (p:Pl) (v:Value) (m:Mo) (E:Int) (l:Sp) (tv:Value) (hn:p.sz < n+1) (hdm:p.dm<=L) (h:PlV w0 q p v) (hx0:Ext w0 w) (ht:TsV (some L) w0.heap.size w tv l) (hm:m.nonneg) (hE:m.le E) (hES:E+p.sz<=4611686018427387904) (hlen:l.length+p.sz<=1099511627776) (hl:p.lv=3):Calls Tryz.prog 107 #[tv,v,moV m] w (jai (some L) w0.heap.size tv (l ++ p.terms m) w):=by
 have HTV:=Lib.hid ht;have HX0:=Lib.hid hx0;have IH:=Lib.hid ih;obtain ⟨A0,n0,c0,A,c,rfl,hnat,hl1,hl2,h4⟩:=h.open_;obtain ⟨lv,ng,ds,cs⟩:=p
 change lv=3 at hl
 subst hl;simp only [Pl.cs,Pl.ds,Pl.lv,Pl.neg,plV] at *;have hte:(Pl.mk 3 ng ds cs).terms m=yc m 3 (m.get 3) cs:=by rw [Pl.terms,if_neg (by omega),if_neg (by omega)]
 rw [hte];have hszp:(Pl.mk 3 ng ds cs).sz=uj cs+1:=by rw [Pl.sz]
 have hdmp:waa cs<=(Pl.mk 3 ng ds cs).dm:=by rw [Pl.dm]; exact Nat.le_max_right _ _
 have H4:=Lib.hid h4;have hgm:0<=m.c/\m.c<=E:=⟨by unfold Mo.nonneg at hm; omega,by unfold Mo.le at hE; omega⟩;have hlb:=xaf cs;have HARG:Hid (∀ k (hk:k < cs.length),cs[k].sz < n/\cs[k].dm<=L/\(m.put 3 (m.get 3+k)).nonneg/\(m.put 3 (m.get 3+k)).le (E+k)/\E+k+cs[k].sz<=4611686018427387904/\(l ++ yc m 3 (m.get 3) (cs.take k)).length+cs[k].sz<=1099511627776):=by
  have:∀ k (hk:k < cs.length),cs[k].sz < n/\cs[k].dm<=L/\(m.put 3 (m.get 3+k)).nonneg/\(m.put 3 (m.get 3+k)).le (E+k)/\E+k+cs[k].sz<=4611686018427387904/\(l ++ yc m 3 (m.get 3) (cs.take k)).length+cs[k].sz<=1099511627776:=fun k hk=>by
   have h1:=uai (List.getElem_mem hk);have h2:=jat (List.getElem_mem hk);have h3:=uah (cs.take k) m 3 (m.get 3);have h5:=xau cs k hk;have h6:=xaf (cs.take k);rw [List.length_take] at h6;have hg:m.get 3=m.c:=rfl;exact ⟨by omega,by omega,Mo.put_nonneg hm (by omega),(hE.mono (by omega)).put _ _ (by omega),by omega,by rw [List.length_append]; omega⟩
  exact this
 obtain ⟨W,hW⟩:∃ W,(w.alloc (.cells #[.int .i64 3,.bool ng,.slice A0 n0 c0,.slice A cs.length c] 35)).alloc (.cells #[.int .i64 m.a,.int .i64 m.b,.int .i64 m.c,.int .i64 m.d] 93)=W:=⟨_,rfl⟩;have hWx:Ext w W:=by rw [<- hW]; exact ((Ext.refl w).alloc _).alloc _
 have hWs:W.heap.size=w.heap.size+1+1:=by rw [<- hW]; simp
 have hbx:uf W w.heap.size (.mk 3 ng ds cs) (.slice A0 n0 c0) (.slice A cs.length c):=by rw [<- hW]; exact (uf.new w (.mk 3 ng ds cs) _ _ _).ext ((Ext.refl _).alloc _) (by simp)
 have hmx:zx W (w.heap.size+1) m:=by
  have:=zx.new (w.alloc (.cells #[.int .i64 3,.bool ng,.slice A0 n0 c0,.slice A cs.length c] 35)) m 93;rw [hW] at this;simpa using this
 have hmf:∀ i,W.frozen? ⟨w.heap.size+1,i,none⟩=false:=fun i=>by rw [<- hW]; simp [go_sem]
 have HI0:Hid (qag w0 w L (.mk 3 ng ds cs) (.slice A0 n0 c0) (.slice A cs.length c) m tv l 0 tv W):=by
  refine ⟨?_,⟨m.get 3,?_⟩,hmf,hbx,⟨hWx.below.os,hWx.below.tape,hWx.below.output,hWx.size,fun i hi _=>hWx.below.block i hi⟩,fun v ds hv=>hv.ext hWx,.inl rfl,by omega⟩
  · simp only [Pl.cs,List.take_zero,yc,List.append_nil]; exact ht.ext hWx
  · rw [show (Pl.mk 3 ng ds cs).lv=3 from rfl,Mo.put_get]; exact hmx
 obtain ⟨b0,b1,b2,b3⟩:=hbx;obtain ⟨d0,d1,d2,d3⟩:=hmx;simp only [Pl.lv,Pl.neg] at b0 b1;obtain ⟨At,ct,rfl,-,-⟩:=ht.len;have hcb:cs.length<=1099511627776:=by omega
 have HE:=Lib.hid hES;clear ht h hnat h4 hWx ih hx0 hm hE hte hdmp hlb hmf hdm;unfold moV;go_enter Tryz.func107,Tryz.ntmps107;go_wp2_with fail;clear hW b0 b1 b2 b3 d0 d1 d2 d3
 go_loopw [0,34] (fun tvk iv wr=>∃ k:Nat,k<=cs.length/\iv=.int .i64 k/\(∃ Ak ck,tvk=.slice Ak (l.length+(yc m 3 (m.get 3) (cs.take k)).length) ck)/\Hid (qag w0 w L (.mk 3 ng ds cs) (.slice A0 n0 c0) (.slice A cs.length c) m (.slice At l.length ct) l k tvk wr)) (fun _ iv _=>cs.length - (intOf iv).toNat)
 case atStart=>exact ⟨0,Nat.zero_le _,rfl,⟨At,ct,by rw [List.take_zero,yc,List.length_nil,Nat.add_zero]⟩,HI0⟩
 case round =>
  obtain ⟨k,hk,rfl,⟨Ak,ck,rfl⟩,HI⟩:=hrel;have hx:=HI.out.ext0 HX0.out HTV.out;obtain ⟨-,⟨e,d0,d1,d2,d3⟩,hfr,⟨b0,b1,b2,b3⟩,-,-,-,hwz⟩:=id HI.out;simp only [Pl.lv,Pl.neg] at b0 b1 d0 d1 d2 d3
  by_cases hlt:k < cs.length
  · obtain ⟨ad,B0,m0,e0,B1,m1,e1,rfl,hadb,hnd,hkt⟩:=jd.kid H4.out k hlt;obtain ⟨a0,a1,a2,a3⟩:=hnd.ext hx (by rw [ja]; exact hadb);obtain ⟨q1,q2,q3,q4,q5,q6⟩:=HARG.out k hlt;have hstep:=HI.out.step HX0.out HTV.out (by simp [Pl.lv]) hlt (.cells #[.int .i64 cs[k].lv,.bool cs[k].neg,.slice B0 m0 e0,.slice B1 m1 e1] 35) _ rfl;obtain ⟨s1,s2,s3,s4,s5⟩:=hstep;have HC:=Lib.hid (IH.out cs[k] _ _ _ _ _ _ q1 q2 (hkt) s3 s1 q3 q4 q5 q6);have S5:=Lib.hid s5;obtain ⟨W1,hW1⟩:∃ W1,(wr.alloc (.cells #[.int .i64 cs[k].lv,.bool cs[k].neg,.slice B0 m0 e0,.slice B1 m1 e1] 35)).setCell ⟨w.heap.size+1,2,none⟩ (.int .i64 (m.c+k))=W1:=⟨_,rfl⟩;have hW1':(wr.alloc (.cells #[.int .i64 cs[k].lv,.bool cs[k].neg,.slice B0 m0 e0,.slice B1 m1 e1] 35)).setCell ⟨w.heap.size+1,((Pl.mk 3 ng ds cs).lv - 1).toNat,none⟩ (.int .i64 (m.get (Pl.mk 3 ng ds cs).lv+k))=W1:=hW1;rw [hW1'] at s2 s4 S5 HC;have t0:W1.cell? ⟨wr.heap.size,0,none⟩=some (.int .i64 cs[k].lv):=by rw [s4]; simp [go_sem]
    have t1:W1.cell? ⟨wr.heap.size,1,none⟩=some (.bool cs[k].neg):=by rw [s4]; simp [go_sem]
    have t2:W1.cell? ⟨wr.heap.size,2,none⟩=some (.slice B0 m0 e0):=by rw [s4]; simp [go_sem]
    have t3:W1.cell? ⟨wr.heap.size,3,none⟩=some (.slice B1 m1 e1):=by rw [s4]; simp [go_sem]
    obtain ⟨x0,x1,x2,x3⟩:=s2;have HS1:=Lib.hid hW1;clear hnd hkt hadb q1 q2 q3 q4 q5 q6 s1 s3 s4 s5 hx hW1'
    change W1.cell? ⟨w.heap.size+1,0,none⟩=some (.int .i64 m.a) at x0
    change W1.cell? ⟨w.heap.size+1,1,none⟩=some (.int .i64 m.b) at x1
    change W1.cell? ⟨w.heap.size+1,2,none⟩=some (.int .i64 (m.c+k)) at x2
    change W1.cell? ⟨w.heap.size+1,3,none⟩=some (.int .i64 m.d) at x3
    simp only [Pl.lv,Pl.cs] at HC S5;have hws:w.heap.size < wr.heap.size:=by omega
    have hws1:w.heap.size+1 < wr.heap.size:=by omega
    have hwr:IntKind.i64.wrap (m.c+k)=m.c+k:=by rw [IntKind.wrap_i64]; omega
    generalize cs[k]=ckk at *;go_wp2_with fail;refine HC.out.mono ?_;rintro e w2 hret;obtain ⟨tv2,A2,c2,rfl,e2,hinv⟩:=S5.out _ _ hret;rw [List.length_append] at e2;subst e2;have HN:=Lib.hid hinv;clear hret hinv HC S5 HS1 hW1 t0 t1 t2 t3 x0 x1 x2 x3 a0 a1 a2 a3 d0 d1 d2 d3 b0 b1 b2 b3 hfr;go_wp2_with fail
    go_roundw
    case rel=>exact ⟨k+1,by omega,by go_num,⟨A2,c2,rfl⟩,HN⟩
    case measure=>simp [intOf]; omega
  · have hke:k=cs.length:=by omega
    have htk:cs.take k=cs:=by rw [hke,List.take_length]
    rw [htk] at HI;rw [htk];have HF:Hid (jai (some L) w0.heap.size (.slice At l.length ct) (l ++ yc m 3 (m.get 3) cs) w (.returned (.slice Ak (l.length+(yc m 3 (m.get 3) cs).length) ck)) wr):=by
     obtain ⟨h1,-,-,-,h5,h6,h7,-⟩:=HI.out;simp only [Pl.cs,Pl.lv,htk] at h1;exact ⟨_,rfl,h1,h5,h6,h7.imp id (fun h R hR=>by have:=h R hR; omega)⟩
    clear hx hfr HI htk hke;go_wp2_with fail;go_ret;exact HF.out
theorem ybs {w0 w:World} {q:Nat->Prop} {L n:Nat} (ih:uba w0 q L n) (p:Pl) (v:Value) (m:Mo) (E:Int) (l:Sp) (tv:Value) (hn:p.sz < n+1) (hdm:p.dm<=L) (h:PlV w0 q p v) (hx0:Ext w0 w) (ht:TsV (some L) w0.heap.size w tv l) (hm:m.nonneg) (hE:m.le E) (hES:E+p.sz<=4611686018427387904) (hlen:l.length+p.sz<=1099511627776) (hl:p.lv=4):Calls Tryz.prog 107 #[tv,v,moV m] w (jai (some L) w0.heap.size tv (l ++ p.terms m) w):=by
 have HTV:=Lib.hid ht;have HX0:=Lib.hid hx0;have IH:=Lib.hid ih;obtain ⟨A0,n0,c0,A,c,rfl,hnat,hl1,hl2,h4⟩:=h.open_;obtain ⟨lv,ng,ds,cs⟩:=p
 change lv=4 at hl
 subst hl;simp only [Pl.cs,Pl.ds,Pl.lv,Pl.neg,plV] at *;have hte:(Pl.mk 4 ng ds cs).terms m=yc m 4 (m.get 4) cs:=by rw [Pl.terms,if_neg (by omega),if_neg (by omega)]
 rw [hte];have hszp:(Pl.mk 4 ng ds cs).sz=uj cs+1:=by rw [Pl.sz]
 have hdmp:waa cs<=(Pl.mk 4 ng ds cs).dm:=by rw [Pl.dm]; exact Nat.le_max_right _ _
 have H4:=Lib.hid h4;have hgm:0<=m.d/\m.d<=E:=⟨by unfold Mo.nonneg at hm; omega,by unfold Mo.le at hE; omega⟩;have hlb:=xaf cs;have HARG:Hid (∀ k (hk:k < cs.length),cs[k].sz < n/\cs[k].dm<=L/\(m.put 4 (m.get 4+k)).nonneg/\(m.put 4 (m.get 4+k)).le (E+k)/\E+k+cs[k].sz<=4611686018427387904/\(l ++ yc m 4 (m.get 4) (cs.take k)).length+cs[k].sz<=1099511627776):=by
  have:∀ k (hk:k < cs.length),cs[k].sz < n/\cs[k].dm<=L/\(m.put 4 (m.get 4+k)).nonneg/\(m.put 4 (m.get 4+k)).le (E+k)/\E+k+cs[k].sz<=4611686018427387904/\(l ++ yc m 4 (m.get 4) (cs.take k)).length+cs[k].sz<=1099511627776:=fun k hk=>by
   have h1:=uai (List.getElem_mem hk);have h2:=jat (List.getElem_mem hk);have h3:=uah (cs.take k) m 4 (m.get 4);have h5:=xau cs k hk;have h6:=xaf (cs.take k);rw [List.length_take] at h6;have hg:m.get 4=m.d:=rfl;exact ⟨by omega,by omega,Mo.put_nonneg hm (by omega),(hE.mono (by omega)).put _ _ (by omega),by omega,by rw [List.length_append]; omega⟩
  exact this
 obtain ⟨W,hW⟩:∃ W,(w.alloc (.cells #[.int .i64 4,.bool ng,.slice A0 n0 c0,.slice A cs.length c] 35)).alloc (.cells #[.int .i64 m.a,.int .i64 m.b,.int .i64 m.c,.int .i64 m.d] 93)=W:=⟨_,rfl⟩;have hWx:Ext w W:=by rw [<- hW]; exact ((Ext.refl w).alloc _).alloc _
 have hWs:W.heap.size=w.heap.size+1+1:=by rw [<- hW]; simp
 have hbx:uf W w.heap.size (.mk 4 ng ds cs) (.slice A0 n0 c0) (.slice A cs.length c):=by rw [<- hW]; exact (uf.new w (.mk 4 ng ds cs) _ _ _).ext ((Ext.refl _).alloc _) (by simp)
 have hmx:zx W (w.heap.size+1) m:=by
  have:=zx.new (w.alloc (.cells #[.int .i64 4,.bool ng,.slice A0 n0 c0,.slice A cs.length c] 35)) m 93;rw [hW] at this;simpa using this
 have hmf:∀ i,W.frozen? ⟨w.heap.size+1,i,none⟩=false:=fun i=>by rw [<- hW]; simp [go_sem]
 have HI0:Hid (qag w0 w L (.mk 4 ng ds cs) (.slice A0 n0 c0) (.slice A cs.length c) m tv l 0 tv W):=by
  refine ⟨?_,⟨m.get 4,?_⟩,hmf,hbx,⟨hWx.below.os,hWx.below.tape,hWx.below.output,hWx.size,fun i hi _=>hWx.below.block i hi⟩,fun v ds hv=>hv.ext hWx,.inl rfl,by omega⟩
  · simp only [Pl.cs,List.take_zero,yc,List.append_nil]; exact ht.ext hWx
  · rw [show (Pl.mk 4 ng ds cs).lv=4 from rfl,Mo.put_get]; exact hmx
 obtain ⟨b0,b1,b2,b3⟩:=hbx;obtain ⟨d0,d1,d2,d3⟩:=hmx;simp only [Pl.lv,Pl.neg] at b0 b1;obtain ⟨At,ct,rfl,-,-⟩:=ht.len;have hcb:cs.length<=1099511627776:=by omega
 have HE:=Lib.hid hES;clear ht h hnat h4 hWx ih hx0 hm hE hte hdmp hlb hmf hdm;unfold moV;go_enter Tryz.func107,Tryz.ntmps107;go_wp2_with fail;clear hW b0 b1 b2 b3 d0 d1 d2 d3
 go_loopw [0,34] (fun tvk iv wr=>∃ k:Nat,k<=cs.length/\iv=.int .i64 k/\(∃ Ak ck,tvk=.slice Ak (l.length+(yc m 4 (m.get 4) (cs.take k)).length) ck)/\Hid (qag w0 w L (.mk 4 ng ds cs) (.slice A0 n0 c0) (.slice A cs.length c) m (.slice At l.length ct) l k tvk wr)) (fun _ iv _=>cs.length - (intOf iv).toNat)
 case atStart=>exact ⟨0,Nat.zero_le _,rfl,⟨At,ct,by rw [List.take_zero,yc,List.length_nil,Nat.add_zero]⟩,HI0⟩
 case round =>
  obtain ⟨k,hk,rfl,⟨Ak,ck,rfl⟩,HI⟩:=hrel;have hx:=HI.out.ext0 HX0.out HTV.out;obtain ⟨-,⟨e,d0,d1,d2,d3⟩,hfr,⟨b0,b1,b2,b3⟩,-,-,-,hwz⟩:=id HI.out;simp only [Pl.lv,Pl.neg] at b0 b1 d0 d1 d2 d3
  by_cases hlt:k < cs.length
  · obtain ⟨ad,B0,m0,e0,B1,m1,e1,rfl,hadb,hnd,hkt⟩:=jd.kid H4.out k hlt;obtain ⟨a0,a1,a2,a3⟩:=hnd.ext hx (by rw [ja]; exact hadb);obtain ⟨q1,q2,q3,q4,q5,q6⟩:=HARG.out k hlt;have hstep:=HI.out.step HX0.out HTV.out (by simp [Pl.lv]) hlt (.cells #[.int .i64 cs[k].lv,.bool cs[k].neg,.slice B0 m0 e0,.slice B1 m1 e1] 35) _ rfl;obtain ⟨s1,s2,s3,s4,s5⟩:=hstep;have HC:=Lib.hid (IH.out cs[k] _ _ _ _ _ _ q1 q2 (hkt) s3 s1 q3 q4 q5 q6);have S5:=Lib.hid s5;obtain ⟨W1,hW1⟩:∃ W1,(wr.alloc (.cells #[.int .i64 cs[k].lv,.bool cs[k].neg,.slice B0 m0 e0,.slice B1 m1 e1] 35)).setCell ⟨w.heap.size+1,3,none⟩ (.int .i64 (m.d+k))=W1:=⟨_,rfl⟩;have hW1':(wr.alloc (.cells #[.int .i64 cs[k].lv,.bool cs[k].neg,.slice B0 m0 e0,.slice B1 m1 e1] 35)).setCell ⟨w.heap.size+1,((Pl.mk 4 ng ds cs).lv - 1).toNat,none⟩ (.int .i64 (m.get (Pl.mk 4 ng ds cs).lv+k))=W1:=hW1;rw [hW1'] at s2 s4 S5 HC;have t0:W1.cell? ⟨wr.heap.size,0,none⟩=some (.int .i64 cs[k].lv):=by rw [s4]; simp [go_sem]
    have t1:W1.cell? ⟨wr.heap.size,1,none⟩=some (.bool cs[k].neg):=by rw [s4]; simp [go_sem]
    have t2:W1.cell? ⟨wr.heap.size,2,none⟩=some (.slice B0 m0 e0):=by rw [s4]; simp [go_sem]
    have t3:W1.cell? ⟨wr.heap.size,3,none⟩=some (.slice B1 m1 e1):=by rw [s4]; simp [go_sem]
    obtain ⟨x0,x1,x2,x3⟩:=s2;have HS1:=Lib.hid hW1;clear hnd hkt hadb q1 q2 q3 q4 q5 q6 s1 s3 s4 s5 hx hW1'
    change W1.cell? ⟨w.heap.size+1,0,none⟩=some (.int .i64 m.a) at x0
    change W1.cell? ⟨w.heap.size+1,1,none⟩=some (.int .i64 m.b) at x1
    change W1.cell? ⟨w.heap.size+1,2,none⟩=some (.int .i64 m.c) at x2
    change W1.cell? ⟨w.heap.size+1,3,none⟩=some (.int .i64 (m.d+k)) at x3
    simp only [Pl.lv,Pl.cs] at HC S5;have hws:w.heap.size < wr.heap.size:=by omega
    have hws1:w.heap.size+1 < wr.heap.size:=by omega
    have hwr:IntKind.i64.wrap (m.d+k)=m.d+k:=by rw [IntKind.wrap_i64]; omega
    generalize cs[k]=ckk at *;go_wp2_with fail;refine HC.out.mono ?_;rintro e w2 hret;obtain ⟨tv2,A2,c2,rfl,e2,hinv⟩:=S5.out _ _ hret;rw [List.length_append] at e2;subst e2;have HN:=Lib.hid hinv;clear hret hinv HC S5 HS1 hW1 t0 t1 t2 t3 x0 x1 x2 x3 a0 a1 a2 a3 d0 d1 d2 d3 b0 b1 b2 b3 hfr;go_wp2_with fail
    go_roundw
    case rel=>exact ⟨k+1,by omega,by go_num,⟨A2,c2,rfl⟩,HN⟩
    case measure=>simp [intOf]; omega
  · have hke:k=cs.length:=by omega
    have htk:cs.take k=cs:=by rw [hke,List.take_length]
    rw [htk] at HI;rw [htk];have HF:Hid (jai (some L) w0.heap.size (.slice At l.length ct) (l ++ yc m 4 (m.get 4) cs) w (.returned (.slice Ak (l.length+(yc m 4 (m.get 4) cs).length) ck)) wr):=by
     obtain ⟨h1,-,-,-,h5,h6,h7,-⟩:=HI.out;simp only [Pl.cs,Pl.lv,htk] at h1;exact ⟨_,rfl,h1,h5,h6,h7.imp id (fun h R hR=>by have:=h R hR; omega)⟩
    clear hx hfr HI htk hke;go_wp2_with fail;go_ret;exact HF.out
theorem yb0 (w0:World) (q:Nat->Prop) (L n:Nat):uba w0 q L n:=by
 induction n with
 | zero=>intro p v m E l tv w h; omega
 | succ n ih =>
   intro p v m E l tv w hn hdm h hx0 ht hm hE hES hlen
   by_cases h0:p.lv<=0
   · exact jbn p v m l tv hdm h hx0 ht hlen h0
   · by_cases h4:4 < p.lv
     · exact kbn p v m l tv h hx0 ht h4
     · rcases (show p.lv=1\/p.lv=2\/p.lv=3\/p.lv=4 by omega) with h1 | h1 | h1 | h1
       · exact jbs ih p v m E l tv hn hdm h hx0 ht hm hE hES hlen h1
       · exact qbs ih p v m E l tv hn hdm h hx0 ht hm hE hES hlen h1
       · exact xbs ih p v m E l tv hn hdm h hx0 ht hm hE hES hlen h1
       · exact ybs ih p v m E l tv hn hdm h hx0 ht hm hE hES hlen h1
theorem kbs {w:World} {q:Nat->Prop} (p:Pl) (v:Value) (L:Nat) (hdm:p.dm<=L) (hsz:p.sz<=1099511627776) (h:PlV w q p v):Calls Tryz.prog 107 #[.slice none 0 0,v,moV Mo.one] w fun e w'=>∃ tv,e=.returned tv/\TsV (some L) w.heap.size w' tv (p.terms Mo.one)/\Ext w w':=
 (yb0 w q L (p.sz+1) p v Mo.one 0 [] (.slice none 0 0) w (Nat.lt_succ_self _) hdm h (Ext.refl w) (TsV.nil _ _ _) Mo.one_nonneg Mo.one_le (by omega) (by simpa using hsz)).mono fun e w' ⟨tv,he,h1,h2,_,_⟩=>⟨tv,he,by simpa using h1,⟨h2.os,h2.tape,h2.output,h2.size,fun i hi=>h2.block i hi (by simp [Value.ownBlock])⟩⟩
/- Layer 22: recpoly.canonical, Normal. -/
set_option maxRecDepth 100000
set_option maxHeartbeats 8000000
mutual
theorem PlV.dig {w : World} {q : Nat -> Prop} : ∀ (p : Pl) (v : Value), PlV w q p v -> p.dig
 | .mk l n d cs,v,h=>by
   unfold PlV at h;obtain ⟨s,A,c,e,h1,h2,h3,h4⟩:=h;unfold Pl.dig;exact ⟨h1.digs,jd.dig cs A 0 h4⟩
theorem jd.dig {w : World} {q : Nat -> Prop} : ∀ (cs : List Pl) (A : Option Addr) (j : Nat), jd w q cs A j -> xae cs
 | [],A,j,h=>by unfold xae; trivial
 | c :: r,A,j,h=>by
   unfold jd at h;obtain ⟨⟨ad,s,K,e,hb,hq,h1,h2⟩,h3⟩:=h;unfold xae;exact ⟨PlV.dig c _ h2,jd.dig r A (j+1) h3⟩
end
theorem jbg (p:Pl) (hd:p.dig) (hsz:p.sz<=1073741824):(dg (jg (p.terms Mo.one))).length<=p.dm+1:=by
 have h1:=Pl.terms_nrm p Mo.one p.dm (Nat.le_refl _) hd;refine qg (Nat.lt_of_le_of_lt h1 ?_);rw [Nat.pow_succ,Nat.mul_comm];exact Nat.mul_lt_mul_of_pos_left (by rw [zg]; omega) (Nat.pow_pos ui)
theorem Pl.nf_dm (p:Pl) (hd:p.dig) (hsz:p.sz<=1073741824):p.nf.dm<=p.dm+1:=by
 unfold Pl.nf Pl.ofS;refine kcw (p.dm+1) 4 _ fun x hx=>?_
 have h1:=ybi hx;have h2:=ybd (p.terms Mo.one);exact Nat.le_trans (jl (Nat.le_trans h1 h2)) (jbg p hd hsz)
theorem Pl.nf_sz (p:Pl):p.nf.sz<=(p.sz+2) ^ 4:=by
 unfold Pl.nf Pl.ofS;refine xcw p.sz 4 _ fun x hx=>?_
 obtain ⟨-,y,hy,e⟩:=yac hx;rw [<- e];exact (Pl.terms_le p Mo.one 0 Mo.one_le y hy).mono (by omega)
theorem kay {w:World} {q:Nat->Prop} {p:Pl} (v:Value) (h:PlV w q p v) (hp:p.Can):Calls Tryz.prog 59 #[v] w (qi (fun b=>q b\/w.heap.size<=b) p w):=by
 have hdig:=h.dig;obtain ⟨A0,n0,c0,A,c,rfl,hnat,hl1,hl2,h4⟩:=h.open_;obtain ⟨W,hW⟩:∃ W,(w.alloc (.cells #[.int .i64 p.lv,.bool p.neg,.slice A0 n0 c0,.slice A p.cs.length c] 35)).alloc (.cells #[.int .i64 0,.bool false,.slice none 0 0,.slice none 0 0] 35)=W:=⟨_,rfl⟩;have hWx:Ext w W:=by rw [<- hW]; exact ((Ext.refl w).alloc _).alloc _
 have hWs:W.heap.size=w.heap.size+1+1:=by rw [<- hW]; simp
 have hbx:uf W w.heap.size p (.slice A0 n0 c0) (.slice A p.cs.length c):=by rw [<- hW]; exact (uf.new w p _ _ _).ext ((Ext.refl _).alloc _) (by simp)
 have hz:ql W (w.heap.size+1):=by
  have:=ql.new (w.alloc (.cells #[.int .i64 p.lv,.bool p.neg,.slice A0 n0 c0,.slice A p.cs.length c] 35)) 35;rw [hW] at this;simpa using this
 obtain ⟨b0,b1,b2,b3⟩:=id hbx;have hpl0:PlV w (fun b=>q b/\b < w.heap.size) p (plV p (.slice A0 n0 c0) (.slice A p.cs.length c)):=PlV.turn_ (Nat.le_refl _) (fun _ _ h=>h) (fun b hb hq=>⟨⟨hq,hb⟩,rfl⟩) h;have HPL:=Lib.hid hpl0;have HWX:=Lib.hid hWx;have HBX:=Lib.hid hbx;have HZ:=Lib.hid hz;have HCN:=Lib.hid ((Pl.isCan_iff p hdig).2 hp);clear h hnat h4 hWx hbx hz hpl0 hdig hp;unfold plV;go_enter Tryz.func59,Tryz.ntmps59;go_wp2_with fail;clear hW b0 b1 b2 b3;refine (zbe p _ (HPL.out.ext HWX.out)).mono ?_;rw [HCN.out];rintro e w1 ⟨rfl,x1⟩;obtain ⟨b0,b1,b2,b3⟩:=HBX.out.ext x1 (by omega);have hs1:=x1.size;have X1:=Lib.hid (HWX.out.trans x1);have HZ1:=Lib.hid (HZ.out.ext x1 (by omega));clear x1;have HF:=Lib.hid (vk (q':=fun b=>q b\/w.heap.size<=b) X1.out (Nat.le_succ _) HZ1.out (HPL.out.ext X1.out) (fun b _ hb=>⟨by omega,.inl hb.1⟩));obtain ⟨⟨z0,z1,z2,z3⟩,zf⟩:=HZ1.out;clear HZ1 HPL HCN;go_wp2_with fail;exact bodyPost_ret (v:=plV p (.slice A0 n0 c0) (.slice A p.cs.length c)) (by simp [results,Tryz.results59,go_sem,z0,z1,z2,z3,plV]) rfl HF.out
theorem ubn {w:World} {q:Nat->Prop} (p:Pl) (v:Value) (h:PlV w q p v) (hs0:p.isCan=false->p.sz<=1073741824/\p.dm<=1099511627776):Calls Tryz.prog 59 #[v] w (qi (fun b=>q b\/w.heap.size<=b) p.nf w):=by
 have hdig:=h.dig;obtain ⟨A0,n0,c0,A,c,rfl,hnat,hl1,hl2,h4⟩:=h.open_;obtain ⟨W,hW⟩:∃ W,(w.alloc (.cells #[.int .i64 p.lv,.bool p.neg,.slice A0 n0 c0,.slice A p.cs.length c] 35)).alloc (.cells #[.int .i64 0,.bool false,.slice none 0 0,.slice none 0 0] 35)=W:=⟨_,rfl⟩;have hWx:Ext w W:=by rw [<- hW]; exact ((Ext.refl w).alloc _).alloc _
 have hWs:W.heap.size=w.heap.size+1+1:=by rw [<- hW]; simp
 have hbx:uf W w.heap.size p (.slice A0 n0 c0) (.slice A p.cs.length c):=by rw [<- hW]; exact (uf.new w p _ _ _).ext ((Ext.refl _).alloc _) (by simp)
 have hz:ql W (w.heap.size+1):=by
  have:=ql.new (w.alloc (.cells #[.int .i64 p.lv,.bool p.neg,.slice A0 n0 c0,.slice A p.cs.length c] 35)) 35;rw [hW] at this;simpa using this
 obtain ⟨b0,b1,b2,b3⟩:=id hbx;have hpl0:PlV w (fun b=>q b/\b < w.heap.size) p (plV p (.slice A0 n0 c0) (.slice A p.cs.length c)):=PlV.turn_ (Nat.le_refl _) (fun _ _ h=>h) (fun b hb hq=>⟨⟨hq,hb⟩,rfl⟩) h;have HPL:=Lib.hid hpl0;have HWX:=Lib.hid hWx;have HBX:=Lib.hid hbx;have HZ:=Lib.hid hz;have HDIG:=Lib.hid hdig;clear h hnat h4 hWx hbx hz hpl0 hdig;unfold plV;go_enter Tryz.func59,Tryz.ntmps59;go_wp2_with fail;clear hW b0 b1 b2 b3;refine (zbe p _ (HPL.out.ext HWX.out)).mono ?_;rintro e w1 ⟨rfl,x1⟩;obtain ⟨b0,b1,b2,b3⟩:=HBX.out.ext x1 (by omega);have hs1:=x1.size;have X1:=Lib.hid (HWX.out.trans x1);have HZ1:=Lib.hid (HZ.out.ext x1 (by omega));clear x1;cases hc:p.isCan
 · obtain ⟨hsz,hdm⟩:=hs0 hc;clear hs0;have HCO:Hid (∀ W',Ext w W'->Calls Tryz.prog 107 #[.slice none 0 0,plV p (.slice A0 n0 c0) (.slice A p.cs.length c),moV Mo.one] W' fun e w'=>∃ tv,e=.returned tv/\TsV (some p.dm) W'.heap.size w' tv (p.terms Mo.one)/\Ext W' w'):=fun W' hW'=>kbs p _ p.dm (Nat.le_refl _) (by omega) (HPL.out.ext hW')
   unfold moV Mo.one plV at HCO;go_wp2_with fail;refine (HCO.out _ X1.out).mono ?_;rintro e w2 ⟨tv,rfl,t2,x2⟩;have hsp:=t2.sp;have hln:=Pl.terms_len p Mo.one;have hdg:=jbg p HDIG.out hsz;have hcall:=jbp (ko:=some p.dm) p.dm hsp (fun z _=>Nat.le_refl _) (by simp only [Mo.one] at *; omega) (by simp only [Mo.one] at *; omega);have HCALL:=Lib.hid hcall;have X2:=Lib.hid (X1.out.trans x2);have HZ2:=Lib.hid (HZ1.out.ext x2 (by omega));have hs2:=x2.size;clear hcall hsp t2 x2 hln hdg HCO HZ1 b0 b1 b2 b3;go_wp2_with fail;refine HCALL.out.mono ?_;rintro e w3 ⟨v3,rfl,⟨A3,c3,rfl,hl3,hc3,hat3⟩,x3⟩;have hok:yah 4 (yl (p.terms Mo.one)):=⟨xac _,fun x hx=>(yac hx).1,⟨Mo.one,fun x _ i h1 h2=>by omega⟩,fun x hx=>by
    obtain ⟨-,y,hy,e⟩:=yac hx;rw [<- e]
    exact (Pl.terms_le p Mo.one 0 Mo.one_le y hy).mono (by omega)⟩
   have HB:=Lib.hid (qcj w3 4 (Nat.le_refl _) (yl (p.terms Mo.one)) A3 c3 w3 hat3 hl3 hc3 hok (Ext.refl w3));have X3:=Lib.hid (X2.out.trans x3);have HZ3:=Lib.hid (HZ2.out.ext x3 (by omega));have hs3:=x3.size;clear x3 hat3 hok HCALL HZ2;simp only [Mo.one] at HB;go_wp2_with fail;refine HB.out.mono ?_;rintro e w4 ⟨v4,rfl,p4,x4⟩;obtain ⟨C0,j0,f0,C1,f1,rfl,-⟩:=id p4.open_;obtain ⟨⟨z0,z1,z2,z3⟩,zf⟩:=HZ3.out.ext x4 (by omega);have hs4:=x4.size;have hf:=vk (q':=fun b=>q b\/w.heap.size<=b) (X3.out.trans x4) (Nat.le_succ _) (HZ3.out.ext x4 (by omega)) p4 (fun b _ hb=>⟨by omega,.inr (by omega)⟩);have hnf:p.nf=bld 4 (yl (p.terms ⟨0,0,0,0⟩)):=rfl;have hf2:=qi.congr hnf hf;have HF:=Lib.hid hf2;clear hf hf2 hnf p4 x4 HB HZ3;generalize bld 4 (yl (p.terms ⟨0,0,0,0⟩))=P at *;unfold plV;go_wp2_with fail;exact bodyPost_ret (v:=plV P (.slice C0 j0 f0) (.slice C1 P.cs.length f1)) (by simp [results,Tryz.results59,go_sem,z0,z1,z2,z3,plV]) rfl HF.out
 · clear hs0;have hnf:p.nf=p:=Pl.nf_of_can ((Pl.isCan_iff p HDIG.out).1 hc);have hf:=vk (q':=fun b=>q b\/w.heap.size<=b) X1.out (Nat.le_succ _) HZ1.out (HPL.out.ext X1.out) (fun b _ hb=>⟨by omega,.inl hb.1⟩);have hf2:=qi.congr hnf hf;have HF:=Lib.hid hf2;obtain ⟨⟨z0,z1,z2,z3⟩,zf⟩:=HZ1.out;clear hf hf2 hnf HZ1 HPL HDIG hc;go_wp2_with fail;exact bodyPost_ret (v:=plV p (.slice A0 n0 c0) (.slice A p.cs.length c)) (by simp [results,Tryz.results59,go_sem,z0,z1,z2,z3,plV]) rfl HF.out
theorem vbf {w:World} {q:Nat->Prop} (p:Pl) (v:Value) (h:PlV w q p v) (hsz:p.sz<=1073741824) (hdm:p.dm<=1099511627776):Calls Tryz.prog 59 #[v] w (qi (fun b=>q b\/w.heap.size<=b) p.nf w):=
 ubn p v h fun _=>⟨hsz,hdm⟩
theorem gbp {w:World} {q:Nat->Prop} (p:Pl) (v:Value) (h:PlV w q p v) (hsz:p.sz<=1073741824) (hnf:p.nf.sz<=1099511627776) (hdm:p.dm<=1099511627776):Calls Tryz.prog 46 #[v] w (qi (fun b=>w.heap.size<=b) p.nf w):=by
 have hdm2:=p.nf_dm h.dig hsz;have HH:=Lib.hid h;obtain ⟨A0,n0,c0,A,c,rfl,hnat,hl1,hl2,h4⟩:=h.open_;obtain ⟨W,hW⟩:∃ W,(w.alloc (.cells #[.int .i64 p.lv,.bool p.neg,.slice A0 n0 c0,.slice A p.cs.length c] 35)).alloc (.cells #[.int .i64 0,.bool false,.slice none 0 0,.slice none 0 0] 35)=W:=⟨_,rfl⟩;have hWx:Ext w W:=by rw [<- hW]; exact ((Ext.refl w).alloc _).alloc _
 have hWs:W.heap.size=w.heap.size+1+1:=by rw [<- hW]; simp
 obtain ⟨b0,b1,b2,b3⟩:uf W w.heap.size p (.slice A0 n0 c0) (.slice A p.cs.length c):=by rw [<- hW]; exact (uf.new w p _ _ _).ext ((Ext.refl _).alloc _) (by simp)
 have hz:ql W (w.heap.size+1):=by
  have:=ql.new (w.alloc (.cells #[.int .i64 p.lv,.bool p.neg,.slice A0 n0 c0,.slice A p.cs.length c] 35)) 35;rw [hW] at this;simpa using this
 have HWX:=Lib.hid hWx;have HZ:=Lib.hid hz;have HCA:=Lib.hid (fun W (hW:Ext w W)=>vbf p _ (HH.out.ext hW) hsz hdm);have hcan:=p.nf_can;clear h hnat h4 hWx hz;generalize p.nf=P at *;have HCAN:=Lib.hid hcan;clear hcan;unfold plV at *;go_enter Tryz.func46,Tryz.ntmps46;go_wp2_with fail;clear hW b0 b1 b2 b3;refine (HCA.out _ HWX.out).mono ?_;rintro e w1 ⟨v1,rfl,p1,x1⟩;have HC:=Lib.hid (jax P v1 HCAN.out hnf (by omega) p1);obtain ⟨C0,j0,f0,C1,f1,rfl,-⟩:=id p1.open_;have X1:=Lib.hid (HWX.out.trans x1);have HZ1:=Lib.hid (HZ.out.ext x1 (by omega));have hs1:=x1.size;clear p1 x1;unfold plV at *;go_wp2_with fail;refine HC.out.mono ?_;rintro e w2 ⟨v2,rfl,p2,x2⟩;obtain ⟨D0,j1,g0,D1,g1,rfl,-⟩:=id p2.open_;obtain ⟨⟨z0,z1,z2,z3⟩,zf⟩:=HZ1.out.ext x2 (by omega);have HF:=Lib.hid (vk (q':=fun b=>w.heap.size<=b) (X1.out.trans x2) (Nat.le_succ _) (HZ1.out.ext x2 (by omega)) p2 (fun b _ hb=>⟨by omega,by omega⟩));clear p2 x2 HC HZ1;unfold plV;go_wp2_with fail;exact bodyPost_ret (v:=plV P (.slice D0 j1 g0) (.slice D1 P.cs.length g1)) (by simp [results,Tryz.results46,go_sem,z0,z1,z2,z3,plV]) rfl HF.out
theorem gb6 {w:World} {q:Nat->Prop} (p P:Pl) (v:Value) (h:PlV w q p v) (hca:∀ W,Ext w W->Calls Tryz.prog 46 #[v] W (qi (fun b=>W.heap.size<=b) P W)):Calls Tryz.prog 12 #[v] w fun e w'=>e=.returned (.int .i64 P.lv)/\Ext w w':=by
 have HH:=Lib.hid h;obtain ⟨A0,n0,c0,A,c,rfl,hnat,hl1,hl2,h4⟩:=h.open_;obtain ⟨W,hW⟩:∃ W,w.alloc (.cells #[.int .i64 p.lv,.bool p.neg,.slice A0 n0 c0,.slice A p.cs.length c] 35)=W:=⟨_,rfl⟩;have hWx:Ext w W:=by rw [<- hW]; exact (Ext.refl w).alloc _
 obtain ⟨b0,b1,b2,b3⟩:uf W w.heap.size p (.slice A0 n0 c0) (.slice A p.cs.length c):=by rw [<- hW]; exact uf.new w p _ _ _
 have HWX:=Lib.hid hWx;have HCA:=Lib.hid hca;clear h hnat h4 hWx hca;unfold plV at *;go_enter Tryz.func12,Tryz.ntmps12;go_wp2_with fail;clear hW b0 b1 b2 b3;refine (HCA.out _ HWX.out).mono ?_;rintro e w1 ⟨v1,rfl,p1,x1⟩;obtain ⟨C0,j0,f0,C1,f1,rfl,-⟩:=id p1.open_;have X1:=Lib.hid (HWX.out.trans x1);clear p1 x1;have hfl:∀ W,(Instr.field 35 (.agg #[.int .i64 P.lv,.bool P.neg,.slice C0 j0 f0,.slice C1 P.cs.length f1]) 0).run Tryz.prog W=.ok (.int .i64 P.lv) W:=fun W=>by kernel_rfl
 unfold plV at *;go_wp2_with fail;go_ret;exact ⟨rfl,X1.out⟩
end Go.Proofs.YtcfcjabgkfehlaaGreat
