/- Layer 41: collins.Required where it refuses; the levels of the required polynomials. -/
import Derived.Test.YtklnlgnnlmdibaaGreatMq51
import Derived.Test.YtklnlgnnlmdibaaGreatMq50
set_option linter.unusedSimpArgs false
set_option linter.unusedVariables false

set_option maxRecDepth 100000
set_option maxHeartbeats 8000000
namespace Go.Proofs.YtklnlgnnlmdibaaGreat
open Lib (hid)
open Go.RowKit
theorem ubl {w:World} {D0:Option Addr} {n c0:Nat} {l:Int} (hl:l < 1\/4 < l) :
 Calls Tryz.prog 10 #[.slice D0 n c0,.int .i64 l] w (qar (fun _=>True) [] 4 w):=by
 have HF:Hid (qar (fun _=>True) [] 4 w (.returned (.tuple #[.slice none 0 0,.int .i64 4])) w):=hid ⟨_,rfl,gav.nil _ _,Ext.refl w⟩;rcases hl with Es | FM
 · go_enter Tryz.func10,Tryz.ntmps10;go_wp2_with fail;exact bodyPost_ret (v:=.tuple #[.slice none 0 0,.int .i64 4]) (by simp [results,Tryz.results10,go_sem]) rfl HF.out
 · have Es:¬ l < 1:=by omega
   go_enter Tryz.func10,Tryz.ntmps10;go_wp2_with fail;exact bodyPost_ret (v:=.tuple #[.slice none 0 0,.int .i64 4]) (by simp [results,Tryz.results10,go_sem]) rfl HF.out
theorem gbl {w:World} {E D c0:Nat} {q:Nat->Prop} {D0:Option Addr} {l:Int} {fs:List Pl} (hl:1<=l) (ag:l<=4) (aO:jc w q fs D0 0) (dh:fs.length<=c0) (eX:c0<=9223372036854775807) (vV:fs.length<=1000) (aB:∀ f ∈ fs,Fit f E D) (hE:E<=60) (hD:D<=100000000000) (cZ:∃ f ∈ fs,l < f.lv) :
 Calls Tryz.prog 10 #[.slice D0 fs.length c0,.int .i64 l] w (qar (fun _=>True) [] 12 w):=by
 have jQ:=hid aO;have jH:=hid aB;have rq:=hid cZ;have Es:¬ l < 1:=by omega
 have FM:¬ 4 < l:=by omega
 clear aO aB cZ;go_enter Tryz.func10,Tryz.ntmps10;go_wp2_with fail
 go_loopw [16] (fun iv wr=>∃ k:Nat,k<=fs.length/\iv=.int .i64 k/\Hid ((∀ f ∈ fs.take k,f.lv<=l)/\Ext w wr)) (fun iv _=>fs.length - (intOf iv).toNat)
 case atStart=>exact ⟨0,Nat.zero_le _,rfl,hid ⟨by simp,Ext.refl w⟩⟩
 case round =>
  obtain ⟨k,hk,rfl,HI⟩:=hrel
  by_cases af:k < fs.length
  · obtain ⟨ad,C0,j0,k0,C1,j1,k1,rfl,ah,⟨g0,g1,g2,g3⟩,dD⟩:=(jQ.out.ext HI.out.2).kid k af;have ed:=jH.out fs[k] (List.getElem_mem af);have oz:Hid (fs.take (k+1)=fs.take k ++ [fs[k]]):=hid (List.take_append_getElem af).symm;obtain ⟨U,hU⟩:=n_m ((wr.alloc (.cells #[.int .i64 fs[k].lv,.bool fs[k].neg,.slice C0 j0 k0,.slice C1 j1 k1] 35)));have hxU:Ext wr U:=by rw [<- hU]; exact (Ext.refl wr).alloc _
    obtain ⟨s0,s1,s2,s3⟩:jb U wr.heap.size fs[k] (.slice C0 j0 k0) (.slice C1 j1 k1):=by rw [<- hU]; exact jb.new wr fs[k] _ _ _
    have fV:=hid (gad (w:=U) _ (dD.ext hxU) (Or.inr ⟨ed.can,ed.copy_ (by omega),by have:=ed.dm; omega⟩));rw [Pl.nf_of_can ed.can] at fV;have uO:=hid (HI.out.2.trans hxU);have BM:=hid HI.out.1;obtain ⟨f,hf⟩:=n_m (fs[k]);rw [hf] at g0 g1 s0 s1 fV oz hU;unfold plV at fV;clear ah dD ed hxU HI
    by_cases hlf:l < f.lv
    · have HF:Hid (∀ W',Ext U W'->qar (fun _=>True) [] 12 w (.returned (.tuple #[.slice none 0 0,.int .i64 12])) W'):=hid (fun W' hx=>⟨_,rfl,gav.nil _ _,uO.out.trans hx⟩);go_wp2_with fail;clear g0 g1 g2 g3 s0 s1 s2 s3 hU;refine fV.out.mono ?_;rintro e w2 ⟨rfl,x2⟩;go_wp2_with fail;exact bodyPost_ret (v:=.tuple #[.slice none 0 0,.int .i64 12]) (by simp [results,Tryz.results10,go_sem]) rfl (HF.out _ x2)
    · have hn:∀ g ∈ fs.take (k+1),g.lv<=l:=by
       rw [oz.out];intro g hg;rw [List.mem_append,List.mem_singleton] at hg;rcases hg with hg | rfl
       · exact BM.out g hg
       · omega
      have HNL:=hid hn;clear hn;go_wp2_with fail;clear g0 g1 g2 g3 s0 s1 s2 s3 hU;refine fV.out.mono ?_;rintro e w2 ⟨rfl,x2⟩;have HN:=hid (uO.out.trans x2);clear x2 fV;go_wp2_with fail
      go_roundw
      case rel=>exact ⟨k+1,by omega,by go_num,hid ⟨HNL.out,HN.out⟩⟩
      case measure=>simp only [intOf]; omega
  · exfalso
    obtain ⟨f,hf,hl⟩:=rq.out;have h:=HI.out.1;rw [show k=fs.length by omega,List.take_length] at h;have:=h f hf;omega
theorem vam {l i:Int} (hl:1<=l) (ag:l<=4) {p:Pl} (h:p.Can) (hp:p.lv<=l):(vg l i p).lv < l:=by
 have hz:Pl.zero.lv < l:=by show (0:Int) < l; omega
 unfold vg
 split
 · exact hz
 · exact jab (P:=fun c=>c.lv < l) hz (ua0 hl ag h hp) _
theorem xa5 {l:Int} (hl:1<=l) (ag:l<=4) {f g:Pl} {D:Nat} (hf:Fit f 2 D) (hg:Fit g 2 D) (fC:f.lv<=l) (iK:g.lv<=l):(zi l f g).lv<=l:=
 (ubg hl ag (n:=l) (Int.le_refl _) ag hf hg.opp fC (Pl.opp_lv hg.can iK (by omega) ag) (by have:B32=4294967296:=rfl; omega)).2
theorem jcj {l:Int} (hl:1<=l) (ag:l<=4) {f g:Pl} {D:Nat} (hf:Fit f 2 D) (hg:Fit g 2 D) (fC:f.lv<=l) (iK:g.lv<=l):(jaa l f g).lv < l:=by
 have hs:=xa5 hl ag hf hg fC iK;have k:∀ (i:Int) (p:Pl),p.Can->p.lv<=l->(vg l i p).lv<=l - 1:=fun i p hp kH=>by have:=vam (i:=i) hl ag hp kH; omega
 have kc:∀ (i:Int) (p:Pl),p.Can->(vg l i p).Can:=fun i p hp=>qcf hp
 have J6:=qx l f g;have m:∀ {p q:Pl},p.Can->q.Can->p.lv<=l - 1->q.lv<=l - 1->(p.mul q).lv<=l - 1:=fun hp hq h1 h2=>Pl.mul_lv hp hq h1 h2 (by omega)
 have s:∀ {p q:Pl},p.Can->q.Can->p.lv<=l - 1->q.lv<=l - 1->(p.sub q).lv<=l - 1:=fun hp hq h1 h2=>Pl.add_lv hp (Pl.opp_can _) h1 (Pl.opp_lv hq h2 (by omega) (by omega)) (by omega)
 have:=s (Pl.mul_can _ _) (Pl.mul_can _ _) (m (kc 0 _ J6) (kc 0 _ J6) (k 0 _ J6 hs) (k 0 _ J6 hs)) (m (kc 1 _ J6) (Pl.sub_can _ _) (k 1 _ J6 hs) (s (Pl.mul_can _ _) (Pl.mul_can _ _) (m (kc 1 _ hf.can) (kc 0 _ hg.can) (k 1 _ hf.can fC) (k 0 _ hg.can iK)) (m (kc 0 _ hf.can) (kc 1 _ hg.can) (k 0 _ hf.can fC) (k 1 _ hg.can iK))));show (((vg l 0 (zi l f g)).mul (vg l 0 (zi l f g))).sub ((vg l 1 (zi l f g)).mul (((vg l 1 f).mul (vg l 0 g)).sub ((vg l 0 f).mul (vg l 1 g))))).lv < l;omega
theorem vby {l:Int} (hl:1<=l) (ag:l<=4) {f g:Pl} {D:Nat} (hf:Fit f 2 D) (hg:Fit g 2 D) (fC:f.lv<=l) (iK:g.lv<=l):∀ c ∈ uj l f g,c.lv < l:=fun c hc=>by
 unfold uj at hc
 split at hc
 · cases hc
 · split at hc
   · rw [List.mem_singleton.1 hc]; exact vam hl ag (qx _ _ _) (xa5 hl ag hf hg fC iK)
   · split at hc
     · rw [List.mem_singleton.1 hc]; exact vam hl ag (qx _ _ _) (xa5 hl ag hg hf iK fC)
     · simp only [List.mem_cons,List.not_mem_nil,or_false] at hc;rcases hc with rfl | rfl
       · exact jcj hl ag hf hg fC iK
       · exact vam hl ag (qx _ _ _) (xa5 hl ag hf hg fC iK)
theorem zcv {l:Int} (hl:1<=l) (ag:l<=4) {p:Pl} (h:p.Can) (hp:p.lv<=l):(qw l p).lv<=l:=by
 unfold qw;rw [if_pos ⟨hl,ag⟩];refine wba (by omega) (Int.le_refl _) fun c hc=>?_
 obtain ⟨d,hd,i,-,rfl⟩:=waz hc;have:=ua0 hl ag h hp d (uaj hd);exact ⟨Pl.mul_can _ _,Pl.mul_lv (jah h d (uaj hd)) (zq _) (by omega) (by show (0:Int)<=l; omega) ag⟩
theorem wcn {l:Int} (hl:1<=l) (ag:l<=4) {fs:List Pl} {D:Nat} (eU:∀ f ∈ fs,Fit f 2 D) (cZ:∀ f ∈ fs,f.lv<=l):∀ p ∈ elems l fs,p.lv < l:=fun p hp=>by
 have hB:B32=4294967296:=rfl;have hr:∀ f ∈ fs,∀ r ∈ yf l f,Fit r 2 (D+2)/\r.lv<=l:=fun f hf r hr=>⟨(vaa eU hf r hr).1,jca (eU f hf).can (by omega) (Int.le_refl _) (cZ f hf) r hr⟩
 unfold elems at hp;rcases List.mem_append.1 hp with hp | hp
 · obtain ⟨f,hf,hp⟩:=List.mem_flatMap.1 hp;unfold zab at hp;rcases List.mem_append.1 hp with hp | hp
   · obtain ⟨r,Ba,hp⟩:=List.mem_flatMap.1 hp;obtain ⟨h1,h2⟩:=hr f hf r Ba;unfold xw at hp;rcases List.mem_cons.1 hp with rfl | hp
     · exact jab (P:=fun c=>c.lv < l) (by show (0:Int) < l; omega) (ua0 hl ag h1.can h2) _
     · exact vby hl ag (h1.mono (Nat.le_refl _) (by omega):Fit r 2 (D+4)) (yak h1 (by omega)) h2 (zcv hl ag h1.can h2) p hp
   · split at hp
     · cases hp
     · rename_i ak;rw [List.mem_singleton.1 hp];have hr0:0 < (yf l f).length:=by omega
       have hm:(yf l f).getD 0 Pl.zero ∈ yf l f:=by rw [List.getD_eq_getElem?_getD,List.getElem?_eq_getElem hr0]; exact List.getElem_mem _
       exact vam hl ag (hr f hf _ hm).1.can (hr f hf _ hm).2
 · unfold yas at hp;obtain ⟨i,hi,hp⟩:=List.mem_flatMap.1 hp;rw [List.mem_range] at hi;obtain ⟨L,hL,mY⟩:=List.mem_flatMap.1 hp;unfold prE at mY;obtain ⟨r,lT,vM⟩:=List.mem_flatMap.1 mY;obtain ⟨s,hs,KE⟩:=List.mem_flatMap.1 vM;obtain ⟨g,hg,rfl⟩:=List.mem_map.1 (List.mem_of_mem_drop hL);have iJ:i < fs.length:=by rw [List.length_map] at hi; exact hi
   have Ba:r ∈ yf l fs[i]:=by
    have:(fs.map (yf l)).getD i []=yf l fs[i]:=by rw [List.getD_eq_getElem?_getD,List.getElem?_map,List.getElem?_eq_getElem iJ]; rfl
    rw [this] at lT; exact lT
   exact vby hl ag (hr _ (List.getElem_mem iJ) r Ba).1 (hr g hg s hs).1 (hr _ (List.getElem_mem iJ) r Ba).2 (hr g hg s hs).2 p KE
theorem ucj {l:Int} (hl:1<=l) (ag:l<=4) {fs:List Pl} {D:Nat} (eU:∀ f ∈ fs,Fit f 2 D) (cZ:∀ f ∈ fs,f.lv<=l):∀ p ∈ fJ l fs,Fit p 24 (8 * D+100)/\1<=p.lv/\p.lv < l:=fun p hp=>by
 obtain ⟨e,he,h0,rfl⟩:=kcj.1 hp;have hf:=qa4 hl ag eU e he;have h1:=wcn hl ag eU cZ e he;have h2:=hf.can.lv_nonneg;rw [wb8 hf.can];exact ⟨jak hf,by omega,h1⟩
theorem vcj {l:Int} {fs:List Pl}:(fJ l fs).length<=(elems l fs).length:=by
 have:=xan (elems l fs) [];rw [List.length_nil,Nat.zero_add] at this;exact this
structure Gro (w : World) (v : Value) (w' : World) (v' : Value) : Prop where
 os:w'.os=w.os
 tape:w'.tape=w.tape
 output:w'.output=w.output
 size:w.heap.size<=w'.heap.size
 block:∀ i,i < w.heap.size->v.ownBlock ≠ some i->w'.heap[i]?=w.heap[i]?
 own:∀ i,i < w.heap.size->v'.ownBlock=some i->v.ownBlock=some i
 nat:∀ u ds,jd w u ds->jd w' u ds
theorem Gro.of_ext {w w':World} (h:Ext w w') (v:Value):Gro w v w' v:=
 ⟨h.below.os,h.below.tape,h.below.output,h.size,fun i hi _=>h.below.block i hi,fun _ _ h=>h,fun _ _ k=>k.ext h⟩
theorem Gro.trans {a b c:World} {u v x:Value} (h:Gro a u b v) (k:Gro b v c x):Gro a u c x:=
 ⟨k.os.trans h.os,k.tape.trans h.tape,k.output.trans h.output,Nat.le_trans h.size k.size,fun i hi hn=>(k.block i (Nat.lt_of_lt_of_le hi h.size) (fun e=>hn (h.own i hi e))).trans (h.block i hi hn),fun i hi e=>h.own i hi (k.own i (Nat.lt_of_lt_of_le hi h.size) e),fun u ds hu=>k.nat u ds (h.nat u ds hu)⟩
theorem Gro.ext {w0 a b:World} {u v:Value} (h:Gro a u b v) (hx:Ext w0 a) (ho:∀ i,u.ownBlock=some i->w0.heap.size<=i):Ext w0 b:=
 ⟨h.os.trans hx.below.os,h.tape.trans hx.below.tape,h.output.trans hx.below.output,Nat.le_trans hx.size h.size,fun i hi=>(h.block i (Nat.lt_of_lt_of_le hi hx.size) (fun e=>by have:=ho i e; omega)).trans (hx.below.block i hi)⟩
theorem Gro.grown {w w':World} {v v':Value} (hg:w.grownBy w' v.ownBlock) (hn:∀ u ds,jd w u ds->jd w' u ds) (ho:v'.ownBlock=v.ownBlock\/∃ b,w.heap.size<=b/\v'.ownBlock=some b):Gro w v w' v':=
 ⟨hg.os,hg.tape,hg.output,hg.size,fun i hi ak=>World.grownBy.block hg i hi (fun e=>ak e.symm),fun i hi e=>by
   rcases ho with h | ⟨b,hb,h⟩
   · exact h ▸ e
   · rw [h] at e; injection e with e; omega,hn⟩
theorem Gro.pl {w w':World} {v v':Value} {q:Nat->Prop} {p:Pl} {u:Value} (h:Gro w v w' v') (hp:PlV w q p u) (hq:∀ b,q b->v.ownBlock ≠ some b):PlV w' (fun b=>q b/\v'.ownBlock ≠ some b) p u:=
 PlV.turn_ h.size h.nat (fun b hb dL=>⟨⟨dL,fun e=>hq b dL (h.own b hb e)⟩,h.block b hb (hq b dL)⟩) hp
theorem Gro.pls {w w':World} {v v':Value} {q:Nat->Prop} {L:List Pl} {A:Option Addr} (h:Gro w v w' v') (hp:jc w q L A 0) (hq:∀ b,q b->v.ownBlock ≠ some b):jc w' (fun b=>q b/\v'.ownBlock ≠ some b) L A 0:=
 jc.turn h.size h.nat (fun b hb dL=>⟨⟨dL,fun e=>hq b dL (h.own b hb e)⟩,h.block b hb (hq b dL)⟩) _ _ _ hp
def uax (base:Nat) (L:List Pl) (w:World) (v:Value) (e:Ending) (w':World):Prop:=∃ v',e=.returned v'/\uh base (fun _=>True) w' v' L/\Gro w v w' v'
theorem wcs {acc:List Pl} {p:Pl} (h0:p.lv ≠ 0) (h:∀ c ∈ acc,c ≠ snP p):putL acc p=acc ++ [snP p]:=by
 unfold putL;rw [if_neg h0,if_neg (fun ha=>by
  obtain ⟨y,hy,e⟩:=List.any_eq_true.1 ha
  exact h y hy (gaw.1 e).symm)]
theorem uck {acc:List Pl} {p c:Pl} (hc:c ∈ acc) (h:c=snP p):putL acc p=acc:=by
 unfold putL
 split
 · rfl
 · rw [if_pos (List.any_eq_true.2 ⟨c,hc,xai h.symm⟩)]
theorem vbo {w:World} {base E D:Nat} {q:Nat->Prop} {acc:List Pl} {p:Pl} (rv v:Value) (hr:uh base (fun _=>True) w rv acc) (hb:base<=w.heap.size) (h0:PlV w q p v) (hp:Fit p E D) (hE:E<=170) (hD:D<=1099511627776) (iU:∀ c ∈ acc,Fit c E D) (hn:acc.length<=100000000) :
 Calls Tryz.prog 38 #[rv,v] w (uax base (putL acc p) w rv):=by
 have H0:=hid h0;obtain ⟨A0,m0,e0,B0,f0,rfl,-⟩:=h0.open_;obtain ⟨RA,rc,rfl,mX,pz⟩:=hr.len;have HR:=hid hr;obtain ⟨W,fU,fD,aC,aV⟩:=b_1 w p (.slice A0 m0 e0) (.slice B0 p.cs.length f0);have HX:=hid aC;have HS:=hid (fun (W':World) (hx:Ext w W')=>zby _ (H0.out.ext hx) hp hE hD);have kG:=jak hp;have rq:=hid (fun (W':World) (q':Nat->Prop) (u:Value) (hu:PlV W' q' (snP p) u)=>gad u hu (Or.inr ⟨kG.can,kG.copy_ hE,by have:=kG.dm; omega⟩));rw [Pl.nf_of_can kG.can,wb8 hp.can] at rq;have Jq:=hid (fun (W':World) (q' q'':Nat->Prop) (u u':Value) (c:Pl) (hc:c ∈ acc) (h1:PlV W' q'' c u') (h2:PlV W' q' (snP p) u)=>xa3 u' u h1 h2 ((iU c hc).small hE) (by have:=(iU c hc).dm; omega) (kG.small hE) (by have:=kG.dm; omega) (by rw [Pl.nf_of_can (iU c hc).can]; exact iU c hc) hE);have yM:=hid (And.intro kG.can fun c hc=>(iU c hc).can);obtain ⟨b0,b1,b2,b3⟩:=aV;unfold plV at HS ⊢;obtain ⟨n0,fE⟩:=n_m (acc.length);have jZ:=hid fE;clear hr h0 hp aC iU kG fD;go_enter Tryz.func38,Tryz.ntmps38;go_wp2_with fail;clear fU b0 b1 b2 b3;refine (HS.out _ HX.out).mono ?_;rintro e w2 ⟨v2,rfl,p2,x2⟩;obtain ⟨C0,j0,k0,C1,j1,rfl,-⟩:=id p2.open_;obtain ⟨P,hP⟩:=n_m (snP p);have wL:=hid hP;rw [hP] at p2 Jq rq yM ⊢;obtain ⟨V,hV⟩:=n_m ((w2.alloc (.cells #[.int .i64 P.lv,.bool P.neg,.slice C0 j0 k0,.slice C1 P.cs.length j1] 35)));have dM:Ext w V:=by rw [<- hV]; exact (HX.out.trans x2).alloc _
 have O5:PBx V (fun b=>w.heap.size<=b) w2.heap.size P:=by rw [<- hV]; exact PBx.new (p2.mono fun b hb=>by have:=HX.out.size; omega) _
 obtain ⟨g,hg⟩:=n_m (w2.heap.size);rw [hg] at O5;have FP:w.heap.size<=g:=by rw [<- hg]; exact Nat.le_trans HX.out.size x2.size
 have Ae:=hid dM;have JG:=hid O5;obtain ⟨-,-,Z0,zn,zc,Z1,uT,⟨g0,g1,g2,g3⟩,Ro⟩:=O5;have vT:=rq.out _ _ _ Ro;clear hP p2 x2 dM Ro HS rq;unfold plV at vT ⊢;go_wp2_with fail
 try rw [hV]
 try rw [hg]
 clear hV hg g0 g1 g2 g3;refine vT.mono ?_;rintro e w3 ⟨rfl,x3⟩;have X3:=hid (Ae.out.trans x3);have JI:=hid (JG.out.ext x3);clear x3 vT
 by_cases cZ:p.lv=0
 · have HF:Hid (uax base (putL acc p) w (.slice RA acc.length rc) (.returned (.slice RA n0 rc)) w3):=hid (by
    rw [<- jZ.out];unfold putL; rw [if_pos cZ]
    exact ⟨_,rfl,HR.out.ext X3.out,Gro.of_ext X3.out _⟩)
   have nH:(p.lv == 0)=true:=by simpa using cZ
   clear cZ;go_wp2_with fail;go_ret;exact HF.out
 · have nH:(p.lv == 0)=false:=by simpa using cZ
   have GY:=hid cZ;rw [jZ.out] at mX;clear cZ;go_wp2_with fail
   go_loopw [6] (fun iv wr=>∃ k:Nat,k<=n0/\iv=.int .i64 k/\Hid ((∀ c ∈ acc.take k,c ≠ P)/\Ext w3 wr)) (fun iv _=>n0 - (intOf iv).toNat)
   case atStart=>exact ⟨0,Nat.zero_le _,rfl,hid ⟨by simp,Ext.refl w3⟩⟩
   case round =>
    obtain ⟨k,hk,rfl,HI⟩:=hrel;obtain ⟨ak,hx⟩:=HI.out;obtain ⟨Bf,-,wR,uV,k0',uS,j1',bG,Fp⟩:=JI.out.ext hx
    by_cases af:k < n0
    · have bQ:k < acc.length:=by rw [jZ.out]; exact af
      have aO:=((HR.out.ext X3.out).ext hx).at_;obtain ⟨ad,G0,i0,h0,G1,i1,h1,rfl,ah,O8,dD⟩:=aO.kid k bQ;have EP:=hid (fun (W':World) (hy:Ext wr W')=>O8.ext hy (by rw [ja]; exact ah));have aeE:=hid (fun (W':World) (hy:Ext wr W')=>bG.ext hy Bf);have bP:acc[k] ∈ acc:=List.getElem_mem bQ;have Zh:=hid (fun (W':World) (hy:Ext wr W')=>Jq.out W' _ _ _ _ _ bP (dD.ext hy) (Fp.ext hy));rw [Pl.nf_of_can (yM.out.2 _ bP),Pl.nf_of_can yM.out.1] at Zh;have wM:=hid ak;have wP:=hid bP;have oz:Hid (acc.take (k+1)=acc.take k ++ [acc[k]]):=hid (List.take_append_getElem bQ).symm;have HXk:=hid hx;obtain ⟨c,hc⟩:=n_m (acc[k]);rw [hc] at EP Zh wP oz;have sV:(k:Int) < (n0:Int):=by omega
      have y0:Ext wr wr.drew:=(Ext.refl wr).drew;unfold plV at Zh;clear ak hx bG Fp aO ah O8 dD bP hc HI Bf;go_upto_region 7 with fail;refine wp_region_held_drew (S:=fun W'=>Ext wr W') (by kernel_rfl) y0 (fun hHeld=>?_);refine tk 0 ?_;refine tk 1 ?_;refine tk 2 ?_;refine tk 3 ?_ (hy:=Or.inl ⟨by rfl,by intro w' aK; obtain ⟨k1,k2,k3,k4⟩:=EP.out w' aK; go_simp; (try (with_reducible rfl))⟩);refine tk 4 ?_ (hy:=Or.inl ⟨by rfl,by intro w' aK; obtain ⟨k1,k2,k3,k4⟩:=aeE.out w' aK; go_simp; (try (with_reducible rfl))⟩);refine r_1 5 fun K hK=>?_
      go_simp
      go_at_call 22
      refine (Zh.out _ y0).mono ?_;rintro e w5 ⟨rfl,x5⟩;have y5:=y0.trans x5;refine hK.out _ _ y5 (fun hHeld=>?_);clear hK K;refine w_d ?_;have Y5:=hid y5;clear y5 y0 x5 hHeld
      by_cases he:c=P
      · have rZ:oP c P=true:=xai he;rw [rZ];have HF:Hid (uax base (putL acc p) w (.slice (some ad) acc.length rc) (.returned (.slice (some ad) n0 rc)) w5):=hid (by
         rw [<- jZ.out];rw [uck wP.out (he.trans wL.out.symm)];have bW:=X3.out.trans (HXk.out.trans Y5.out)
         exact ⟨_,rfl,HR.out.ext bW,Gro.of_ext bW _⟩)
        clear he rZ;go_wp2_with fail;go_ret;exact HF.out
      · have rZ:oP c P=false:=kam he;rw [rZ]
        have HN:Hid ((∀ c ∈ acc.take (k+1),c ≠ P)/\Ext w3 w5):=hid ⟨by
         rw [oz.out];intro d hd;rw [List.mem_append,List.mem_singleton] at hd;rcases hd with hd | rfl
         · exact wM.out d hd
         · exact he,HXk.out.trans Y5.out⟩
        clear he rZ;go_wp2_with fail
        go_roundw
        case rel=>exact ⟨k+1,by omega,by go_num,HN⟩
        case measure=>simp only [intOf]; omega
    · have bH:k=n0:=by omega
      have sV:¬ (k:Int) < (n0:Int):=by omega
      have iD:∀ c ∈ acc,c ≠ P:=by
       rw [bH,<- jZ.out,List.take_length] at ak; exact ak
      have lg:=X3.out.trans hx;have ae:=HR.out.ext lg;have mZ:∀ b,w.heap.size<=b->(Value.slice RA acc.length rc).ownBlock ≠ some b:=fun b hb e=>by have:=(HR.out.own e).2; omega
      have CE:PlV wr (fun b=>(Value.slice RA acc.length rc).ownBlock ≠ some b/\True) P (plV P (.slice wR uV k0') (.slice uS P.cs.length j1')):=Fp.mono fun b hb=>⟨mZ b hb.1,trivial⟩
      obtain ⟨v4,w4,aH,kQ,iy,aZ,lm⟩:=ae.push (by have:=lg.size; omega) CE (by rw [jZ.out]; omega) 24;have qV:Gro w (.slice RA acc.length rc) w4 v4:=(Gro.of_ext lg _).trans (Gro.grown kQ iy (lm.imp id fun h=>⟨_,Nat.le_succ _,h⟩));have HF:Hid (uax base (putL acc p) w (.slice RA acc.length rc) (.returned v4) w4):=hid (by
       rw [wcs GY.out (fun c hc=>by rw [wL.out]; exact iD c hc),wL.out]
       exact ⟨_,rfl,aZ,qV⟩)
      rw [jZ.out] at aH;obtain ⟨k0,k1,k2,k3⟩:=bG;clear ak hx Fp HI iD lg ae mZ CE kQ iy aZ lm qV
      go_wp2_with (at_builtin
                   refine wpList_append_run rfl (.tmp 26) (.tmp 28) _ _ rfl _ _ _ _ rfl rfl aH ?_)
      go_ret
      first | exact HF.out | (have hF:=HF.out; rw [jZ.out] at hF; exact hF)
theorem zcj {w:World} {base E D:Nat} {q0 q1:Nat->Prop} {acc L:List Pl} {r s:Pl} {l:Int} (rv v0 v1:Value) (hr:uh base (fun _=>True) w rv acc) (hb:base<=w.heap.size) (h0:PlV w q0 r v0) (h1:PlV w q1 s v1) (hE:E<=170) (hD:D<=1099511627776) (iU:∀ c ∈ acc,Fit c E D) (hL:∀ c ∈ L,Fit c E D) (hn:acc.length+L.length<=100000000) (HP:Hid (∀ W',Ext w W'->Calls Tryz.prog 72 #[v0,v1,.int .i64 l] W' (uad (fun b=>W'.heap.size<=b) L W'))) :
 Calls Tryz.prog 39 #[rv,v0,v1,.int .i64 l] w (uax base (putA acc L) w rv):=by
 obtain ⟨A0,m0,e0,B0,f0,rfl,-⟩:=h0.open_;obtain ⟨A1,m1,e1,B1,f1,rfl,-⟩:=h1.open_;have HR:=hid hr;obtain ⟨DJ,W,fU,jY,fD,aC,bU,hx1,aV,aX⟩:=b_2 w r s (.slice A0 m0 e0) (.slice B0 r.cs.length f0) (.slice A1 m1 e1) (.slice B1 s.cs.length f1);have HX:=hid (aC.trans hx1);have eQ:W.heap.size=w.heap.size+1+1:=bU;obtain ⟨b0,b1,b2,b3⟩:=aV;obtain ⟨d0,d1,d2,d3⟩:=aX;have HA:=hid iU;have HL:=hid hL;have HB:=hid hb;obtain ⟨n0,fE⟩:=n_m (L.length);have jZ:=hid fE;rw [fE] at hn;unfold plV at HP ⊢;clear hr h0 h1 aC hx1 iU hL fE hb;go_enter Tryz.func39,Tryz.ntmps39;go_wp2_with fail;clear fU jY fD bU b0 b1 b2 b3 d0 d1 d2 d3;refine (HP.out _ HX.out).mono ?_;rintro e w1 ⟨v1',rfl,ae,x1⟩;have Ii:=ae;obtain ⟨LA,lc,rfl,dY,eF,-⟩:=ae;have yT:=Ii.pls;have X1:=hid (HX.out.trans x1);have MK:Hid (uh base (fun _=>True) w1 rv (putA acc (L.take 0))/\Gro w rv w1 rv/\jc w1 (fun b=>rv.ownBlock ≠ some b) L LA 0):=hid ⟨HR.out.ext X1.out,Gro.of_ext X1.out _,jc.turn (Nat.le_refl _) (fun _ _ h=>h) (fun b hb hq=>⟨fun e=>by have:=(HR.out.own e).2; omega,rfl⟩) _ _ _ yT⟩;clear Ii yT x1 HP eQ;rw [jZ.out] at dY ⊢;go_wp2_with fail
 go_loopw [0,11] (fun rv' iv wr=>∃ k:Nat,k<=n0/\iv=.int .i64 k/\Hid (uh base (fun _=>True) wr rv' (putA acc (L.take k))/\Gro w rv wr rv'/\jc wr (fun b=>rv'.ownBlock ≠ some b) L LA 0)) (fun _ iv _=>n0 - (intOf iv).toNat)
 case atStart=>exact ⟨0,Nat.zero_le _,rfl,MK⟩
 case round =>
  obtain ⟨k,hk,rfl,HI⟩:=hrel
  by_cases af:k < n0
  · obtain ⟨ae,qV,yT⟩:=HI.out;have bQ:k < L.length:=by rw [jZ.out]; exact af
    obtain ⟨ad,G0,i0,h0,G1,i1,h1,hLA,ah,⟨g0,g1,g2,g3⟩,dD⟩:=yT.kid k bQ;have bP:L[k] ∈ L:=List.getElem_mem bQ;have hlen:(putA acc (L.take k)).length<=100000000 - 1:=by
     have:=xan (L.take k) acc;rw [List.length_take] at this;omega
    have aB:∀ c ∈ putA acc (L.take k),Fit c E D:=fun c hc=>by
     rcases zas _ _ c hc with h | ⟨p,hp,rfl⟩
     · exact HA.out c h
     · exact jak (HL.out p (List.mem_of_mem_take hp))
    have jA:=vbo _ _ ae (by have:=HB.out; have:=qV.size; omega) dD (HL.out _ bP) hE hD aB (by omega);rw [<- qa3 bQ] at jA;have nJ:=hid jA;have aeq:=hid qV;have adV:=hid yT;subst hLA;have sV:(k:Int) < (n0:Int):=by omega
    obtain ⟨c,hc⟩:=n_m (L[k]);rw [hc] at g0 g1 nJ;unfold plV at nJ;clear ae qV yT dD bP hlen aB jA HI ah MK hc;go_wp2_with fail;clear g0 g1 g2 g3;refine nJ.out.mono ?_;rintro e w5 ⟨Z7,rfl,sD,Dc⟩;have HN:Hid (uh base (fun _=>True) w5 Z7 (putA acc (L.take (k+1)))/\Gro w rv w5 Z7/\jc w5 (fun b=>Z7.ownBlock ≠ some b) L (some ad) 0):=hid ⟨sD,aeq.out.trans Dc,jc.turn (Nat.le_refl _) (fun _ _ h=>h) (fun b _ hq=>⟨hq.2,rfl⟩) _ _ _ (Dc.pls adV.out fun b hb=>hb)⟩;clear sD Dc nJ;go_wp2_with fail
    go_roundw
    case rel=>exact ⟨k+1,by omega,by go_num,HN⟩
    case measure=>simp only [intOf]; omega
  · have bH:k=n0:=by omega
    have sV:¬ (k:Int) < (n0:Int):=by omega
    obtain ⟨ae,qV,-⟩:=HI.out;rw [bH,<- jZ.out,List.take_length] at ae;have HF:=hid (show uax base (putA acc L) w rv (.returned _) wr from ⟨_,rfl,ae,qV⟩);clear ae qV HI MK;go_wp2_with fail;go_ret;exact HF.out
def RqO (w:World) (M:List Pl) (m:Nat) (rv:Value) (wr:World):Prop:=Ext w wr/\uh w.heap.size (fun _=>True) wr rv (putA [] (M.take m))
theorem RqO.later {w:World} {M:List Pl} {m:Nat} {rv:Value} {wr w':World} (h:RqO w M m rv wr) (hx:Ext wr w'):RqO w M m rv w':=⟨h.1.trans hx,h.2.ext hx⟩
def xbm (w:World) (M:List Pl) (m:Nat) (wr:World) (rv:Value) (e:Ending) (w':World):Prop:=∃ v',e=.returned v'/\RqO w M m v' w'/\Gro wr rv w' v'
theorem gck {M L:List Pl} {m:Nat} (h:Seg M m L):putA (putA [] (M.take m)) L=putA [] (M.take (m+L.length)):=by
 obtain ⟨a,b,rfl,rfl⟩:=h;rw [List.take_left,<- List.append_assoc,List.take_left' (by rw [List.length_append])];unfold putA;rw [List.foldl_append]
section
variable {w wr:World} {M:List Pl} {m D:Nat} {rv:Value} (hM:∀ p ∈ M,Fit p 24 D) (uJ:M.length<=90000) (hD:D<=1099511627776) (hO:RqO w M m rv wr)
include hM uJ hD hO
theorem RqO.put {q:Nat->Prop} {p:Pl} (v:Value) (hm:m < M.length) (hp:M[m]=p) (h0:PlV wr q p v):Calls Tryz.prog 38 #[rv,v] wr (xbm w M (m+1) wr rv):=by
 have hf:Fit p 24 D:=by rw [<- hp]; exact hM _ (List.getElem_mem hm)
 refine (vbo rv v hO.2 hO.1.size h0 hf (by omega) hD (fun c hc=>?_) ?_).mono ?_
 · rcases zas _ _ c hc with h | ⟨x,hx,rfl⟩
   · cases h
   · exact jak (hM x (List.mem_of_mem_take hx))
 · have:=xan (M.take m) [];rw [List.length_take,List.length_nil] at this;omega
 · rintro e w' ⟨v',rfl,h1,h2⟩;refine ⟨v',rfl,⟨h2.ext hO.1 (fun i hi=>(hO.2.own hi).1),?_⟩,h2⟩;rw [qa3 hm,hp];exact h1
theorem RqO.psc {q0 q1:Nat->Prop} {r s:Pl} {l:Int} (v0 v1:Value) (hS:Seg M m (uj l r s)) (h0:PlV wr q0 r v0) (h1:PlV wr q1 s v1) (HP:∀ W',Ext wr W'->Calls Tryz.prog 72 #[v0,v1,.int .i64 l] W' (uad (fun b=>W'.heap.size<=b) (uj l r s) W')):Calls Tryz.prog 39 #[rv,v0,v1,.int .i64 l] wr (xbm w M (m+(uj l r s).length) wr rv):=by
 refine (zcj rv v0 v1 hO.2 hO.1.size h0 h1 (E:=24) (by omega) hD (fun c hc=>?_) (fun c hc=>?_) ?_ (hid HP)).mono ?_
 · rcases zas _ _ c hc with h | ⟨x,hx,rfl⟩
   · cases h
   · exact jak (hM x (List.mem_of_mem_take hx))
 · obtain ⟨a,b,e,-⟩:=hS;exact hM c (by rw [e]; simp [hc])
 · have:=xan (M.take m) [];rw [List.length_take,List.length_nil] at this;have:=hS.le;omega
 · rintro e w' ⟨v',rfl,h1,h2⟩;refine ⟨v',rfl,⟨h2.ext hO.1 (fun i hi=>(hO.2.own hi).1),?_⟩,h2⟩;rw [<- gck hS];exact h1
end
theorem xa7 {l : Int} : ∀ (n : Nat) (r : Pl), zai l n r = if (ql l n r).length = 0 then false else decide ((ui l ((ql l n r).getD ((ql l n r).length - 1) Pl.zero)).lv = 0)
 | 0,r=>by simp [zai,ql]
 | n+1,r=>by
   by_cases h0:0 < mdg l r
   · rw [xav h0,kab h0]
     by_cases h1:(ui l r).lv=0
     · rw [if_pos h1,if_pos h1]; simp [h1]
     · rw [if_neg h1,if_neg h1,xa7 n (xab l r)];rcases hL:ql l n (xab l r) with _ | ⟨a,t⟩
       · simp [h1]
       · simp
   · rw [ya7 h0,vae h0]; simp
def flC (l:Int) (R:List Pl) (k:Nat):Bool:=if k=0 then false else decide ((ui l (R.getD (k - 1) Pl.zero)).lv=0)
theorem wcx {l:Int} {f:Pl} {k:Nat} (hk:k < (yf l f).length):flC l (yf l f) k=false:=by
 unfold flC
 split
 · rfl
 · have h:=(kbc (l:=l) (mdg l f).toNat f (k - 1) (by have:(ql l (mdg l f).toNat f).length=(yf l f).length:=rfl; omega)).2;have e:(yf l f).getD (k - 1) Pl.zero=(ql l (mdg l f).toNat f)[k - 1]'(by have:(ql l (mdg l f).toNat f).length=(yf l f).length:=rfl; omega):=by
    rw [List.getD_eq_getElem?_getD,List.getElem?_eq_getElem (by omega)]; rfl
   rw [e];exact decide_eq_false h
theorem ucu (l:Int) (f:Pl):flC l (yf l f) (yf l f).length=gac l f:=by
 unfold flC gac;rw [xa7]
 rfl
theorem ucn {l:Int} {R:List Pl} {k:Nat} (hk:k < R.length):flC l R (k+1)=decide ((ui l R[k]).lv=0):=by
 unfold flC;rw [if_neg (by omega),Nat.add_sub_cancel,List.getD_eq_getElem?_getD,List.getElem?_eq_getElem hk]; rfl
theorem ycf {l:Int} {f:Pl} (h:0 < (yf l f).length):(yf l f).getD 0 Pl.zero=f:=by
 have h0:¬ mdg l f < 1:=fun hh=>by have:=(qca (l:=l) (f:=f)).2 hh; omega
 unfold yf;obtain ⟨n,hn⟩:∃ n,(mdg l f).toNat=n+1:=⟨(mdg l f).toNat - 1,by omega⟩;rw [hn,kab (by omega)]; rfl
theorem jc.kidQ {w:World} {p:Nat->Prop} {l:List Pl} {A:Option Addr} (h:jc w p l A 0) (k:Nat) (hk:k < l.length):∃ ad A0 n0 c0 A1 n1 c1,A=some ad/\ad.block < w.heap.size/\p ad.block/\uo w (ad.add (k * 4)) l[k] (.slice A0 n0 c0) (.slice A1 n1 c1)/\PlV w p l[k] (plV l[k] (.slice A0 n0 c0) (.slice A1 n1 c1)):=by
 obtain ⟨ad,s,K,e,hb,hp,h1,h2⟩:=jc.get_ l A 0 h k hk;rw [Nat.zero_add] at h1;obtain ⟨A0,n0,c0,A1,c1,ee,-⟩:=id h2.open_;unfold plV at ee;simp only [Value.agg.injEq,Array.mk.injEq,List.cons.injEq,and_true,true_and] at ee;obtain ⟨rfl,rfl⟩:=ee;exact ⟨ad,A0,n0,c0,A1,_,c1,e,hb,hp,h1,h2⟩
theorem uo.gro {w w':World} {v v':Value} {ad:Addr} {t:Pl} {s A:Value} {n:Nat} (h:uo w (ad.add n) t s A) (hg:Gro w v w' v') (hb:ad.block < w.heap.size) (hn:v.ownBlock ≠ some ad.block):uo w' (ad.add n) t s A:=by
 have e:=hg.block ad.block hb hn;exact h.same (World.cell?_of_block (by rw [ja]; exact e)) (fun m _=>World.cell?_of_block (by show w'.heap[(ad.add n).block]?=_; rw [ja]; exact e))
def RqR (w:World) (M:List Pl) (m:Nat) (rv:Value) (R:List Pl) (A:Option Addr) (wr:World):Prop:=RqO w M m rv wr/\jc wr (fun b=>rv.ownBlock ≠ some b) R A 0
theorem RqO.fresh {w wr w':World} {M R:List Pl} {m:Nat} {rv:Value} {A:Option Addr} (h:RqO w M m rv wr) (hx:Ext wr w') (hR:jc w' (fun b=>wr.heap.size<=b) R A 0):RqR w M m rv R A w':=
 ⟨h.later hx,jc.turn (Nat.le_refl _) (fun _ _ h=>h) (fun b _ hq=>⟨fun e=>by have:=(h.2.own e).2; omega,rfl⟩) _ _ _ hR⟩
theorem RqR.later {w wr w':World} {M R:List Pl} {m:Nat} {rv:Value} {A:Option Addr} (h:RqR w M m rv R A wr) (hx:Ext wr w'):RqR w M m rv R A w':=⟨h.1.later hx,h.2.ext hx⟩
theorem RqR.gro {w wr w':World} {M R:List Pl} {m m':Nat} {rv v':Value} {A:Option Addr} (h:RqR w M m rv R A wr) (hO:RqO w M m' v' w') (hg:Gro wr rv w' v'):RqR w M m' v' R A w':=
 ⟨hO,jc.turn (Nat.le_refl _) (fun _ _ h=>h) (fun b _ hq=>⟨hq.2,rfl⟩) _ _ _ (hg.pls h.2 fun b hb=>hb)⟩
def RqS (w:World) (M:List Pl) (m:Nat) (rv:Value) (R:List Pl) (A:Option Addr) (S:List Pl) (B:Option Addr) (wr:World):Prop:=RqO w M m rv wr/\jc wr (fun b=>rv.ownBlock ≠ some b) R A 0/\jc wr (fun b=>rv.ownBlock ≠ some b) S B 0
theorem RqS.gro {w wr w':World} {M R S:List Pl} {m m':Nat} {rv v':Value} {A B:Option Addr} (h:RqS w M m rv R A S B wr) (hO:RqO w M m' v' w') (hg:Gro wr rv w' v'):RqS w M m' v' R A S B w':=
 ⟨hO,jc.turn (Nat.le_refl _) (fun _ _ h=>h) (fun b _ hq=>⟨hq.2,rfl⟩) _ _ _ (hg.pls h.2.1 fun b hb=>hb),jc.turn (Nat.le_refl _) (fun _ _ h=>h) (fun b _ hq=>⟨hq.2,rfl⟩) _ _ _ (hg.pls h.2.2 fun b hb=>hb)⟩
theorem RqS.later {w wr w':World} {M R S:List Pl} {m:Nat} {rv:Value} {A B:Option Addr} (h:RqS w M m rv R A S B wr) (hx:Ext wr w'):RqS w M m rv R A S B w':=⟨h.1.later hx,h.2.1.ext hx,h.2.2.ext hx⟩
theorem qck {w:World} {D c0:Nat} {q:Nat->Prop} {D0:Option Addr} {l:Int} {fs:List Pl} (hl:1<=l) (ag:l<=4) (aO:jc w q fs D0 0) (dh:fs.length<=c0) (eX:c0<=9223372036854775807) (eU:∀ f ∈ fs,Fit f 2 D) (vV:fs.length<=100) (hD:D<=1000000000) :
 Calls Tryz.prog 13 #[.slice D0 fs.length c0,.int .i64 l] w (xar (fun _=>True) (fJ l fs) w):=by
 have hB:B32=4294967296:=rfl;have hM:=qa4 hl ag eU;have uJ:(elems l fs).length<=90000:=by
  have h1:=ybk hl ag eU;have h2:=Nat.mul_le_mul vV vV;omega
 have Zn:=hid (fun (r s:Pl) (hr:Fit r 2 (D+4)/\0<=mdg l r) (hs:Fit s 2 (D+4)/\0<=mdg l s) (W':World) (q0 q1:Nat->Prop) (v0 v1:Value) (h0:PlV W' q0 r v0) (h1:PlV W' q1 s v1)=>kby v0 v1 hl ag h0 h1 hr.1 hs.1 (by omega) hr.2 hs.2);have wI:=hid (fun (f:Pl) (hf:f ∈ fs) (W':World) (q0:Nat->Prop) (v:Value) (h:PlV W' q0 f v)=>qb3 v hl ag h (eU f hf) (by omega) (by omega));have yG:Hid (∀ f ∈ fs,∀ r ∈ yf l f,Fit r 2 (D+2)/\0 < mdg l r):=hid (fun f hf=>vaa eU hf);have BH:Hid (∀ f ∈ fs,(yf l f).length<=2):=hid (fun f hf=>by
  have hb:=yai (l:=l) (eU f hf).can (eU f hf).ex;have:=wai (l:=l) (mdg l f).toNat f;unfold yf
  omega)
 have Aw:=hid eU;have Ju:=Seg.all (elems l fs);have Nl:Hid (Seg (elems l fs) 0 (fs.flatMap (zab l))):=hid (by unfold elems at Ju ⊢; exact Ju.left);have Nk:Hid (Seg (elems l fs) (fs.flatMap (zab l)).length (yas l (fs.map (yf l)))):=hid (by have h:=Ju; unfold elems at h ⊢; have:=h.right; rw [Nat.zero_add] at this; exact this);obtain ⟨M,Bl⟩:=n_m (elems l fs);rw [Bl] at hM uJ Nl Nk;have HME:=hid Bl;have Zu:=hid hM;have jQ:=hid aO;have MK:Hid (RqO w M 0 (.slice none 0 0) w):=hid ⟨Ext.refl w,by rw [List.take_zero]; exact uh.nil _ _ _⟩;clear aO eU hM Bl Ju;go_enter Tryz.func13,Tryz.ntmps13;go_wp2_with fail
 go_loopw [5,6] (fun rv iv wr=>∃ i:Nat,i<=fs.length/\iv=.int .i64 i/\Hid (RqO w M ((fs.take i).flatMap (zab l)).length rv wr)) (fun _ iv _=>fs.length - (intOf iv).toNat)
 case atStart=>exact ⟨0,Nat.zero_le _,rfl,hid (by simpa using MK.out)⟩
 case round =>
  obtain ⟨i,hi,rfl,HI⟩:=hrel
  by_cases af:i < fs.length
  · have bQ:i < fs.length:=af;obtain ⟨f,hf⟩:=n_m (fs[i]);have Dl:f ∈ fs:=by rw [<- hf]; exact List.getElem_mem bQ
    obtain ⟨ad,G0,i0,h0,G1,i1,h1,YI,ah,O8,dD⟩:=jQ.out.kid i bQ;rw [hf] at O8 dD;subst YI;have Dy:=Nl.out.flat i bQ;rw [hf] at Dy;have qB:=jl (zab l) fs i bQ;rw [hf] at qB;have oG:=hid qB;obtain ⟨mi,SK⟩:=n_m (((fs.take i).flatMap (zab l)).length);rw [SK] at Dy oG HI;rw [Nat.zero_add] at Dy;have rM:=hid Dy;have HFM:=hid Dl;have Xm:Hid (∀ W',Ext w W'->uo W' (ad.add (i * 4)) f (.slice G0 i0 h0) (.slice G1 i1 h1)):=hid (fun W' hx=>O8.ext hx (by rw [ja]; exact ah));have Jv:=hid dD;have yD:=hid HI.out.1;obtain ⟨g0,g1,g2,g3⟩:=Xm.out _ yD.out;have sF:=wI.out f Dl _ _ _ (dD.ext yD.out);have nC:(i:Int) < (fs.length:Int):=by omega
    unfold plV at sF;clear hf Dl O8 dD Dy qB SK bQ ah MK;go_wp2_with fail;clear g0 g1 g2 g3;refine sF.mono ?_;rintro e w7 ⟨v7,rfl,⟨RA,rc,rfl,lT,gI,tH⟩,x7⟩;have ZG:Hid (RqR w M mi _ (yf l f) RA w7):=hid (HI.out.fresh x7 tH);obtain ⟨R,hR⟩:=n_m (yf l f);have lC:=hid hR;obtain ⟨nr,yX⟩:=n_m (R.length);have GR:=hid yX;have Ib:nr<=2:=by rw [<- yX,<- hR]; exact BH.out f HFM.out
    have HRF:Hid (∀ r ∈ R,Fit r 2 (D+2)/\0 < mdg l r):=hid (by rw [<- hR]; exact yG.out f HFM.out);have U7:=rM.out;unfold zab at U7;rw [hR] at ZG U7 lT;rw [yX] at lT;have PO:=hid U7.left;have HSR:=hid U7.right;rw [hR,yX];clear tH x7 sF hR yX HI U7;go_wp2_with fail
    go_loopw [5,8,9] (fun rv cv kv wr=>∃ k:Nat,k<=nr/\kv=.int .i64 k/\cv=.bool (flC l R k)/\Hid (RqR w M (mi+((R.take k).flatMap (xw l)).length) rv R RA wr)) (fun _ _ kv _=>nr - (intOf kv).toNat)
    case atStart=>exact ⟨0,Nat.zero_le _,rfl,rfl,hid (by simpa using ZG.out)⟩
    case round =>
     obtain ⟨k,hk,rfl,rfl,HJ⟩:=hrel
     by_cases aW:k < nr
     · have iR:k < R.length:=by rw [GR.out]; exact aW
       obtain ⟨r,hr⟩:=n_m (R[k]);have Rk:r ∈ R:=by rw [<- hr]; exact List.getElem_mem iR
       obtain ⟨rD,hr0⟩:=HRF.out r Rk;obtain ⟨bd,C0,YQ,YO,C1,YP,ck1,Pi,UF,UD,Yi,aP⟩:=HJ.out.2.kidQ k iR;rw [hr] at Yi aP;subst Pi;have Gm:=PO.out.flat k iR;have hnk:=jl (xw l) R k iR;rw [hr] at Gm hnk;obtain ⟨mk,cu⟩:=n_m (mi+((R.take k).flatMap (xw l)).length);rw [cu] at Gm HJ;have RU:mi+((R.take (k+1)).flatMap (xw l)).length=mk+1+(uj l r (qw l r)).length:=by
        rw [hnk,<- Nat.add_assoc,cu]; unfold xw; rw [List.length_cons]; omega
       have Yu:=Gm;unfold xw at Yu;obtain ⟨uF,xN⟩:=Yu.get 0 (by simp);simp only [Nat.add_zero,List.getElem_cons_zero] at uF xN;have hSp:Seg M (mk+1) (uj l r (qw l r)):=(show Seg M mk ([ui l r] ++ uj l r (qw l r)) from Yu).right;have fC:flC l R k=false:=by rw [<- lC.out] at iR ⊢; exact wcx iR
       have vV:flC l R (k+1)=((ui l r).lv == 0):=by rw [ucn iR,hr]; rfl
       have EH:=vaf (l:=l) rD;obtain ⟨ld,qR⟩:=n_m (ui l r);rw [qR] at EH xN vV;have Bv:8 * D+100<=1099511627776:=by omega
       have fV:=hid (kaf _ hl ag rD (by omega) (by omega) aP);rw [qR] at fV;have rq:=hid (fun (W':World) (q:Nat->Prop) (u:Value) (hu:PlV W' q ld u)=>gad u hu (Or.inr ⟨EH.can,EH.copy_ (by omega),by have:=EH.dm; omega⟩));rw [Pl.nf_of_can EH.can] at rq;have Qi:=hid (fun (W':World) (q:Nat->Prop) (u:Value) (hu:PlV W' q r u)=>kbq u hl ag rD (by omega) (by omega) hu);have WZ:=hid (And.intro (show Fit r 2 (D+4)/\0<=mdg l r from ⟨rD.mono (Nat.le_refl _) (by omega),by omega⟩) (show Fit (qw l r) 2 (D+4)/\0<=mdg l (qw l r) from ⟨yak rD (by omega),by have:=ubz hl ag rD.can hr0; omega⟩));have Xf:=hid (And.intro UF (And.intro UD (And.intro Yi aP)));have Wh:=hid (And.intro (show ∃ h:mk < M.length,M[mk]=ld from ⟨uF,xN⟩) (And.intro hSp RU));have sV:(k:Int) < (nr:Int):=by omega
       obtain ⟨g0,g1,g2,g3⟩:=Yi;rw [fC];unfold plV at fV;clear iR hr Rk rD hr0 UF UD aP Gm hnk cu RU Yu uF xN hSp fC EH qR;go_wp2_with fail;clear g0 g1 g2 g3;refine fV.out.mono ?_;rintro e w8 ⟨v8,rfl,m8,x8⟩;obtain ⟨E0,en0,tV,E1,oQ,rfl,-⟩:=id m8.open_;obtain ⟨V,hV⟩:=n_m ((w8.alloc (.cells #[.int .i64 ld.lv,.bool ld.neg,.slice E0 en0 tV,.slice E1 ld.cs.length oQ] 35)));have xV:Ext w8 V:=by rw [<- hV]; exact (Ext.refl w8).alloc _
       have bG:jb V w8.heap.size ld (.slice E0 en0 tV) (.slice E1 ld.cs.length oQ):=by rw [<- hV]; exact jb.new w8 ld _ _ _
       have hgV:w8.heap.size < V.heap.size:=by rw [<- hV]; simp
       have Nb:=hid (x8.trans xV);have iG:=hid bG;have vT:=rq.out _ _ _ (m8.ext xV);have HM8:=hid (m8.ext xV);obtain ⟨s0,s1,s2,s3⟩:=bG;unfold plV at vT ⊢;clear m8 x8 xV fV;go_wp2_with fail;clear s0 s1 s2 s3;refine vT.mono ?_;rintro e w9 ⟨rfl,x9⟩;have HJ9:=hid (HJ.out.later (Nb.out.trans x9));obtain ⟨s0,s1,s2,s3⟩:=iG.out.ext x9 hgV;obtain ⟨uF,xN⟩:=Wh.out.1;have jA:=RqO.put (D:=8 * D+100) Zu.out uJ (by omega) HJ9.out.1 _ uF xN (HM8.out.ext x9);have VL:=hid (Nb.out.trans x9);unfold plV at jA;clear x9 vT hV hgV uF xN;go_wp2_with fail;clear s0 s1 s2 s3;refine jA.mono ?_;rintro e wA ⟨Qv,rfl,Pm,Ez⟩;have HJA:=hid (HJ9.out.gro Pm Ez);have uI:=Xf.out.1;have UH:=Xf.out.2.2.1.ext VL.out (by rw [ja]; exact uI);have UG:=UH.gro Ez (Nat.lt_of_lt_of_le uI VL.out.size) Xf.out.2.1;have Rt:=Ez.pl (Xf.out.2.2.2.ext VL.out) (fun b hb=>hb);have UI:bd.block < wA.heap.size:=Nat.lt_of_lt_of_le (Nat.lt_of_lt_of_le uI VL.out.size) Ez.size;have Rz:Qv.ownBlock ≠ some bd.block:=fun e=>Xf.out.2.1 (Ez.own _ (Nat.lt_of_lt_of_le uI VL.out.size) e)
       have rP:=hid Rt;have HOA:=hid Pm;have EP:Hid (∀ W',Ext wA W'->uo W' (bd.add (k * 4)) r (.slice C0 YQ YO) (.slice C1 YP ck1)):=hid (fun W' hx=>UG.ext hx (by rw [ja]; exact UI));have Nz:Hid (∀ (W':World) (u:Value) (q:Nat->Prop),Ext wA W'->PlV W' q (qw l r) u->Calls Tryz.prog 39 #[Qv,plV r (.slice C0 YQ YO) (.slice C1 YP ck1),u,.int .i64 l] W' (xbm w M (mk+1+(uj l r (qw l r)).length) W' Qv)):=hid (fun W' u q hx hu=>RqO.psc (D:=8 * D+100) Zu.out uJ (by omega) (HOA.out.later hx) _ u Wh.out.2.1 (rP.out.ext hx) hu (fun W2 aN=>Zn.out r (qw l r) WZ.out.1 WZ.out.2 W2 _ _ _ _ ((rP.out.ext hx).ext aN) (hu.ext aN)));unfold plV at Nz;clear jA Pm Ez UH Rt HM8 Nb iG HJ9 HJ;go_upto_region 13 with fail;have y0:Ext wA wA.drew:=(Ext.refl wA).drew;refine wp_region_held_drew (S:=fun W'=>uo W' (bd.add (k * 4)) r (.slice C0 YQ YO) (.slice C1 YP ck1)) (by kernel_rfl) (EP.out _ y0) (fun hHeld=>?_);refine tk 0 ?_;refine tk 1 ?_;refine tk 2 ?_;refine tk 3 ?_;refine tk 4 ?_ (hy:=Or.inl ⟨by rfl,by intro w' aK; obtain ⟨k1,k2,k3,k4⟩:=aK; go_simp; (try (with_reducible rfl))⟩);refine tk 5 ?_;refine tk 6 ?_;refine tk 7 ?_;refine tk 8 ?_ (hy:=Or.inl ⟨by rfl,by intro w' aK; obtain ⟨k1,k2,k3,k4⟩:=aK; go_simp; (try (with_reducible rfl))⟩);refine tk 9 ?_;refine tk 11 ?_;refine r_1 10 fun K hK=>?_
       go_simp
       go_at_call 40
       refine (Qi.out _ _ _ (rP.out.ext y0)).mono ?_;rintro e wB ⟨vB,rfl,mB,xB⟩;have yB:=y0.trans xB;refine k_t hK (EP.out _ yB) fun hHeld=>?_
       clear hK K;refine r_1 12 fun K hK=>?_
       go_simp
       go_at_call 39
       refine (Nz.out _ _ _ yB mB).mono ?_;rintro e wC ⟨Z5,rfl,Ve,IU⟩;refine k_t hK ((EP.out _ yB).gro IU (Nat.lt_of_lt_of_le UI yB.size) Rz) fun hHeld=>?_
       clear hK K;refine tk 13 ?_;refine w_d ?_;have HN:Hid (RqR w M (mi+((R.take (k+1)).flatMap (xw l)).length) Z5 R (some bd) wC):=hid (by
        rw [Wh.out.2.2]
        exact (HJA.out.later yB).gro Ve IU)
       clear Ve IU mB xB yB y0 hHeld Nz EP rP HOA HJA UG;go_wp2_with fail
       go_roundw
       case rel=>exact ⟨k+1,by omega,by go_num,by rw [vV],HN⟩
       case measure=>simp only [intOf]; omega
     · have bH:k=nr:=by omega
       have sV:¬ (k:Int) < (nr:Int):=by omega
       have zG:flC l R k=gac l f:=by rw [bH,<- GR.out,<- lC.out]; exact ucu l f
       have hO:=HJ.out.1;rw [bH,<- GR.out,List.take_length] at hO;have J5:(zab l f).length=(R.flatMap (xw l)).length+(if R.length=0\/gac l f=true then [] else [vg l 0 (R.getD 0 Pl.zero)]).length:=by
        unfold zab;rw [lC.out,List.length_append]
       have lH:=oG.out;rw [J5] at lH;have OA:=HSR.out;have HRC:Hid (0 < R.length->R.getD 0 Pl.zero=f):=hid (fun h=>by
        have h1:=ycf (l:=l) (f:=f) (by rw [lC.out]; exact h);rw [lC.out] at h1
        exact h1)
       rw [zG];obtain ⟨Xt,Kt⟩:=n_m (gac l f);rw [Kt] at lH OA ⊢;have HO:=hid hO;have Bg:=Aw.out f HFM.out;have nK:=hid (fun (W':World) (hx:Ext w W')=>ga3 (k:=0) _ (by omega) (by omega) hl ag Bg (by omega) (by omega) (Jv.out.ext hx))
       by_cases hc:nr=0\/Xt=true
       · rw [if_pos (by rw [GR.out]; exact hc)] at lH;have HN:=hid (show RqO w M (((fs.take (i+1)).flatMap (zab l)).length) _ wr from (by rw [lH]; simpa using hO));clear bH zG hO J5 lH OA Kt Bg nK HJ ZG
         by_cases hp:0 < nr
         · have hb : Xt = true := by rcases hc with h | h <;> first | omega | exact h
           subst hb;have mY:(0:Int) < (nr:Int):=by omega
           clear hc;go_wp2_with fail
           go_roundw
           case rel=>exact ⟨i+1,by omega,by go_num,HN⟩
           case measure=>simp only [intOf]; omega
         · have mY:¬ (0:Int) < (nr:Int):=by omega
           clear hc;go_wp2_with fail
           go_roundw
           case rel=>exact ⟨i+1,by omega,by go_num,HN⟩
           case measure=>simp only [intOf]; omega
       · have hnp:0 < nr:=by omega
         have hb : Xt = false := by cases Xt <;> first | rfl | exact absurd (.inr rfl) hc
         have hRl:R.length ≠ 0:=by rw [GR.out]; omega
         rw [if_neg (by rw [GR.out]; exact hc)] at lH OA;subst hb;rw [HRC.out (by omega)] at OA lH;obtain ⟨uF,xN⟩:=OA.get 0 (by simp);simp only [Nat.add_zero,List.getElem_cons_zero] at uF xN;have NK:=hid (show ∃ h:mi+(R.flatMap (xw l)).length < M.length,M[mi+(R.flatMap (xw l)).length]=vg l 0 f from ⟨uF,xN⟩);have ad8:=hid lH;have mY:(0:Int) < (nr:Int):=by omega
         obtain ⟨g0,g1,g2,g3⟩:=Xm.out _ HO.out.1;have dZ:=nK.out _ HO.out.1;unfold plV at dZ;clear bH zG hO J5 lH OA Kt Bg nK HJ ZG hc uF xN hRl hnp;go_wp2_with fail;clear g0 g1 g2 g3;refine dZ.mono ?_;rintro e w8 ⟨v8,rfl,m8,x8⟩;obtain ⟨uF,xN⟩:=NK.out;have jA:=RqO.put (D:=8 * D+100) Zu.out uJ (by omega) (HO.out.later x8) _ uF xN m8;obtain ⟨E0,en0,tV,E1,oQ,rfl,-⟩:=id m8.open_;unfold plV at jA ⊢;clear x8 m8 uF xN dZ;go_wp2_with fail;refine jA.mono ?_;rintro e wA ⟨Qv,rfl,Pm,Ez⟩;have HN:Hid (RqO w M (((fs.take (i+1)).flatMap (zab l)).length) Qv wA):=hid (by rw [ad8.out]; exact Pm);clear jA Pm Ez;go_wp2_with fail
         go_roundw
         case rel=>exact ⟨i+1,by omega,by go_num,HN⟩
         case measure=>simp only [intOf]; omega
  · have xI:i=fs.length:=by omega
    have nC:¬ (i:Int) < (fs.length:Int):=by omega
    obtain ⟨Ls,EG⟩:=n_m (fs.map (yf l));have mr:Ls.length=fs.length:=by rw [<- EG,List.length_map]
    have HLG:Hid (∀ j (hj:j < fs.length) (Ey:j < Ls.length),Ls[j]=yf l fs[j]):=hid (fun j hj Ey=>by
     have:Ls[j]=(fs.map (yf l))[j]'(by rw [List.length_map]; exact hj):=by congr 1; exact EG.symm
     rw [this,List.getElem_map])
    have Ph:=Nk.out;rw [EG] at Ph;unfold yas at Ph;rw [mr] at Ph;obtain ⟨P0,Pj⟩:=n_m ((fs.flatMap (zab l)).length);have iV:=HI.out;rw [xI,List.take_length,Pj] at iV;rw [Pj] at Ph;have Np:=hid Ph;have BJ:=hid mr;have HI3:=hid (show RqO w M P0 _ wr from iV);have rO:Hid (fJ l fs=putA [] (M.take (P0+(((List.range fs.length).take fs.length).flatMap fun i=>(Ls.drop (i+1)).flatMap (prE l (Ls.getD i []))).length))):=hid (by
     unfold fJ;rw [HME.out];have e:P0+(((List.range fs.length).take fs.length).flatMap fun i=>(Ls.drop (i+1)).flatMap (prE l (Ls.getD i []))).length=M.length:=by
      rw [<- HME.out];unfold elems yas;rw [EG,mr,List.length_append,Pj,List.take_of_length_le (by rw [List.length_range]; exact Nat.le_refl _)]
     rw [e,List.take_length])
    clear xI EG mr Ph Pj iV HI MK;go_wp2_with fail;obtain ⟨wq,rfl⟩:∃ wq,wq=wr:=⟨wr,rfl⟩
    go_loopw [5,11] (fun rv iv wr=>∃ i:Nat,i<=fs.length/\iv=.int .i64 i/\Hid (RqO w M (P0+(((List.range fs.length).take i).flatMap fun i=>(Ls.drop (i+1)).flatMap (prE l (Ls.getD i []))).length) rv wr)) (fun _ iv _=>fs.length - (intOf iv).toNat)
    case atStart=>exact ⟨0,Nat.zero_le _,rfl,hid (by simpa using HI3.out)⟩
    case round =>
     obtain ⟨i,hi,rfl,HI⟩:=hrel
     by_cases af:i < fs.length
     · have TK:i < (List.range fs.length).length:=by rw [List.length_range]; exact af
       have Dy:=Np.out.flat i TK;have lH:=jl (fun i=>(Ls.drop (i+1)).flatMap (prE l (Ls.getD i []))) (List.range fs.length) i TK;rw [List.getElem_range] at Dy lH;have hLi:Ls.getD i []=yf l fs[i]:=by rw [List.getD_eq_getElem?_getD,List.getElem?_eq_getElem (by rw [BJ.out]; exact af),Option.getD_some]; exact HLG.out i af _
       rw [hLi] at Dy lH;obtain ⟨m3,OL⟩:=n_m (P0+(((List.range fs.length).take i).flatMap fun i=>(Ls.drop (i+1)).flatMap (prE l (Ls.getD i []))).length);rw [OL] at Dy HI;have oG:Hid (P0+(((List.range fs.length).take (i+1)).flatMap fun i=>(Ls.drop (i+1)).flatMap (prE l (Ls.getD i []))).length=m3+((Ls.drop (i+1)).flatMap (prE l (yf l fs[i]))).length):=hid (by rw [lH,<- Nat.add_assoc,OL]);have rM:=hid Dy;have nC:(i:Int) < (fs.length:Int):=by omega
       have hwi:IntKind.i64.wrap ((i:Int)+1)=((i+1:Nat):Int):=by rw [IntKind.wrap_i64]; omega
       clear TK Dy lH hLi OL HI3;go_wp2_with fail;obtain ⟨wq2,rfl⟩:∃ wq2,wq2=wr:=⟨wr,rfl⟩
       go_loopw [5,12] (fun rv jv wr=>∃ d j:Nat,j=i+1+d/\j<=fs.length/\jv=.int .i64 j/\Hid (RqO w M (m3+(((Ls.drop (i+1)).take d).flatMap (prE l (yf l fs[i]))).length) rv wr)) (fun _ jv _=>fs.length - (intOf jv).toNat)
       case atStart=>exact ⟨0,i+1,rfl,by omega,by go_num,hid (by simpa using HI.out)⟩
       case round =>
        obtain ⟨d,j,OU,hj,rfl,HJ⟩:=hrel
        by_cases KT:j < fs.length
        · have nH:d < (Ls.drop (i+1)).length:=by rw [List.length_drop,BJ.out]; omega
          have MC:=rM.out.flat d nH;have lH:=jl (prE l (yf l fs[i])) (Ls.drop (i+1)) d nH;have hLd:(Ls.drop (i+1))[d]=yf l fs[j]:=by
           rw [List.getElem_drop];have:=HLG.out j KT (by rw [BJ.out]; exact KT);simp only [OU] at this ⊢;exact this
          rw [hLd] at MC lH;obtain ⟨m4,Yb⟩:=n_m (m3+(((Ls.drop (i+1)).take d).flatMap (prE l (yf l fs[i]))).length);rw [Yb] at MC HJ;obtain ⟨fi,FZ⟩:=n_m (fs[i]);obtain ⟨fj,Yh⟩:=n_m (fs[j]);have FY:fi ∈ fs:=by rw [<- FZ]; exact List.getElem_mem af
          have FX:fj ∈ fs:=by rw [<- Yh]; exact List.getElem_mem KT
          obtain ⟨ad,C0,YQ,YO,C1,YP,ck1,YI,ah,O0,Ep⟩:=jQ.out.kid i af;obtain ⟨ad',G0,gj0,gk0,G1,gj1,gk1,DC,-,Uu,hpj⟩:=jQ.out.kid j KT;subst YI;injection DC with DC
          subst DC;rw [FZ] at O0 Ep;rw [Yh] at Uu hpj;rw [FZ,Yh] at MC lH;have NC:Hid (m3+(((Ls.drop (i+1)).take (d+1)).flatMap (prE l (yf l fs[i]))).length=m4+(prE l (yf l fi) (yf l fj)).length):=hid (by rw [FZ] at Yb ⊢; rw [lH,<- Nat.add_assoc,Yb]);have HXJ:=HJ.out.1;obtain ⟨g0,g1,g2,g3⟩:=O0.ext HXJ (by rw [ja]; exact ah);have Cj:=wI.out fi FY _ _ _ (Ep.ext HXJ);have HCJ:Hid (∀ W',Ext w W'->uo W' (ad.add (j * 4)) fj (.slice G0 gj0 gk0) (.slice G1 gj1 gk1)):=hid (fun W' hx=>Uu.ext hx (by rw [ja]; exact ah));have Zl:=hid (fun (W':World) (hx:Ext w W')=>wI.out fj FX W' _ _ (hpj.ext hx));have WT:=hid (And.intro (yG.out fi FY) (And.intro (yG.out fj FX) (And.intro (BH.out fi FY) (BH.out fj FX))));obtain ⟨A,hA⟩:=n_m (yf l fi);obtain ⟨B,hB⟩:=n_m (yf l fj);rw [hA] at Cj WT MC NC;rw [hB] at Zl WT MC NC;have HSJ:=hid MC;have nC:(i:Int) < (fs.length:Int):=by omega
          have Ew:(j:Int) < (fs.length:Int):=by omega
          have HJD:=hid OU;unfold plV at Cj Zl;clear nH MC lH hLd Yb FZ Yh FY FX O0 Ep Uu hpj HXJ hA hB ah OU;go_wp2_with fail;clear g0 g1 g2 g3;refine Cj.mono ?_;rintro e w7 ⟨v7,rfl,⟨RA,rc,rfl,lT,gI,tH⟩,x7⟩;have hJ7:=HJ.out.fresh x7 tH;obtain ⟨g0,g1,g2,g3⟩:=HCJ.out _ (HJ.out.1.trans x7);have OC:=Zl.out _ (HJ.out.1.trans x7);have ZF:=hid hJ7;clear tH x7 Cj hJ7 HJ;go_wp2_with fail;clear g0 g1 g2 g3;refine OC.mono ?_;rintro e w8 ⟨v8,rfl,⟨RB,rb,rfl,bU,jF,UO⟩,x8⟩;have HJ8:Hid (RqS w M m4 _ A RA B RB w8):=hid ⟨ZF.out.1.later x8,ZF.out.2.ext x8,(ZF.out.1.fresh x8 UO).2⟩;clear UO x8 OC ZF Zl HCJ;go_wp2_with fail;obtain ⟨wq3,rfl⟩:∃ wq3,wq3=wr:=⟨wr,rfl⟩
          go_loopw [5,15] (fun rv kv wr=>∃ k:Nat,k<=A.length/\kv=.int .i64 k/\Hid (RqS w M (m4+((A.take k).flatMap (fun r=>B.flatMap fun s=>uj l r s)).length) rv A RA B RB wr)) (fun _ kv _=>A.length - (intOf kv).toNat)
          case atStart=>exact ⟨0,Nat.zero_le _,rfl,hid (by simpa using HJ8.out)⟩
          case round =>
           obtain ⟨k,hk,rfl,Qb⟩:=hrel
           by_cases aW:k < A.length
           · have Gm:=(show Seg M m4 (A.flatMap fun r=>B.flatMap fun s=>uj l r s) from HSJ.out).flat k aW;have lH:=jl (fun r=>B.flatMap fun s=>uj l r s) A k aW;obtain ⟨r,hr⟩:=n_m (A[k]);have Rk:r ∈ A:=by rw [<- hr]; exact List.getElem_mem aW
             rw [hr] at Gm lH;obtain ⟨m5,hm5⟩:=n_m (m4+((A.take k).flatMap (fun r=>B.flatMap fun s=>uj l r s)).length);rw [hm5] at Gm Qb;have ad7:Hid (m4+((A.take (k+1)).flatMap (fun r=>B.flatMap fun s=>uj l r s)).length=m5+(B.flatMap fun s=>uj l r s).length):=hid (by rw [lH,<- Nat.add_assoc,hm5]);have HSK:=hid Gm;have HR5:=hid (And.intro hr Rk);have sV:(k:Int) < (A.length:Int):=by omega
             clear Gm lH hr Rk hm5 HJ8;go_wp2_with fail;obtain ⟨wq4,rfl⟩:∃ wq4,wq4=wr:=⟨wr,rfl⟩
             go_loopw [5,16] (fun rv nv wr=>∃ n:Nat,n<=B.length/\nv=.int .i64 n/\Hid (RqS w M (m5+((B.take n).flatMap (fun s=>uj l r s)).length) rv A RA B RB wr)) (fun _ nv _=>B.length - (intOf nv).toNat)
             case atStart=>exact ⟨0,Nat.zero_le _,rfl,hid (by simpa using Qb.out)⟩
             case round =>
              obtain ⟨n,hn,rfl,Jy⟩:=hrel
              by_cases XY:n < B.length
              · have Yv:=HSK.out.flat n XY;have lH:=jl (fun s=>uj l r s) B n XY;obtain ⟨s,hs⟩:=n_m (B[n]);have hsm:s ∈ B:=by rw [<- hs]; exact List.getElem_mem XY
                rw [hs] at Yv lH;obtain ⟨m6,OJ⟩:=n_m (m5+((B.take n).flatMap (fun s=>uj l r s)).length);rw [OJ] at Yv Jy;have ad6:Hid (m5+((B.take (n+1)).flatMap (fun s=>uj l r s)).length=m6+(uj l r s).length):=hid (by rw [lH,<- Nat.add_assoc,OJ]);obtain ⟨ra,E0,ej0,ek0,E1,ej1,ek1,Pi,Kv,Rn,Gg,lU⟩:=Jy.out.2.1.kidQ k aW;obtain ⟨Z8,F0,fj0,fk0,F1,fj1,fk1,Yy,Ku,Rl,ED,qA⟩:=Jy.out.2.2.kidQ n XY;rw [HR5.out.1] at Gg lU;rw [hs] at ED qA;subst Pi Yy;obtain ⟨rD,hr0⟩:=WT.out.1 r HR5.out.2;obtain ⟨kG,fD⟩:=WT.out.2.1 s hsm;have Bv:8 * D+100<=1099511627776:=by omega
                have HO6:=hid Jy.out.1;have Ny:Hid (∀ W',Ext wr W'->Calls Tryz.prog 39 #[_,plV r (.slice E0 ej0 ek0) (.slice E1 ej1 ek1),plV s (.slice F0 fj0 fk0) (.slice F1 fj1 fk1),.int .i64 l] W' (xbm w M (m6+(uj l r s).length) W' _)):=hid (fun W' hx=>RqO.psc (D:=8 * D+100) Zu.out uJ Bv (HO6.out.later hx) _ _ Yv (lU.ext hx) (qA.ext hx) (fun W2 aN=>Zn.out r s ⟨rD.mono (Nat.le_refl _) (by omega),by omega⟩ ⟨kG.mono (Nat.le_refl _) (by omega),by omega⟩ W2 _ _ _ _ ((lU.ext hx).ext aN) ((qA.ext hx).ext aN)));have Ql:Hid (∀ W',Ext wr W'->(uo W' (ra.add (k * 4)) r (.slice E0 ej0 ek0) (.slice E1 ej1 ek1)/\uo W' (Z8.add (n * 4)) s (.slice F0 fj0 fk0) (.slice F1 fj1 fk1))):=hid (fun W' hx=>⟨Gg.ext hx (by rw [ja]; exact Kv),ED.ext hx (by rw [ja]; exact Ku)⟩);have nO:(n:Int) < (B.length:Int):=by omega
                have y0:Ext wr wr.drew:=(Ext.refl wr).drew;unfold plV at Ny;clear Yv lH hs hsm OJ Gg lU ED qA rD hr0 kG fD;go_upto_region 30 with fail;refine wp_region_held_drew (S:=fun W'=>uo W' (ra.add (k * 4)) r (.slice E0 ej0 ek0) (.slice E1 ej1 ek1)/\uo W' (Z8.add (n * 4)) s (.slice F0 fj0 fk0) (.slice F1 fj1 fk1)) (by kernel_rfl) (Ql.out _ y0) (fun hHeld=>?_);refine tk 0 ?_;refine tk 1 ?_;refine tk 2 ?_;refine tk 3 ?_;refine tk 4 ?_ (hy:=Or.inl ⟨by rfl,by intro w' aK; obtain ⟨⟨k1,k2,k3,k4⟩,k5,k6,k7,k8⟩:=aK; go_simp; (try (with_reducible rfl))⟩);refine tk 5 ?_;refine tk 6 ?_;refine tk 7 ?_;refine tk 8 ?_ (hy:=Or.inl ⟨by rfl,by intro w' aK; obtain ⟨⟨k1,k2,k3,k4⟩,k5,k6,k7,k8⟩:=aK; go_simp; (try (with_reducible rfl))⟩);refine tk 9 ?_;refine r_1 10 fun K hK=>?_
                go_simp
                go_at_call 39
                refine (Ny.out _ y0).mono ?_;rintro e wC ⟨Z5,rfl,Ve,IU⟩;refine k_t hK ⟨(Ql.out _ y0).1.gro IU (Nat.lt_of_lt_of_le Kv y0.size) Rn,(Ql.out _ y0).2.gro IU (Nat.lt_of_lt_of_le Ku y0.size) Rl⟩ fun hHeld=>?_
                clear hK K;refine tk 11 ?_;refine w_d ?_;have HN:=hid (show RqS w M (m5+((B.take (n+1)).flatMap (fun s=>uj l r s)).length) Z5 A (some ra) B (some Z8) wC from (by
                 rw [ad6.out]
                 exact (Jy.out.later y0).gro Ve IU))
                clear Ve IU y0 hHeld Ny Ql HO6 Jy Kv Rn Ku Rl;go_wp2_with fail
                go_roundw
                case rel=>exact ⟨n+1,by omega,by go_num,HN⟩
                case measure=>simp only [intOf]; omega
              · have ak:n=B.length:=by omega
                have nO:¬ (n:Int) < (B.length:Int):=by omega
                have hN:=Jy.out;rw [ak,List.take_length,<- ad7.out] at hN;have HN:=hid hN;clear ak hN Jy;go_wp2_with fail
                go_roundw
                case rel=>exact ⟨k+1,by omega,by go_num,HN⟩
                case measure=>simp only [intOf]; omega
           · have bH:k=A.length:=by omega
             have sV:¬ (k:Int) < (A.length:Int):=by omega
             have hN:=Qb.out.1;rw [bH,List.take_length] at hN;have hN2:=(show RqO w M (m4+(prE l A B).length) _ wr from hN);rw [<- NC.out] at hN2;have HN:=hid hN2;have hwj:IntKind.i64.wrap ((j:Int)+1)=((j+1:Nat):Int):=by rw [IntKind.wrap_i64]; omega
             clear bH hN hN2 Qb HJ8;go_wp2_with fail
             go_roundw
             case rel=>exact ⟨d+1,j+1,by have:=HJD.out; omega,by omega,by go_num,HN⟩
             case measure=>simp only [intOf]; omega
        · have TI:j=fs.length:=by omega
          have Ew:¬ (j:Int) < (fs.length:Int):=by omega
          have hN:=HJ.out;rw [List.take_of_length_le (by rw [List.length_drop,BJ.out]; omega),<- oG.out] at hN;have HN:=hid hN;clear TI hN HJ;go_wp2_with fail
          go_roundw
          case rel=>exact ⟨i+1,by omega,by go_num,HN⟩
          case measure=>simp only [intOf]; omega
     · have xI:i=fs.length:=by omega
       have nC:¬ (i:Int) < (fs.length:Int):=by omega
       obtain ⟨hx,ae⟩:=HI.out;rw [xI,<- rO.out] at ae;obtain ⟨RA,rc,rfl,lT,gI⟩:=ae.len;have HF:Hid (xar (fun _=>True) (fJ l fs) w (.returned (.slice RA (fJ l fs).length rc)) wr):=hid ⟨_,rfl,⟨RA,rc,rfl,lT,gI,jc.turn (Nat.le_refl _) (fun _ _ h=>h) (fun b _ _=>⟨trivial,rfl⟩) _ _ _ ae.at_⟩,hx⟩;clear xI hx ae HI;go_wp2_with fail;go_ret;exact HF.out
end Go.Proofs.YtklnlgnnlmdibaaGreat
