/- The library's sort at terms: slices.SortFunc with the order of (*gather).poly: descending monomials. -/
import Derived.Test.YtcepajijiabkmaaGreatMo10
set_option linter.all false
set_option maxRecDepth 100000
set_option maxHeartbeats 8000000
namespace Go.Proofs.YtcepajijiabkmaaGreat
open Lib (hid)
open Go.RowKit Go.Sort Go.Shelf
structure TmE where
 neg:Bool
 A:Option Addr
 n:Nat
 c:Nat
 z:Int
 mo:Mo
instance:Inhabited TmE:=⟨⟨false,none,0,0,0,Mo.one⟩⟩
def TmE.vc (x:TmE):List Value:=tmC x.neg (.slice x.A x.n x.c) x.mo
def xas (x y:TmE):Int:=vag y.mo x.mo
theorem ka3 (x y:TmE):ltOf xas x y=decide (y.mo.lt x.mo):=by
 unfold ltOf xas vag
 by_cases h1:y.mo.lt x.mo
 · rw [if_pos h1]; simp [h1]
 · rw [if_neg h1]
   by_cases h2:x.mo.lt y.mo
   · rw [if_pos h2]; simp [h1]
   · rw [if_neg h2]; simp [h1]
theorem vc8 : SWO (ltOf xas) where
 irrefl x:=by rw [ka3]; simp [Mo.lt_irrefl]
 trans x y z h1 h2:=by
  rw [ka3] at *;simp only [decide_eq_true_eq] at *;exact Mo.lt_trans h2 h1
 ntrans x y z h1 h2:=by
  rw [ka3] at *;simp only [decide_eq_false_iff_not] at *;unfold Mo.lt at *; omega
theorem jb9 (x y:TmE) (W:World):Calls Tryz.prog 82 #[.agg x.vc.toArray,.agg y.vc.toArray] W fun e w'=>e=.returned (.int .i64 (xas x y))/\∃ q os',w'=grow (W.drewN q) os':=by
 unfold xas TmE.vc tmC;have Lu:=fun W'=>uaz y.mo x.mo W'
 generalize vag y.mo x.mo=r at Lu ⊢;have HC:=hid Lu;have HG:Hid (∀ o o' q os,∃ q' os',grow (((W.alloc o).alloc o').drewN q) os=grow (W.drewN q') os'):=fun o o' q os=>⟨q,#[o] ++ #[o'] ++ os,by rw [alloc_eq_grow,alloc_eq_grow,grow_grow,<- grow_grow _ _ os]; rfl⟩
 clear Lu;go_enter Tryz.func82,Tryz.ntmps82;go_wp2_with fail;refine (HC.out _).mono ?_;rintro e w1 ⟨rfl,q,os,rfl⟩;go_wp2_with fail;go_ret;exact ⟨rfl,HG.out _ _ q os⟩
theorem ubz (blk off size:Nat) (w:World):CmpLays Tryz.prog 82 #[] TmE.vc 6 xas blk off size w:=fun _ _ _ _ x y=>jb9 x y _
theorem kca (v:Value) (w:World):Calls Tryz.prog 128 #[v,.int .i64 0,.int .i64 0,.func (.func 82) #[] #[]] w fun e w'=>e=.returned (.tuple #[])/\w'=w:=by
 go_enter Tryz.func128,Tryz.ntmps128;go_wp2_with fail;refine wp_loop_rounds 1 ?_;rw [rounds_succ];go_wp2_with fail
 go_end0
 exact ⟨rfl,rfl⟩
theorem ga0 (n:Nat) (w:World) (h:n < 4611686018427387904):Calls Tryz.prog 74 #[.int .u64 (n:Int)] w fun e w'=>e=.returned (.int .i64 (Lib.bitLen n:Nat))/\w'=w:=by
 have h:=Go.Proofs.Any.bits_Len (Go.Proofs.SlLaysF0.n15.bits (P:=Tryz.prog) (ρ:=xau) uda) (n:Int) w (by omega) (by omega)
 rwa [sX] at h
theorem vb9 (v:Value) (limit:Int) (w:World):Calls Tryz.prog 108 #[v,.int .i64 0,.int .i64 0,.int .i64 limit,.func (.func 82) #[] #[]] w fun e w'=>e=.returned (.tuple #[])/\w'=w:=by
 go_enter Tryz.func108,Tryz.ntmps108;go_wp2_with fail;refine wp_loop_rounds 1 ?_;rw [rounds_succ];go_wp2_with fail;refine (kca _ _).mono ?_;rintro e w1 ⟨rfl,rfl⟩;go_wp2_with fail;exact bodyPost_ret (results_none rfl _ _ _) rfl ⟨rfl,rfl⟩
theorem jbx (A:Option Addr) (c:Nat) (w:World):Calls Tryz.prog 81 #[.slice A 0 c,.func (.func 82) #[] #[]] w fun e w'=>e=.returned (.tuple #[])/\w'=w:=by
 have wr:IntKind.u64.wrap (0:Int)=0:=by decide
 have hb:=ga0 0 w (by omega);have HB:=hid hb;clear hb;go_enter Tryz.func81,Tryz.ntmps81;go_wp2_with fail;refine HB.out.mono ?_;rintro e w1 ⟨rfl,rfl⟩;go_wp2_with fail;refine (vb9 _ _ _).mono ?_;rintro e w1 ⟨rfl,rfl⟩;go_wp2_with fail
 go_end0
 exact ⟨rfl,rfl⟩
theorem gb7 (blk cap:Nat) (d:Array TmE) (w:World) (hH:HoldsK TmE.vc 6 w blk 0 d) (hblk:blk < w.heap.size) (hsz:d.size < 4611686018427387904) :
 Calls Tryz.prog 81 #[.slice (some ⟨blk,0,none⟩) d.size cap,.func (.func 82) #[] #[]] w fun e w'=>e=.returned (.tuple #[])/\∃ d' n os,PermIn 0 d.size d d'/\SortedIn (ltOf xas) 0 d.size d'/\w'=sortWorldK TmE.vc 6 w blk 0 n d' os:=by
 have aaA:Lib.bitLen d.size < 4611686018427387904:=sB (Lib.bitLen_le d.size 62 (by omega) (by omega)) (by omega);have eg:∀ args w,(callFunc 82 args).run Tryz.prog w=.ok (.enter 82 args) w:=enters_of Tryz.func82 (by kernel_rfl) rfl;have hp:=Go.Proofs.AnyQ.pdqsortCmpFunc_all (P:=Tryz.prog) (ρ:=xau) qbx 6 Tryz.isAgg76 Tryz.sizeOf76 TmE.vc xas 82 #[] vc8 blk 0 cap d w eg (ubz blk 0 d.size w) ⟨fun _=>rfl,fun x v hv=>by
  simp only [TmE.vc,tmC,pN,sr,or_false] at hv
  rcases hv with rfl | rfl | rfl | rfl | rfl | rfl <;> rfl,hH,hblk⟩ (d.size+1) 0 d.size (Lib.bitLen d.size) d w (by omega) rfl (Go.Proofs.SWK.start hH) (pZ _) (pj _) hsz aaA (Or.inl rfl)
 have hs:=pdq_sorts (ltOf xas) vc8 d 0 d.size (Lib.bitLen d.size) true true (pZ _) (pj _) (Or.inl rfl);generalize pdq (ltOf xas) d 0 d.size (Lib.bitLen d.size) true true=d' at hp hs
 change Calls Tryz.prog 108 _ _ _ at hp
 have HP:=hid hp;have HS:=hid hs;have HB:=hid (ga0 d.size w hsz);have wr:IntKind.u64.wrap (d.size:Int)=d.size:=by simp [IntKind.wrap,IntKind.bits,IntKind.signed]; omega
 clear hH hp hs eg;go_enter Tryz.func81,Tryz.ntmps81;go_wp2_with fail;refine HB.out.mono ?_;rintro e w1 ⟨rfl,rfl⟩;go_wp2_with fail;refine HP.out.mono ?_;rintro e w1 ⟨rfl,n,os,rfl⟩;go_wp2_with fail
 go_end0
 exact ⟨rfl,d',n,os,HS.out.1,HS.out.2,rfl⟩
def TmE.pair (x:TmE):Int × Mo:=(x.z,x.mo)
theorem gca (d:Array TmE) (j:Nat) (hj:j < d.size * 6):(flatK TmE.vc 6 d)[j]! = (tmC d[j / 6]!.neg (.slice d[j / 6]!.A d[j / 6]!.n d[j / 6]!.c) d[j / 6]!.mo)[j % 6]! := by
 rw [get_flatK _ _ _ _ hj]; rfl
def SpO (base:Nat) (w:World) (v:Value) (l:Sp):Prop:=SpV w none v l/\(0 < l.length->∃ g c,v=.slice (some ⟨g,0,none⟩) l.length c/\base<=g/\g < w.heap.size/\∀ i,i < l.length * 6->w.frozen? ⟨g,i,none⟩=false)
theorem qcy {base:Nat} {W:World} {v:Value} {l:Sp} (h:TsV none base W v l) (hlen:l.length<=1099511627776):Calls Tryz.prog 81 #[v,.func (.func 82) #[] #[]] W fun e w'=>e=.returned (.tuple #[])/\∃ l':Sp,l'.Perm l/\(∀ i j (hi:i < l'.length) (hj:j < l'.length),i < j->¬ (l'[i].2).lt l'[j].2)/\SpO base w' v l'/\Below base W w'/\W.heap.size<=w'.heap.size:=by
 obtain ⟨Av,cv,rfl,fC,dK⟩:=h.len
 by_cases h0:l=[]
 · subst h0;refine (jbx _ _ _).mono ?_;rintro e w' ⟨he,rfl⟩;exact ⟨he,[],List.Perm.refl _,fun i j hi=>absurd hi (by simp),⟨⟨Av,cv,rfl,fC,dK,fun i hi=>absurd hi (by simp)⟩,fun h=>absurd h (by simp)⟩,Below.refl _ _,pj _⟩
 have dw:0 < l.length:=rA.2 h0;obtain ⟨rs,rfl,hg,eu⟩:=h;rw [pw] at dw fC hlen;rw [pw] at hg;rw [pw];obtain ⟨g,c',e,-,-,FQ,sO,bG⟩:=hg.pos dw;injection e with e1 e2 e3
 subst e1 e3;have hun:∀ r ∈ rs,∃ A n c,r.2.1=.slice A n c:=fun r hr=>by
  obtain ⟨b,A,n,c,e⟩:=(eu r hr).unpack;simp only [tm,tF,sy,and_true] at e;exact ⟨A,n,c,e.2⟩
 obtain ⟨es,hes⟩:∃ es:List TmE,es.map (fun x=>(x.neg,Value.slice x.A x.n x.c,x.z,x.mo))=rs:=by
  clear eu hg dw fC hlen h0 e2
  induction rs with
  | nil=>exact ⟨[],rfl⟩
  | cons r rs ih =>
    obtain ⟨es,he⟩:=ih (fun r hr=>hun r (by simp [hr]));obtain ⟨A,n,c,e⟩:=hun r (by simp);obtain ⟨b,s,z,m⟩:=r;simp only at e;subst e;exact ⟨⟨b,A,n,c,z,m⟩ :: es,by simp [he]⟩
 have mf:es.length=rs.length:=by rw [<- hes,pw]
 have Ik:∀ i (hi:i < es.length),rs[i]'(by omega)=(es[i].neg,Value.slice es[i].A es[i].n es[i].c,es[i].z,es[i].mo):=fun i hi=>by
  simp only [<- hes,rN]
 have hH:HoldsK TmE.vc 6 W g 0 es.toArray:=by
  intro j hj;rw [size_flatK] at hj;simp only [tB] at hj;have hq:j / 6 < es.length:=tT (by omega);have hc:=hg.cell j (by omega);have hm:j % 6 < 6:=tg _ (by omega);have oJ:j / 6 * 6+j % 6=j:=by omega
  have hf:=qaz rs (j / 6) (by omega) (j % 6) hm;rw [oJ] at hf;rw [hf,Ik _ hq] at hc;refine ⟨?_,bG _⟩;rw [ri,hc,gca _ _ (by simpa using hj)];have Ii:es.toArray[j / 6]! = es[j / 6]:=by rw [getElem!_pos es.toArray (j / 6) (by simpa using hq)]; simp
  rw [Ii];have af:j % 6 < (tmC es[j / 6].neg (.slice es[j / 6].A es[j / 6].n es[j / 6].c) es[j / 6].mo).length:=hm;rw [pr af,getElem!_pos (tmC es[j / 6].neg (.slice es[j / 6].A es[j / 6].n es[j / 6].c) es[j / 6].mo) (j % 6) af]
  rfl
 have aP:=gb7 g cv es.toArray W hH sO (by simp; omega);simp only [tB] at aP;rw [mf] at aP;refine aP.mono ?_;rintro e w' ⟨he,d',n,os,⟨hsz,-,jA⟩,kM,rfl⟩;simp only [tB] at hsz;have qM:d'.toList.Perm es:=by
  rw [RR (by omega)] at jA;have:es.toArray.extract 0 rs.length=es.toArray:=RR (by simp; omega);rw [this] at jA;simpa using jA
 have sN:W.grownBy (sortWorldK TmE.vc 6 W g 0 n d' os) (some g):=by
  refine ⟨rfl,rfl,rfl,?_,fun b hb au=>?_⟩
  · simp [sortWorldK,grow,putRowK,putRow,mapBlock,Go.Sort.ahead]
  · have Ky:¬ g=b:=fun e=>au (by rw [e])
    simp [sortWorldK,grow,putRowK,putRow,mapBlock,Go.Sort.ahead,Array.getElem?_append,hb,pae,Ky]
 have ax:∀ v ds,jc W v ds->jc (sortWorldK TmE.vc 6 W g 0 n d' os) v ds:=fun v ds hv=>kau hv (v:=.slice (some ⟨g,0,none⟩) rs.length cv) sN hg.2 (yag hg.1)
 have XT:HoldsK TmE.vc 6 (sortWorldK TmE.vc 6 W g 0 n d' os) g 0 d':=
  holdsK_grow TmE.vc 6 _ os g 0 d' (by simp only [putRowK,size_putRow]; exact sO) (holdsK_putRowK TmE.vc 6 (Go.Sort.ahead W n) g 0 es.toArray d' (holdsK_ahead TmE.vc 6 W n g 0 es.toArray hH) (by simpa using hsz))
 refine ⟨he,d'.toList.map TmE.pair,?_,?_,?_,?_,?_⟩
 · have h1:=qM.map TmE.pair;have h2:es.map TmE.pair=rs.map (fun r=>r.2.2):=by rw [<- hes,Pa]; rfl
   rw [<- h2]; exact h1
 · intro i j hi hj oK;rw [pw,Tl] at hi hj;have:=kM i j (pZ _) oK (by omega);rw [ka3,decide_eq_false_iff_not] at this;simp only [rN,Array.getElem_toList];rw [getElem!_pos d' i hi,getElem!_pos d' j hj] at this;exact this
 · have AP:(d'.toList.map TmE.pair).length=rs.length:=by rw [pw,Tl]; omega
   refine ⟨⟨some ⟨g,0,none⟩,cv,by rw [AP],by omega,dK,fun i hi=>?_⟩,fun _=>⟨g,cv,by rw [AP],FQ,px sO sN.size,fun i hi=>?_⟩⟩;rotate_left
   · rw [AP] at hi;have h1:=(HoldsK.cell XT (show i / 6 < d'.size from tT (by omega)) (tg i (show 0 < 6 by omega))).2;rw [show 0+i / 6 * 6+i % 6=i by omega] at h1;exact h1
   rw [pw,Tl] at hi;have aj:=fun c (hc:c < 6)=>(HoldsK.cell XT hi hc).1
   simp only [ri] at aj;have dC:d'[i]! ∈ es:=qM.mem_iff.1 (by rw [getElem!_pos d' i hi]; simp);obtain ⟨k,hk,dh⟩:=tj dC;have TZ:=eu rs[k] (pt (by omega));rw [Ik k hk,dh] at TZ;have Oo:(d'.toList.map TmE.pair)[i]'(by rw [pw,Tl]; exact hi)=(d'[i]!.z,d'[i]!.mo):=by
    rw [rN,Array.getElem_toList,getElem!_pos d' i hi]; rfl
   refine ⟨⟨g,0,none⟩,d'[i]!.neg,d'[i]!.A,d'[i]!.n,d'[i]!.c,rfl,px sO sN.size,?_,?_⟩
   · rw [uu,ri,Oo];exact ⟨aj 0 (by omega),aj 1 (by omega),aj 2 (by omega),aj 3 (by omega),aj 4 (by omega),aj 5 (by omega)⟩
   · rw [Oo];exact Cf.xl TZ ax
 · exact Below.grown (Below.refl _ _) sN (by omega) (fun b e=>by injection e with e; omega)
 · exact sN.size
theorem gbu (w:World):Calls Tryz.prog 53 #[] w fun e w'=>e=.returned (.pointer (some ⟨w.heap.size+1,0,none⟩))/\GaV w.heap.size w' (w.heap.size+1) w.heap.size (.slice none 0 0) []/\Ext w w':=by
 obtain ⟨W,hW⟩:=n_m ((w.alloc (.map #[] 0)).alloc (.cells #[.map (some w.heap.size),.slice none 0 0] 113));have hx1:Ext w (w.alloc (.map #[] 0)):=(Ext.refl w).alloc _;have aN:Ext (w.alloc (.map #[] 0)) W:=by rw [<- hW]; exact (Ext.refl _).alloc _
 have hg:GaV w.heap.size W (w.heap.size+1) w.heap.size (.slice none 0 0) []:=by
  refine ⟨?_,?_,fun i=>?_,(kae.made w).ext aN,TsV.nil _ _ _,⟨by omega,pj _,by omega,by rw [<- hW]; simp⟩,fun R e=>by cases e⟩
  · rw [<- hW]; simp [go_sem]
  · rw [<- hW]; simp [go_sem]
  · rw [<- hW]; simp [go_sem]
 have HG:=hid hg;have HX:=hid (hx1.trans aN);clear hg hx1 aN;have Ov:=@run_makeMap Tryz.prog;go_enter Tryz.func53,Tryz.ntmps53;go_wp2_with fail;go_ret;exact ⟨rfl,HG.out,HX.out⟩
def nz (l:Sp):Sp:=l.filter fun x=>decide (x.1 ≠ 0)
theorem jb0 (l:Sp) (k:Nat) (hk:k < l.length) (h:l[k].1=0):nz (l.take (k+1))=nz (l.take k):=by
 unfold nz;rw [pC hk,tL,rR];simp [h]
theorem wb9 (l:Sp) (k:Nat) (hk:k < l.length) (h:l[k].1 ≠ 0):nz (l.take (k+1))=nz (l.take k) ++ [l[k]]:=by
 unfold nz;rw [pC hk,tL,rR];simp [h]
theorem gcr (l:Sp):(nz l).length<=l.length:=uE _ _
theorem xdc (l:Sp) (k:Mo):ve (nz l) k=ve l k:=by
 induction l with
 | nil=>rfl
 | cons x r ih =>
   obtain ⟨c,m⟩:=x;unfold nz at ih ⊢;rw [rR]
   by_cases h:c=0
   · rw [if_neg (by simpa using h),ih,ve,h]; split <;> omega
   · rw [if_pos (by simpa using h),ve,ve,ih]
theorem jch {l l':Sp} (h:l'.Perm l) (k:Mo):ve l' k=ve l k:=by
 induction h with
 | nil=>rfl
 | cons x _ ih=>obtain ⟨c,m⟩:=x; simp only [ve,ih]
 | swap x y l=>obtain ⟨c,m⟩:=x; obtain ⟨d,n⟩:=y; simp only [ve]; omega
 | trans _ _ ih1 ih2=>exact ih1.trans ih2
theorem kdb {l:Sp} (h0:∀ x ∈ l,x.1 ≠ 0) (h:l.Pairwise fun x y=>y.2.lt x.2):zq l:=by
 induction l with
 | nil=>exact trivial
 | cons x r ih =>
   obtain ⟨c,m⟩:=x;rw [tG] at h;exact ⟨h0 (c,m) (by simp),fun y hy=>h.1 y hy,ih (fun y hy=>h0 y (by simp [hy])) h.2⟩
theorem xbx {l l':Sp} (hp:l'.Perm (nz l)) (ha:Apart l) (hn:∀ x ∈ l,x.2.qe) (hs:∀ i j (hi:i < l'.length) (hj:j < l'.length),i < j->¬ (l'[i].2).lt l'[j].2):l'=qg l:=by
 have dC:∀ x ∈ l',x ∈ l/\x.1 ≠ 0:=fun x hx=>by
  have:=hp.mem_iff.1 hx;unfold nz at this;obtain ⟨h1,h2⟩:=sw.1 this;exact ⟨h1,by simpa using h2⟩
 have LH:Apart l':=by
  unfold Apart at ha ⊢;have h1:(nz l).Pairwise fun x y=>x.2 ≠ y.2:=List.Pairwise.filter _ ha
  exact (hp.pairwise_iff (fun {x y} h=>fun e=>h e.symm)).2 h1
 have hpw:l'.Pairwise fun x y=>y.2.lt x.2:=by
  rw [T2];unfold Apart at LH;rw [T2] at LH;intro i j hi hj oK;rcases Mo.qbH l'[i].2 l'[j].2 with h | h | h
  · exact absurd h (hs i j hi hj oK)
  · exact absurd h (LH i j hi hj oK)
  · exact h
 exact jcy (kdb (fun x hx=>(dC x hx).2) hpw) (fun x hx=>hn x (dC x hx).1) (fun k _=>by rw [jch hp,xdc])
theorem zcr {base G M:Nat} {v:Value} {l:Sp} {w:World} (h:GaV base w G M v l) (ha:Apart l) (nH:∀ x ∈ l,x.2.qe) (hlen:l.length<=1099511627776):Calls Tryz.prog 55 #[.pointer (some ⟨G,0,none⟩)] w fun e w'=>∃ v',e=.returned v'/\SpO w.heap.size w' v' (qg l)/\Ext w w':=by
 obtain ⟨g0,g1,gf,-,gt,-,-⟩:=h;obtain ⟨At,ct,e,fC,dK,aK⟩:=gt.sp;subst e;have lF:=hid aK;have HA:=hid ha;have qY:=hid nH;clear aK gt ha nH gf;go_enter Tryz.func55,Tryz.ntmps55;go_wp2_with fail
 go_loopw [3,11] (fun rv iv wr=>∃ k:Nat,k<=l.length/\iv=.int .i64 k/\(∃ Ak ck,rv=.slice Ak (nz (l.take k)).length ck)/\Hid (TsV none w.heap.size wr rv (nz (l.take k))/\Ext w wr)) (fun _ iv _=>l.length - (intOf iv).toNat)
 case atStart=>exact ⟨0,pZ _,rfl,⟨none,0,rfl⟩,TsV.nil _ _ _,Ext.refl _⟩
 case round =>
  obtain ⟨k,hk,rfl,⟨Ak,ck,rfl⟩,⟨ht,hx⟩⟩:=hrel;have HT:=hid ht;have HX:=hid hx
  by_cases af:k < l.length
  · obtain ⟨ad,b,B,n,c,rfl,ah,kL,eu⟩:=lF.out.ext hx k af;obtain ⟨t0,t1,t2,t3,t4,t5⟩:=kL;have oG:=hid eu;have aiL:(nz (l.take k)).length<=k:=by have:=gcr (l.take k); rw [pA] at this; omega
    have HTZ:=hid (jb0 l k af);have MW:=hid (wb9 l k af);have tZ:Hid (l[k]=(l[k].1,l[k].2)):=rfl;clear ht hx eu;generalize l[k]=lk at *;go_wp2_with fail;refine (gav _ lk.1 _ _ ((Cf.raw oG.out).ext ((Ext.refl _).alloc _))).mono ?_;rintro e w2 ⟨rfl,x2⟩;have y2:Ext wr w2:=((Ext.refl wr).alloc _).trans x2;have dE:∀ i,w2.cell? ⟨wr.heap.size,i,none⟩=(wr.alloc (.cells #[.bool b,.slice B n c,.int .i64 lk.2.a,.int .i64 lk.2.b,.int .i64 lk.2.c,.int .i64 lk.2.d] 76)).cell? ⟨wr.heap.size,i,none⟩:=fun i=>x2.cell (p:=⟨wr.heap.size,i,none⟩) (by simp)
    have e0:w2.cell? ⟨wr.heap.size,0,none⟩=some (.bool b):=by rw [dE]; simp [go_sem]
    have e1:w2.cell? ⟨wr.heap.size,1,none⟩=some (.slice B n c):=by rw [dE]; simp [go_sem]
    have e2:w2.cell? ⟨wr.heap.size,2,none⟩=some (.int .i64 lk.2.a):=by rw [dE]; simp [go_sem]
    have e3:w2.cell? ⟨wr.heap.size,3,none⟩=some (.int .i64 lk.2.b):=by rw [dE]; simp [go_sem]
    have e4:w2.cell? ⟨wr.heap.size,4,none⟩=some (.int .i64 lk.2.c):=by rw [dE]; simp [go_sem]
    have e5:w2.cell? ⟨wr.heap.size,5,none⟩=some (.int .i64 lk.2.d):=by rw [dE]; simp [go_sem]
    by_cases hz:lk.1=0
    · have hq:(sgI lk.1 != 0)=false:=by rw [hz]; rfl
      have HT2:Hid (TsV none w.heap.size w2 (.slice Ak (nz (l.take k)).length ck) (nz (l.take k))):=HT.out.ext y2;have uI:=hid (HX.out.trans y2);have HZ:=hid (HTZ.out hz);clear dE x2 y2;go_wp2_with fail
      go_roundw
      case rel=>exact ⟨k+1,by omega,by go_num,⟨Ak,ck,by rw [HZ.out]⟩,by rw [HZ.out]; exact HT2.out,uI.out⟩
      case measure=>simp [intOf]; omega
    · have hq:(sgI lk.1 != 0)=true:=ua2 hz;have oH:=HX.out.size;have mP:=y2.size;obtain ⟨v4,w4,ak,t4,O9,Zq,WQ⟩:=(HT.out.ext y2).push (by omega) (oG.out.ext y2) lk.2 (by omega) 23;have Qz:=MW.out hz;have Zi:TsV none w.heap.size w4 v4 (nz (l.take (k+1))):=by rw [Qz]; exact t4
      obtain ⟨A4,c4,rfl,-,-⟩:=Zi.len;have x4:Ext w w4:=Below.grown (HX.out.trans y2) O9 (by omega) (fun bb hb=>(HT.out.own hb).1);have T4:=hid Zi;have X4:=hid x4;clear t4 Zi O9 Zq WQ x4 dE x2 y2 Qz
      go_wp2_with (at_builtin
                   refine wpList_append_run rfl (.tmp 19) (.tmp 21) _ _ rfl _ _ _ _ rfl rfl ak ?_)
      clear ak
      go_roundw
      case rel=>exact ⟨k+1,by omega,by go_num,⟨A4,c4,rfl⟩,T4.out,X4.out⟩
      case measure=>simp [intOf]; omega
  · have dh:l.take k=l:=by rw [show k=l.length by omega,pQ]
    rw [dh] at HT;rw [dh];have kM:=qcy HT.out (py (gcr l) hlen);have HS:=hid kM;clear ht hx kM;go_wp2_with fail;refine HS.out.mono ?_;rintro e w2 ⟨rfl,l',hp,hs,hv,hb,hsz⟩;have hle:=xbx hp HA.out qY.out hs;subst hle;have HV:=hid hv;have X2:Hid (Ext w w2):=Below.trans HX.out hb;clear hp hs hv hb;go_wp2_with fail;go_ret;exact ⟨_,rfl,HV.out,X2.out⟩
def zab : Sp -> Sp -> Sp
 | acc,[]=>acc
 | acc,(c,m) :: r=>zab (if m.qe then kad c m acc else acc) r
theorem zb4 (acc l r:Sp):zab acc (l ++ r)=zab (zab acc l) r:=by
 induction l generalizing acc with
 | nil=>rfl
 | cons x l ih=>obtain ⟨c,m⟩:=x; simp only [rI,zab,ih]
theorem zck (l:Sp) (k:Nat) (hk:k < l.length):zab [] (l.take (k+1))=if l[k].2.qe then kad l[k].1 l[k].2 (zab [] (l.take k)) else zab [] (l.take k):=by
 rw [pC hk,zb4]; rfl
theorem wbl (k : Mo) (hk : k.qe) : ∀ (l acc : Sp), ve (zab acc l) k = ve acc k + ve l k
 | [],acc=>by simp [zab,ve]
 | (c,m) :: r,acc=>by
   rw [zab,wbl k hk r];simp only [ve]
   by_cases hm:m.qe
   · rw [if_pos hm,vct]; omega
   · rw [if_neg hm,if_neg (fun (e:m=k)=>hm (e ▸ hk))]; omega
theorem vbs : ∀ (l acc : Sp), zg (zab acc l) <= zg acc + zg l
 | [],acc=>by simp [zab,zg]
 | (c,m) :: r,acc=>by
   rw [zab];have h1:=vbs r (if m.qe then kad c m acc else acc);have h2:=kc5 c m acc;simp only [zg]
   split at h1 <;> split <;> first | omega | contradiction
theorem ja9 : ∀ (l acc : Sp), (zab acc l).length <= acc.length + l.length
 | [],acc=>by simp [zab]
 | (c,m) :: r,acc=>by
   rw [zab];have h1:=ja9 r (if m.qe then kad c m acc else acc);have h2:=vc5 c m acc;simp only [pH]
   split at h1 <;> split <;> first | omega | contradiction
theorem xbe : ∀ (l acc : Sp), Apart acc -> Apart (zab acc l)
 | [],acc,h=>h
 | (c,m) :: r,acc,h=>by
   rw [zab];refine xbe r _ ?_
   split
   · exact wcj c m acc h
   · exact h
theorem wb3 : ∀ (l acc : Sp), (∀ x ∈ acc, x.2.qe) -> ∀ x ∈ zab acc l, x.2.qe
 | [],acc,h=>h
 | (c,m) :: r,acc,h=>by
   rw [zab];refine wb3 r _ ?_
   split
   · rename_i hm;intro x hx;rcases gb3 hx with e | ⟨y,hy,e⟩
     · rw [e]; exact hm
     · rw [<- e]; exact h y hy
   · exact h
theorem uca (l:Sp):qg (zab [] l)=qg l:=xbc fun k hk=>by rw [wbl k hk]; simp [ve]
theorem gco (l:Sp) (k:Nat):zg (l.take k)<=zg l:=by
 have:zg l=zg (l.take k)+zg (l.drop k):=by rw [<- yaj,wN]
 omega
theorem SpO.less {b b':Nat} {w:World} {v:Value} {l:Sp} (h:SpO b w v l) (hb:b'<=b):SpO b' w v l:=⟨h.1,fun hp=>by
 obtain ⟨g,c,e,h1,h2⟩:=h.2 hp
 exact ⟨g,c,e,py hb h1,h2⟩⟩
def udh (l:Sp) (w:World) (e:Ending) (w':World):Prop:=∃ v,e=.returned v/\SpO w.heap.size w' v l/\Ext w w'
def wa5 (l:Sp) (w:World) (e:Ending) (w':World):Prop:=∃ v,e=.returned v/\SpV w' none v l/\Ext w w'
theorem ua7 {w:World} {ko:Option Nat} {v:Value} {l:Sp} (L:Nat) (h:SpV w ko v l) (hk:∀ z:Int,(∃ x ∈ l,x.1=z)->ko.getD (dg z.natAbs).length<=L) (hL:L+(dg (zg l)).length<=35184372088000) (hlen:l.length<=1099511627776):Calls Tryz.prog 31 #[v] w (udh (qg l) w):=by
 obtain ⟨A,c,rfl,fC,dK,aK⟩:=h;have lF:=hid aK;have HKO:=hid hk;clear aK hk;go_enter Tryz.func31,Tryz.ntmps31;go_wp2_with fail;refine (gbu w).mono ?_;rintro e w1 ⟨rfl,g1,x1⟩;have tN:=hid x1;have HG1:=hid g1;clear g1 x1;go_wp2_with fail
 go_loopw [9] (fun iv wr=>∃ k:Nat,k<=l.length/\iv=.int .i64 k/\Hid ((∃ gv,GaV w.heap.size wr (w.heap.size+1) w.heap.size gv (zab [] (l.take k)))/\Ext w wr)) (fun iv _=>l.length - (intOf iv).toNat)
 case atStart=>exact ⟨0,pZ _,rfl,⟨_,HG1.out⟩,tN.out⟩
 case round =>
  obtain ⟨k,hk,rfl,⟨⟨gv,hg⟩,hx⟩⟩:=hrel;have HG:=hid hg;have HX:=hid hx
  by_cases af:k < l.length
  · obtain ⟨ad,b,B,n,d,rfl,ah,kL,eu⟩:=lF.out.ext hx k af;obtain ⟨t0,t1,t2,t3,t4,t5⟩:=kL;have hs:=hx.size;have SK:=HKO.out l[k].1 ⟨_,pt af,rfl⟩;have Kw:(dg (zg (zab [] (l.take k)))).length<=(dg (zg l)).length:=wu (py (vbs (l.take k) []) (by have:=gco l k; simp only [zg]; omega));have lL:=ja9 (l.take k) [];rw [pA] at lL;simp only [rK] at lL;have aP:=fun W (hW:Ext wr W)=>zc6 (hg.ext hW) l[k].2 (.agg #[.bool b,.slice B n d]) L l[k].1 ((eu.ext hW).raw.mono SK) (by have:=hW.size; omega) (by omega) (by omega)
    rw [<- zck l k af] at aP;have bH:=hid aP;clear aP hg hx eu SK Kw lL;generalize l[k]=lk at *;go_wp2_with fail;refine (bH.out _ ((Ext.refl _).alloc _)).mono ?_;rintro e w2 ⟨rfl,v2,g2,b2,n2,-⟩;have X2:Hid (Ext w w2):=Below.trans (HX.out.alloc _) b2;have G2:=hid g2;clear g2 b2 n2 bH;go_wp2_with fail
    go_roundw
    case rel=>exact ⟨k+1,by omega,by go_num,⟨_,G2.out⟩,X2.out⟩
    case measure=>simp [intOf]; omega
  · have dh:l.take k=l:=by rw [show k=l.length by omega,pQ]
    rw [dh] at HG;have lL:=ja9 l [];simp only [rK] at lL;have aP:=zcr HG.out (xbe l [] List.Pairwise.nil) (wb3 l [] (by simp)) (by omega);rw [uca] at aP;have bH:=hid aP;clear aP hg hx dh;go_wp2_with fail;refine bH.out.mono ?_;rintro e w2 ⟨v2,rfl,s2,x2⟩;have S2:=hid (s2.less HX.out.size);have X2:=hid (HX.out.trans x2);clear s2 x2;go_wp2_with fail;go_ret;exact ⟨_,rfl,S2.out,X2.out⟩
theorem uad {w:World} {ko:Option Nat} {v:Value} {l:Sp} (L:Nat) (h:SpV w ko v l) (hk:∀ z:Int,(∃ x ∈ l,x.1=z)->ko.getD (dg z.natAbs).length<=L) (hL:L+(dg (zg l)).length<=35184372088000) (hlen:l.length<=1099511627776):Calls Tryz.prog 31 #[v] w (wa5 (qg l) w):=
 (ua7 L h hk hL hlen).mono fun _ _ ⟨v,e,hs,hx⟩=>⟨v,e,hs.1,hx⟩
end Go.Proofs.YtcepajijiabkmaaGreat
