/- The library's sort at terms: slices.SortFunc with the order of (*gather).poly: descending monomials. -/
import Derived.Test.YtcepajijiabkmaaGreatMp10
set_option linter.unusedSimpArgs false
set_option linter.unusedVariables false
set_option maxRecDepth 100000
set_option maxHeartbeats 8000000
namespace Go.Proofs.YtcepajijiabkmaaGreat
open Lib (hid)
open Go.RowKit Go.Sort Go.Shelf
structure TmE where
 neg:Bool
 A:Option Addr
 n:Nat
 c:Nat
 z:Int
 mo:Mo
instance:Inhabited TmE:=⟨⟨false,none,0,0,0,Mo.one⟩⟩
def TmE.vc (x:TmE):List Value:=tmC x.neg (.slice x.A x.n x.c) x.mo
def zar (x y:TmE):Int:=vaf y.mo x.mo
theorem ua1 (x y:TmE):ltOf zar x y=decide (y.mo.lt x.mo):=by
 unfold ltOf zar vaf
 by_cases h1:y.mo.lt x.mo
 · rw [if_pos h1]; simp [h1]
 · rw [if_neg h1]
   by_cases h2:x.mo.lt y.mo
   · rw [if_pos h2]; simp [h1]
   · rw [if_neg h2]; simp [h1]
theorem kc2 : SWO (ltOf zar) where
 irrefl x:=by rw [ua1]; simp [Mo.lt_irrefl]
 trans x y z h1 h2:=by
  rw [ua1] at *;simp only [decide_eq_true_eq] at *;exact Mo.lt_trans h2 h1
 ntrans x y z h1 h2:=by
  rw [ua1] at *;simp only [decide_eq_false_iff_not] at *;unfold Mo.lt at *; omega
theorem jb5 (x y:TmE) (W:World):Calls Tryz.prog 82 #[.agg x.vc.toArray,.agg y.vc.toArray] W fun e w'=>e=.returned (.int .i64 (zar x y))/\∃ q os',w'=grow (W.drewN q) os':=by
 unfold zar TmE.vc tmC;have Lj:=fun W'=>zay y.mo x.mo W'
 generalize vaf y.mo x.mo=r at Lj ⊢;have HC:=hid Lj;have HG:Hid (∀ o o' q os,∃ q' os',grow (((W.alloc o).alloc o').drewN q) os=grow (W.drewN q') os'):=fun o o' q os=>⟨q,#[o] ++ #[o'] ++ os,by rw [alloc_eq_grow,alloc_eq_grow,grow_grow,<- grow_grow _ _ os]; rfl⟩
 clear Lj;go_enter Tryz.func82,Tryz.ntmps82;go_wp2_with fail;refine (HC.out _).mono ?_;rintro e w1 ⟨rfl,q,os,rfl⟩;go_wp2_with fail;go_ret;exact ⟨rfl,HG.out _ _ q os⟩
theorem zbw (blk off size:Nat) (w:World):CmpLays Tryz.prog 82 #[] TmE.vc 6 zar blk off size w:=fun _ _ _ _ x y=>jb5 x y _
theorem jb6 (v:Value) (w:World):Calls Tryz.prog 128 #[v,.int .i64 0,.int .i64 0,.func (.func 82) #[] #[]] w fun e w'=>e=.returned (.tuple #[])/\w'=w:=by
 go_enter Tryz.func128,Tryz.ntmps128;go_wp2_with fail;refine wp_loop_rounds 1 ?_;rw [rounds_succ];go_wp2_with fail
 go_end0
 exact ⟨rfl,rfl⟩
theorem zaz (n:Nat) (w:World) (h:n < 4611686018427387904):Calls Tryz.prog 74 #[.int .u64 (n:Int)] w fun e w'=>e=.returned (.int .i64 (Lib.bitLen n:Nat))/\w'=w:=by
 have h:=Go.Proofs.Any.bits_Len (Go.Proofs.SlLaysF0.n15.bits (P:=Tryz.prog) (ρ:=zat) yc5) (n:Int) w (by omega) (by omega)
 rwa [sT] at h
theorem vb5 (v:Value) (limit:Int) (w:World):Calls Tryz.prog 108 #[v,.int .i64 0,.int .i64 0,.int .i64 limit,.func (.func 82) #[] #[]] w fun e w'=>e=.returned (.tuple #[])/\w'=w:=by
 go_enter Tryz.func108,Tryz.ntmps108;go_wp2_with fail;refine wp_loop_rounds 1 ?_;rw [rounds_succ];go_wp2_with fail;refine (jb6 _ _).mono ?_;rintro e w1 ⟨rfl,rfl⟩;go_wp2_with fail;exact bodyPost_ret (results_none rfl _ _ _) rfl ⟨rfl,rfl⟩
theorem zbu (A:Option Addr) (c:Nat) (w:World):Calls Tryz.prog 81 #[.slice A 0 c,.func (.func 82) #[] #[]] w fun e w'=>e=.returned (.tuple #[])/\w'=w:=by
 have wr:IntKind.u64.wrap (0:Int)=0:=by decide
 have hb:=zaz 0 w (by omega);have HB:=hid hb;clear hb;go_enter Tryz.func81,Tryz.ntmps81;go_wp2_with fail;refine HB.out.mono ?_;rintro e w1 ⟨rfl,rfl⟩;go_wp2_with fail;refine (vb5 _ _ _).mono ?_;rintro e w1 ⟨rfl,rfl⟩;go_wp2_with fail
 go_end0
 exact ⟨rfl,rfl⟩
theorem zb4 (blk cap:Nat) (d:Array TmE) (w:World) (hH:HoldsK TmE.vc 6 w blk 0 d) (hblk:blk < w.heap.size) (hsz:d.size < 4611686018427387904) :
 Calls Tryz.prog 81 #[.slice (some ⟨blk,0,none⟩) d.size cap,.func (.func 82) #[] #[]] w fun e w'=>e=.returned (.tuple #[])/\∃ d' n os,PermIn 0 d.size d d'/\SortedIn (ltOf zar) 0 d.size d'/\w'=sortWorldK TmE.vc 6 w blk 0 n d' os:=by
 have aau:Lib.bitLen d.size < 4611686018427387904:=sw (Lib.bitLen_le d.size 62 (by omega) (by omega)) (by omega);have eg:∀ args w,(callFunc 82 args).run Tryz.prog w=.ok (.enter 82 args) w:=enters_of Tryz.func82 (by kernel_rfl) rfl;have hp:=Go.Proofs.AnyQ.pdqsortCmpFunc_all (P:=Tryz.prog) (ρ:=zat) wbt 6 Tryz.isAgg76 Tryz.sizeOf76 TmE.vc zar 82 #[] kc2 blk 0 cap d w eg (zbw blk 0 d.size w) ⟨fun _=>rfl,fun x v hv=>by
  simp only [TmE.vc,tmC,pQ,sM,or_false] at hv
  rcases hv with rfl | rfl | rfl | rfl | rfl | rfl <;> rfl,hH,hblk⟩ (d.size+1) 0 d.size (Lib.bitLen d.size) d w (by omega) rfl (Go.Proofs.SWK.start hH) (pS _) (pj _) hsz aau (Or.inl rfl)
 have hs:=pdq_sorts (ltOf zar) kc2 d 0 d.size (Lib.bitLen d.size) true true (pS _) (pj _) (Or.inl rfl);generalize pdq (ltOf zar) d 0 d.size (Lib.bitLen d.size) true true=d' at hp hs
 change Calls Tryz.prog 108 _ _ _ at hp
 have HP:=hid hp;have HS:=hid hs;have HB:=hid (zaz d.size w hsz);have wr:IntKind.u64.wrap (d.size:Int)=d.size:=by simp [IntKind.wrap,IntKind.bits,IntKind.signed]; omega
 clear hH hp hs eg;go_enter Tryz.func81,Tryz.ntmps81;go_wp2_with fail;refine HB.out.mono ?_;rintro e w1 ⟨rfl,rfl⟩;go_wp2_with fail;refine HP.out.mono ?_;rintro e w1 ⟨rfl,n,os,rfl⟩;go_wp2_with fail
 go_end0
 exact ⟨rfl,d',n,os,HS.out.1,HS.out.2,rfl⟩
def TmE.pair (x:TmE):Int × Mo:=(x.z,x.mo)
theorem ub6 (d:Array TmE) (j:Nat) (hj:j < d.size * 6):(flatK TmE.vc 6 d)[j]! = (tmC d[j / 6]!.neg (.slice d[j / 6]!.A d[j / 6]!.n d[j / 6]!.c) d[j / 6]!.mo)[j % 6]! := by
 rw [get_flatK _ _ _ _ hj]; rfl
def SpO (base:Nat) (w:World) (v:Value) (l:Sp):Prop:=SpV w none v l/\(0 < l.length->∃ g c,v=.slice (some ⟨g,0,none⟩) l.length c/\base<=g/\g < w.heap.size/\∀ i,i < l.length * 6->w.frozen? ⟨g,i,none⟩=false)
theorem wcs {base:Nat} {W:World} {v:Value} {l:Sp} (h:TsV none base W v l) (hlen:l.length<=1099511627776):Calls Tryz.prog 81 #[v,.func (.func 82) #[] #[]] W fun e w'=>e=.returned (.tuple #[])/\∃ l':Sp,l'.Perm l/\(∀ i j (hi:i < l'.length) (hj:j < l'.length),i < j->¬ (l'[i].2).lt l'[j].2)/\SpO base w' v l'/\Below base W w'/\W.heap.size<=w'.heap.size:=by
 obtain ⟨Av,cv,rfl,dP,dC⟩:=h.len
 by_cases h0:l=[]
 · subst h0;refine (zbu _ _ _).mono ?_;rintro e w' ⟨he,rfl⟩;exact ⟨he,[],List.Perm.refl _,fun i j hi=>absurd hi (by simp),⟨⟨Av,cv,rfl,dP,dC,fun i hi=>absurd hi (by simp)⟩,fun h=>absurd h (by simp)⟩,Below.refl _ _,pj _⟩
 have di:0 < l.length:=rA.2 h0;obtain ⟨rs,rfl,hg,eF⟩:=h;rw [px] at di dP hlen;rw [px] at hg;rw [px];obtain ⟨g,c',e,-,-,FK,sN,bG⟩:=hg.pos di;injection e with e1 e2 e3
 subst e1 e3;have hun:∀ r ∈ rs,∃ A n c,r.2.1=.slice A n c:=fun r hr=>by
  obtain ⟨b,A,n,c,e⟩:=(eF r hr).unpack;simp only [tm,tD,so,and_true] at e;exact ⟨A,n,c,e.2⟩
 obtain ⟨es,hes⟩:∃ es:List TmE,es.map (fun x=>(x.neg,Value.slice x.A x.n x.c,x.z,x.mo))=rs:=by
  clear eF hg di dP hlen h0 e2
  induction rs with
  | nil=>exact ⟨[],rfl⟩
  | cons r rs ih =>
    obtain ⟨es,he⟩:=ih (fun r hr=>hun r (by simp [hr]));obtain ⟨A,n,c,e⟩:=hun r (by simp);obtain ⟨b,s,z,m⟩:=r;simp only at e;subst e;exact ⟨⟨b,A,n,c,z,m⟩ :: es,by simp [he]⟩
 have lZ:es.length=rs.length:=by rw [<- hes,px]
 have Ib:∀ i (hi:i < es.length),rs[i]'(by omega)=(es[i].neg,Value.slice es[i].A es[i].n es[i].c,es[i].z,es[i].mo):=fun i hi=>by
  simp only [<- hes,rK]
 have hH:HoldsK TmE.vc 6 W g 0 es.toArray:=by
  intro j hj;rw [size_flatK] at hj;simp only [tP] at hj;have hq:j / 6 < es.length:=tQ (by omega);have hc:=hg.cell j (by omega);have hm:j % 6 < 6:=te _ (by omega);have oH:j / 6 * 6+j % 6=j:=by omega
  have hf:=uax rs (j / 6) (by omega) (j % 6) hm;rw [oH] at hf;rw [hf,Ib _ hq] at hc;refine ⟨?_,bG _⟩;rw [rh,hc,ub6 _ _ (by simpa using hj)];have H9:es.toArray[j / 6]! = es[j / 6]:=by rw [getElem!_pos es.toArray (j / 6) (by simpa using hq)]; simp
  rw [H9];have af:j % 6 < (tmC es[j / 6].neg (.slice es[j / 6].A es[j / 6].n es[j / 6].c) es[j / 6].mo).length:=hm;rw [po af,getElem!_pos (tmC es[j / 6].neg (.slice es[j / 6].A es[j / 6].n es[j / 6].c) es[j / 6].mo) (j % 6) af]
  rfl
 have aO:=zb4 g cv es.toArray W hH sN (by simp; omega);simp only [tP] at aO;rw [lZ] at aO;refine aO.mono ?_;rintro e w' ⟨he,d',n,os,⟨hsz,-,jA⟩,kP,rfl⟩;simp only [tP] at hsz;have qN:d'.toList.Perm es:=by
  rw [RK (by omega)] at jA;have:es.toArray.extract 0 rs.length=es.toArray:=RK (by simp; omega);rw [this] at jA;simpa using jA
 have sK:W.grownBy (sortWorldK TmE.vc 6 W g 0 n d' os) (some g):=by
  refine ⟨rfl,rfl,rfl,?_,fun b hb ax=>?_⟩
  · simp [sortWorldK,grow,putRowK,putRow,mapBlock,Go.Sort.ahead]
  · have Ko:¬ g=b:=fun e=>ax (by rw [e])
    simp [sortWorldK,grow,putRowK,putRow,mapBlock,Go.Sort.ahead,Array.getElem?_append,hb,Array.getElem_modify,Ko]
 have au:∀ v ds,jc W v ds->jc (sortWorldK TmE.vc 6 W g 0 n d' os) v ds:=fun v ds hv=>jat hv (v:=.slice (some ⟨g,0,none⟩) rs.length cv) sK hg.2 (yaf hg.1)
 have XP:HoldsK TmE.vc 6 (sortWorldK TmE.vc 6 W g 0 n d' os) g 0 d':=
  holdsK_grow TmE.vc 6 _ os g 0 d' (by simp only [putRowK,size_putRow]; exact sN) (holdsK_putRowK TmE.vc 6 (Go.Sort.ahead W n) g 0 es.toArray d' (holdsK_ahead TmE.vc 6 W n g 0 es.toArray hH) (by simpa using hsz))
 refine ⟨he,d'.toList.map TmE.pair,?_,?_,?_,?_,?_⟩
 · have h1:=qN.map TmE.pair;have h2:es.map TmE.pair=rs.map (fun r=>r.2.2):=by rw [<- hes,wN]; rfl
   rw [<- h2]; exact h1
 · intro i j hi hj oI;rw [px,Tb] at hi hj;have:=kP i j (pS _) oI (by omega);rw [ua1,decide_eq_false_iff_not] at this;simp only [rK,Array.getElem_toList];rw [getElem!_pos d' i hi,getElem!_pos d' j hj] at this;exact this
 · have AV:(d'.toList.map TmE.pair).length=rs.length:=by rw [px,Tb]; omega
   refine ⟨⟨some ⟨g,0,none⟩,cv,by rw [AV],by omega,dC,fun i hi=>?_⟩,fun _=>⟨g,cv,by rw [AV],FK,pw sN sK.size,fun i hi=>?_⟩⟩;rotate_left
   · rw [AV] at hi;have h1:=(HoldsK.cell XP (show i / 6 < d'.size from tQ (by omega)) (te i (show 0 < 6 by omega))).2;rw [show 0+i / 6 * 6+i % 6=i by omega] at h1;exact h1
   rw [px,Tb] at hi;have aj:=fun c (hc:c < 6)=>(HoldsK.cell XP hi hc).1
   simp only [rh] at aj;have dB:d'[i]! ∈ es:=qN.mem_iff.1 (by rw [getElem!_pos d' i hi]; simp);obtain ⟨k,hk,df⟩:=tj dB;have TZ:=eF rs[k] (pt (by omega));rw [Ib k hk,df] at TZ;have Oh:(d'.toList.map TmE.pair)[i]'(by rw [px,Tb]; exact hi)=(d'[i]!.z,d'[i]!.mo):=by
    rw [rK,Array.getElem_toList,getElem!_pos d' i hi]; rfl
   refine ⟨⟨g,0,none⟩,d'[i]!.neg,d'[i]!.A,d'[i]!.n,d'[i]!.c,rfl,pw sN sK.size,?_,?_⟩
   · rw [zu,rh,Oh];exact ⟨aj 0 (by omega),aj 1 (by omega),aj 2 (by omega),aj 3 (by omega),aj 4 (by omega),aj 5 (by omega)⟩
   · rw [Oh];exact Cf.xl TZ au
 · exact Below.grown (Below.refl _ _) sK (by omega) (fun b e=>by injection e with e; omega)
 · exact sK.size
theorem ubr (w:World):Calls Tryz.prog 53 #[] w fun e w'=>e=.returned (.pointer (some ⟨w.heap.size+1,0,none⟩))/\GaV w.heap.size w' (w.heap.size+1) w.heap.size (.slice none 0 0) []/\Ext w w':=by
 obtain ⟨W,hW⟩:=n_m ((w.alloc (.map #[] 0)).alloc (.cells #[.map (some w.heap.size),.slice none 0 0] 113));have hx1:Ext w (w.alloc (.map #[] 0)):=(Ext.refl w).alloc _;have aN:Ext (w.alloc (.map #[] 0)) W:=by rw [<- hW]; exact (Ext.refl _).alloc _
 have hg:GaV w.heap.size W (w.heap.size+1) w.heap.size (.slice none 0 0) []:=by
  refine ⟨?_,?_,fun i=>?_,(gad.made w).ext aN,TsV.nil _ _ _,⟨by omega,pj _,by omega,by rw [<- hW]; simp⟩,fun R e=>by cases e⟩
  · rw [<- hW]; simp [go_sem]
  · rw [<- hW]; simp [go_sem]
  · rw [<- hW]; simp [go_sem]
 have HG:=hid hg;have HX:=hid (hx1.trans aN);clear hg hx1 aN;have Oo:=@run_makeMap Tryz.prog;go_enter Tryz.func53,Tryz.ntmps53;go_wp2_with fail;go_ret;exact ⟨rfl,HG.out,HX.out⟩
def nz (l:Sp):Sp:=l.filter fun x=>decide (x.1 ≠ 0)
theorem vbw (l:Sp) (k:Nat) (hk:k < l.length) (h:l[k].1=0):nz (l.take (k+1))=nz (l.take k):=by
 unfold nz;rw [pC hk,uE,sB];simp [h]
theorem gb5 (l:Sp) (k:Nat) (hk:k < l.length) (h:l[k].1 ≠ 0):nz (l.take (k+1))=nz (l.take k) ++ [l[k]]:=by
 unfold nz;rw [pC hk,uE,sB];simp [h]
theorem ucm (l:Sp):(nz l).length<=l.length:=uc _ _
theorem uc6 (l:Sp) (k:Mo):je (nz l) k=je l k:=by
 induction l with
 | nil=>rfl
 | cons x r ih =>
   obtain ⟨c,m⟩:=x;unfold nz at ih ⊢;rw [sB]
   by_cases h:c=0
   · rw [if_neg (by simpa using h),ih,je,h]; split <;> omega
   · rw [if_pos (by simpa using h),je,je,ih]
theorem wcc {l l':Sp} (h:l'.Perm l) (k:Mo):je l' k=je l k:=by
 induction h with
 | nil=>rfl
 | cons x _ ih=>obtain ⟨c,m⟩:=x; simp only [je,ih]
 | swap x y l=>obtain ⟨c,m⟩:=x; obtain ⟨d,n⟩:=y; simp only [je]; omega
 | trans _ _ ih1 ih2=>exact ih1.trans ih2
theorem wc5 {l:Sp} (h0:∀ x ∈ l,x.1 ≠ 0) (h:l.Pairwise fun x y=>y.2.lt x.2):yt l:=by
 induction l with
 | nil=>exact trivial
 | cons x r ih =>
   obtain ⟨c,m⟩:=x;rw [tE] at h;exact ⟨h0 (c,m) (by simp),fun y hy=>h.1 y hy,ih (fun y hy=>h0 y (by simp [hy])) h.2⟩
theorem gbt {l l':Sp} (hp:l'.Perm (nz l)) (ha:Apart l) (hn:∀ x ∈ l,x.2.qe) (hs:∀ i j (hi:i < l'.length) (hj:j < l'.length),i < j->¬ (l'[i].2).lt l'[j].2):l'=xg l:=by
 have dB:∀ x ∈ l',x ∈ l/\x.1 ≠ 0:=fun x hx=>by
  have:=hp.mem_iff.1 hx;unfold nz at this;obtain ⟨h1,h2⟩:=sq.1 this;exact ⟨h1,by simpa using h2⟩
 have Lr:Apart l':=by
  unfold Apart at ha ⊢;have h1:(nz l).Pairwise fun x y=>x.2 ≠ y.2:=List.Pairwise.filter _ ha
  exact (hp.pairwise_iff (fun {x y} h=>fun e=>h e.symm)).2 h1
 have hpw:l'.Pairwise fun x y=>y.2.lt x.2:=by
  rw [List.pairwise_iff_getElem];unfold Apart at Lr;rw [List.pairwise_iff_getElem] at Lr;intro i j hi hj oI;rcases Mo.qbG l'[i].2 l'[j].2 with h | h | h
  · exact absurd h (hs i j hi hj oI)
  · exact absurd h (Lr i j hi hj oI)
  · exact h
 exact zct (wc5 (fun x hx=>(dB x hx).2) hpw) (fun x hx=>hn x (dB x hx).1) (fun k _=>by rw [wcc hp,uc6])
theorem zcm {base G M:Nat} {v:Value} {l:Sp} {w:World} (h:GaV base w G M v l) (ha:Apart l) (nD:∀ x ∈ l,x.2.qe) (hlen:l.length<=1099511627776):Calls Tryz.prog 55 #[.pointer (some ⟨G,0,none⟩)] w fun e w'=>∃ v',e=.returned v'/\SpO w.heap.size w' v' (xg l)/\Ext w w':=by
 obtain ⟨g0,g1,gf,-,gt,-,-⟩:=h;obtain ⟨At,ct,e,dP,dC,aK⟩:=gt.sp;subst e;have lQ:=hid aK;have HA:=hid ha;have qZ:=hid nD;clear aK gt ha nD gf;go_enter Tryz.func55,Tryz.ntmps55;go_wp2_with fail
 go_loopw [3,11] (fun rv iv wr=>∃ k:Nat,k<=l.length/\iv=.int .i64 k/\(∃ Ak ck,rv=.slice Ak (nz (l.take k)).length ck)/\Hid (TsV none w.heap.size wr rv (nz (l.take k))/\Ext w wr)) (fun _ iv _=>l.length - (intOf iv).toNat)
 case atStart=>exact ⟨0,pS _,rfl,⟨none,0,rfl⟩,TsV.nil _ _ _,Ext.refl _⟩
 case round =>
  obtain ⟨k,hk,rfl,⟨Ak,ck,rfl⟩,⟨ht,hx⟩⟩:=hrel;have HT:=hid ht;have HX:=hid hx
  by_cases af:k < l.length
  · obtain ⟨ad,b,B,n,c,rfl,ah,kN,eF⟩:=lQ.out.ext hx k af;obtain ⟨t0,t1,t2,t3,t4,t5⟩:=kN;have ou:=hid eF;have aiD:(nz (l.take k)).length<=k:=by have:=ucm (l.take k); rw [pA] at this; omega
    have HTZ:=hid (vbw l k af);have MN:=hid (gb5 l k af);have xZ:Hid (l[k]=(l[k].1,l[k].2)):=rfl;clear ht hx eF;generalize l[k]=lk at *;go_wp2_with fail;refine (vau _ lk.1 _ _ ((Cf.raw ou.out).ext ((Ext.refl _).alloc _))).mono ?_;rintro e w2 ⟨rfl,x2⟩;have y2:Ext wr w2:=((Ext.refl wr).alloc _).trans x2;have dE:∀ i,w2.cell? ⟨wr.heap.size,i,none⟩=(wr.alloc (.cells #[.bool b,.slice B n c,.int .i64 lk.2.a,.int .i64 lk.2.b,.int .i64 lk.2.c,.int .i64 lk.2.d] 76)).cell? ⟨wr.heap.size,i,none⟩:=fun i=>x2.cell (p:=⟨wr.heap.size,i,none⟩) (by simp)
    have e0:w2.cell? ⟨wr.heap.size,0,none⟩=some (.bool b):=by rw [dE]; simp [go_sem]
    have e1:w2.cell? ⟨wr.heap.size,1,none⟩=some (.slice B n c):=by rw [dE]; simp [go_sem]
    have e2:w2.cell? ⟨wr.heap.size,2,none⟩=some (.int .i64 lk.2.a):=by rw [dE]; simp [go_sem]
    have e3:w2.cell? ⟨wr.heap.size,3,none⟩=some (.int .i64 lk.2.b):=by rw [dE]; simp [go_sem]
    have e4:w2.cell? ⟨wr.heap.size,4,none⟩=some (.int .i64 lk.2.c):=by rw [dE]; simp [go_sem]
    have e5:w2.cell? ⟨wr.heap.size,5,none⟩=some (.int .i64 lk.2.d):=by rw [dE]; simp [go_sem]
    by_cases hz:lk.1=0
    · have hq:(sgI lk.1 != 0)=false:=by rw [hz]; rfl
      have HT2:Hid (TsV none w.heap.size w2 (.slice Ak (nz (l.take k)).length ck) (nz (l.take k))):=HT.out.ext y2;have oP:=hid (HX.out.trans y2);have HZ:=hid (HTZ.out hz);clear dE x2 y2;go_wp2_with fail
      go_roundw
      case rel=>exact ⟨k+1,by omega,by go_num,⟨Ak,ck,by rw [HZ.out]⟩,by rw [HZ.out]; exact HT2.out,oP.out⟩
      case measure=>simp [intOf]; omega
    · have hq:(sgI lk.1 != 0)=true:=ga0 hz;have oz:=HX.out.size;have mM:=y2.size;obtain ⟨v4,w4,ak,t4,O5,Zl,WQ⟩:=(HT.out.ext y2).push (by omega) (ou.out.ext y2) lk.2 (by omega) 23;have Qy:=MN.out hz;have Zd:TsV none w.heap.size w4 v4 (nz (l.take (k+1))):=by rw [Qy]; exact t4
      obtain ⟨A4,c4,rfl,-,-⟩:=Zd.len;have x4:Ext w w4:=Below.grown (HX.out.trans y2) O5 (by omega) (fun bb hb=>(HT.out.own hb).1);have T4:=hid Zd;have X4:=hid x4;clear t4 Zd O5 Zl WQ x4 dE x2 y2 Qy
      go_wp2_with (at_builtin
                   refine wpList_append_run rfl (.tmp 19) (.tmp 21) _ _ rfl _ _ _ _ rfl rfl ak ?_)
      clear ak
      go_roundw
      case rel=>exact ⟨k+1,by omega,by go_num,⟨A4,c4,rfl⟩,T4.out,X4.out⟩
      case measure=>simp [intOf]; omega
  · have df:l.take k=l:=by rw [show k=l.length by omega,pP]
    rw [df] at HT;rw [df];have kP:=wcs HT.out (py (ucm l) hlen);have HS:=hid kP;clear ht hx kP;go_wp2_with fail;refine HS.out.mono ?_;rintro e w2 ⟨rfl,l',hp,hs,hv,hb,hsz⟩;have hle:=gbt hp HA.out qZ.out hs;subst hle;have HV:=hid hv;have X2:Hid (Ext w w2):=Below.trans HX.out hb;clear hp hs hv hb;go_wp2_with fail;go_ret;exact ⟨_,rfl,HV.out,X2.out⟩
def yaa : Sp -> Sp -> Sp
 | acc,[]=>acc
 | acc,(c,m) :: r=>yaa (if m.qe then vac c m acc else acc) r
theorem zbz (acc l r:Sp):yaa acc (l ++ r)=yaa (yaa acc l) r:=by
 induction l generalizing acc with
 | nil=>rfl
 | cons x l ih=>obtain ⟨c,m⟩:=x; simp only [rI,yaa,ih]
theorem vcf (l:Sp) (k:Nat) (hk:k < l.length):yaa [] (l.take (k+1))=if l[k].2.qe then vac l[k].1 l[k].2 (yaa [] (l.take k)) else yaa [] (l.take k):=by
 rw [pC hk,zbz]; rfl
theorem vbi (k : Mo) (hk : k.qe) : ∀ (l acc : Sp), je (yaa acc l) k = je acc k + je l k
 | [],acc=>by simp [yaa,je]
 | (c,m) :: r,acc=>by
   rw [yaa,vbi k hk r];simp only [je]
   by_cases hm:m.qe
   · rw [if_pos hm,jco]; omega
   · rw [if_neg hm,if_neg (fun (e:m=k)=>hm (e ▸ hk))]; omega
theorem ubp : ∀ (l acc : Sp), zg (yaa acc l) <= zg acc + zg l
 | [],acc=>by simp [yaa,zg]
 | (c,m) :: r,acc=>by
   rw [yaa];have h1:=ubp r (if m.qe then vac c m acc else acc);have h2:=ycy c m acc;simp only [zg]
   split at h1 <;> split <;> first | omega | contradiction
theorem qa7 : ∀ (l acc : Sp), (yaa acc l).length <= acc.length + l.length
 | [],acc=>by simp [yaa]
 | (c,m) :: r,acc=>by
   rw [yaa];have h1:=qa7 r (if m.qe then vac c m acc else acc);have h2:=xcy c m acc;simp only [pL]
   split at h1 <;> split <;> first | omega | contradiction
theorem wbb : ∀ (l acc : Sp), Apart acc -> Apart (yaa acc l)
 | [],acc,h=>h
 | (c,m) :: r,acc,h=>by
   rw [yaa];refine wbb r _ ?_
   split
   · exact kcf c m acc h
   · exact h
theorem wby : ∀ (l acc : Sp), (∀ x ∈ acc, x.2.qe) -> ∀ x ∈ yaa acc l, x.2.qe
 | [],acc,h=>h
 | (c,m) :: r,acc,h=>by
   rw [yaa];refine wby r _ ?_
   split
   · rename_i hm;intro x hx;rcases gby hx with e | ⟨y,hy,e⟩
     · rw [e]; exact hm
     · rw [<- e]; exact h y hy
   · exact h
theorem vb6 (l:Sp):xg (yaa [] l)=xg l:=zba fun k hk=>by rw [vbi k hk]; simp [je]
theorem yck (l:Sp) (k:Nat):zg (l.take k)<=zg l:=by
 have:zg l=zg (l.take k)+zg (l.drop k):=by rw [<- wah,wj]
 omega
theorem SpO.less {b b':Nat} {w:World} {v:Value} {l:Sp} (h:SpO b w v l) (hb:b'<=b):SpO b' w v l:=⟨h.1,fun hp=>by
 obtain ⟨g,c,e,h1,h2⟩:=h.2 hp
 exact ⟨g,c,e,py hb h1,h2⟩⟩
def qdc (l:Sp) (w:World) (e:Ending) (w':World):Prop:=∃ v,e=.returned v/\SpO w.heap.size w' v l/\Ext w w'
def ya4 (l:Sp) (w:World) (e:Ending) (w':World):Prop:=∃ v,e=.returned v/\SpV w' none v l/\Ext w w'
theorem ga5 {w:World} {ko:Option Nat} {v:Value} {l:Sp} (L:Nat) (h:SpV w ko v l) (hk:∀ z:Int,(∃ x ∈ l,x.1=z)->ko.getD (dg z.natAbs).length<=L) (hL:L+(dg (zg l)).length<=35184372088000) (hlen:l.length<=1099511627776):Calls Tryz.prog 31 #[v] w (qdc (xg l) w):=by
 obtain ⟨A,c,rfl,dP,dC,aK⟩:=h;have lQ:=hid aK;have HKO:=hid hk;clear aK hk;go_enter Tryz.func31,Tryz.ntmps31;go_wp2_with fail;refine (ubr w).mono ?_;rintro e w1 ⟨rfl,g1,x1⟩;have tK:=hid x1;have HG1:=hid g1;clear g1 x1;go_wp2_with fail
 go_loopw [9] (fun iv wr=>∃ k:Nat,k<=l.length/\iv=.int .i64 k/\Hid ((∃ gv,GaV w.heap.size wr (w.heap.size+1) w.heap.size gv (yaa [] (l.take k)))/\Ext w wr)) (fun iv _=>l.length - (intOf iv).toNat)
 case atStart=>exact ⟨0,pS _,rfl,⟨_,HG1.out⟩,tK.out⟩
 case round =>
  obtain ⟨k,hk,rfl,⟨⟨gv,hg⟩,hx⟩⟩:=hrel;have HG:=hid hg;have HX:=hid hx
  by_cases af:k < l.length
  · obtain ⟨ad,b,B,n,d,rfl,ah,kN,eF⟩:=lQ.out.ext hx k af;obtain ⟨t0,t1,t2,t3,t4,t5⟩:=kN;have hs:=hx.size;have SK:=HKO.out l[k].1 ⟨_,pt af,rfl⟩;have J9:(dg (zg (yaa [] (l.take k)))).length<=(dg (zg l)).length:=yu (py (ubp (l.take k) []) (by have:=yck l k; simp only [zg]; omega));have lK:=qa7 (l.take k) [];rw [pA] at lK;simp only [r8] at lK;have aO:=fun W (hW:Ext wr W)=>vcy (hg.ext hW) l[k].2 (.agg #[.bool b,.slice B n d]) L l[k].1 ((eF.ext hW).raw.mono SK) (by have:=hW.size; omega) (by omega) (by omega)
    rw [<- vcf l k af] at aO;have bH:=hid aO;clear aO hg hx eF SK J9 lK;generalize l[k]=lk at *;go_wp2_with fail;refine (bH.out _ ((Ext.refl _).alloc _)).mono ?_;rintro e w2 ⟨rfl,v2,g2,b2,n2,-⟩;have X2:Hid (Ext w w2):=Below.trans (HX.out.alloc _) b2;have G2:=hid g2;clear g2 b2 n2 bH;go_wp2_with fail
    go_roundw
    case rel=>exact ⟨k+1,by omega,by go_num,⟨_,G2.out⟩,X2.out⟩
    case measure=>simp [intOf]; omega
  · have df:l.take k=l:=by rw [show k=l.length by omega,pP]
    rw [df] at HG;have lK:=qa7 l [];simp only [r8] at lK;have aO:=zcm HG.out (wbb l [] List.Pairwise.nil) (wby l [] (by simp)) (by omega);rw [vb6] at aO;have bH:=hid aO;clear aO hg hx df;go_wp2_with fail;refine bH.out.mono ?_;rintro e w2 ⟨v2,rfl,s2,x2⟩;have S2:=hid (s2.less HX.out.size);have X2:=hid (HX.out.trans x2);clear s2 x2;go_wp2_with fail;go_ret;exact ⟨_,rfl,S2.out,X2.out⟩
theorem gac {w:World} {ko:Option Nat} {v:Value} {l:Sp} (L:Nat) (h:SpV w ko v l) (hk:∀ z:Int,(∃ x ∈ l,x.1=z)->ko.getD (dg z.natAbs).length<=L) (hL:L+(dg (zg l)).length<=35184372088000) (hlen:l.length<=1099511627776):Calls Tryz.prog 31 #[v] w (ya4 (xg l) w):=
 (ga5 L h hk hL hlen).mono fun _ _ ⟨v,e,hs,hx⟩=>⟨v,e,hs.1,hx⟩
end Go.Proofs.YtcepajijiabkmaaGreat
