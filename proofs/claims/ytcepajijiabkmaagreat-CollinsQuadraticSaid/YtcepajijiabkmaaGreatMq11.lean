/- The library's sort at terms: slices.SortFunc with the order of (*gather).poly: descending monomials. -/
import Derived.Test.YtcepajijiabkmaaGreatMq10
set_option linter.unusedSimpArgs false
set_option linter.unusedVariables false
set_option maxRecDepth 100000
set_option maxHeartbeats 8000000
namespace Go.Proofs.YtcepajijiabkmaaGreat
open Lib (hid)
open Go.RowKit Go.Sort Go.Shelf
structure TmE where
 neg:Bool
 A:Option Addr
 n:Nat
 c:Nat
 z:Int
 mo:Mo
instance:Inhabited TmE:=⟨⟨false,none,0,0,0,Mo.one⟩⟩
def TmE.enc (x:TmE):List Value:=tmC x.neg (.slice x.A x.n x.c) x.mo
def wao (x y:TmE):Int:=jae y.mo x.mo
theorem uaz (x y:TmE):ltOf wao x y=decide (y.mo.lt x.mo):=by
 unfold ltOf wao jae
 by_cases h1:y.mo.lt x.mo
 · rw [if_pos h1]; simp [h1]
 · rw [if_neg h1]
   by_cases h2:x.mo.lt y.mo
   · rw [if_pos h2]; simp [h1]
   · rw [if_neg h2]; simp [h1]
theorem kcx : SWO (ltOf wao) where
 irrefl x:=by rw [uaz]; simp [Mo.lt_irrefl]
 trans x y z h1 h2:=by
  rw [uaz] at *;simp only [decide_eq_true_eq] at *;exact Mo.lt_trans h2 h1
 ntrans x y z h1 h2:=by
  rw [uaz] at *;simp only [decide_eq_false_iff_not] at *;unfold Mo.lt at *; omega
theorem zb2 (x y:TmE) (W:World):Calls Tryz.prog 82 #[.agg x.enc.toArray,.agg y.enc.toArray] W fun e w'=>e=.returned (.int .i64 (wao x y))/\∃ q os',w'=grow (W.drewN q) os':=by
 unfold wao TmE.enc tmC;have Jc:=fun W'=>qaw y.mo x.mo W'
 generalize jae y.mo x.mo=r at Jc ⊢;have HC:=hid Jc;have HG:Hid (∀ o o' q os,∃ q' os',grow (((W.alloc o).alloc o').drewN q) os=grow (W.drewN q') os'):=fun o o' q os=>⟨q,#[o] ++ #[o'] ++ os,by rw [alloc_eq_grow,alloc_eq_grow,grow_grow,<- grow_grow _ _ os]; rfl⟩
 clear Jc;go_enter Tryz.func82,Tryz.ntmps82;go_wp2_with fail;refine (HC.out _).mono ?_;rintro e w1 ⟨rfl,q,os,rfl⟩;go_wp2_with fail;go_ret;exact ⟨rfl,HG.out _ _ q os⟩
theorem kbt (blk off size:Nat) (w:World):CmpLays Tryz.prog 82 #[] TmE.enc 6 wao blk off size w:=fun _ _ _ _ x y=>zb2 x y _
theorem jb3 (v:Value) (w:World):Calls Tryz.prog 128 #[v,.int .i64 0,.int .i64 0,.func (.func 82) #[] #[]] w fun e w'=>e=.returned (.tuple #[])/\w'=w:=by
 go_enter Tryz.func128,Tryz.ntmps128;go_wp2_with fail;refine wp_loop_rounds 1 ?_;rw [rounds_succ];go_wp2_with fail
 go_end0
 exact ⟨rfl,rfl⟩
theorem yax (n:Nat) (w:World) (h:n < 4611686018427387904):Calls Tryz.prog 74 #[.int .u64 (n:Int)] w fun e w'=>e=.returned (.int .i64 (Lib.bitLen n:Nat))/\w'=w:=by
 have h:=Go.Proofs.Any.bits_Len (Go.Proofs.SlLaysF0.n15.bits (P:=Tryz.prog) (ρ:=vaq) qcz) (n:Int) w (by omega) (by omega)
 rwa [Int.toNat_natCast] at h
theorem jb2 (v:Value) (limit:Int) (w:World):Calls Tryz.prog 108 #[v,.int .i64 0,.int .i64 0,.int .i64 limit,.func (.func 82) #[] #[]] w fun e w'=>e=.returned (.tuple #[])/\w'=w:=by
 go_enter Tryz.func108,Tryz.ntmps108;go_wp2_with fail;refine wp_loop_rounds 1 ?_;rw [rounds_succ];go_wp2_with fail;refine (jb3 _ _).mono ?_;rintro e w1 ⟨rfl,rfl⟩;go_wp2_with fail;exact bodyPost_ret (results_none rfl _ _ _) rfl ⟨rfl,rfl⟩
theorem qbr (A:Option Addr) (c:Nat) (w:World):Calls Tryz.prog 81 #[.slice A 0 c,.func (.func 82) #[] #[]] w fun e w'=>e=.returned (.tuple #[])/\w'=w:=by
 have wr:IntKind.u64.wrap (0:Int)=0:=by decide
 have hb:=yax 0 w (by omega);have HB:=hid hb;clear hb;go_enter Tryz.func81,Tryz.ntmps81;go_wp2_with fail;refine HB.out.mono ?_;rintro e w1 ⟨rfl,rfl⟩;go_wp2_with fail;refine (jb2 _ _ _).mono ?_;rintro e w1 ⟨rfl,rfl⟩;go_wp2_with fail
 go_end0
 exact ⟨rfl,rfl⟩
theorem yb0 (blk cap:Nat) (d:Array TmE) (w:World) (hH:HoldsK TmE.enc 6 w blk 0 d) (iQ:blk < w.heap.size) (hsz:d.size < 4611686018427387904) :
 Calls Tryz.prog 81 #[.slice (some ⟨blk,0,none⟩) d.size cap,.func (.func 82) #[] #[]] w fun e w'=>e=.returned (.tuple #[])/\∃ d' n os,PermIn 0 d.size d d'/\SortedIn (ltOf wao) 0 d.size d'/\w'=sortWorldK TmE.enc 6 w blk 0 n d' os:=by
 have Xh:Lib.bitLen d.size < 4611686018427387904:=Nat.lt_of_le_of_lt (Lib.bitLen_le d.size 62 (by omega) (by omega)) (by omega);have eg:∀ args w,(callFunc 82 args).run Tryz.prog w=.ok (.enter 82 args) w:=enters_of Tryz.func82 (by kernel_rfl) rfl;have hp:=Go.Proofs.AnyQ.pdqsortCmpFunc_all (P:=Tryz.prog) (ρ:=vaq) xbr 6 Tryz.isAgg76 Tryz.sizeOf76 TmE.enc wao 82 #[] kcx blk 0 cap d w eg (kbt blk 0 d.size w) ⟨fun _=>rfl,fun x v hv=>by
  simp only [TmE.enc,tmC,List.mem_cons,List.not_mem_nil,or_false] at hv
  rcases hv with rfl | rfl | rfl | rfl | rfl | rfl <;> rfl,hH,iQ⟩ (d.size+1) 0 d.size (Lib.bitLen d.size) d w (by omega) rfl (Go.Proofs.SWK.start hH) (Nat.zero_le _) (Nat.le_refl _) hsz Xh (Or.inl rfl)
 have hs:=pdq_sorts (ltOf wao) kcx d 0 d.size (Lib.bitLen d.size) true true (Nat.zero_le _) (Nat.le_refl _) (Or.inl rfl);generalize pdq (ltOf wao) d 0 d.size (Lib.bitLen d.size) true true=d' at hp hs
 change Calls Tryz.prog 108 _ _ _ at hp
 have HP:=hid hp;have HS:=hid hs;have HB:=hid (yax d.size w hsz);have wr:IntKind.u64.wrap (d.size:Int)=d.size:=by simp [IntKind.wrap,IntKind.bits,IntKind.signed]; omega
 clear hH hp hs eg;go_enter Tryz.func81,Tryz.ntmps81;go_wp2_with fail;refine HB.out.mono ?_;rintro e w1 ⟨rfl,rfl⟩;go_wp2_with fail;refine HP.out.mono ?_;rintro e w1 ⟨rfl,n,os,rfl⟩;go_wp2_with fail
 go_end0
 exact ⟨rfl,d',n,os,HS.out.1,HS.out.2,rfl⟩
def TmE.pair (x:TmE):Int × Mo:=(x.z,x.mo)
theorem ub3 (d:Array TmE) (j:Nat) (hj:j < d.size * 6):(flatK TmE.enc 6 d)[j]! = (tmC d[j / 6]!.neg (.slice d[j / 6]!.A d[j / 6]!.n d[j / 6]!.c) d[j / 6]!.mo)[j % 6]! := by
 rw [get_flatK _ _ _ _ hj]; rfl
def SpO (base:Nat) (w:World) (v:Value) (l:Sp):Prop:=SpV w none v l/\(0 < l.length->∃ g c,v=.slice (some ⟨g,0,none⟩) l.length c/\base<=g/\g < w.heap.size/\∀ i,i < l.length * 6->w.frozen? ⟨g,i,none⟩=false)
theorem xcp {base:Nat} {W:World} {v:Value} {l:Sp} (h:TsV none base W v l) (hlen:l.length<=1099511627776):Calls Tryz.prog 81 #[v,.func (.func 82) #[] #[]] W fun e w'=>e=.returned (.tuple #[])/\∃ l':Sp,l'.Perm l/\(∀ i j (hi:i < l'.length) (hj:j < l'.length),i < j->¬ (l'[i].2).lt l'[j].2)/\SpO base w' v l'/\Below base W w'/\W.heap.size<=w'.heap.size:=by
 obtain ⟨Av,cv,rfl,dY,dK⟩:=h.len
 by_cases h0:l=[]
 · subst h0;refine (qbr _ _ _).mono ?_;rintro e w' ⟨he,rfl⟩;exact ⟨he,[],List.Perm.refl _,fun i j hi=>absurd hi (by simp),⟨⟨Av,cv,rfl,dY,dK,fun i hi=>absurd hi (by simp)⟩,fun h=>absurd h (by simp)⟩,Below.refl _ _,Nat.le_refl _⟩
 have dh:0 < l.length:=List.length_pos_iff.2 h0;obtain ⟨rs,rfl,hg,dE⟩:=h;rw [List.length_map] at dh dY hlen;rw [List.length_map] at hg;rw [List.length_map];obtain ⟨g,c',e,-,-,FI,qH,bu⟩:=hg.pos dh;injection e with e1 e2 e3
 subst e1 e3;have hun:∀ r ∈ rs,∃ A n c,r.2.1=.slice A n c:=fun r hr=>by
  obtain ⟨b,A,n,c,e⟩:=(dE r hr).unpack;simp only [Value.agg.injEq,Array.mk.injEq,List.cons.injEq,and_true] at e;exact ⟨A,n,c,e.2⟩
 obtain ⟨es,XN⟩:∃ es:List TmE,es.map (fun x=>(x.neg,Value.slice x.A x.n x.c,x.z,x.mo))=rs:=by
  clear dE hg dh dY hlen h0 e2
  induction rs with
  | nil=>exact ⟨[],rfl⟩
  | cons r rs ih =>
    obtain ⟨es,he⟩:=ih (fun r hr=>hun r (by simp [hr]));obtain ⟨A,n,c,e⟩:=hun r (by simp);obtain ⟨b,s,z,m⟩:=r;simp only at e;subst e;exact ⟨⟨b,A,n,c,z,m⟩ :: es,by simp [he]⟩
 have lT:es.length=rs.length:=by rw [<- XN,List.length_map]
 have Fq:∀ i (hi:i < es.length),rs[i]'(by omega)=(es[i].neg,Value.slice es[i].A es[i].n es[i].c,es[i].z,es[i].mo):=fun i hi=>by
  simp only [<- XN,List.getElem_map]
 have hH:HoldsK TmE.enc 6 W g 0 es.toArray:=by
  intro j hj;rw [size_flatK] at hj;simp only [List.size_toArray] at hj;have hq:j / 6 < es.length:=Nat.div_lt_of_lt_mul (by omega);have hc:=hg.cell j (by omega);have hm:j % 6 < 6:=Nat.mod_lt _ (by omega);have lQ:j / 6 * 6+j % 6=j:=by omega
  have hf:=yaw rs (j / 6) (by omega) (j % 6) hm;rw [lQ] at hf;rw [hf,Fq _ hq] at hc;refine ⟨?_,bu _⟩;rw [Nat.zero_add,hc,ub3 _ _ (by simpa using hj)];have Lm:es.toArray[j / 6]! = es[j / 6]:=by rw [getElem!_pos es.toArray (j / 6) (by simpa using hq)]; simp
  rw [Lm];have af:j % 6 < (tmC es[j / 6].neg (.slice es[j / 6].A es[j / 6].n es[j / 6].c) es[j / 6].mo).length:=hm;rw [List.getElem?_eq_getElem af,getElem!_pos (tmC es[j / 6].neg (.slice es[j / 6].A es[j / 6].n es[j / 6].c) es[j / 6].mo) (j % 6) af]
  rfl
 have aJ:=yb0 g cv es.toArray W hH qH (by simp; omega);simp only [List.size_toArray] at aJ;rw [lT] at aJ;refine aJ.mono ?_;rintro e w' ⟨he,d',n,os,⟨hsz,-,fU⟩,jB,rfl⟩;simp only [List.size_toArray] at hsz;have oG:d'.toList.Perm es:=by
  rw [Array.extract_eq_self_of_le (by omega)] at fU;have:es.toArray.extract 0 rs.length=es.toArray:=Array.extract_eq_self_of_le (by simp; omega);rw [this] at fU;simpa using fU
 have qG:W.grownBy (sortWorldK TmE.enc 6 W g 0 n d' os) (some g):=by
  refine ⟨rfl,rfl,rfl,?_,fun b hb au=>?_⟩
  · simp [sortWorldK,grow,putRowK,putRow,mapBlock,Go.Sort.ahead]
  · have Io:¬ g=b:=fun e=>au (by rw [e])
    simp [sortWorldK,grow,putRowK,putRow,mapBlock,Go.Sort.ahead,Array.getElem?_append,hb,Array.getElem_modify,Io]
 have ak:∀ v ds,jb W v ds->jb (sortWorldK TmE.enc 6 W g 0 n d' os) v ds:=fun v ds hv=>xar hv (v:=.slice (some ⟨g,0,none⟩) rs.length cv) qG hg.2 (yae hg.1)
 have UG:HoldsK TmE.enc 6 (sortWorldK TmE.enc 6 W g 0 n d' os) g 0 d':=
  holdsK_grow TmE.enc 6 _ os g 0 d' (by simp only [putRowK,size_putRow]; exact qH) (holdsK_putRowK TmE.enc 6 (Go.Sort.ahead W n) g 0 es.toArray d' (holdsK_ahead TmE.enc 6 W n g 0 es.toArray hH) (by simpa using hsz))
 refine ⟨he,d'.toList.map TmE.pair,?_,?_,?_,?_,?_⟩
 · have h1:=oG.map TmE.pair;have h2:es.map TmE.pair=rs.map (fun r=>r.2.2):=by rw [<- XN,List.map_map]; rfl
   rw [<- h2]; exact h1
 · intro i j hi hj oL;rw [List.length_map,Array.length_toList] at hi hj;have:=jB i j (Nat.zero_le _) oL (by omega);rw [uaz,decide_eq_false_iff_not] at this;simp only [List.getElem_map,Array.getElem_toList];rw [getElem!_pos d' i hi,getElem!_pos d' j hj] at this;exact this
 · have yN:(d'.toList.map TmE.pair).length=rs.length:=by rw [List.length_map,Array.length_toList]; omega
   refine ⟨⟨some ⟨g,0,none⟩,cv,by rw [yN],by omega,dK,fun i hi=>?_⟩,fun _=>⟨g,cv,by rw [yN],FI,Nat.lt_of_lt_of_le qH qG.size,fun i hi=>?_⟩⟩;rotate_left
   · rw [yN] at hi;have h1:=(HoldsK.cell UG (show i / 6 < d'.size from Nat.div_lt_of_lt_mul (by omega)) (Nat.mod_lt i (show 0 < 6 by omega))).2;rw [show 0+i / 6 * 6+i % 6=i by omega] at h1;exact h1
   rw [List.length_map,Array.length_toList] at hi;have ai:=fun c (hc:c < 6)=>(HoldsK.cell UG hi hc).1
   simp only [Nat.zero_add] at ai;have bP:d'[i]! ∈ es:=oG.mem_iff.1 (by rw [getElem!_pos d' i hi]; simp);obtain ⟨k,hk,bV⟩:=List.getElem_of_mem bP;have Qj:=dE rs[k] (List.getElem_mem (by omega));rw [Fq k hk,bV] at Qj;have KU:(d'.toList.map TmE.pair)[i]'(by rw [List.length_map,Array.length_toList]; exact hi)=(d'[i]!.z,d'[i]!.mo):=by
    rw [List.getElem_map,Array.getElem_toList,getElem!_pos d' i hi]; rfl
   refine ⟨⟨g,0,none⟩,d'[i]!.neg,d'[i]!.A,d'[i]!.n,d'[i]!.c,rfl,Nat.lt_of_lt_of_le qH qG.size,?_,?_⟩
   · rw [uq,Nat.zero_add,KU];exact ⟨ai 0 (by omega),ai 1 (by omega),ai 2 (by omega),ai 3 (by omega),ai 4 (by omega),ai 5 (by omega)⟩
   · rw [KU];exact Cf.turn Qj ak
 · exact Below.grown (Below.refl _ _) qG (by omega) (fun b e=>by injection e with e; omega)
 · exact qG.size
theorem vbo (w:World):Calls Tryz.prog 53 #[] w fun e w'=>e=.returned (.pointer (some ⟨w.heap.size+1,0,none⟩))/\GaV w.heap.size w' (w.heap.size+1) w.heap.size (.slice none 0 0) []/\Ext w w':=by
 obtain ⟨W,hW⟩:=n_m ((w.alloc (.map #[] 0)).alloc (.cells #[.map (some w.heap.size),.slice none 0 0] 113));have hx1:Ext w (w.alloc (.map #[] 0)):=(Ext.refl w).alloc _;have aO:Ext (w.alloc (.map #[] 0)) W:=by rw [<- hW]; exact (Ext.refl _).alloc _
 have hg:GaV w.heap.size W (w.heap.size+1) w.heap.size (.slice none 0 0) []:=by
  refine ⟨?_,?_,fun i=>?_,(wac.made w).ext aO,TsV.nil _ _ _,⟨by omega,Nat.le_refl _,by omega,by rw [<- hW]; simp⟩,fun R e=>by cases e⟩
  · rw [<- hW]; simp [go_sem]
  · rw [<- hW]; simp [go_sem]
  · rw [<- hW]; simp [go_sem]
 have HG:=hid hg;have HX:=hid (hx1.trans aO);clear hg hx1 aO;have Ld:=@run_makeMap Tryz.prog;go_enter Tryz.func53,Tryz.ntmps53;go_wp2_with fail;go_ret;exact ⟨rfl,HG.out,HX.out⟩
def nz (l:Sp):Sp:=l.filter fun x=>decide (x.1 ≠ 0)
theorem ybu (l:Sp) (k:Nat) (hk:k < l.length) (h:l[k].1=0):nz (l.take (k+1))=nz (l.take k):=by
 unfold nz;rw [List.take_succ_eq_append_getElem hk,List.filter_append,List.filter_cons];simp [h]
theorem ub2 (l:Sp) (k:Nat) (hk:k < l.length) (h:l[k].1 ≠ 0):nz (l.take (k+1))=nz (l.take k) ++ [l[k]]:=by
 unfold nz;rw [List.take_succ_eq_append_getElem hk,List.filter_append,List.filter_cons];simp [h]
theorem vcj (l:Sp):(nz l).length<=l.length:=List.length_filter_le _ _
theorem gc0 (l:Sp) (k:Mo):je (nz l) k=je l k:=by
 induction l with
 | nil=>rfl
 | cons x r ih =>
   obtain ⟨c,m⟩:=x;unfold nz at ih ⊢;rw [List.filter_cons]
   by_cases h:c=0
   · rw [if_neg (by simpa using h),ih,je,h]; split <;> omega
   · rw [if_pos (by simpa using h),je,je,ih]
theorem xca {l l':Sp} (h:l'.Perm l) (k:Mo):je l' k=je l k:=by
 induction h with
 | nil=>rfl
 | cons x _ ih=>obtain ⟨c,m⟩:=x; simp only [je,ih]
 | swap x y l=>obtain ⟨c,m⟩:=x; obtain ⟨d,n⟩:=y; simp only [je]; omega
 | trans _ _ ih1 ih2=>exact ih1.trans ih2
theorem zc0 {l:Sp} (h0:∀ x ∈ l,x.1 ≠ 0) (h:l.Pairwise fun x y=>y.2.lt x.2):qp l:=by
 induction l with
 | nil=>exact trivial
 | cons x r ih =>
   obtain ⟨c,m⟩:=x;rw [List.pairwise_cons] at h;exact ⟨h0 (c,m) (by simp),fun y hy=>h.1 y hy,ih (fun y hy=>h0 y (by simp [hy])) h.2⟩
theorem ybr {l l':Sp} (hp:l'.Perm (nz l)) (ha:Apart l) (hn:∀ x ∈ l,x.2.nonneg) (hs:∀ i j (hi:i < l'.length) (hj:j < l'.length),i < j->¬ (l'[i].2).lt l'[j].2):l'=jf l:=by
 have bP:∀ x ∈ l',x ∈ l/\x.1 ≠ 0:=fun x hx=>by
  have:=hp.mem_iff.1 hx;unfold nz at this;obtain ⟨h1,h2⟩:=List.mem_filter.1 this;exact ⟨h1,by simpa using h2⟩
 have Jg:Apart l':=by
  unfold Apart at ha ⊢;have h1:(nz l).Pairwise fun x y=>x.2 ≠ y.2:=List.Pairwise.filter _ ha
  exact (hp.pairwise_iff (fun {x y} h=>fun e=>h e.symm)).2 h1
 have hpw:l'.Pairwise fun x y=>y.2.lt x.2:=by
  rw [List.pairwise_iff_getElem];unfold Apart at Jg;rw [List.pairwise_iff_getElem] at Jg;intro i j hi hj oL;rcases Mo.tri l'[i].2 l'[j].2 with h | h | h
  · exact absurd h (hs i j hi hj oL)
  · exact absurd h (Jg i j hi hj oL)
  · exact h
 exact qcp (zc0 (fun x hx=>(bP x hx).2) hpw) (fun x hx=>hn x (bP x hx).1) (fun k _=>by rw [xca hp,gc0])
theorem zcj {base G M:Nat} {v:Value} {l:Sp} {w:World} (h:GaV base w G M v l) (ha:Apart l) (kU:∀ x ∈ l,x.2.nonneg) (hlen:l.length<=1099511627776):Calls Tryz.prog 55 #[.pointer (some ⟨G,0,none⟩)] w fun e w'=>∃ v',e=.returned v'/\SpO w.heap.size w' v' (jf l)/\Ext w w':=by
 obtain ⟨g0,g1,gf,-,gt,-,-⟩:=h;obtain ⟨At,ct,e,dY,dK,aK⟩:=gt.sp;subst e;have lJ:=hid aK;have HA:=hid ha;have Gx:=hid kU;clear aK gt ha kU gf;go_enter Tryz.func55,Tryz.ntmps55;go_wp2_with fail
 go_loopw [3,11] (fun rv iv wr=>∃ k:Nat,k<=l.length/\iv=.int .i64 k/\(∃ Ak ck,rv=.slice Ak (nz (l.take k)).length ck)/\Hid (TsV none w.heap.size wr rv (nz (l.take k))/\Ext w wr)) (fun _ iv _=>l.length - (intOf iv).toNat)
 case atStart=>exact ⟨0,Nat.zero_le _,rfl,⟨none,0,rfl⟩,TsV.nil _ _ _,Ext.refl _⟩
 case round =>
  obtain ⟨k,hk,rfl,⟨Ak,ck,rfl⟩,⟨ht,hx⟩⟩:=hrel;have HT:=hid ht;have HX:=hid hx
  by_cases af:k < l.length
  · obtain ⟨ad,b,B,n,c,rfl,ah,jA,dE⟩:=lJ.out.ext hx k af;obtain ⟨t0,t1,t2,t3,t4,t5⟩:=jA;have lI:=hid dE;have afi:(nz (l.take k)).length<=k:=by have:=vcj (l.take k); rw [List.length_take] at this; omega
    have HTZ:=hid (ybu l k af);have JG:=hid (ub2 l k af);have vZ:Hid (l[k]=(l[k].1,l[k].2)):=rfl;clear ht hx dE;generalize l[k]=lk at *;go_wp2_with fail;refine (uas _ lk.1 _ _ ((Cf.raw lI.out).ext ((Ext.refl _).alloc _))).mono ?_;rintro e w2 ⟨rfl,x2⟩;have y2:Ext wr w2:=((Ext.refl wr).alloc _).trans x2;have bT:∀ i,w2.cell? ⟨wr.heap.size,i,none⟩=(wr.alloc (.cells #[.bool b,.slice B n c,.int .i64 lk.2.a,.int .i64 lk.2.b,.int .i64 lk.2.c,.int .i64 lk.2.d] 76)).cell? ⟨wr.heap.size,i,none⟩:=fun i=>x2.cell (p:=⟨wr.heap.size,i,none⟩) (by simp)
    have e0:w2.cell? ⟨wr.heap.size,0,none⟩=some (.bool b):=by rw [bT]; simp [go_sem]
    have e1:w2.cell? ⟨wr.heap.size,1,none⟩=some (.slice B n c):=by rw [bT]; simp [go_sem]
    have e2:w2.cell? ⟨wr.heap.size,2,none⟩=some (.int .i64 lk.2.a):=by rw [bT]; simp [go_sem]
    have e3:w2.cell? ⟨wr.heap.size,3,none⟩=some (.int .i64 lk.2.b):=by rw [bT]; simp [go_sem]
    have e4:w2.cell? ⟨wr.heap.size,4,none⟩=some (.int .i64 lk.2.c):=by rw [bT]; simp [go_sem]
    have e5:w2.cell? ⟨wr.heap.size,5,none⟩=some (.int .i64 lk.2.d):=by rw [bT]; simp [go_sem]
    by_cases hz:lk.1=0
    · have hq:(sgI lk.1 != 0)=false:=by rw [hz]; rfl
      have ZG:Hid (TsV none w.heap.size w2 (.slice Ak (nz (l.take k)).length ck) (nz (l.take k))):=HT.out.ext y2;have CB:=hid (HX.out.trans y2);have HZ:=hid (HTZ.out hz);clear bT x2 y2;go_wp2_with fail
      go_roundw
      case rel=>exact ⟨k+1,by omega,by go_num,⟨Ak,ck,by rw [HZ.out]⟩,by rw [HZ.out]; exact ZG.out,CB.out⟩
      case measure=>simp [intOf]; omega
    · have hq:(sgI lk.1 != 0)=true:=zaz hz;have lK:=HX.out.size;have kH:=y2.size;obtain ⟨v4,w4,ax,t4,LY,VI,TI⟩:=(HT.out.ext y2).push (by omega) (lI.out.ext y2) lk.2 (by omega) 23;have NJ:=JG.out hz;have VB:TsV none w.heap.size w4 v4 (nz (l.take (k+1))):=by rw [NJ]; exact t4
      obtain ⟨A4,c4,rfl,-,-⟩:=VB.len;have x4:Ext w w4:=Below.grown (HX.out.trans y2) LY (by omega) (fun bb hb=>(HT.out.own hb).1);have T4:=hid VB;have X4:=hid x4;clear t4 VB LY VI TI x4 bT x2 y2 NJ
      go_wp2_with (at_builtin
                   refine wpList_append_run rfl (.tmp 19) (.tmp 21) _ _ rfl _ _ _ _ rfl rfl ax ?_)
      clear ax
      go_roundw
      case rel=>exact ⟨k+1,by omega,by go_num,⟨A4,c4,rfl⟩,T4.out,X4.out⟩
      case measure=>simp [intOf]; omega
  · have bV:l.take k=l:=by rw [show k=l.length by omega,List.take_length]
    rw [bV] at HT;rw [bV];have jB:=xcp HT.out (Nat.le_trans (vcj l) hlen);have HS:=hid jB;clear ht hx jB;go_wp2_with fail;refine HS.out.mono ?_;rintro e w2 ⟨rfl,l',hp,hs,hv,hb,hsz⟩;have hle:=ybr hp HA.out Gx.out hs;subst hle;have HV:=hid hv;have X2:Hid (Ext w w2):=Below.trans HX.out hb;clear hp hs hv hb;go_wp2_with fail;go_ret;exact ⟨_,rfl,HV.out,X2.out⟩
def zaa : Sp -> Sp -> Sp
 | acc,[]=>acc
 | acc,(c,m) :: r=>zaa (if m.nonneg then yac c m acc else acc) r
theorem jbw (acc l r:Sp):zaa acc (l ++ r)=zaa (zaa acc l) r:=by
 induction l generalizing acc with
 | nil=>rfl
 | cons x l ih=>obtain ⟨c,m⟩:=x; simp only [List.cons_append,zaa,ih]
theorem vcc (l:Sp) (k:Nat) (hk:k < l.length):zaa [] (l.take (k+1))=if l[k].2.nonneg then yac l[k].1 l[k].2 (zaa [] (l.take k)) else zaa [] (l.take k):=by
 rw [List.take_succ_eq_append_getElem hk,jbw]; rfl
theorem kbg (k : Mo) (hk : k.nonneg) : ∀ (l acc : Sp), je (zaa acc l) k = je acc k + je l k
 | [],acc=>by simp [zaa,je]
 | (c,m) :: r,acc=>by
   rw [zaa,kbg k hk r];simp only [je]
   by_cases hm:m.nonneg
   · rw [if_pos hm,zcl]; omega
   · rw [if_neg hm,if_neg (fun (e:m=k)=>hm (e ▸ hk))]; omega
theorem zbn : ∀ (l acc : Sp), yg (zaa acc l) <= yg acc + yg l
 | [],acc=>by simp [zaa,yg]
 | (c,m) :: r,acc=>by
   rw [zaa];have h1:=zbn r (if m.nonneg then yac c m acc else acc);have h2:=ucu c m acc;simp only [yg]
   split at h1 <;> split <;> first | omega | contradiction
theorem ka5 : ∀ (l acc : Sp), (zaa acc l).length <= acc.length + l.length
 | [],acc=>by simp [zaa]
 | (c,m) :: r,acc=>by
   rw [zaa];have h1:=ka5 r (if m.nonneg then yac c m acc else acc);have h2:=gcu c m acc;simp only [List.length_cons]
   split at h1 <;> split <;> first | omega | contradiction
theorem zba : ∀ (l acc : Sp), Apart acc -> Apart (zaa acc l)
 | [],acc,h=>h
 | (c,m) :: r,acc,h=>by
   rw [zaa];refine zba r _ ?_
   split
   · exact kcc c m acc h
   · exact h
theorem qbw : ∀ (l acc : Sp), (∀ x ∈ acc, x.2.nonneg) -> ∀ x ∈ zaa acc l, x.2.nonneg
 | [],acc,h=>h
 | (c,m) :: r,acc,h=>by
   rw [zaa];refine qbw r _ ?_
   split
   · rename_i hm;intro x hx;rcases xbw hx with e | ⟨y,hy,e⟩
     · rw [e]; exact hm
     · rw [<- e]; exact h y hy
   · exact h
theorem vb3 (l:Sp):jf (zaa [] l)=jf l:=xa8 fun k hk=>by rw [kbg k hk]; simp [je]
theorem zch (l:Sp) (k:Nat):yg (l.take k)<=yg l:=by
 have:yg l=yg (l.take k)+yg (l.drop k):=by rw [<- qag,List.take_append_drop]
 omega
theorem SpO.less {b b':Nat} {w:World} {v:Value} {l:Sp} (h:SpO b w v l) (hb:b'<=b):SpO b' w v l:=⟨h.1,fun hp=>by
 obtain ⟨g,c,e,h1,h2⟩:=h.2 hp
 exact ⟨g,c,e,Nat.le_trans hb h1,h2⟩⟩
def yc7 (l:Sp) (w:World) (e:Ending) (w':World):Prop:=∃ v,e=.returned v/\SpO w.heap.size w' v l/\Ext w w'
def ga2 (l:Sp) (w:World) (e:Ending) (w':World):Prop:=∃ v,e=.returned v/\SpV w' none v l/\Ext w w'
theorem qa4 {w:World} {ko:Option Nat} {v:Value} {l:Sp} (L:Nat) (h:SpV w ko v l) (hk:∀ z:Int,(∃ x ∈ l,x.1=z)->ko.getD (dg z.natAbs).length<=L) (hL:L+(dg (yg l)).length<=35184372088000) (hlen:l.length<=1099511627776):Calls Tryz.prog 31 #[v] w (yc7 (jf l) w):=by
 obtain ⟨A,c,rfl,dY,dK,aK⟩:=h;have lJ:=hid aK;have HKO:=hid hk;clear aK hk;go_enter Tryz.func31,Tryz.ntmps31;go_wp2_with fail;refine (vbo w).mono ?_;rintro e w1 ⟨rfl,g1,x1⟩;have qW:=hid x1;have HG1:=hid g1;clear g1 x1;go_wp2_with fail
 go_loopw [9] (fun iv wr=>∃ k:Nat,k<=l.length/\iv=.int .i64 k/\Hid ((∃ gv,GaV w.heap.size wr (w.heap.size+1) w.heap.size gv (zaa [] (l.take k)))/\Ext w wr)) (fun iv _=>l.length - (intOf iv).toNat)
 case atStart=>exact ⟨0,Nat.zero_le _,rfl,⟨_,HG1.out⟩,qW.out⟩
 case round =>
  obtain ⟨k,hk,rfl,⟨⟨gv,hg⟩,hx⟩⟩:=hrel;have HG:=hid hg;have HX:=hid hx
  by_cases af:k < l.length
  · obtain ⟨ad,b,B,n,d,rfl,ah,jA,dE⟩:=lJ.out.ext hx k af;obtain ⟨t0,t1,t2,t3,t4,t5⟩:=jA;have hs:=hx.size;have O9:=HKO.out l[k].1 ⟨_,List.getElem_mem af,rfl⟩;have Ik:(dg (yg (zaa [] (l.take k)))).length<=(dg (yg l)).length:=ku (Nat.le_trans (zbn (l.take k) []) (by have:=zch l k; simp only [yg]; omega));have nM:=ka5 (l.take k) [];rw [List.length_take] at nM;simp only [List.length_nil] at nM;have aJ:=fun W (hW:Ext wr W)=>qcv (hg.ext hW) l[k].2 (.agg #[.bool b,.slice B n d]) L l[k].1 ((dE.ext hW).raw.mono O9) (by have:=hW.size; omega) (by omega) (by omega)
    rw [<- vcc l k af] at aJ;have aY:=hid aJ;clear aJ hg hx dE O9 Ik nM;generalize l[k]=lk at *;go_wp2_with fail;refine (aY.out _ ((Ext.refl _).alloc _)).mono ?_;rintro e w2 ⟨rfl,v2,g2,b2,n2,-⟩;have X2:Hid (Ext w w2):=Below.trans (HX.out.alloc _) b2;have G2:=hid g2;clear g2 b2 n2 aY;go_wp2_with fail
    go_roundw
    case rel=>exact ⟨k+1,by omega,by go_num,⟨_,G2.out⟩,X2.out⟩
    case measure=>simp [intOf]; omega
  · have bV:l.take k=l:=by rw [show k=l.length by omega,List.take_length]
    rw [bV] at HG;have nM:=ka5 l [];simp only [List.length_nil] at nM;have aJ:=zcj HG.out (zba l [] List.Pairwise.nil) (qbw l [] (by simp)) (by omega);rw [vb3] at aJ;have aY:=hid aJ;clear aJ hg hx bV;go_wp2_with fail;refine aY.out.mono ?_;rintro e w2 ⟨v2,rfl,s2,x2⟩;have S2:=hid (s2.less HX.out.size);have X2:=hid (HX.out.trans x2);clear s2 x2;go_wp2_with fail;go_ret;exact ⟨_,rfl,S2.out,X2.out⟩
theorem xab {w:World} {ko:Option Nat} {v:Value} {l:Sp} (L:Nat) (h:SpV w ko v l) (hk:∀ z:Int,(∃ x ∈ l,x.1=z)->ko.getD (dg z.natAbs).length<=L) (hL:L+(dg (yg l)).length<=35184372088000) (hlen:l.length<=1099511627776):Calls Tryz.prog 31 #[v] w (ga2 (jf l) w):=
 (qa4 L h hk hL hlen).mono fun _ _ ⟨v,e,hs,hx⟩=>⟨v,e,hs.1,hx⟩
end Go.Proofs.YtcepajijiabkmaaGreat
