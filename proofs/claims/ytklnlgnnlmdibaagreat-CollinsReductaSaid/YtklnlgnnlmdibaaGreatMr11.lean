/- The library's sort at terms: slices.SortFunc with the order of (*gather).poly: descending monomials. -/
import Derived.Test.YtklnlgnnlmdibaaGreatMr10
set_option linter.unusedSimpArgs false
set_option linter.unusedVariables false
set_option maxRecDepth 100000
set_option maxHeartbeats 8000000
namespace Go.Proofs.YtklnlgnnlmdibaaGreat
open Go.RowKit Go.Sort Go.Shelf
structure TmE where
 neg:Bool
 A:Option Addr
 n:Nat
 c:Nat
 z:Int
 mo:Mo
instance:Inhabited TmE:=⟨⟨false,none,0,0,0,Mo.one⟩⟩
def TmE.enc (x:TmE):List Value:=tmC x.neg (.slice x.A x.n x.c) x.mo
def gak (x y:TmE):Int:=yav y.mo x.mo
theorem yat (x y:TmE):ltOf gak x y=decide (y.mo.lt x.mo):=by
 unfold ltOf gak yav
 by_cases h1:y.mo.lt x.mo
 · rw [if_pos h1]; simp [h1]
 · rw [if_neg h1]
   by_cases h2:x.mo.lt y.mo
   · rw [if_pos h2]; simp [h1]
   · rw [if_neg h2]; simp [h1]
theorem kce : SWO (ltOf gak) where
 irrefl x:=by rw [yat]; simp [Mo.lt_irrefl]
 trans x y z h1 h2:=by
  rw [yat] at *;simp only [decide_eq_true_eq] at *;exact Mo.lt_trans h2 h1
 ntrans x y z h1 h2:=by
  rw [yat] at *;simp only [decide_eq_false_iff_not] at *;unfold Mo.lt at *; omega
theorem ybo (x y:TmE) (W:World):Calls Tryz.prog 103 #[.agg x.enc.toArray,.agg y.enc.toArray] W fun e w'=>e=.returned (.int .i64 (gak x y))/\∃ q os',w'=grow (W.drewN q) os':=by
 unfold gak TmE.enc tmC;have hcon:=fun W'=>va7 y.mo x.mo W'
 generalize yav y.mo x.mo=r at hcon ⊢;have HC:=Lib.hid hcon;have HG:Hid (∀ o o' q os,∃ q' os',grow (((W.alloc o).alloc o').drewN q) os=grow (W.drewN q') os'):=fun o o' q os=>⟨q,#[o] ++ #[o'] ++ os,by rw [alloc_eq_grow,alloc_eq_grow,grow_grow,<- grow_grow _ _ os]; rfl⟩
 clear hcon;go_enter Tryz.func103,Tryz.ntmps103;go_wp2_with fail;refine (HC.out _).mono ?_;rintro e w1 ⟨rfl,q,os,rfl⟩;go_wp2_with fail;go_ret;exact ⟨rfl,HG.out _ _ q os⟩
theorem zbi (blk off size:Nat) (w:World):CmpLays Tryz.prog 103 #[] TmE.enc 6 gak blk off size w:=fun _ _ _ _ x y=>ybo x y _
theorem zbp (v:Value) (w:World):Calls Tryz.prog 145 #[v,.int .i64 0,.int .i64 0,.func (.func 103) #[] #[]] w fun e w'=>e=.returned (.tuple #[])/\w'=w:=by
 go_enter Tryz.func145,Tryz.ntmps145;go_wp2_with fail;refine wp_loop_rounds 1 ?_;rw [rounds_succ];go_wp2_with fail
 go_end0
 exact ⟨rfl,rfl⟩
theorem za2 (n:Nat) (w:World) (h:n < 4611686018427387904):Calls Tryz.prog 91 #[.int .u64 (n:Int)] w fun e w'=>e=.returned (.int .i64 (Lib.bitLen n:Nat))/\w'=w:=by
 have h:=Go.Proofs.Any.bits_Len (Go.Proofs.SlLaysF0.n15.bits (P:=Tryz.prog) (ρ:=uam) qcg) (n:Int) w (by omega) (by omega)
 rwa [Int.toNat_natCast] at h
theorem qbo (v:Value) (limit:Int) (w:World):Calls Tryz.prog 129 #[v,.int .i64 0,.int .i64 0,.int .i64 limit,.func (.func 103) #[] #[]] w fun e w'=>e=.returned (.tuple #[])/\w'=w:=by
 go_enter Tryz.func129,Tryz.ntmps129;go_wp2_with fail;refine wp_loop_rounds 1 ?_;rw [rounds_succ];go_wp2_with fail;refine (zbp _ _).mono ?_;rintro e w1 ⟨rfl,rfl⟩;go_wp2_with fail;exact bodyPost_ret (results_none rfl _ _ _) rfl ⟨rfl,rfl⟩
theorem wbf (A:Option Addr) (c:Nat) (w:World):Calls Tryz.prog 102 #[.slice A 0 c,.func (.func 103) #[] #[]] w fun e w'=>e=.returned (.tuple #[])/\w'=w:=by
 have wr:IntKind.u64.wrap (0:Int)=0:=by decide
 have hb:=za2 0 w (by omega);have HB:=Lib.hid hb;clear hb;go_enter Tryz.func102,Tryz.ntmps102;go_wp2_with fail;refine HB.out.mono ?_;rintro e w1 ⟨rfl,rfl⟩;go_wp2_with fail;refine (qbo _ _ _).mono ?_;rintro e w1 ⟨rfl,rfl⟩;go_wp2_with fail
 go_end0
 exact ⟨rfl,rfl⟩
theorem zbn (blk cap:Nat) (d:Array TmE) (w:World) (hH:HoldsK TmE.enc 6 w blk 0 d) (hblk:blk < w.heap.size) (hsz:d.size < 4611686018427387904) :
 Calls Tryz.prog 102 #[.slice (some ⟨blk,0,none⟩) d.size cap,.func (.func 103) #[] #[]] w fun e w'=>e=.returned (.tuple #[])/\∃ d' n os,PermIn 0 d.size d d'/\SortedIn (ltOf gak) 0 d.size d'/\w'=sortWorldK TmE.enc 6 w blk 0 n d' os:=by
 have hlim:Lib.bitLen d.size < 4611686018427387904:=Nat.lt_of_le_of_lt (Lib.bitLen_le d.size 62 (by omega) (by omega)) (by omega);have eg:∀ args w,(callFunc 103 args).run Tryz.prog w=.ok (.enter 103 args) w:=enters_of Tryz.func103 (by kernel_rfl) rfl;have hp:=Go.Proofs.AnyQ.pdqsortCmpFunc_all (P:=Tryz.prog) (ρ:=uam) gbf 6 Tryz.isAgg93 Tryz.sizeOf93 TmE.enc gak 103 #[] kce blk 0 cap d w eg (zbi blk 0 d.size w) ⟨fun _=>rfl,fun x v hv=>by
  simp only [TmE.enc,tmC,List.mem_cons,List.not_mem_nil,or_false] at hv
  rcases hv with rfl | rfl | rfl | rfl | rfl | rfl <;> rfl,hH,hblk⟩ (d.size+1) 0 d.size (Lib.bitLen d.size) d w (by omega) rfl (Go.Proofs.SWK.start hH) (Nat.zero_le _) (Nat.le_refl _) hsz hlim (Or.inl rfl)
 have hs:=pdq_sorts (ltOf gak) kce d 0 d.size (Lib.bitLen d.size) true true (Nat.zero_le _) (Nat.le_refl _) (Or.inl rfl);generalize pdq (ltOf gak) d 0 d.size (Lib.bitLen d.size) true true=d' at hp hs
 change Calls Tryz.prog 129 _ _ _ at hp
 have HP:=Lib.hid hp;have HS:=Lib.hid hs;have HB:=Lib.hid (za2 d.size w hsz);have wr:IntKind.u64.wrap (d.size:Int)=d.size:=by simp [IntKind.wrap,IntKind.bits,IntKind.signed]; omega
 clear hH hp hs eg;go_enter Tryz.func102,Tryz.ntmps102;go_wp2_with fail;refine HB.out.mono ?_;rintro e w1 ⟨rfl,rfl⟩;go_wp2_with fail;refine HP.out.mono ?_;rintro e w1 ⟨rfl,n,os,rfl⟩;go_wp2_with fail
 go_end0
 exact ⟨rfl,d',n,os,HS.out.1,HS.out.2,rfl⟩
def TmE.pair (x:TmE):Int × Mo:=(x.z,x.mo)
theorem qbp (d:Array TmE) (j:Nat) (hj:j < d.size * 6):(flatK TmE.enc 6 d)[j]! = (tmC d[j / 6]!.neg (.slice d[j / 6]!.A d[j / 6]!.n d[j / 6]!.c) d[j / 6]!.mo)[j % 6]! := by
 rw [get_flatK _ _ _ _ hj]; rfl
def SpO (base:Nat) (w:World) (v:Value) (l:Sp):Prop:=SpV w none v l/\(0 < l.length->∃ g c,v=.slice (some ⟨g,0,none⟩) l.length c/\base<=g/\g < w.heap.size/\∀ i,i < l.length * 6->w.frozen? ⟨g,i,none⟩=false)
theorem yb7 {base:Nat} {W:World} {v:Value} {l:Sp} (h:TsV none base W v l) (hlen:l.length<=1099511627776):Calls Tryz.prog 102 #[v,.func (.func 103) #[] #[]] W fun e w'=>e=.returned (.tuple #[])/\∃ l':Sp,l'.Perm l/\(∀ i j (hi:i < l'.length) (hj:j < l'.length),i < j->¬ (l'[i].2).lt l'[j].2)/\SpO base w' v l'/\Below base W w'/\W.heap.size<=w'.heap.size:=by
 obtain ⟨Av,cv,rfl,hl1,hl2⟩:=h.len
 by_cases h0:l=[]
 · subst h0;refine (wbf _ _ _).mono ?_;rintro e w' ⟨he,rfl⟩;exact ⟨he,[],List.Perm.refl _,fun i j hi=>absurd hi (by simp),⟨⟨Av,cv,rfl,hl1,hl2,fun i hi=>absurd hi (by simp)⟩,fun h=>absurd h (by simp)⟩,Below.refl _ _,Nat.le_refl _⟩
 have hpos:0 < l.length:=List.length_pos_iff.2 h0;obtain ⟨rs,rfl,hg,hcf⟩:=h;rw [List.length_map] at hpos hl1 hlen;rw [List.length_map] at hg;rw [List.length_map];obtain ⟨g,c',e,-,-,hbg,hglt,hfr⟩:=hg.pos hpos;injection e with e1 e2 e3
 subst e1 e3;have hun:∀ r ∈ rs,∃ A n c,r.2.1=.slice A n c:=fun r hr=>by
  obtain ⟨b,A,n,c,e⟩:=(hcf r hr).unpack;simp only [Value.agg.injEq,Array.mk.injEq,List.cons.injEq,and_true] at e;exact ⟨A,n,c,e.2⟩
 obtain ⟨es,hes⟩:∃ es:List TmE,es.map (fun x=>(x.neg,Value.slice x.A x.n x.c,x.z,x.mo))=rs:=by
  clear hcf hg hpos hl1 hlen h0 e2
  induction rs with
  | nil=>exact ⟨[],rfl⟩
  | cons r rs ih =>
    obtain ⟨es,he⟩:=ih (fun r hr=>hun r (by simp [hr]));obtain ⟨A,n,c,e⟩:=hun r (by simp);obtain ⟨b,s,z,m⟩:=r;simp only at e;subst e;exact ⟨⟨b,A,n,c,z,m⟩ :: es,by simp [he]⟩
 have hel:es.length=rs.length:=by rw [<- hes,List.length_map]
 have hgetr:∀ i (hi:i < es.length),rs[i]'(by omega)=(es[i].neg,Value.slice es[i].A es[i].n es[i].c,es[i].z,es[i].mo):=fun i hi=>by
  simp only [<- hes,List.getElem_map]
 have hH:HoldsK TmE.enc 6 W g 0 es.toArray:=by
  intro j hj;rw [size_flatK] at hj;simp only [List.size_toArray] at hj;have hq:j / 6 < es.length:=Nat.div_lt_of_lt_mul (by omega);have hc:=hg.cell j (by omega);have hm:j % 6 < 6:=Nat.mod_lt _ (by omega);have hj2:j / 6 * 6+j % 6=j:=by omega
  have hf:=kaq rs (j / 6) (by omega) (j % 6) hm;rw [hj2] at hf;rw [hf,hgetr _ hq] at hc;refine ⟨?_,hfr _⟩;rw [Nat.zero_add,hc,qbp _ _ (by simpa using hj)];have hgt:es.toArray[j / 6]! = es[j / 6]:=by rw [getElem!_pos es.toArray (j / 6) (by simpa using hq)]; simp
  rw [hgt];have hlt:j % 6 < (tmC es[j / 6].neg (.slice es[j / 6].A es[j / 6].n es[j / 6].c) es[j / 6].mo).length:=hm;rw [List.getElem?_eq_getElem hlt,getElem!_pos (tmC es[j / 6].neg (.slice es[j / 6].A es[j / 6].n es[j / 6].c) es[j / 6].mo) (j % 6) hlt]
  rfl
 have hcall:=zbn g cv es.toArray W hH hglt (by simp; omega);simp only [List.size_toArray] at hcall;rw [hel] at hcall;refine hcall.mono ?_;rintro e w' ⟨he,d',n,os,⟨hsz,-,hperm⟩,hsort,rfl⟩;simp only [List.size_toArray] at hsz;have hperm':d'.toList.Perm es:=by
  rw [Array.extract_eq_self_of_le (by omega)] at hperm;have:es.toArray.extract 0 rs.length=es.toArray:=Array.extract_eq_self_of_le (by simp; omega);rw [this] at hperm;simpa using hperm
 have hgrow:W.grownBy (sortWorldK TmE.enc 6 W g 0 n d' os) (some g):=by
  refine ⟨rfl,rfl,rfl,?_,fun b hb hne=>?_⟩
  · simp [sortWorldK,grow,putRowK,putRow,mapBlock,Go.Sort.ahead]
  · have hne':¬ g=b:=fun e=>hne (by rw [e])
    simp [sortWorldK,grow,putRowK,putRow,mapBlock,Go.Sort.ahead,Array.getElem?_append,hb,Array.getElem_modify,hne']
 have hnat:∀ v ds,jc W v ds->jc (sortWorldK TmE.enc 6 W g 0 n d' os) v ds:=fun v ds hv=>zau hv (v:=.slice (some ⟨g,0,none⟩) rs.length cv) hgrow hg.2 (zal hg.1)
 have hH':HoldsK TmE.enc 6 (sortWorldK TmE.enc 6 W g 0 n d' os) g 0 d':=
  holdsK_grow TmE.enc 6 _ os g 0 d' (by simp only [putRowK,size_putRow]; exact hglt) (holdsK_putRowK TmE.enc 6 (Go.Sort.ahead W n) g 0 es.toArray d' (holdsK_ahead TmE.enc 6 W n g 0 es.toArray hH) (by simpa using hsz))
 refine ⟨he,d'.toList.map TmE.pair,?_,?_,?_,?_,?_⟩
 · have h1:=hperm'.map TmE.pair;have h2:es.map TmE.pair=rs.map (fun r=>r.2.2):=by rw [<- hes,List.map_map]; rfl
   rw [<- h2]; exact h1
 · intro i j hi hj hij;rw [List.length_map,Array.length_toList] at hi hj;have:=hsort i j (Nat.zero_le _) hij (by omega);rw [yat,decide_eq_false_iff_not] at this;simp only [List.getElem_map,Array.getElem_toList];rw [getElem!_pos d' i hi,getElem!_pos d' j hj] at this;exact this
 · have hld:(d'.toList.map TmE.pair).length=rs.length:=by rw [List.length_map,Array.length_toList]; omega
   refine ⟨⟨some ⟨g,0,none⟩,cv,by rw [hld],by omega,hl2,fun i hi=>?_⟩,fun _=>⟨g,cv,by rw [hld],hbg,Nat.lt_of_lt_of_le hglt hgrow.size,fun i hi=>?_⟩⟩;rotate_left
   · rw [hld] at hi;have h1:=(HoldsK.cell hH' (show i / 6 < d'.size from Nat.div_lt_of_lt_mul (by omega)) (Nat.mod_lt i (show 0 < 6 by omega))).2;rw [show 0+i / 6 * 6+i % 6=i by omega] at h1;exact h1
   rw [List.length_map,Array.length_toList] at hi;have hcell:=fun c (hc:c < 6)=>(HoldsK.cell hH' hi hc).1
   simp only [Nat.zero_add] at hcell;have hmem:d'[i]! ∈ es:=hperm'.mem_iff.1 (by rw [getElem!_pos d' i hi]; simp);obtain ⟨k,hk,hke⟩:=List.getElem_of_mem hmem;have hcfk:=hcf rs[k] (List.getElem_mem (by omega));rw [hgetr k hk,hke] at hcfk;have hpi:(d'.toList.map TmE.pair)[i]'(by rw [List.length_map,Array.length_toList]; exact hi)=(d'[i]!.z,d'[i]!.mo):=by
    rw [List.getElem_map,Array.getElem_toList,getElem!_pos d' i hi]; rfl
   refine ⟨⟨g,0,none⟩,d'[i]!.neg,d'[i]!.A,d'[i]!.n,d'[i]!.c,rfl,Nat.lt_of_lt_of_le hglt hgrow.size,?_,?_⟩
   · rw [yt,Nat.zero_add,hpi];exact ⟨hcell 0 (by omega),hcell 1 (by omega),hcell 2 (by omega),hcell 3 (by omega),hcell 4 (by omega),hcell 5 (by omega)⟩
   · rw [hpi];exact Cf.turn hcfk hnat
 · exact Below.grown (Below.refl _ _) hgrow (by omega) (fun b e=>by injection e with e; omega)
 · exact hgrow.size
/- Layer 20: newGather, (*gather).poly. -/
set_option maxRecDepth 100000
set_option maxHeartbeats 8000000
theorem gbd (w:World):Calls Tryz.prog 73 #[] w fun e w'=>e=.returned (.pointer (some ⟨w.heap.size+1,0,none⟩))/\GaV w.heap.size w' (w.heap.size+1) w.heap.size (.slice none 0 0) []/\Ext w w':=by
 obtain ⟨W,hW⟩:∃ W,(w.alloc (.map #[] 0)).alloc (.cells #[.map (some w.heap.size),.slice none 0 0] 125)=W:=⟨_,rfl⟩;have hx1:Ext w (w.alloc (.map #[] 0)):=(Ext.refl w).alloc _;have hx2:Ext (w.alloc (.map #[] 0)) W:=by rw [<- hW]; exact (Ext.refl _).alloc _
 have hg:GaV w.heap.size W (w.heap.size+1) w.heap.size (.slice none 0 0) []:=by
  refine ⟨?_,?_,fun i=>?_,(kab.made w).ext hx2,TsV.nil _ _ _,⟨by omega,Nat.le_refl _,by omega,by rw [<- hW]; simp⟩,fun R e=>by cases e⟩
  · rw [<- hW]; simp [go_sem]
  · rw [<- hW]; simp [go_sem]
  · rw [<- hW]; simp [go_sem]
 have HG:=Lib.hid hg;have HX:=Lib.hid (hx1.trans hx2);clear hg hx1 hx2;have hmm:=@run_makeMap Tryz.prog;go_enter Tryz.func73,Tryz.ntmps73;go_wp2_with fail;go_ret;exact ⟨rfl,HG.out,HX.out⟩
def nz (l:Sp):Sp:=l.filter fun x=>decide (x.1 ≠ 0)
theorem jbi (l:Sp) (k:Nat) (hk:k < l.length) (h:l[k].1=0):nz (l.take (k+1))=nz (l.take k):=by
 unfold nz;rw [List.take_succ_eq_append_getElem hk,List.filter_append,List.filter_cons];simp [h]
theorem kbo (l:Sp) (k:Nat) (hk:k < l.length) (h:l[k].1 ≠ 0):nz (l.take (k+1))=nz (l.take k) ++ [l[k]]:=by
 unfold nz;rw [List.take_succ_eq_append_getElem hk,List.filter_append,List.filter_cons];simp [h]
theorem ub1 (l:Sp):(nz l).length<=l.length:=List.length_filter_le _ _
theorem uch (l:Sp) (k:Mo):je (nz l) k=je l k:=by
 induction l with
 | nil=>rfl
 | cons x r ih =>
   obtain ⟨c,m⟩:=x;unfold nz at ih ⊢;rw [List.filter_cons]
   by_cases h:c=0
   · rw [if_neg (by simpa using h),ih,je,h]; split <;> omega
   · rw [if_pos (by simpa using h),je,je,ih]
theorem gbt {l l':Sp} (h:l'.Perm l) (k:Mo):je l' k=je l k:=by
 induction h with
 | nil=>rfl
 | cons x _ ih=>obtain ⟨c,m⟩:=x; simp only [je,ih]
 | swap x y l=>obtain ⟨c,m⟩:=x; obtain ⟨d,n⟩:=y; simp only [je]; omega
 | trans _ _ ih1 ih2=>exact ih1.trans ih2
theorem zch {l:Sp} (h0:∀ x ∈ l,x.1 ≠ 0) (h:l.Pairwise fun x y=>y.2.lt x.2):jo l:=by
 induction l with
 | nil=>exact trivial
 | cons x r ih =>
   obtain ⟨c,m⟩:=x;rw [List.pairwise_cons] at h;exact ⟨h0 (c,m) (by simp),fun y hy=>h.1 y hy,ih (fun y hy=>h0 y (by simp [hy])) h.2⟩
theorem ubf {l l':Sp} (hp:l'.Perm (nz l)) (ha:Apart l) (hn:∀ x ∈ l,x.2.nonneg) (hs:∀ i j (hi:i < l'.length) (hj:j < l'.length),i < j->¬ (l'[i].2).lt l'[j].2):l'=yh l:=by
 have hmem:∀ x ∈ l',x ∈ l/\x.1 ≠ 0:=fun x hx=>by
  have:=hp.mem_iff.1 hx;unfold nz at this;obtain ⟨h1,h2⟩:=List.mem_filter.1 this;exact ⟨h1,by simpa using h2⟩
 have hap:Apart l':=by
  unfold Apart at ha ⊢;have h1:(nz l).Pairwise fun x y=>x.2 ≠ y.2:=List.Pairwise.filter _ ha
  exact (hp.pairwise_iff (fun {x y} h=>fun e=>h e.symm)).2 h1
 have hpw:l'.Pairwise fun x y=>y.2.lt x.2:=by
  rw [List.pairwise_iff_getElem];unfold Apart at hap;rw [List.pairwise_iff_getElem] at hap;intro i j hi hj hij;rcases Mo.tri l'[i].2 l'[j].2 with h | h | h
  · exact absurd h (hs i j hi hj hij)
  · exact absurd h (hap i j hi hj hij)
  · exact h
 exact xb7 (zch (fun x hx=>(hmem x hx).2) hpw) (fun x hx=>hn x (hmem x hx).1) (fun k _=>by rw [gbt hp,uch])
theorem ub0 {base G M:Nat} {v:Value} {l:Sp} {w:World} (h:GaV base w G M v l) (ha:Apart l) (hnn:∀ x ∈ l,x.2.nonneg) (hlen:l.length<=1099511627776):Calls Tryz.prog 75 #[.pointer (some ⟨G,0,none⟩)] w fun e w'=>∃ v',e=.returned v'/\SpO w.heap.size w' v' (yh l)/\Ext w w':=by
 obtain ⟨g0,g1,gf,-,gt,-,-⟩:=h;obtain ⟨At,ct,e,hl1,hl2,hat⟩:=gt.sp;subst e;have HAT:=Lib.hid hat;have HA:=Lib.hid ha;have HNN:=Lib.hid hnn;clear hat gt ha hnn gf;go_enter Tryz.func75,Tryz.ntmps75;go_wp2_with fail
 go_loopw [3,11] (fun rv iv wr=>∃ k:Nat,k<=l.length/\iv=.int .i64 k/\(∃ Ak ck,rv=.slice Ak (nz (l.take k)).length ck)/\Hid (TsV none w.heap.size wr rv (nz (l.take k))/\Ext w wr)) (fun _ iv _=>l.length - (intOf iv).toNat)
 case atStart=>exact ⟨0,Nat.zero_le _,rfl,⟨none,0,rfl⟩,TsV.nil _ _ _,Ext.refl _⟩
 case round =>
  obtain ⟨k,hk,rfl,⟨Ak,ck,rfl⟩,⟨ht,hx⟩⟩:=hrel;have HT:=Lib.hid ht;have HX:=Lib.hid hx
  by_cases hlt:k < l.length
  · obtain ⟨ad,b,B,n,c,rfl,hadb,htm,hcf⟩:=HAT.out.ext hx k hlt;obtain ⟨t0,t1,t2,t3,t4,t5⟩:=htm;have HCF:=Lib.hid hcf;have hnzl:(nz (l.take k)).length<=k:=by have:=ub1 (l.take k); rw [List.length_take] at this; omega
    have HTZ:=Lib.hid (jbi l k hlt);have HTP:=Lib.hid (kbo l k hlt);have HEQ:Hid (l[k]=(l[k].1,l[k].2)):=rfl;clear ht hx hcf;generalize l[k]=lk at *;go_wp2_with fail;refine (kan _ lk.1 _ _ ((Cf.raw HCF.out).ext ((Ext.refl _).alloc _))).mono ?_;rintro e w2 ⟨rfl,x2⟩;have y2:Ext wr w2:=((Ext.refl wr).alloc _).trans x2;have hb2:∀ i,w2.cell? ⟨wr.heap.size,i,none⟩=(wr.alloc (.cells #[.bool b,.slice B n c,.int .i64 lk.2.a,.int .i64 lk.2.b,.int .i64 lk.2.c,.int .i64 lk.2.d] 93)).cell? ⟨wr.heap.size,i,none⟩:=fun i=>x2.cell (p:=⟨wr.heap.size,i,none⟩) (by simp)
    have e0:w2.cell? ⟨wr.heap.size,0,none⟩=some (.bool b):=by rw [hb2]; simp [go_sem]
    have e1:w2.cell? ⟨wr.heap.size,1,none⟩=some (.slice B n c):=by rw [hb2]; simp [go_sem]
    have e2:w2.cell? ⟨wr.heap.size,2,none⟩=some (.int .i64 lk.2.a):=by rw [hb2]; simp [go_sem]
    have e3:w2.cell? ⟨wr.heap.size,3,none⟩=some (.int .i64 lk.2.b):=by rw [hb2]; simp [go_sem]
    have e4:w2.cell? ⟨wr.heap.size,4,none⟩=some (.int .i64 lk.2.c):=by rw [hb2]; simp [go_sem]
    have e5:w2.cell? ⟨wr.heap.size,5,none⟩=some (.int .i64 lk.2.d):=by rw [hb2]; simp [go_sem]
    by_cases hz:lk.1=0
    · have hq:(sgI lk.1 != 0)=false:=by rw [hz]; rfl
      have HT2:Hid (TsV none w.heap.size w2 (.slice Ak (nz (l.take k)).length ck) (nz (l.take k))):=HT.out.ext y2;have HX2:=Lib.hid (HX.out.trans y2);have HZ:=Lib.hid (HTZ.out hz);clear hb2 x2 y2;go_wp2_with fail
      go_roundw
      case rel=>exact ⟨k+1,by omega,by go_num,⟨Ak,ck,by rw [HZ.out]⟩,by rw [HZ.out]; exact HT2.out,HX2.out⟩
      case measure=>simp [intOf]; omega
    · have hq:(sgI lk.1 != 0)=true:=qas hz;have hws:=HX.out.size;have hws2:=y2.size;obtain ⟨v4,w4,hrun,t4,gg4,nn4,oo4⟩:=(HT.out.ext y2).push (by omega) (HCF.out.ext y2) lk.2 (by omega) 41;have htp:=HTP.out hz;have t4':TsV none w.heap.size w4 v4 (nz (l.take (k+1))):=by rw [htp]; exact t4
      obtain ⟨A4,c4,rfl,-,-⟩:=t4'.len;have x4:Ext w w4:=Below.grown (HX.out.trans y2) gg4 (by omega) (fun bb hb=>(HT.out.own hb).1);have T4:=Lib.hid t4';have X4:=Lib.hid x4;clear t4 t4' gg4 nn4 oo4 x4 hb2 x2 y2 htp
      go_wp2_with (at_builtin
                   refine wpList_append_run rfl (.tmp 19) (.tmp 21) _ _ rfl _ _ _ _ rfl rfl hrun ?_)
      clear hrun
      go_roundw
      case rel=>exact ⟨k+1,by omega,by go_num,⟨A4,c4,rfl⟩,T4.out,X4.out⟩
      case measure=>simp [intOf]; omega
  · have hke:l.take k=l:=by rw [show k=l.length by omega,List.take_length]
    rw [hke] at HT;rw [hke];have hsort:=yb7 HT.out (Nat.le_trans (ub1 l) hlen);have HS:=Lib.hid hsort;clear ht hx hsort;go_wp2_with fail;refine HS.out.mono ?_;rintro e w2 ⟨rfl,l',hp,hs,hv,hb,hsz⟩;have hle:=ubf hp HA.out HNN.out hs;subst hle;have HV:=Lib.hid hv;have X2:Hid (Ext w w2):=Below.trans HX.out hb;clear hp hs hv hb;go_wp2_with fail;go_ret;exact ⟨_,rfl,HV.out,X2.out⟩
/- Layer 20: sparse.Normal. -/
set_option maxRecDepth 100000
set_option maxHeartbeats 8000000
def yx : Sp -> Sp -> Sp
 | acc,[]=>acc
 | acc,(c,m) :: r=>yx (if m.nonneg then gaa c m acc else acc) r
theorem gbj (acc l r:Sp):yx acc (l ++ r)=yx (yx acc l) r:=by
 induction l generalizing acc with
 | nil=>rfl
 | cons x l ih=>obtain ⟨c,m⟩:=x; simp only [List.cons_append,yx,ih]
theorem qbw (l:Sp) (k:Nat) (hk:k < l.length):yx [] (l.take (k+1))=if l[k].2.nonneg then gaa l[k].1 l[k].2 (yx [] (l.take k)) else yx [] (l.take k):=by
 rw [List.take_succ_eq_append_getElem hk,gbj]; rfl
theorem ua6 (k : Mo) (hk : k.nonneg) : ∀ (l acc : Sp), je (yx acc l) k = je acc k + je l k
 | [],acc=>by simp [yx,je]
 | (c,m) :: r,acc=>by
   rw [yx,ua6 k hk r];simp only [je]
   by_cases hm:m.nonneg
   · rw [if_pos hm,kb3]; omega
   · rw [if_neg hm,if_neg (fun (e:m=k)=>hm (e ▸ hk))]; omega
theorem ubc : ∀ (l acc : Sp), xg (yx acc l) <= xg acc + xg l
 | [],acc=>by simp [yx,xg]
 | (c,m) :: r,acc=>by
   rw [yx];have h1:=ubc r (if m.nonneg then gaa c m acc else acc);have h2:=wcb c m acc;simp only [xg]
   split at h1 <;> split <;> first | omega | contradiction
theorem vax : ∀ (l acc : Sp), (yx acc l).length <= acc.length + l.length
 | [],acc=>by simp [yx]
 | (c,m) :: r,acc=>by
   rw [yx];have h1:=vax r (if m.nonneg then gaa c m acc else acc);have h2:=zcc c m acc;simp only [List.length_cons]
   split at h1 <;> split <;> first | omega | contradiction
theorem va1 : ∀ (l acc : Sp), Apart acc -> Apart (yx acc l)
 | [],acc,h=>h
 | (c,m) :: r,acc,h=>by
   rw [yx];refine va1 r _ ?_
   split
   · exact xbw c m acc h
   · exact h
theorem ubj : ∀ (l acc : Sp), (∀ x ∈ acc, x.2.nonneg) -> ∀ x ∈ yx acc l, x.2.nonneg
 | [],acc,h=>h
 | (c,m) :: r,acc,h=>by
   rw [yx];refine ubj r _ ?_
   split
   · rename_i hm;intro x hx;rcases vbj hx with e | ⟨y,hy,e⟩
     · rw [e]; exact hm
     · rw [<- e]; exact h y hy
   · exact h
theorem xbp (l:Sp):yh (yx [] l)=yh l:=vaz fun k hk=>by rw [ua6 k hk]; simp [je]
theorem xbz (l:Sp) (k:Nat):xg (l.take k)<=xg l:=by
 have:xg l=xg (l.take k)+xg (l.drop k):=by rw [<- yae,List.take_append_drop]
 omega
theorem SpO.less {b b':Nat} {w:World} {v:Value} {l:Sp} (h:SpO b w v l) (hb:b'<=b):SpO b' w v l:=⟨h.1,fun hp=>by
 obtain ⟨g,c,e,h1,h2⟩:=h.2 hp
 exact ⟨g,c,e,Nat.le_trans hb h1,h2⟩⟩
def zcn (l:Sp) (w:World) (e:Ending) (w':World):Prop:=∃ v,e=.returned v/\SpO w.heap.size w' v l/\Ext w w'
def xa8 (l:Sp) (w:World) (e:Ending) (w':World):Prop:=∃ v,e=.returned v/\SpV w' none v l/\Ext w w'
theorem zax {w:World} {ko:Option Nat} {v:Value} {l:Sp} (L:Nat) (h:SpV w ko v l) (hk:∀ z:Int,(∃ x ∈ l,x.1=z)->ko.getD (dg z.natAbs).length<=L) (hL:L+(dg (xg l)).length<=35184372088000) (hlen:l.length<=1099511627776):Calls Tryz.prog 45 #[v] w (zcn (yh l) w):=by
 obtain ⟨A,c,rfl,hl1,hl2,hat⟩:=h;have HAT:=Lib.hid hat;have HKO:=Lib.hid hk;clear hat hk;go_enter Tryz.func45,Tryz.ntmps45;go_wp2_with fail;refine (gbd w).mono ?_;rintro e w1 ⟨rfl,g1,x1⟩;have HX1:=Lib.hid x1;have HG1:=Lib.hid g1;clear g1 x1;go_wp2_with fail
 go_loopw [9] (fun iv wr=>∃ k:Nat,k<=l.length/\iv=.int .i64 k/\Hid ((∃ gv,GaV w.heap.size wr (w.heap.size+1) w.heap.size gv (yx [] (l.take k)))/\Ext w wr)) (fun iv _=>l.length - (intOf iv).toNat)
 case atStart=>exact ⟨0,Nat.zero_le _,rfl,⟨_,HG1.out⟩,HX1.out⟩
 case round =>
  obtain ⟨k,hk,rfl,⟨⟨gv,hg⟩,hx⟩⟩:=hrel;have HG:=Lib.hid hg;have HX:=Lib.hid hx
  by_cases hlt:k < l.length
  · obtain ⟨ad,b,B,n,d,rfl,hadb,htm,hcf⟩:=HAT.out.ext hx k hlt;obtain ⟨t0,t1,t2,t3,t4,t5⟩:=htm;have hs:=hx.size;have hko:=HKO.out l[k].1 ⟨_,List.getElem_mem hlt,rfl⟩;have hnr:(dg (xg (yx [] (l.take k)))).length<=(dg (xg l)).length:=gp (Nat.le_trans (ubc (l.take k) []) (by have:=xbz l k; simp only [xg]; omega));have hgl:=vax (l.take k) [];rw [List.length_take] at hgl;simp only [List.length_nil] at hgl;have hcall:=fun W (hW:Ext wr W)=>kcc (hg.ext hW) l[k].2 (.agg #[.bool b,.slice B n d]) L l[k].1 ((hcf.ext hW).raw.mono hko) (by have:=hW.size; omega) (by omega) (by omega)
    rw [<- qbw l k hlt] at hcall;have HCALL:=Lib.hid hcall;clear hcall hg hx hcf hko hnr hgl;generalize l[k]=lk at *;go_wp2_with fail;refine (HCALL.out _ ((Ext.refl _).alloc _)).mono ?_;rintro e w2 ⟨rfl,v2,g2,b2,n2,-⟩;have X2:Hid (Ext w w2):=Below.trans (HX.out.alloc _) b2;have G2:=Lib.hid g2;clear g2 b2 n2 HCALL;go_wp2_with fail
    go_roundw
    case rel=>exact ⟨k+1,by omega,by go_num,⟨_,G2.out⟩,X2.out⟩
    case measure=>simp [intOf]; omega
  · have hke:l.take k=l:=by rw [show k=l.length by omega,List.take_length]
    rw [hke] at HG;have hgl:=vax l [];simp only [List.length_nil] at hgl;have hcall:=ub0 HG.out (va1 l [] List.Pairwise.nil) (ubj l [] (by simp)) (by omega);rw [xbp] at hcall;have HCALL:=Lib.hid hcall;clear hcall hg hx hke;go_wp2_with fail;refine HCALL.out.mono ?_;rintro e w2 ⟨v2,rfl,s2,x2⟩;have S2:=Lib.hid (s2.less HX.out.size);have X2:=Lib.hid (HX.out.trans x2);clear s2 x2;go_wp2_with fail;go_ret;exact ⟨_,rfl,S2.out,X2.out⟩
theorem waf {w:World} {ko:Option Nat} {v:Value} {l:Sp} (L:Nat) (h:SpV w ko v l) (hk:∀ z:Int,(∃ x ∈ l,x.1=z)->ko.getD (dg z.natAbs).length<=L) (hL:L+(dg (xg l)).length<=35184372088000) (hlen:l.length<=1099511627776):Calls Tryz.prog 45 #[v] w (xa8 (yh l) w):=
 (zax L h hk hL hlen).mono fun _ _ ⟨v,e,hs,hx⟩=>⟨v,e,hs.1,hx⟩
end Go.Proofs.YtklnlgnnlmdibaaGreat
