/- Layer 41: the iterator of collins.elements. -/
import Derived.Test.YtklnlgnnlmdibaaGreatMr41
import Derived.Test.YtklnlgnnlmdibaaGreatMr36
set_option linter.unusedSimpArgs false
set_option linter.unusedVariables false

set_option maxRecDepth 100000
set_option maxHeartbeats 8000000
namespace Go.Proofs.YtklnlgnnlmdibaaGreat
open Go.RowKit Go.Shelf
attribute [local go_sem] Oper.semAt_some
theorem vb2:(Tryz.prog.info? 24).map (fun i=>(i.zero,i.size,i.bytes))=some (some (.slice none 0 0),1,24):=by kernel_rfl
theorem ubd (n:Int) (h0:0<=n) (h1:n<=1099511627776) (w:World) :
 ∃ w',(Instr.makeSlice 99 (.int .i64 n) (.int .i64 n)).run Tryz.prog w=.ok (.slice (some ⟨w.heap.size,0,none⟩) n.toNat n.toNat) w'/\Ext w w'/\w'.heap.size=w.heap.size+1/\(∀ i,w'.frozen? ⟨w.heap.size,i,none⟩=false)/\(∀ i,i < n.toNat->w'.cell? ⟨w.heap.size,i,none⟩=some (.slice none 0 0))/\∀ i x,w'.cell? ⟨w.heap.size,i,none⟩=some x->∃ D n c,x=.slice D n c:=by
 obtain ⟨i0,hi,hz0,hz1,hz2⟩:=info_parts vb2;have hc:∀ i,(w.alloc (.cells (madeCells (Value.slice none 0 0).cells (n.toNat * i0.size)) 24)).cell? ⟨w.heap.size,i,none⟩=if i < n.toNat then some (.slice none 0 0) else none:=by
  intro i;rw [cell_of_row _ _ i _ _ (0,0) (heap_alloc_new w _),hz1];unfold madeCells;rw [Array.getElem?_map,Array.getElem?_range,Nat.mul_one]
  split
  · show some ((#[Value.slice none 0 0]:Array Value)[i % 1]!)=_;rw [Nat.mod_one]; rfl
  · rfl
 refine ⟨_,run_make w 99 24 i0 _ Tryz.underlying99 hi hz0 .i64 .i64 n n h0 (by omega) (by rw [hz2]; omega) (by omega),(Ext.refl w).alloc _,by simp,fun i=>by simp [go_sem],fun i h=>by rw [hc,if_pos h],fun i x h=>?_⟩;rw [hc] at h
 split at h
 · injection h with h; exact ⟨_,_,_,h.symm⟩
 · cases h
structure vav (T R n : Nat) (W : World) (Ls : List (List Pl)) : Prop where
 safe:Safe T W R
 fr:∀ j,j < n->W.frozen? ⟨R,j,none⟩=false
 sl:∀ j x,W.cell? ⟨R,j,none⟩=some x->∃ D n c,x=.slice D n c
 some_:∀ j,j < n->∃ x,W.cell? ⟨R,j,none⟩=some x
 le:Ls.length<=n
 row:∀ i (h:i < Ls.length),∃ v,W.cell? ⟨R,i,none⟩=some v/\kav T R W v Ls[i]
theorem vav.keep {T R n:Nat} {A B:World} {Ls:List (List Pl)} (h:vav T R n A Ls) (k:uf T A B) (hn:0 < n):vav T R n B Ls:=by
 obtain ⟨x0,hx0⟩:=h.some_ 0 hn;have hb:=k.block h.safe hx0;have hc:∀ j,B.cell? ⟨R,j,none⟩=A.cell? ⟨R,j,none⟩:=fun j=>World.cell?_of_block (a:=⟨R,j,none⟩) hb
 exact ⟨h.safe.keep k,fun j hj=>(World.frozen?_of_block (a:=⟨R,j,none⟩) hb).trans (h.fr j hj),fun j x hx=>h.sl j x (by rw [<- hc]; exact hx),fun j hj=>by rw [hc]; exact h.some_ j hj,h.le,fun i hi=>by
  obtain ⟨v,hv,hr⟩:=h.row i hi
  exact ⟨v,by rw [hc]; exact hv,hr.keep (k.x R)⟩⟩
theorem vav.set {T R n:Nat} {A:World} {Ls:List (List Pl)} (h:vav T R n A Ls) (hi:Ls.length < n) {D:Option Addr} {c:Nat} {L:List Pl} (hr:kav T R A (.slice D L.length c) L):vav T R n (A.setCell ⟨R,Ls.length,none⟩ (.slice D L.length c)) (Ls ++ [L])/\kaa T R A (A.setCell ⟨R,Ls.length,none⟩ (.slice D L.length c)):=by
 obtain ⟨u,hu⟩:=h.some_ _ hi;obtain ⟨D',n',c',rfl⟩:=h.sl _ _ hu;have hk:kaa T R A (A.setCell ⟨R,Ls.length,none⟩ (.slice D L.length c)):=kaa.set h.safe.2.1 hu rfl;have same:=World.cell?_setCell_same A ⟨R,Ls.length,none⟩ (.slice D L.length c) hu;have oth:∀ j,j ≠ Ls.length->(A.setCell ⟨R,Ls.length,none⟩ (.slice D L.length c)).cell? ⟨R,j,none⟩=A.cell? ⟨R,j,none⟩:=fun j hj=>World.cell?_setCell_other _ _ _ _ (by intro e; injection e with _ e; exact hj e.symm)
 refine ⟨⟨⟨by have:=h.safe.1; simpa [World.setCell] using this,h.safe.2.1,fun e=>h.safe.2.2 (hk.own R h.safe.1 e)⟩,fun j hj=>by rw [World.frozen?_setCell]; exact h.fr j hj,fun j x hx=>?_,fun j hj=>?_,by simp; omega,fun i hi'=>?_⟩,hk⟩
 · by_cases e:j=Ls.length
   · subst e; rw [same] at hx; injection hx with hx; exact ⟨_,_,_,hx.symm⟩
   · rw [oth j e] at hx; exact h.sl j x hx
 · by_cases e:j=Ls.length
   · subst e; exact ⟨_,same⟩
   · rw [oth j e]; exact h.some_ j hj
 · by_cases e:i=Ls.length
   · subst e;refine ⟨_,same,?_⟩;simpa using hr.keep hk
   · have hlt:i < Ls.length:=by simp at hi'; omega
     obtain ⟨v,hv,hr'⟩:=h.row i hlt;refine ⟨v,by rw [oth i e]; exact hv,?_⟩;rw [List.getElem_append_left hlt]; exact hr'.keep hk
structure zcp (T lp lo : Nat) (J : Nat -> World -> Prop) (M : List Pl) : Prop extends Env T lp J M where
 rel:∀ k A B,J k A->kam T lo A B->J k B
def ycm (x:Value):Array Value:=#[x]
def OkP (M:List Pl) (k:Nat) (x:Value) (W:World):Prop:=∃ _:k < M.length,∃ q,PlV W q M[k] x
def kbe (l:Int) (fs:List Pl):Prop:=∀ r s,((∃ f ∈ fs,r ∈ xh l f/\s=jab l r)\/(∃ (i j:Nat) (hi:i < fs.length) (hj:j < fs.length),i < j/\r ∈ xh l fs[i]/\s ∈ xh l fs[j]))->(xaa l r s).length<=1000/\∀ W' v0 v1 q0 q1,PlV W' q0 r v0->PlV W' q1 s v1->Calls Tryz.prog 72 #[v0,v1,.int .i64 l] W' (gaf (fun b=>W'.heap.size<=b) (xaa l r s) W')
theorem jbk {w : World} {T lo E D BL BV c0 : Nat} {D0 : Option Addr} {l : Int} {fs : List Pl} (hl : 1 <= l) (hl4 : l <= 4) (hF : Fw T w) (hlo : lo <= w.heap.size) (hBL : Safe T w BL) (hBV : Safe T w BV) (cL : w.cell? ⟨BL, 0, none⟩ = some (.slice D0 fs.length c0)) (cV : w.cell? ⟨BV, 0, none⟩ = some (.int .i64 l))
 (hc1:fs.length<=c0) (hc2:c0<=9223372036854775807) (hat:jd w (Safe T w) fs D0 0) (hfn:fs.length<=1000) (hfit:∀ f ∈ fs,Fit f E D) (hE:E<=60) (hD:D<=100000000000) (HP:Hid (kbe l fs)) (n:Nat) :
 wce n Tryz.prog 96 #[.pointer (some ⟨BL,0,none⟩),.pointer (some ⟨BV,0,none⟩)] ycm (OkP (elems l fs)) (uf T) (kam T lo) (elems l fs).length w:=by
 intro lp J W hW hJ hR hY h0;have hWx:Ext w W:=hW;have HE:Hid (zcp T lp lo J (elems l fs)):=Lib.hid ⟨⟨fun k W W' h hx=>hJ k W W' none h ⟨hx.below.os,hx.below.tape,hx.below.output,hx.size,fun i hi _=>hx.below.block i hi⟩ (fun r e=>by cases e),fun k v W h hj hp m=>hY k v W h hj ⟨h,hp⟩ m⟩,hR⟩;have HR:=Lib.hid hR;have H0:=Lib.hid h0;have HFW:=Lib.hid (hF.ext hWx);have HFIT:=Lib.hid hfit;have k1:W.cell? ⟨BL,0,none⟩=some (.slice D0 fs.length c0):=(hWx.cell (p:=⟨BL,0,none⟩) hBL.1).trans cL;have hws:=hWx.size;obtain ⟨W1,hmk,hmx,hms,hmf,hmc,hmsl⟩:=ubd (fs.length:Int) (by omega) (by omega) W;rw [Int.toNat_natCast] at hmk hmc;obtain ⟨R,hRe⟩:∃ R,W.heap.size=R:=⟨_,rfl⟩;rw [hRe] at hmk hmf hmc hmsl hms;have hx1:Ext w W1:=hWx.trans hmx;have hf1:=hF.ext hx1;have hsafeR:Safe T W1 R:=⟨by omega,by have:=hF.lt; omega,fun e=>by
  obtain ⟨v,hv,e'⟩:=e;have:=hF.fresh R ⟨v,(hx1.cell (p:=⟨T,0,none⟩) hF.lt).symm.trans hv,e'⟩
  omega⟩
 have HALL:Hid (vav T R fs.length W1 []):=Lib.hid ⟨hsafeR,fun j _=>hmf j,hmsl,fun j hj=>⟨_,hmc j hj⟩,by simp,fun i hi=>by simp at hi⟩;have hkx:=uf.of_ext hF.lt hx1;have HSL:Hid (yan T R W1 BL):=Lib.hid ⟨hBL.keep hkx,by have:=hBL.1; omega⟩;have HSV:Hid (yan T R W1 BV):=Lib.hid ⟨hBV.keep hkx,by have:=hBV.1; omega⟩;have HCV:Hid (W1.cell? ⟨BV,0,none⟩=some (.int .i64 l)):=Lib.hid ((hx1.cell (p:=⟨BV,0,none⟩) hBV.1).trans cV);have HCL:Hid (W1.cell? ⟨BL,0,none⟩=some (.slice D0 fs.length c0)):=Lib.hid ((hx1.cell (p:=⟨BL,0,none⟩) hBL.1).trans cL);have HROW:Hid (kav T R W1 (.slice D0 fs.length c0) fs):=Lib.hid ⟨D0,c0,rfl,hc1,hc2,jd.turnC hkx.size hkx.nat (fun a v hp hv=>⟨⟨hp.keep hkx,by have:=hp.1; omega⟩,hkx.cellA hp hv⟩) _ _ _ hat⟩;have HF1:=Lib.hid hf1;have hloR:lo<=R:=by omega
 have J1:=Lib.hid (HE.out.ext _ _ _ h0 hmx);have hRW1:R < W1.heap.size:=hsafeR.1;have hPD:∀ r ∈ fs,mdg l r<=62:=fun r hr=>by have:=xal (l:=l) (hfit r hr).can (hfit r hr).ex; omega
 have HPD:=Lib.hid hPD;have hdd:∀ k:Nat,(Fence.wide.depth.isSome=true->1<=k):=fun k h=>by cases h
 have hmix:Tryz.prog.follows .mixedOrders=true:=by kernel_rfl
 obtain ⟨M,hM⟩:∃ M,elems l fs=M:=⟨_,rfl⟩;have hSeg:Seg M 0 (fs.flatMap (xam l) ++ wbu l (fs.map (xh l))):=by rw [<- hM]; exact Seg.all _
 have HSG:=Lib.hid hSeg.left;have HSP:=Lib.hid hSeg.right;have HML:Hid ((fs.flatMap (xam l)).length+(wbu l (fs.map (xh l))).length=M.length):=Lib.hid (by rw [<- hM]; unfold elems; rw [List.length_append]);rw [hM] at HE ⊢;clear hW hJ hR hY h0 hF hBL hBV cL cV hat hfit hWx hmf hmc hmsl hx1 hf1 hsafeR hkx hPD hSeg hM hmx;refine callsIn_of_wp Tryz.func96 rfl trivial ?_ rfl;simp only [Tryz.ntmps96,List.size_toArray,List.length_cons,List.length_nil,Nat.reduceAdd,Nat.reduceSub,Array.replicate_succ,Array.replicate_zero,List.push_toArray,List.append_toArray,List.nil_append,List.cons_append];have k2:=HCL.out
 gi_wp2_with fail
 clear k1 k2 hmk hRe
 gi_loopw [17] (fun iv wr=>∃ i:Nat,i<=fs.length/\iv=.int .i64 i/\Hid (J ((fs.take i).flatMap (xam l)).length wr/\kaa T R W1 wr/\vav T R fs.length wr ((fs.take i).map (xh l)))) (fun iv _=>fs.length - (intOf iv).toNat)
 case atStart=>exact ⟨0,Nat.zero_le _,rfl,Lib.hid ⟨by simpa using J1.out,(uf.of_ext HF1.out.lt (Ext.refl W1)).x R,by simpa using HALL.out⟩⟩
 case round =>
  obtain ⟨i,hi,rfl,HI⟩:=hrel
  by_cases hlt:i < fs.length
  · obtain ⟨hJ,hK,hA⟩:=HI.out;have hn0:0 < fs.length:=by omega
    have hfw:Fw T wr:=⟨Nat.lt_of_lt_of_le HF1.out.lt hK.size,hK.fresh HF1.out.fresh⟩;obtain ⟨D0',c0',e',-,-,hat⟩:=HROW.out.keep hK;injection e' with e1 e2 e3
    subst e1 e3;obtain ⟨ad,C0,j0,k0,C1,j1,k1,rfl,hadb,⟨g0,g1,g2,g3⟩,hpk⟩:=hat.kid i hlt;have HSEG:=Lib.hid (HSG.out.flat i hlt);have HLEN:=Lib.hid (uz (xam l) fs i hlt);have hfi:=HFIT.out fs[i] (List.getElem_mem hlt);obtain ⟨V,hV⟩:∃ V,(wr.alloc (.cells #[.int .i64 fs[i].lv,.bool fs[i].neg,.slice C0 j0 k0,.slice C1 j1 k1] 35))=V:=⟨_,rfl⟩;have hxV:Ext wr V:=by rw [<- hV]; exact (Ext.refl wr).alloc _
    obtain ⟨s0,s1,s2,s3⟩:jb V wr.heap.size fs[i] (.slice C0 j0 k0) (.slice C1 j1 k1):=by rw [<- hV]; exact jb.new wr fs[i] _ _ _
    have cv:V.cell? ⟨BV,0,none⟩=some (.int .i64 l):=((kaa.trans hK ((uf.of_ext hfw.lt hxV).x R)).cellA HSV.out HCV.out);have HRE:=Lib.hid (waz _ hl hl4 (hpk.ext hxV) hfi (by omega) (by omega));have HKV:=Lib.hid (hK.trans ((uf.of_ext hfw.lt hxV).x R));have HAV:=Lib.hid (hA.keep (uf.of_ext hfw.lt hxV) hn0);have HJV:=Lib.hid (HE.out.ext _ _ _ hJ hxV);have HFV:=Lib.hid (hfw.ext hxV);have HLE:Hid (((fs.take i).map (xh l)).length=i):=Lib.hid (by rw [List.length_map,List.length_take]; omega);have HTK:Hid ((fs.take i).map (xh l) ++ [xh l fs[i]]=(fs.take (i+1)).map (xh l)):=Lib.hid (by rw [List.take_succ_eq_append_getElem hlt,List.map_append]; rfl);have HMEM:=Lib.hid (List.getElem_mem hlt);have HFI:=Lib.hid hfi;clear hJ hK hA hfw hat hadb hpk hxV hfi HI;generalize fs[i]=f at *;unfold plV at HRE
    gi_wp2_with fail
    clear g0 g1 g2 g3 hV s0 s1 s2 s3;refine ⟨trivial,hdd _,?_⟩;refine (callsIn_wide.2 HRE.out).mono ?_;rintro e V2 ⟨v2,rfl,⟨E0,ec,rfl,hec1,hec2,hat2⟩,x2⟩;obtain ⟨rl,hrl⟩:∃ rl,xh l f=rl:=⟨_,rfl⟩;have hA2:=HAV.out.keep (uf.of_ext HFV.out.lt x2) hn0;have hrx:kav T R V2 (.slice E0 rl.length ec) rl:=by
     rw [hrl] at hec1 hat2;rw [<- hrl];exact ⟨E0,ec,rfl,by rw [hrl]; exact hec1,hec2,by rw [hrl]; exact hat2.mono fun b hb hq=>⟨jat HFV.out.lt HFV.out.fresh x2 hq hb,by have:=HAV.out.safe.1; omega⟩⟩
    have hset:=hA2.set (L:=rl) (by rw [HLE.out]; exact hlt) hrx;rw [HLE.out,<- hrl,HTK.out] at hset;obtain ⟨u,hu⟩:=hA2.some_ i hlt;have huf:=hA2.fr i hlt;have cv2:=(x2.cell (p:=⟨BV,0,none⟩) (HSV.out.keep HKV.out).1.1).trans cv;have hrel2:kam T lo V2 (V2.setCell ⟨R,i,none⟩ (.slice E0 (xh l f).length ec)):=⟨R,i,u,E0,_,ec,hloR,hA2.safe.2.1,hA2.safe.2.2,hA2.sl,hu,rfl⟩;have hj3:=HE.out.rel _ _ _ (HE.out.ext _ _ _ HJV.out x2) hrel2;obtain ⟨V3,hV3⟩:∃ V3,V2.setCell ⟨R,i,none⟩ (.slice E0 (xh l f).length ec)=V3:=⟨_,rfl⟩;rw [hV3] at hset hj3;obtain ⟨hA3,hK3⟩:=hset;have hkx3:kaa T R W1 V3:=(HKV.out.trans ((uf.of_ext HFV.out.lt x2).x R)).trans hK3;have hfw3:Fw T V3:=⟨Nat.lt_of_lt_of_le HF1.out.lt hkx3.size,hkx3.fresh HF1.out.fresh⟩;have cv3:V3.cell? ⟨BV,0,none⟩=some (.int .i64 l):=hkx3.cellA HSV.out HCV.out;have hd3:Ext V3 V3.drew:=(Ext.refl V3).drew;have ck3:V3.cell? ⟨R,i,none⟩=some (.slice E0 (xh l f).length ec):=by rw [<- hV3]; exact World.cell?_setCell_same _ _ _ hu
    have cv4:=(hd3.cell (p:=⟨BV,0,none⟩) (HSV.out.keep hkx3).1.1).trans cv3;have ck4:=(hd3.cell (p:=⟨R,i,none⟩) hA3.safe.1).trans ck3;have hrs3:zaj T V3.drew (.slice E0 (xh l f).length ec) (xh l f):=by
     rw [hrl]; exact ((hrx.keep hK3).rowS).keep (uf.of_ext hfw3.lt hd3)
    have hN62:(mdg l f).toNat<=62:=by have:=HPD.out f HMEM.out; omega
    have hrfit:∀ r ∈ xh l f,Fit r E (D+62):=fun r hr=>(xa5 HFI.out (by have:B32=4294967296:=rfl; omega) r hr).1.mono (Nat.le_refl _) (by omega)
    have hrn:(xh l f).length<=1000000:=by have:=yai (l:=l) (mdg l f).toNat f; unfold xh; omega
    have HSI:=Lib.hid (ubt (k:=0+((fs.take i).flatMap (xam l)).length) (M:=M) (c:=yag l f) _ hl hl4 hrs3 HE.out.toEnv (hfw3.ext hd3) (by rw [Nat.zero_add]; exact HE.out.ext _ _ _ hj3 hd3) HSEG.out hrn hrfit (by omega) (by omega) (Lib.hid fun r hr=>HP.out r (jab l r) (Or.inl ⟨f,HMEM.out,hr,rfl⟩)));have HA4:=Lib.hid (hA3.keep (uf.of_ext hfw3.lt hd3) hn0);have HK4:=Lib.hid (hkx3.trans ((uf.of_ext hfw3.lt hd3).x R));clear hA2 hrx x2 hat2 hrel2 hj3 hA3 hK3 hkx3 hfw3 hd3 hrs3 hrfit hrn HRE hrl hN62;rw [Nat.zero_add] at HSI;obtain ⟨n0,hn0'⟩:∃ n0,((fs.take i).flatMap (xam l)).length=n0:=⟨_,rfl⟩;rw [hn0'] at HSI HLEN;obtain ⟨rc,hrc⟩:∃ rc,yag l f=rc:=⟨_,rfl⟩;have HSL2:Hid ((xam l f).length=((xh l f).flatMap (qac l) ++ tailE l (xh l f) (yag l f)).length):=Lib.hid rfl;rw [<- HSL2.out] at HSI;rw [hrc] at HSI ⊢;obtain ⟨rn,hrn⟩:∃ rn,(xh l f).length=rn:=⟨_,rfl⟩;rw [hrn] at HSI ck3 ck4 hec1 hV3 ⊢;clear hn0' hrc hrn HSL2
    gi_wp2_with fail
    clear hu huf cv cv2 hV3
    gi_region_with_o (first
     | (go_simp
        (try refine ⟨trivial,?_⟩)
        (try refine ⟨hdd _,?_⟩)
        refine (callsIn_wide.2 HSI.out).mono ?_;rintro e W4 ⟨rfl,hj4,hk4⟩;have HN:Hid (J ((fs.take (i+1)).flatMap (xam l)).length W4/\kaa T R W1 W4/\vav T R fs.length W4 ((fs.take (i+1)).map (xh l))):=Lib.hid ⟨by rw [HLEN.out]; exact hj4,HK4.out.trans (hk4.x R),HA4.out.keep hk4 hn0⟩
        clear hj4 hk4))
    all_goals
     clear cv3 cv4 ck3 ck4 HSI
     gi_wp2_with fail
     go_roundw
     case rel=>exact ⟨i+1,by omega,by go_num,HN.out⟩
     case measure=>simp [intOf]; omega
  · obtain rfl:i=fs.length:=by omega
    have hf:=HI.out;rw [List.take_length] at hf;clear HI;obtain ⟨WA,rfl⟩:∃ x,x=wr:=⟨_,rfl⟩;obtain ⟨hJ,hK,hA⟩:=hf;obtain ⟨Ls,hLs⟩:∃ Ls,fs.map (xh l)=Ls:=⟨_,rfl⟩;have hLn:Ls.length=fs.length:=by rw [<- hLs,List.length_map]
    have hmemL:∀ i (h:i < Ls.length),∃ h':i < fs.length,Ls[i]=xh l fs[i]:=fun i h=>by
     have h':i < fs.length:=by rw [<- hLn]; exact h
     subst hLs;exact ⟨h',List.getElem_map _⟩
    rw [hLs] at hA HSP HML;have hfw:Fw T WA:=⟨Nat.lt_of_lt_of_le HF1.out.lt hK.size,hK.fresh HF1.out.fresh⟩;obtain ⟨n1,hn1⟩:∃ n1,(fs.flatMap (xam l)).length=n1:=⟨_,rfl⟩;rw [hn1] at hJ HSP HML;rw [Nat.zero_add] at HSP;have HLN:=Lib.hid hLn;have HML2:=Lib.hid hmemL;have HFR:=Lib.hid hfw;have HKR:=Lib.hid hK;have HAR:=Lib.hid hA;have HJR:=Lib.hid hJ;have hrs:=hA.safe.1;clear hJ hK hA hLs hLn hmemL hfw hn1
    gi_wp2_with fail
    gi_loopw [43] (fun iv w3=>∃ i:Nat,i<=fs.length/\iv=.int .i64 i/\Hid (J (n1+(((List.range Ls.length).take i).flatMap fun i=>(Ls.drop (i+1)).flatMap (prE l (Ls.getD i []))).length) w3/\uf T WA w3)) (fun iv _=>fs.length - (intOf iv).toNat)
    case atStart=>exact ⟨0,Nat.zero_le _,rfl,Lib.hid ⟨by simpa using HJR.out,uf.of_ext HFR.out.lt (Ext.refl WA)⟩⟩
    case round =>
     obtain ⟨w3,rfl⟩:∃ x,x=wr:=⟨_,rfl⟩;obtain ⟨i,hi,rfl,HI⟩:=hrel
     by_cases hlt:i < fs.length
     · obtain ⟨hJ,hK⟩:=HI.out;have hn0:0 < fs.length:=by omega
       have hltL:i < Ls.length:=by rw [HLN.out]; exact hlt
       have hltR:i < (List.range Ls.length).length:=by rw [List.length_range]; exact hltL
       have hA:=HAR.out.keep hK hn0;obtain ⟨vi,hvi,hri⟩:=hA.row i hltL;obtain ⟨Di,ci,rfl,-⟩:=id hri;have HSEG:=Lib.hid (HSP.out.flat i hltR);have HLEN:=Lib.hid (uz (fun i=>(Ls.drop (i+1)).flatMap (prE l (Ls.getD i []))) (List.range Ls.length) i hltR);rw [List.getElem_range] at HSEG HLEN;have hgd:Ls.getD i []=Ls[i]:=by rw [List.getD_eq_getElem?_getD,List.getElem?_eq_getElem hltL]; rfl
       rw [hgd] at HSEG HLEN;obtain ⟨hil,hfe⟩:=HML2.out i hltL;obtain ⟨f,hfq⟩:∃ f,fs[i]=f:=⟨_,rfl⟩;have hfm:f ∈ fs:=by rw [<- hfq]; exact List.getElem_mem hil
       rw [hfq] at hfe;have HFE:Hid (f ∈ fs/\Ls[i]=xh l f/\fs[i]=f):=Lib.hid ⟨hfm,hfe,hfq⟩;obtain ⟨n2,hn2⟩:∃ n2,n1+(((List.range Ls.length).take i).flatMap fun i=>(Ls.drop (i+1)).flatMap (prE l (Ls.getD i []))).length=n2:=⟨_,rfl⟩;have HN2:=Lib.hid hn2;rw [hn2] at hJ HSEG;have HJ2:=Lib.hid hJ;have HK2:=Lib.hid hK;have HFW2:=Lib.hid (HFR.out.keep hK);have HRI:=Lib.hid hri.rowS;have HA2:=Lib.hid hA;have hAn:Ls[i].length<=62:=by
        rw [hfe];have h1:=yai (l:=l) (mdg l f).toNat f;have h2:=HPD.out f hfm;unfold xh; omega
       have HAN:=Lib.hid hAn;have HDL:Hid ((Ls.drop (i+1)).length=fs.length - (i+1)):=Lib.hid (by rw [List.length_drop,HLN.out]);have hcap:i+1<=fs.length:=hlt;clear hJ hK hA hri hgd hfm hfe hn2 HI hAn hfq;generalize hgA:Ls[i]=A at *;clear hgA;have HNX:Hid (∀ w4,J (n2+((Ls.drop (i+1)).flatMap (prE l A)).length) w4->uf T w3 w4->J (n1+(((List.range Ls.length).take (i+1)).flatMap fun i=>(Ls.drop (i+1)).flatMap (prE l (Ls.getD i []))).length) w4/\uf T WA w4):=Lib.hid (fun w4 h1 h2=>⟨by rw [HLEN.out,<- Nat.add_assoc,HN2.out]; exact h1,HK2.out.trans h2⟩)
       by_cases hend:i+1=fs.length
       · have hnil:Ls.drop (i+1)=[]:=List.eq_nil_of_length_eq_zero (by rw [HDL.out]; omega);have HN:=Lib.hid (HNX.out w3 (by rw [hnil]; simpa using HJ2.out) (uf.of_ext HFW2.out.lt (Ext.refl w3)));have HEND:=Lib.hid hend;clear hnil HNX HSEG HLEN HDL
         gi_wp2_with fail
         clear hvi
         gi_loopw [53] (fun iv w4=>iv=.int .i64 0/\w4=w3) (fun _ _=>0)
         case atStart=>exact ⟨rfl,rfl⟩
         case round =>
          obtain ⟨rfl,rfl⟩:=hrel
          gi_wp2_with fail
          go_roundw
          case rel=>exact ⟨i+1,by omega,by go_num,HN.out⟩
          case measure=>simp [intOf]; omega
       · have hlt2:i+1 < fs.length:=by omega
         have hne2:¬ fs.length=i+1:=by omega
         clear hend
         gi_wp2_with fail
         clear hvi
         gi_loopw [53] (fun iv w4=>∃ j:Nat,j<=fs.length - (i+1)/\iv=.int .i64 j/\Hid (J (n2+(((Ls.drop (i+1)).take j).flatMap (prE l A)).length) w4/\uf T w3 w4)) (fun iv _=>fs.length - (intOf iv).toNat)
         case atStart=>exact ⟨0,Nat.zero_le _,rfl,Lib.hid ⟨by simpa using HJ2.out,uf.of_ext HFW2.out.lt (Ext.refl w3)⟩⟩
         case round =>
          obtain ⟨w4,rfl⟩:∃ x,x=wr:=⟨_,rfl⟩;obtain ⟨j,hj,rfl,HI2⟩:=hrel
          by_cases hlt3:j < fs.length - (i+1)
          · obtain ⟨hJ4,hK4⟩:=HI2.out;have hjl:i+1+j < Ls.length:=by have:=HLN.out; omega
            have hjd:j < (Ls.drop (i+1)).length:=by rw [HDL.out]; exact hlt3
            have hA4:=HA2.out.keep hK4 hn0;obtain ⟨vj,hvj,hrj⟩:=hA4.row (i+1+j) hjl;obtain ⟨Dj,cj,rfl,-⟩:=id hrj;have HSEG4:=Lib.hid (HSEG.out.flat j hjd);have HLEN4:=Lib.hid (uz (prE l A) (Ls.drop (i+1)) j hjd);rw [List.getElem_drop] at HSEG4 HLEN4;obtain ⟨hil2,hfe2⟩:=HML2.out (i+1+j) hjl;obtain ⟨f2,hfq2⟩:∃ f2,fs[i+1+j]=f2:=⟨_,rfl⟩;have hfm2:f2 ∈ fs:=by rw [<- hfq2]; exact List.getElem_mem hil2
            rw [hfq2] at hfe2;have hBn:Ls[i+1+j].length<=62:=by
             rw [hfe2];have h1:=yai (l:=l) (mdg l f2).toNat f2;have h2:=HPD.out f2 hfm2;unfold xh; omega
            have hpair:=yca (k:=n2+(((Ls.drop (i+1)).take j).flatMap (prE l A)).length) (M:=M) _ _ (HRI.out.keep hK4) hrj.rowS HE.out.toEnv (HFW2.out.keep hK4) hJ4 HSEG4.out (by have:=HAN.out; omega) (by omega) (Lib.hid fun r hr s hs=>HP.out r s (Or.inr ⟨i,i+1+j,hlt,hil2,by omega,by rw [HFE.out.2.2,<- HFE.out.2.1]; exact hr,by rw [hfq2,<- hfe2]; exact hs⟩));have HPA:=Lib.hid hpair;have cv:=((HKR.out.trans (HK2.out.x R)).trans (hK4.x R)).cellA HSV.out HCV.out;have HK4:=Lib.hid hK4;have hw1:((i:Int)+1+(j:Int))<=2000:=by omega
            clear hJ4 hK4 hA4 hrj hfm2 hfe2 hBn hpair HI2 hfq2;generalize hgB:Ls[i+1+j]=B at *;clear hgB
            gi_wp2_with fail
            clear hvj cv;refine ⟨trivial,hdd _,?_⟩;refine (callsIn_wide.2 HPA.out).mono ?_;rintro e w5 ⟨rfl,hj5,hk5⟩;have HN:Hid (J (n2+(((Ls.drop (i+1)).take (j+1)).flatMap (prE l A)).length) w5/\uf T w3 w5):=Lib.hid ⟨by rw [HLEN4.out,<- Nat.add_assoc]; exact hj5,HK4.out.trans hk5⟩;clear hj5 hk5 HPA
            gi_wp2_with fail
            go_roundw
            case rel=>exact ⟨j+1,by omega,by go_num,HN.out⟩
            case measure=>simp [intOf]; omega
          · obtain rfl:j=fs.length - (i+1):=by omega
            have hf:=HI2.out;rw [<- HDL.out,List.take_length] at hf;have HN:=Lib.hid (HNX.out w4 hf.1 hf.2);clear HI2 hf
            gi_wp2_with fail
            go_roundw
            case rel=>exact ⟨i+1,by omega,by go_num,HN.out⟩
            case measure=>simp [intOf]; omega
     · obtain rfl:i=fs.length:=by omega
       have hf:=HI.out;rw [<- HLN.out] at hf;have e1:(List.range Ls.length).take Ls.length=List.range Ls.length:=by
        have h9:=List.take_length (l:=List.range Ls.length)
        rwa [List.length_range] at h9
       rw [e1] at hf;have HJF:Hid (J M.length w3):=Lib.hid (by rw [<- HML.out]; exact hf.1);clear HI hf e1
       gi_wp2_with fail
       go_end0
       exact ⟨⟨_,rfl⟩,HJF.out⟩
end Go.Proofs.YtklnlgnnlmdibaaGreat
