/- Reference 38: Fold. -/
import Derived.Test.YtaedbimbbeploaaGreatDoorMb42
import Derived.Test.YtaedbimbbeploaaGreatDoorMRow
import Derived.Deep.RegionLaw
import Derived.Test.YtaedbimbbeploaaGreatDoorMb32
import Derived.Deep.CutBlock
set_option linter.unusedSimpArgs false
set_option linter.unusedVariables false

set_option maxRecDepth 100000
set_option maxHeartbeats 8000000
namespace Go.Proofs.YtaedbimbbeploaaGreatDoor
open Go.RowKit
structure wap (w : World) (Q : Nat -> Prop) (g : Nat) (t : Mx) (s0 s1 s2 : Value) (m : Mx) (wr : World) : Prop where
 ext:Ext w wr
 zero:qy wr (w.heap.size+1)
 lt:g < wr.heap.size
 old:w.heap.size+1 < g
 fr:∀ i,wr.frozen? ⟨g,i,none⟩=false
 bp:um wr w.heap.size t s0 s1 s2
 br:∃ P0 l0 h0 P l1 h1 R l2 h2,um wr g m (.slice P0 l0 h0) (.slice P l1 h1) (.slice R l2 h2)/\MxV wr (fun b=>(Q b\/w.heap.size+1 < b)/\b ≠ g) m (mxV m (.slice P0 l0 h0) (.slice P l1 h1) (.slice R l2 h2))
theorem wap.go {w wr w':World} {Q:Nat->Prop} {g:Nat} {t m:Mx} {s0 s1 s2:Value} (h:wap w Q g t s0 s1 s2 m wr) (x:Ext wr w'):wap w Q g t s0 s1 s2 m w':=by
 obtain ⟨h1,h2,h3,h4,h5,h6,⟨P0,l0,h0,P,l1,h1',R,l2,h2',h7,h8⟩⟩:=h;exact ⟨h1.trans x,h2.ext x (by omega),Nat.lt_of_lt_of_le h3 x.size,h4,fun i=>(x.frozen (p:=⟨g,i,none⟩) h3).trans (h5 i),h6.ext x (by omega),⟨P0,l0,h0,P,l1,h1',R,l2,h2',h7.ext x h3,h8.ext x⟩⟩
theorem wap.put {w wr w':World} {Q:Nat->Prop} {g:Nat} {t m m':Mx} {s0 s1 s2:Value} {A0 A1 K:Option Addr} {n0 c0 n1 c1 n2 c2:Nat} (h:wap w Q g t s0 s1 s2 m wr) (x:Ext wr w') (k:MxV w' (fun b=>(Q b\/w.heap.size+1 < b)/\b ≠ g) m' (mxV m' (.slice A0 n0 c0) (.slice A1 n1 c1) (.slice K n2 c2))) :
 wap w Q g t s0 s1 s2 m' (((((((w'.setCell ⟨g,0,none⟩ (.int .i64 m'.kind)).setCell ⟨g,1,none⟩ (.int .i64 m'.rel)).setCell ⟨g,2,none⟩ (.int .i64 m'.p.lv)).setCell ⟨g,3,none⟩ (.bool m'.p.neg)).setCell ⟨g,4,none⟩ (.slice A0 n0 c0)).setCell ⟨g,5,none⟩ (.slice A1 n1 c1)).setCell ⟨g,6,none⟩ (.slice K n2 c2)):=by
 have hlt:=h.lt;obtain ⟨h1,h2,h3,h4,h5,h6,⟨P0,l0,h0,P,l1,h1',R,l2,h2',h7,h8⟩⟩:=h.go x;obtain ⟨hn,hb⟩:=vay (m':=m') (B0:=A0) (m0:=n0) (d0:=c0) (B1:=A1) (m1:=n1) (d1:=c1) (K1:=K) (m2:=n2) (d2:=c2) h7;have hle:w.heap.size<=g:=by omega
 have hsz:(((((((w'.setCell ⟨g,0,none⟩ (.int .i64 m'.kind)).setCell ⟨g,1,none⟩ (.int .i64 m'.rel)).setCell ⟨g,2,none⟩ (.int .i64 m'.p.lv)).setCell ⟨g,3,none⟩ (.bool m'.p.neg)).setCell ⟨g,4,none⟩ (.slice A0 n0 c0)).setCell ⟨g,5,none⟩ (.slice A1 n1 c1)).setCell ⟨g,6,none⟩ (.slice K n2 c2)).heap.size=w'.heap.size:=by simp [World.setCell]
 obtain ⟨⟨z0,z1,z2,z3,z4,z5,z6⟩,zf⟩:=h2;obtain ⟨q0,q1,q2,q3,q4,q5,q6⟩:=h7;refine ⟨((((((h1.setCell hle _).setCell hle _).setCell hle _).setCell hle _).setCell hle _).setCell hle _).setCell hle _,⟨?_,fun i=>?_⟩,by rw [hsz]; exact h3,h4,fun i=>?_,?_,⟨A0,n0,c0,A1,n1,c1,K,n2,c2,?_,MxV.turn_ (by rw [hsz]; exact Nat.le_refl _) hn (fun b hlt hq=>⟨hq,hb b hq.2⟩) k⟩⟩
 · exact (show um w' (w.heap.size+1) (.mk 0 0 Pl.zero []) (.slice none 0 0) (.slice none 0 0) (.slice none 0 0) from ⟨z0,z1,z2,z3,z4,z5,z6⟩).turn (hb _ (by omega))
 · simp only [World.frozen?_setCell]; exact zf i
 · simp only [World.frozen?_setCell]; exact h5 i
 · exact h6.turn (hb _ (by omega))
 · refine ⟨?_,?_,?_,?_,?_,?_,?_⟩
   · iterate 6 rw [World.cell?_setCell_other _ _ _ _ (by simp)]
     exact World.cell?_setCell_same _ _ _ q0
   · iterate 5 rw [World.cell?_setCell_other _ _ _ _ (by simp)]
     exact World.cell?_setCell_same _ _ _ (u := .int .i64 m.rel) (by iterate 1 rw [World.cell?_setCell_other _ _ _ _ (by simp)]
                                                                     exact q1)
   · iterate 4 rw [World.cell?_setCell_other _ _ _ _ (by simp)]
     exact World.cell?_setCell_same _ _ _ (u := .int .i64 m.p.lv) (by iterate 2 rw [World.cell?_setCell_other _ _ _ _ (by simp)]
                                                                      exact q2)
   · iterate 3 rw [World.cell?_setCell_other _ _ _ _ (by simp)]
     exact World.cell?_setCell_same _ _ _ (u := .bool m.p.neg) (by iterate 3 rw [World.cell?_setCell_other _ _ _ _ (by simp)]
                                                                   exact q3)
   · iterate 2 rw [World.cell?_setCell_other _ _ _ _ (by simp)]
     exact World.cell?_setCell_same _ _ _ (u := .slice P0 l0 h0) (by iterate 4 rw [World.cell?_setCell_other _ _ _ _ (by simp)]
                                                                     exact q4)
   · iterate 1 rw [World.cell?_setCell_other _ _ _ _ (by simp)]
     exact World.cell?_setCell_same _ _ _ (u := .slice P l1 h1') (by iterate 5 rw [World.cell?_setCell_other _ _ _ _ (by simp)]
                                                                     exact q5)
   · exact World.cell?_setCell_same _ _ _ (u := .slice R l2 h2') (by iterate 6 rw [World.cell?_setCell_other _ _ _ _ (by simp)]
                                                                     exact q6)
def jab (k:Int) (ks:List Mx) (n:Nat):Mx:=match ks.map Mx.fold with
 | []=>wax false
 | x :: l=>(l.take (n - 1)).foldl (gab k) x
theorem gb3 (k:Int) (ks:List Mx) (h:0 < ks.length):jab k ks 1=(ks[0]).fold:=by
 cases ks with
 | nil=>simp at h
 | cons x l=>rfl
theorem jbv (k:Int) (ks:List Mx) (n:Nat) (h1:1<=n) (h:n < ks.length):jab k ks (n+1)=gab k (jab k ks n) (ks[n]).fold:=by
 cases ks with
 | nil=>simp at h
 | cons x l =>
   obtain ⟨m,rfl⟩:∃ m,n=m+1:=⟨n - 1,by omega⟩;simp only [jab,List.map_cons,Nat.add_sub_cancel];have hm:m < (l.map Mx.fold).length:=by simpa using h
   rw [List.take_succ_eq_append_getElem hm,List.foldl_append];simp
theorem wb3 (t:Mx) (hk:t.kind=3\/t.kind=4) (h:0 < t.ks.length):jab t.kind t.ks t.ks.length=t.fold:=by
 cases t with
 | mk k r p ks =>
   simp only [Mx.kind,Mx.ks] at *;rw [Mx.fold,if_pos hk,xay];cases ks with
   | nil=>simp at h
   | cons x l =>
     simp only [jab,List.map_cons,List.length_cons,Nat.add_sub_cancel];rw [List.take_of_length_le (by simp)]
def ycz (n:Nat):Prop:=∀ (Q:Nat->Prop) (t:Mx) (v:Value) (w:World),t.sz < n->t.sz<=1000000->(∀ b,Q b->b < w.heap.size)->MxV w Q t v->Calls Tryz.prog 31 #[v] w (yae (fun b=>Q b\/w.heap.size<=b) t.fold w)
theorem jcu (n:Nat):ycz n:=by
 induction n with
 | zero=>intro low t v w h; omega
 | succ n ih =>
 intro Q t v w hn hbig hlow h;have IH:=Lib.hid ih;obtain ⟨A0,n0,c0,A,n1,c1,K,c2,rfl,-,hk1,hk2,hks⟩:=h.open_;have H:=Lib.hid h;have HKS:=Lib.hid hks;have hkl:=t.ks_len;obtain ⟨W,hW⟩:∃ W,(w.alloc (.cells #[.int .i64 t.kind,.int .i64 t.rel,.int .i64 t.p.lv,.bool t.p.neg,.slice A0 n0 c0,.slice A n1 c1,.slice K t.ks.length c2] 45)).alloc (.cells #[.int .i64 0,.int .i64 0,.int .i64 0,.bool false,.slice none 0 0,.slice none 0 0,.slice none 0 0] 45)=W:=⟨_,rfl⟩;have hWx:Ext w W:=by rw [<- hW]; exact ((Ext.refl w).alloc _).alloc _
 have hWs:W.heap.size=w.heap.size+1+1:=by rw [<- hW]; simp
 have hbx:um W w.heap.size t (.slice A0 n0 c0) (.slice A n1 c1) (.slice K t.ks.length c2):=by rw [<- hW]; exact (um.new w t _ _ _ _).ext ((Ext.refl _).alloc _) (by simp)
 have hz:qy W (w.heap.size+1):=by
  have:=qy.new (w.alloc (.cells #[.int .i64 t.kind,.int .i64 t.rel,.int .i64 t.p.lv,.bool t.p.neg,.slice A0 n0 c0,.slice A n1 c1,.slice K t.ks.length c2] 45)) 45;rw [hW] at this;simpa using this
 have HWX:=Lib.hid hWx;have HBX:=Lib.hid hbx;have HZ:=Lib.hid hz;obtain ⟨b0,b1,b2,b3,b4,b5,b6⟩:=id hbx;clear h hks hWx hbx hz;unfold mxV
 by_cases k34:t.kind=3\/t.kind=4
 case neg =>
  have d3:(t.kind != 3)=true:=by simp; omega
  have d4:(t.kind != 4)=true:=by simp; omega
  have hft:t.fold=t:=by
   cases t with
   | mk k r p ks=>rw [Mx.fold,if_neg (show ¬ (k=3\/k=4) from k34)]
  have hf:=xaj (q':=fun b=>Q b\/w.heap.size<=b) HWX.out (Nat.le_succ _) HZ.out (H.out.ext HWX.out) (fun b _ hb=>⟨by have:=hlow b hb; omega,.inl hb⟩);have HF:=Lib.hid (yae.congr hft hf);obtain ⟨⟨z0,z1,z2,z3,z4,z5,z6⟩,zf⟩:=HZ.out;clear hf hft k34;go_enter Tryz.func31,Tryz.ntmps31;go_wp2_with fail;exact bodyPost_ret (v:=mxV t (.slice A0 n0 c0) (.slice A n1 c1) (.slice K t.ks.length c2)) (by simp [results,Tryz.results31,go_sem,z0,z1,z2,z3,z4,z5,z6,mxV]) rfl HF.out
 have hdec:(t.kind != 3)=false/\(t.kind == 3)=true\/(t.kind != 3)=true/\(t.kind != 4)=false/\(t.kind == 3)=false:=by
  rcases k34 with h | h <;> rw [h] <;> simp
 have HK34:=Lib.hid k34
 by_cases h0:t.ks.length=0
 case pos =>
  have hft:t.fold=.mk (if t.kind=3 then 1 else 0) 0 Pl.zero []:=by
   cases t with
   | mk k r p ks =>
     simp only [Mx.kind,Mx.ks] at *;rw [Mx.fold,if_pos k34];obtain rfl:=List.eq_nil_of_length_eq_zero h0;simp only [kan,wax];rcases k34 with h | h <;> rw [h] <;> rfl
  have hf:=xaj (q:=fun _=>False) (q':=fun b=>Q b\/w.heap.size<=b) HWX.out (Nat.le_succ _) HZ.out (xbo W (fun _=>False) (if t.kind=3 then 1 else 0) 0) (fun b _ hb=>hb.elim);have HF:=Lib.hid (yae.congr hft hf);obtain ⟨⟨z0,z1,z2,z3,z4,z5,z6⟩,zf⟩:=HZ.out;clear hf hft;obtain ⟨kk,hkk⟩:∃ kk,(if t.kind=3 then (1:Int) else 0)=kk:=⟨_,rfl⟩;rw [hkk] at HF;rw [h0] at b6 hW;rw [h0];have hl0:((0:Nat):Int)=0:=rfl;rcases hdec with ⟨d3,e3⟩ | ⟨d3,d4,e3⟩
  · have:kk=1:=by rw [<- hkk,if_pos (by simpa using e3)]
    subst this;clear hkk k34;go_enter Tryz.func31,Tryz.ntmps31;go_wp2_with fail;exact bodyPost_ret (v:=mxV (.mk 1 0 Pl.zero []) (.slice none 0 0) (.slice none 0 0) (.slice none 0 0)) (by simp [results,Tryz.results31,go_sem,z0,z1,z2,z3,z4,z5,z6,mxV,Mx.kind,Mx.rel,Mx.p,Pl.zero,Pl.lv,Pl.neg]) rfl HF.out
  · have:kk=0:=by rw [<- hkk,if_neg (by simpa using e3)]
    subst this;clear hkk k34;go_enter Tryz.func31,Tryz.ntmps31;go_wp2_with fail;exact bodyPost_ret (v:=mxV (.mk 0 0 Pl.zero []) (.slice none 0 0) (.slice none 0 0) (.slice none 0 0)) (by simp [results,Tryz.results31,go_sem,z0,z1,z2,z3,z4,z5,z6,mxV,Mx.kind,Mx.rel,Mx.p,Pl.zero,Pl.lv,Pl.neg]) rfl HF.out
 have hpos:0 < t.ks.length:=by omega
 have HALL:=Lib.hid (wb3 t k34 hpos);have HONE:=Lib.hid (gb3 t.kind t.ks hpos);have hq0:((t.ks.length:Int) == 0)=false:=beq_eq_false_iff_ne.2 (by omega);obtain ⟨ad,E0,i0,j0,E,i1,j1,G,i2,j2,rfl,hadb,hkc,hkv⟩:=(jg.ext HKS.out HWX.out).kid 0 hpos;rw [Nat.zero_mul,Addr.add_zero'] at hkc;obtain ⟨y0,y1,y2,y3,y4,y5,y6⟩:=hkc;have HC:=Lib.hid (IH.out Q t.ks[0] _ W (by have:=t.kid_le 0 hpos; omega) (by have:=t.kid_le 0 hpos; omega) (fun b hb=>by have:=hlow b hb; omega) hkv);unfold mxV at HC;clear hkv k34;rw [<- HONE.out] at HC;generalize t.ks[0]=x0 at *;have HGO:Hid (∀ (w1:World) (v1:Value),MxV w1 (fun b=>Q b\/W.heap.size<=b) (jab t.kind t.ks 1) v1->Ext W w1->True):=Lib.hid (fun _ _ _ _=>trivial);go_enter Tryz.func31,Tryz.ntmps31;go_upto_region 1 with fail
 go_cut [12] from 5 to 12 (fun s wc=>s=.bool false/\wc=W)
 case first =>
  rcases hdec with ⟨d3,e3⟩ | ⟨d3,d4,e3⟩
  all_goals
   go_wp2_with fail
   go_meet
   exact ⟨rfl,rfl⟩
 case rest =>
  obtain ⟨rfl,rfl⟩:=hcut;clear hdec;go_wp2_with fail;clear hW b0 b1 b2 b3 b4 b5 b6 y0 y1 y2 y3 y4 y5 y6;refine HC.out.mono ?_;rintro e w1 ⟨v1,rfl,m1,x1⟩;obtain ⟨P0,l0,h0',P,l1,h1,R,h2,rfl,-⟩:=id m1.open_;have hs1:=x1.size;obtain ⟨W1,hW1⟩:∃ W1,w1.alloc (.cells #[.int .i64 (jab t.kind t.ks 1).kind,.int .i64 (jab t.kind t.ks 1).rel,.int .i64 (jab t.kind t.ks 1).p.lv,.bool (jab t.kind t.ks 1).p.neg,.slice P0 l0 h0',.slice P l1 h1,.slice R (jab t.kind t.ks 1).ks.length h2] 45)=W1:=⟨_,rfl⟩;have HJ:Hid (wap w Q w1.heap.size t (.slice A0 n0 c0) (.slice A n1 c1) (.slice (some ad) t.ks.length c2) (jab t.kind t.ks 1) W1):=Lib.hid (by
   have x2:Ext w1 W1:=by rw [<- hW1]; exact (Ext.refl w1).alloc _
   have hs2:W1.heap.size=w1.heap.size+1:=by rw [<- hW1]; simp
   have m2:MxV W1 (fun b=>(Q b\/w.heap.size+1 < b)/\b ≠ w1.heap.size) _ _:=MxV.turn_ (by omega) (fun _ _ h=>h.ext x2) (fun b hb hq=>⟨⟨Or.imp id (fun h=>by omega) hq,by omega⟩,x2.below.block b hb⟩) m1
   exact ⟨HWX.out.trans (x1.trans x2),HZ.out.ext (x1.trans x2) (by omega),by omega,by omega,fun i=>by rw [<- hW1]; simp [go_sem],HBX.out.ext (x1.trans x2) (by omega),⟨_,_,_,_,_,_,_,_,_,by rw [<- hW1]; exact um.new w1 (jab t.kind t.ks 1) _ _ _ _,m2⟩⟩)
  clear m1 x1 HC;unfold mxV;go_wp2_with fail;clear hW1;generalize w1.heap.size=g at *
  go_loopw [4] (fun iv wr=>∃ k:Nat,1<=k/\k<=t.ks.length/\iv=.int .i64 k/\Hid (wap w Q g t (.slice A0 n0 c0) (.slice A n1 c1) (.slice (some ad) t.ks.length c2) (jab t.kind t.ks k) wr)) (fun iv _=>t.ks.length - (intOf iv).toNat)
  case atStart=>exact ⟨1,Nat.le_refl _,hpos,rfl,HJ.out⟩
  case round =>
   obtain ⟨k,hk1,hkk,rfl,hj⟩:=hrel;have HJK:=Lib.hid hj.out;obtain ⟨b0,b1,b2,b3,b4,b5,b6⟩:=HJK.out.bp;obtain ⟨P0,l0,h0,P,l1,h1,R,l2,h2,hbr,hmv⟩:=HJK.out.br;have hglt:=HJK.out.lt;have HMV:=Lib.hid hmv;have HBR:=Lib.hid hbr;obtain ⟨r0,r1,r2,r3,r4,r5,r6⟩:=hbr
   by_cases hlt:k < t.ks.length
   · obtain ⟨ad',E0,i0,j0,E,i1,j1,G,i2,j2,hA,hadw,hkc0,hkv0⟩:=jg.kid HKS.out k hlt;injection hA with hA
     subst hA;have hkv:=hkv0.ext HJK.out.ext;have HKC:=Lib.hid hkc0;have hadr:(ad.add (k * 7)).block < w.heap.size:=by rw [ja]; exact hadw
     have HSF:Hid (∀ (m':Mx) (W':World),wap w Q g t (.slice A0 n0 c0) (.slice A n1 c1) (.slice (some ad) t.ks.length c2) m' W'->(W'.cell? ⟨w.heap.size,0,none⟩=some (.int .i64 t.kind)/\W'.cell? ⟨w.heap.size,6,none⟩=some (.slice (some ad) t.ks.length c2)/\W'.cell? (ad.add (k * 7))=some (.int .i64 t.ks[k].kind)/\W'.cell? ⟨(ad.add (k * 7)).block,(ad.add (k * 7)).off+1,none⟩=some (.int .i64 t.ks[k].rel)/\W'.cell? ⟨(ad.add (k * 7)).block,(ad.add (k * 7)).off+2,none⟩=some (.int .i64 t.ks[k].p.lv)/\W'.cell? ⟨(ad.add (k * 7)).block,(ad.add (k * 7)).off+3,none⟩=some (.bool t.ks[k].p.neg)/\W'.cell? ⟨(ad.add (k * 7)).block,(ad.add (k * 7)).off+4,none⟩=some (.slice E0 i0 j0)/\W'.cell? ⟨(ad.add (k * 7)).block,(ad.add (k * 7)).off+5,none⟩=some (.slice E i1 j1)/\W'.cell? ⟨(ad.add (k * 7)).block,(ad.add (k * 7)).off+6,none⟩=some (.slice G i2 j2))):=Lib.hid (fun m' W' hj'=>by
      obtain ⟨b0',-,-,-,-,-,b6'⟩:=hj'.bp;obtain ⟨y0,y1,y2,y3,y4,y5,y6⟩:=HKC.out.ext hj'.ext hadr
      exact ⟨b0',b6',y0,y1,y2,y3,y4,y5,y6⟩)
     clear hkc0 hkv0;have HSTEPF:=Lib.hid (jbv t.kind t.ks k hk1 hlt);have hkid:=t.kid_le k hlt;have HC:=Lib.hid (fun W' (hx:Ext wr W')=>IH.out Q t.ks[k] _ W' (by omega) (by omega) (fun b hb=>by have:=hlow b hb; have:=HJK.out.ext.size; have:=hx.size; omega) (hkv.ext hx));unfold mxV at HC;clear hmv hkv hj;generalize t.ks[k]=xk at *;generalize jab t.kind t.ks k=mk at *;have HSTEP:Hid (∀ (w3:World) (x3:Value),MxV w3 (fun b=>Q b\/wr.heap.size<=b) xk.fold x3->Ext wr w3->∃ U0 a0 e0 U a1 e1 V a2 e2,x3=mxV xk.fold (.slice U0 a0 e0) (.slice U a1 e1) (.slice V a2 e2)/\(w3.cell? ⟨w.heap.size,0,none⟩=some (.int .i64 t.kind)/\w3.cell? ⟨w.heap.size,1,none⟩=some (.int .i64 t.rel)/\w3.cell? ⟨w.heap.size,2,none⟩=some (.int .i64 t.p.lv)/\w3.cell? ⟨w.heap.size,3,none⟩=some (.bool t.p.neg)/\w3.cell? ⟨w.heap.size,4,none⟩=some (.slice A0 n0 c0)/\w3.cell? ⟨w.heap.size,5,none⟩=some (.slice A n1 c1)/\w3.cell? ⟨w.heap.size,6,none⟩=some (.slice (some ad) t.ks.length c2))/\(w3.cell? ⟨g,0,none⟩=some (.int .i64 mk.kind)/\w3.cell? ⟨g,1,none⟩=some (.int .i64 mk.rel)/\w3.cell? ⟨g,2,none⟩=some (.int .i64 mk.p.lv)/\w3.cell? ⟨g,3,none⟩=some (.bool mk.p.neg)/\w3.cell? ⟨g,4,none⟩=some (.slice P0 l0 h0)/\w3.cell? ⟨g,5,none⟩=some (.slice P l1 h1)/\w3.cell? ⟨g,6,none⟩=some (.slice R l2 h2))/\(w3.cell? (ad.add (k * 7))=some (.int .i64 xk.kind)/\w3.cell? ⟨(ad.add (k * 7)).block,(ad.add (k * 7)).off+1,none⟩=some (.int .i64 xk.rel)/\w3.cell? ⟨(ad.add (k * 7)).block,(ad.add (k * 7)).off+2,none⟩=some (.int .i64 xk.p.lv)/\w3.cell? ⟨(ad.add (k * 7)).block,(ad.add (k * 7)).off+3,none⟩=some (.bool xk.p.neg)/\w3.cell? ⟨(ad.add (k * 7)).block,(ad.add (k * 7)).off+4,none⟩=some (.slice E0 i0 j0)/\w3.cell? ⟨(ad.add (k * 7)).block,(ad.add (k * 7)).off+5,none⟩=some (.slice E i1 j1)/\w3.cell? ⟨(ad.add (k * 7)).block,(ad.add (k * 7)).off+6,none⟩=some (.slice G i2 j2))/\(∀ i,w3.frozen? ⟨g,i,none⟩=false)/\g < w3.heap.size/\w.heap.size < w3.heap.size/\wap w Q g t (.slice A0 n0 c0) (.slice A n1 c1) (.slice (some ad) t.ks.length c2) (jab t.kind t.ks (k+1)) ((((((((w3.setCell ⟨g,0,none⟩ (.int .i64 t.kind)).setCell ⟨g,1,none⟩ (.int .i64 0)).setCell ⟨g,2,none⟩ (.int .i64 0)).setCell ⟨g,3,none⟩ (.bool false)).setCell ⟨g,4,none⟩ (.slice none 0 0)).setCell ⟨g,5,none⟩ (.slice none 0 0)).setCell ⟨g,6,none⟩ (.slice (some ⟨w3.heap.size,0,none⟩) 2 2)).alloc (.cells #[.int .i64 mk.kind,.int .i64 mk.rel,.int .i64 mk.p.lv,.bool mk.p.neg,.slice P0 l0 h0,.slice P l1 h1,.slice R l2 h2,.int .i64 xk.fold.kind,.int .i64 xk.fold.rel,.int .i64 xk.fold.p.lv,.bool xk.fold.p.neg,.slice U0 a0 e0,.slice U a1 e1,.slice V a2 e2] 45))):=Lib.hid (by
      intro w3 x3 hx3 hx;obtain ⟨U0,a0,e0,U,a1,e1,V,e2,rfl,-⟩:=id hx3.open_;obtain ⟨a2,ha2⟩:∃ a2,xk.fold.ks.length=a2:=⟨_,rfl⟩;rw [ha2] at hx3 ⊢;have hj3:=HJK.out.go hx;obtain ⟨q0,q1,q2,q3,q4,q5,q6⟩:=hj3.bp;obtain ⟨s0,s1,s2,s3,s4,s5,s6⟩:=HBR.out.ext hx hglt;obtain ⟨u0,u1,u2,u3,u4,u5,u6⟩:=HKC.out.ext (HJK.out.ext.trans hx) hadr;refine ⟨U0,a0,e0,U,a1,e1,V,a2,e2,rfl,⟨q0,q1,q2,q3,q4,q5,q6⟩,⟨s0,s1,s2,s3,s4,s5,s6⟩,⟨u0,u1,u2,u3,u4,u5,u6⟩,hj3.fr,hj3.lt,by have:=hx.size; have:=HJK.out.ext.size; have:=HJK.out.old; omega,?_⟩;have hgl:=hj3.lt;have hE:((((((((w3.alloc (.cells #[.int .i64 mk.kind,.int .i64 mk.rel,.int .i64 mk.p.lv,.bool mk.p.neg,.slice P0 l0 h0,.slice P l1 h1,.slice R l2 h2,.int .i64 xk.fold.kind,.int .i64 xk.fold.rel,.int .i64 xk.fold.p.lv,.bool xk.fold.p.neg,.slice U0 a0 e0,.slice U a1 e1,.slice V a2 e2] 45)).setCell ⟨g,0,none⟩ (.int .i64 t.kind)).setCell ⟨g,1,none⟩ (.int .i64 0)).setCell ⟨g,2,none⟩ (.int .i64 0)).setCell ⟨g,3,none⟩ (.bool false)).setCell ⟨g,4,none⟩ (.slice none 0 0)).setCell ⟨g,5,none⟩ (.slice none 0 0)).setCell ⟨g,6,none⟩ (.slice (some ⟨w3.heap.size,0,none⟩) 2 2))=((((((((w3.setCell ⟨g,0,none⟩ (.int .i64 t.kind)).setCell ⟨g,1,none⟩ (.int .i64 0)).setCell ⟨g,2,none⟩ (.int .i64 0)).setCell ⟨g,3,none⟩ (.bool false)).setCell ⟨g,4,none⟩ (.slice none 0 0)).setCell ⟨g,5,none⟩ (.slice none 0 0)).setCell ⟨g,6,none⟩ (.slice (some ⟨w3.heap.size,0,none⟩) 2 2)).alloc (.cells #[.int .i64 mk.kind,.int .i64 mk.rel,.int .i64 mk.p.lv,.bool mk.p.neg,.slice P0 l0 h0,.slice P l1 h1,.slice R l2 h2,.int .i64 xk.fold.kind,.int .i64 xk.fold.rel,.int .i64 xk.fold.p.lv,.bool xk.fold.p.neg,.slice U0 a0 e0,.slice U a1 e1,.slice V a2 e2] 45)):=by simp [go_sem,hgl]
      rw [HSTEPF.out,<- hE];have hxs:=hx.size;have hws:=HJK.out.ext.size;have x4:Ext w3 (w3.alloc (.cells #[.int .i64 mk.kind,.int .i64 mk.rel,.int .i64 mk.p.lv,.bool mk.p.neg,.slice P0 l0 h0,.slice P l1 h1,.slice R l2 h2,.int .i64 xk.fold.kind,.int .i64 xk.fold.rel,.int .i64 xk.fold.p.lv,.bool xk.fold.p.neg,.slice U0 a0 e0,.slice U a1 e1,.slice V a2 e2] 45)):=(Ext.refl w3).alloc _;refine hj3.put (m':=gab t.kind mk xk.fold) (A0:=none) (n0:=0) (c0:=0) (A1:=none) (n1:=0) (c1:=0) (K:=some ⟨w3.heap.size,0,none⟩) (n2:=2) (c2:=2) x4 ?_;refine MxV.mk (t:=gab t.kind mk xk.fold) (Pl.zero_v _ _ none 0 (by decide)) (Nat.le_refl 2) (by decide) ?_;have hv1:MxV (w3.alloc (.cells #[.int .i64 mk.kind,.int .i64 mk.rel,.int .i64 mk.p.lv,.bool mk.p.neg,.slice P0 l0 h0,.slice P l1 h1,.slice R l2 h2,.int .i64 xk.fold.kind,.int .i64 xk.fold.rel,.int .i64 xk.fold.p.lv,.bool xk.fold.p.neg,.slice U0 a0 e0,.slice U a1 e1,.slice V a2 e2] 45)) (fun b=>(Q b\/w.heap.size+1 < b)/\b ≠ g) mk (mxV mk (.slice P0 l0 h0) (.slice P l1 h1) (.slice R l2 h2)):=(HMV.out.ext hx).ext x4;have hv2:MxV (w3.alloc (.cells #[.int .i64 mk.kind,.int .i64 mk.rel,.int .i64 mk.p.lv,.bool mk.p.neg,.slice P0 l0 h0,.slice P l1 h1,.slice R l2 h2,.int .i64 xk.fold.kind,.int .i64 xk.fold.rel,.int .i64 xk.fold.p.lv,.bool xk.fold.p.neg,.slice U0 a0 e0,.slice U a1 e1,.slice V a2 e2] 45)) (fun b=>(Q b\/w.heap.size+1 < b)/\b ≠ g) xk.fold (mxV xk.fold (.slice U0 a0 e0) (.slice U a1 e1) (.slice V a2 e2)):=(hx3.mono (fun b hb=>⟨Or.imp id (fun h=>by have:=HJK.out.old; omega) hb,by
       have:=HJK.out.old;rcases hb with h | h
       · have:=hlow b h; omega
       · omega⟩)).ext x4
      refine ⟨⟨⟨w3.heap.size,0,none⟩,_,_,_,rfl,by simp,⟨.inr (by show w.heap.size+1 < w3.heap.size; have:=HJK.out.old; omega),by show w3.heap.size ≠ g; omega⟩,?_,hv1⟩,⟨⟨w3.heap.size,0,none⟩,_,_,_,rfl,by simp,⟨.inr (by show w.heap.size+1 < w3.heap.size; have:=HJK.out.old; omega),by show w3.heap.size ≠ g; omega⟩,?_,hv2⟩,trivial⟩
      · rw [Nat.zero_mul,gp];exact ⟨by simp [go_sem],by simp [go_sem],by simp [go_sem],by simp [go_sem],by simp [go_sem],by simp [go_sem],by simp [go_sem]⟩
      · rw [gp]
        exact ⟨by simp [go_sem],by simp [go_sem],by simp [go_sem],by simp [go_sem],by simp [go_sem],by simp [go_sem],by simp [go_sem]⟩)
     have HK12:=Lib.hid (And.intro (show 1<=k+1 by omega) (show k+1<=t.ks.length by omega));have HKB:=Lib.hid (show k+1<=9223372036854775807 by omega);have yy:Ext wr wr.drew:=(Ext.refl wr).drew;have Y0:=Lib.hid yy;clear yy HBR HKC HMV HSTEPF HJ b1 b2 b3 b4 b5 hbig hn hlow hk1 hk2 hkl hWs hpos hkk hkid hadr hadw HK34 HGO HONE;go_upto_region 11 with fail;refine wp_region_held_drew (S:=fun W'=>W'.cell? ⟨w.heap.size,0,none⟩=some (.int .i64 t.kind)/\W'.cell? ⟨w.heap.size,6,none⟩=some (.slice (some ad) t.ks.length c2)/\W'.cell? (ad.add (k * 7))=some (.int .i64 xk.kind)/\W'.cell? ⟨(ad.add (k * 7)).block,(ad.add (k * 7)).off+1,none⟩=some (.int .i64 xk.rel)/\W'.cell? ⟨(ad.add (k * 7)).block,(ad.add (k * 7)).off+2,none⟩=some (.int .i64 xk.p.lv)/\W'.cell? ⟨(ad.add (k * 7)).block,(ad.add (k * 7)).off+3,none⟩=some (.bool xk.p.neg)/\W'.cell? ⟨(ad.add (k * 7)).block,(ad.add (k * 7)).off+4,none⟩=some (.slice E0 i0 j0)/\W'.cell? ⟨(ad.add (k * 7)).block,(ad.add (k * 7)).off+5,none⟩=some (.slice E i1 j1)/\W'.cell? ⟨(ad.add (k * 7)).block,(ad.add (k * 7)).off+6,none⟩=some (.slice G i2 j2)) (by kernel_rfl) (HSF.out _ _ (HJK.out.go Y0.out)) (fun hHeld=>?_);refine tk 0 ?_;refine tk 1 ?_;refine tk 3 ?_;refine tk 4 ?_;refine tk 5 ?_;refine tk 6 ?_;refine tk 7 ?_;clear b0 b6;refine wpAnyH_ready (rs:=[2,8]) (by kernel_rfl) (by simp) ?_;refine AllReadyH.cons rfl (fun K hK=>?first) (AllReadyH.cons rfl (fun K hK=>?second) AllReadyH.nil)
     case' first =>
      go_simp;refine hK.out _ _ (HSF.out _ _ (HJK.out.go Y0.out)) (fun hHeld=>?_);clear hK K r0 r1 r2 r3 r4 r5 r6
      try simp only [Act.put,List.getElem_toArray,List.getElem_cons_zero,List.getElem_cons_succ,List.setIfInBounds_toArray,List.set_cons_zero,List.set_cons_succ]
      refine wpAnyH_ready (rs:=[8]) (by kernel_rfl) (by simp) ?_;refine AllReadyH.cons rfl (fun K hK=>?_) AllReadyH.nil
     case' second=>clear r0 r1 r2 r3 r4 r5 r6
     all_goals
      go_simp
      go_at_call 31
      refine (HC.out _ Y0.out).mono ?_;rintro e w3 ⟨x3,rfl,m3,x3'⟩;obtain ⟨U0,a0,e0,U,a1,e1,V,a2,e2,rfl,-,⟨s0,s1,s2,s3,s4,s5,s6⟩,-,hfr,hgl3,hwl3,hfin⟩:=HSTEP.out w3 x3 m3 (Y0.out.trans x3');have HFIN:=Lib.hid hfin;have HX3:=Lib.hid (Y0.out.trans x3');unfold mxV;refine hK.out _ _ (HSF.out _ _ (HJK.out.go HX3.out)) (fun hHeld=>?_);clear hK K m3 x3' hfin
      try simp only [Act.put,List.getElem_toArray,List.getElem_cons_zero,List.getElem_cons_succ,List.setIfInBounds_toArray,List.set_cons_zero,List.set_cons_succ]
     case' second =>
      refine wpAnyH_ready (rs:=[2]) (by kernel_rfl) (by simp) ?_;refine AllReadyH.cons rfl (fun K hK=>?_) AllReadyH.nil;go_simp;refine hK.out _ _ (HSF.out _ _ (HJK.out.go HX3.out)) (fun hHeld=>?_);clear hK K
      try simp only [Act.put,List.getElem_toArray,List.getElem_cons_zero,List.getElem_cons_succ,List.setIfInBounds_toArray,List.set_cons_zero,List.set_cons_succ]
     all_goals
      refine wpAnyH_ready (rs:=[9]) (by kernel_rfl) (by simp) ?_;refine AllReadyH.cons rfl (fun K hK=>?_) AllReadyH.nil;go_simp;refine hK.out _ _ (HSF.out _ _ (HJK.out.go (HX3.out.alloc _))) (fun hHeld=>?_);clear hK K
      try simp only [Act.put,List.getElem_toArray,List.getElem_cons_zero,List.getElem_cons_succ,List.setIfInBounds_toArray,List.set_cons_zero,List.set_cons_succ]
      refine tk 10 ?_;refine wpAnyH_ready (rs:=[11]) (by kernel_rfl) (by simp) ?_;refine AllReadyH.cons rfl (fun K hK=>?_) AllReadyH.nil;go_simp;refine hK.out _ _ (by with_reducible exact HSF.out _ _ HFIN.out) (fun hHeld=>?_);clear hK K
      try simp only [Act.put,List.getElem_toArray,List.getElem_cons_zero,List.getElem_cons_succ,List.setIfInBounds_toArray,List.set_cons_zero,List.set_cons_succ]
      refine wpAnyH_done (by kernel_rfl) ?_ _;clear s0 s1 s2 s3 s4 s5 s6 hfr hgl3 hwl3;go_wp2_with fail
      go_roundw
      all_goals
       have hkb:=HKB.out;have hkl:=HK12.out.2;have hwr:wrap64 ((k:Int)+1)=(k:Int)+1:=IntWalk.wrap64_in _ (by omega);have hwi:IntKind.i64.wrap ((k:Int)+1)=(k:Int)+1:=by rw [IntKind.wrap_i64]; omega
      case rel=>exact ⟨k+1,HK12.out.1,HK12.out.2,by first | go_num | (rw [hwi]; go_num) | (rw [hwr]; go_num) | simp [hwr],by with_reducible exact Lib.hid HFIN.out⟩
      case measure =>
       first | rw [hwr] | rw [hwi]
       clear hkb hwr hwi HKB HFIN HSF;simp only [intOf];omega
   · have hke:k=t.ks.length:=by omega
     have hmf:jab t.kind t.ks k=t.fold:=by rw [hke]; exact HALL.out
     have hfin:=xaj (q':=fun b=>Q b\/w.heap.size<=b) HJK.out.ext (Nat.le_succ _) HJK.out.zero hmv (fun b hb hq=>by
      have h1:(Q b\/w.heap.size+1 < b)/\b ≠ g:=hq;refine ⟨?_,Or.imp id (fun h=>by omega) h1.1⟩;rcases h1.1 with h | h
      · have:=hlow b h; omega
      · omega)
     have HFN:=Lib.hid (yae.congr hmf.symm hfin);obtain ⟨⟨z0,z1,z2,z3,z4,z5,z6⟩,zf⟩:=HJK.out.zero;clear hfin hmf hke hmv HBR HMV hj HJK b1 b2 b3 b4 b5;generalize jab t.kind t.ks k=mk at *;go_wp2_with fail;exact bodyPost_ret (v:=mxV mk (.slice P0 l0 h0) (.slice P l1 h1) (.slice R l2 h2)) (by simp [results,Tryz.results31,go_sem,z0,z1,z2,z3,z4,z5,z6,mxV]) rfl HFN.out
theorem vcl {q:Nat->Prop} (t:Mx) (v:Value) (w:World) (hbig:t.sz<=1000000) (h:MxV w q t v):Calls Tryz.prog 31 #[v] w (yae (fun b=>(q b/\b < w.heap.size)\/w.heap.size<=b) t.fold w):=
 jcu (t.sz+1) (fun b=>q b/\b < w.heap.size) t v w (Nat.lt_succ_self _) hbig (fun _ hb=>hb.2) (MxV.turn_ (Nat.le_refl _) (fun _ _ h=>h) (fun b hb hq=>⟨⟨hq,hb⟩,rfl⟩) h)
end Go.Proofs.YtaedbimbbeploaaGreatDoor
