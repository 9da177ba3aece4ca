/- Layer 24: pseudo.Rem. -/
import Derived.Test.YtklnlgnnlmdibaaGreatMq33
set_option linter.unusedSimpArgs false
set_option linter.unusedVariables false

set_option maxRecDepth 100000
set_option maxHeartbeats 8000000
namespace Go.Proofs.YtklnlgnnlmdibaaGreat
open Lib (hid)
open Go.RowKit
theorem jb3 {w0 w1 w:World} {F G:List Pl} {v u:Value} {EM DM E D Eg Dg:Nat} (QJ:Ext w0 w1) (hx1:Ext w1 w) (hF:wae w1 (fun b=>w0.heap.size<=b) v F) (hG:wae w (fun b=>w1.heap.size<=b) u G) (hG0:0 < G.length) (hFb:F.length<=1000) (hGb:G.length<=1000) (Uf:∀ c ∈ F,Fit c E D) (IX:∀ c ∈ G,Fit c Eg Dg) (hE:E+(F.length - (G.length - 1)) * Eg<=EM) (hD:D+(F.length - (G.length - 1)) * (Dg+2)<=DM) (hEM:EM<=400) (hDM:DM<=8796093000000) :
 Calls Tryz.prog 171 #[v,u] w fun e w'=>∃ v0 v',e=.returned (.tuple #[v0,v'])/\wae w' (fun b=>w0.heap.size<=b) v' (uq G (F.length - (G.length - 1)) F)/\Ext w0 w':=by
 obtain ⟨A,cf,rfl,dh,eX,hF2⟩:=hF;obtain ⟨B,cg,rfl,eG,uH,Jj⟩:=hG;obtain ⟨n,hn⟩:∃ n,G.length=n+1:=⟨G.length - 1,by omega⟩;rw [hn,Nat.add_sub_cancel] at hE hD ⊢
 by_cases hK:F.length<=n
 · rw [show F.length - n=0 by omega,qa7];refine (gbu hK dh eX (by omega) uH (by omega)).mono ?_;rintro e w' ⟨v0,rfl,x⟩;exact ⟨v0,_,rfl,⟨A,cf,rfl,dh,eX,fun ak=>by
    obtain ⟨R,e,h1,h2⟩:=hF2 ak
    exact ⟨R,e,h1,h2.ext (hx1.trans x)⟩⟩,(QJ.trans hx1).trans x⟩
 · obtain ⟨R,rfl,hR,ae⟩:=hF2 (by intro e; rw [e] at hK; simp at hK);obtain ⟨Rg,rfl,hRg,Rh⟩:=Jj (by intro e; rw [e] at hn; simp at hn);have hR1:=ae.1;have:=vb3 (n:=n) (K:=F.length - n) (cf:=cf) (cg:=cg) (QJ.trans hx1) hR (by omega) (ae.ext hx1) (Rh.mono fun b hb=>by omega) hn (by omega) (by omega) dh eX (by omega) uH (by omega) Uf IX hE hD hEM hDM;rw [hn] at this;refine this.mono ?_;rintro e w' ⟨v0,c',rfl,h1,h2,h3,h4⟩;exact ⟨v0,_,rfl,⟨_,c',rfl,h1,h2,fun _=>⟨R,rfl,hR,h3⟩⟩,h4⟩
theorem gbg {w:World} {qa:Nat->Prop} {p:Pl} {A0 A1:Option Addr} {n0 c0 c1:Nat} (hp:PlV w qa p (plV p (.slice A0 n0 c0) (.slice A1 p.cs.length c1))) (T:TypeId) :
 jc (w.alloc (.cells #[.int .i64 p.lv,.bool p.neg,.slice A0 n0 c0,.slice A1 p.cs.length c1] T)) (fun _=>True) [p] (some ⟨w.heap.size,0,none⟩) 0:=by
 refine ⟨⟨⟨w.heap.size,0,none⟩,_,_,rfl,by simp,trivial,?_,(hp.ext ((Ext.refl w).alloc _)).mono fun _ _=>trivial⟩,trivial⟩;refine ⟨?_,?_,?_,?_⟩ <;> simp [go_sem,kw]
theorem wae.pls {W:World} {q:Nat->Prop} {A:Option Addr} {n c:Nat} {L:List Pl} (h:wae W q (.slice A n c) L):jc W q L A 0:=by
 obtain ⟨B,d,e,h1,h2,h3⟩:=h;injection e with e1 e2 e3
 subst e1
 by_cases hL:L=[]
 · rw [hL]; unfold jc; trivial
 · obtain ⟨R,rfl,hR,hr⟩:=h3 hL;exact hr.fin hR
def vcq (q:Nat->Prop) (p:Pl) (n:Int) (w:World) (e:Ending) (w':World):Prop:=∃ v,e=.returned (.tuple #[v,.int .i64 n])/\PlV w' q p v/\Ext w w'
theorem uca {w:World} {q0 q1:Nat->Prop} {f g:Pl} {l:Int} {E D Eg Dg:Nat} (v0 v1:Value) (hl:1<=l) (ag:l<=4) (h0:PlV w q0 f v0) (h1:PlV w q1 g v1) (hf:Fit f E D) (hg:Fit g Eg Dg) (bI:g ≠ Pl.zero) (hE:E+(E+1) * Eg+Eg<=62) (hD:D+(E+1) * (Dg+2)+1<=1099511627776) :
 Calls Tryz.prog 163 #[v0,v1,.int .i64 l] w (vcq (fun b=>w.heap.size<=b) (uaf l f g) 0 w):=by
 have H0:=hid h0;have H1:=hid h1;have HF:=hid hf;have HG:=hid hg;obtain ⟨A0,n0,c0,A1,c1,rfl,-⟩:=h0.open_;obtain ⟨B0,m0,d0,B1,d1,rfl,-⟩:=h1.open_;obtain ⟨Wa,Wb,W,vZ,zN,hW,OB,fZ,J7,qL,eQ,iQ,aV,aX,hz⟩:=b_x w f g (.slice A0 n0 c0) (.slice A1 f.cs.length c1) (.slice B0 m0 d0) (.slice B1 g.cs.length d1);have HX:=hid ((fZ.trans qL).trans iQ);have dC:=hid aV;have dG:=hid aX;have HZ:=hid hz;have HG0:=hid bI;unfold plV;clear h0 h1 hf hg fZ qL iQ aV aX hz bI;have Es:¬ l < 1:=by omega
 have FM:¬ 4 < l:=by omega
 go_enter Tryz.func163,Tryz.ntmps163;go_upto_region 3 with fail;obtain ⟨b0,b1,b2,b3⟩:=dG.out;clear vZ zN hW;go_wp2_with fail;have qC:=qbc (c:=1) (gbg (H1.out.ext HX.out) 35) (fun p hp=>by rw [List.mem_singleton.1 hp]; exact HG.out.can) (by simp);rw [eQ] at qC;have OV:g.isZ=false:=by
  cases e:g.isZ
  · rfl
  · exact absurd ((Pl.zero_isZ HG.out.can).1 e) HG0.out
 simp only [List.any_cons,List.any_nil,OV,Bool.or_false,Bool.false_eq_true,if_false,List.length_singleton] at qC;refine qC.mono ?_;rintro e w1 ⟨rfl,x1⟩;have X1:Hid (Ext W w1):=hid (((Ext.refl W).alloc _).trans x1);have YF:=HF.out;have hG0:=HG.out;have hlen:=uu (l:=l) HF.out.can HF.out.ex;have iK:=uu (l:=l) HG.out.can HG.out.ex;have FT:=List.length_pos_iff.2 (xae hl ag HG.out.can HG0.out);have hEg:Eg<=62:=by omega
 have Px:E<=62:=by omega
 have Py:Dg<=1099511627776:=by
  have:=Nat.mul_le_mul_right (Dg+2) (show 1<=E+1 by omega);omega
 have Hl:=hid (fun (W':World) (hx:Ext W W')=>yaj _ hl ag HF.out (by omega) (by omega) (H0.out.ext (HX.out.trans hx)));have Hg:=hid (fun (W':World) (hx:Ext W W')=>yaj _ hl ag HG.out (by omega) (by omega) (H1.out.ext (HX.out.trans hx)));have hK:(f.cfL l).length - ((g.cfL l).length - 1)<=E+1:=by omega
 have hKE:=Nat.mul_le_mul_right Eg hK;have hKD:=Nat.mul_le_mul_right (Dg+2) hK;have Nu:=hid (fun (Wd W4 W5:World) (v u:Value) (x:Ext Wd W4) (y:Ext W4 W5) (hF:wae W4 (fun b=>Wd.heap.size<=b) v (f.cfL l)) (hG:wae W5 (fun b=>W4.heap.size<=b) u (g.cfL l))=>jb3 (EM:=400) (DM:=8796093000000) x y hF hG FT (by omega) (by omega) (Pl.cfL_fit HF.out) (Pl.cfL_fit HG.out) (by omega) (by omega) (by omega) (by omega));have VZ:=hid (ubg hl ag (n:=4) ag (by omega) HF.out HG.out HF.out.can.lv_nonneg.2 HG.out.can.lv_nonneg.2 (by have:B32=4294967296:=rfl; omega)).1;have JD:=hid (fun c hc=>(zau (l:=l) (n:=4) (by omega) (by omega) (jax hl ag HG.out HG.out.can.lv_nonneg.2) ((f.cfL l).length - ((g.cfL l).length - 1)) _ _ _ (jax hl ag HF.out HF.out.can.lv_nonneg.2) c hc).fit);have BH:=hid (vbg f g FT);have HRP:Hid (uaf l f g=joinL l (uq (g.cfL l) ((f.cfL l).length - ((g.cfL l).length - 1)) (f.cfL l))):=hid (by unfold uaf; rw [if_pos ⟨hl,ag⟩,OV]; rfl);have aG:Hid (∀ W',Ext W W'->(Ext W W'/\(jb W' (w.heap.size) f (.slice A0 n0 c0) (.slice A1 f.cs.length c1))/\(jb W' (w.heap.size+1) g (.slice B0 m0 d0) (.slice B1 g.cs.length d1)))):=hid fun W' hx=>⟨hx,dC.out.ext hx (by omega),dG.out.ext hx (by omega)⟩
 unfold plV at Hl Hg;have hd:=X1.out.drew;have Y0:=hid hd;obtain ⟨RA,Pi⟩:=n_m (uq (g.cfL l) ((f.cfL l).length - ((g.cfL l).length - 1)) (f.cfL l));have NW:=JD.out;have VY:=BH.out;have Gz:=HRP.out;rw [Pi] at NW VY Gz Nu;have ZE:Hid (∀ (W':World) (q:Nat->Prop) (A':Option Addr) (c':Nat),wae W' q (.slice A' RA.length c') RA->Calls Tryz.prog 28 #[.slice A' RA.length c',.int .i64 l] W' (uf (fun b=>W'.heap.size<=b) (uaf l f g) W')):=hid (by
  intro W' q A' c' ae;have Lr:∀ c ∈ RA,Fit c (E+(E+1) * Eg) (D+(E+1) * (Dg+2)):=fun c hc=>(NW c hc).mono (by omega) (by omega)
  have hEE:=Nat.mul_le_mul_right Eg (show 1<=E+1 by omega);rw [Gz];have h2:=ae.pls;obtain ⟨B,d,e,k1,k2,-⟩:=ae;injection e with e1 e2 e3
  subst e1 e3;refine kak hl ag h2 k1 k2 (yar Lr (by omega) (by omega)) (by have:=jan Lr; omega) ?_;rw [<- Gz]
  exact VZ.out.copy_ (by omega))
 clear qC x1 b0 b1 b2 b3 hd hK hKE hKD YF hG0 JD BH HRP NW VY Gz Pi hlen iK FT hE hD;go_upto_region 6 with fail;refine wp_region_held_drew (S:=fun W'=>Ext W W'/\(jb W' (w.heap.size) f (.slice A0 n0 c0) (.slice A1 f.cs.length c1))/\(jb W' (w.heap.size+1) g (.slice B0 m0 d0) (.slice B1 g.cs.length d1))) (by kernel_rfl) (aG.out _ Y0.out) (fun hHeld=>?_);refine tk 0 ?_ (hy:=Or.inl ⟨by rfl,by intro w' aK; obtain ⟨-,⟨k1,k2,k3,k4⟩,k5,k6,k7,k8⟩:=aK; go_simp; (try (with_reducible rfl))⟩);refine tk 1 ?_;refine tk 3 ?_ (hy:=Or.inl ⟨by rfl,by intro w' aK; obtain ⟨-,⟨k1,k2,k3,k4⟩,k5,k6,k7,k8⟩:=aK; go_simp; (try (with_reducible rfl))⟩);refine tk 4 ?_;refine r_1 2 fun K hK=>?_
 go_simp
 go_at_call 49
 refine (Hl.out _ Y0.out).mono ?_;rintro e w4 ⟨v4,rfl,row4,y4⟩;have z1:Ext W w4:=Y0.out.trans y4;refine k_t hK (aG.out _ z1) fun hHeld=>?_
 clear hK K;refine r_1 5 fun K hK=>?_
 go_simp
 go_at_call 49
 refine (Hg.out _ z1).mono ?_;rintro e w5 ⟨v5,rfl,jR,y5⟩;have z2:Ext W w5:=z1.trans y5;refine k_t hK (aG.out _ z2) fun hHeld=>?_
 clear hK K;refine r_1 6 fun K hK=>?_
 go_simp
 go_at_call 171
 refine (Nu.out _ _ _ _ _ y4 y5 row4 jR).mono ?_;rintro e w6 ⟨v6,v7,rfl,JL,y6⟩;have z3:Ext W w6:=Y0.out.trans y6;refine k_t hK (aG.out _ z3) fun hHeld=>?_
 clear hK K;refine tk 7 ?_;refine tk 8 ?_;refine tk 9 ?_;refine tk 10 ?_;refine tk 11 ?_;refine w_d ?_;obtain ⟨A',c',rfl,k1,k2,k3⟩:=id JL;have HJ:=hid (ZE.out _ _ _ _ JL);have Z3:=hid (HX.out.trans z3);have BF:=hid (HZ.out.ext z3 (by omega));have En:w.heap.size+1+1 < w6.heap.size:=by have:=z3.size; omega
 obtain ⟨X,hX⟩:=n_m (uaf l f g);rw [hX] at HJ;have oZ:=hid hX;clear hX hHeld k3 row4 jR JL y4 y5 y6 Hl Hg Nu ZE z1 z2 z3 aG VZ;go_wp2_with fail;refine HJ.out.mono ?_;rintro e w7 ⟨v8,rfl,m2,x2⟩;obtain ⟨D0,dU,dW,D1,dV,rfl,-⟩:=id m2.open_;have aQ:=BF.out.ext x2 En;have jP:=hid (qf (q':=fun b=>w.heap.size<=b) (Z3.out.trans x2) (by omega) aQ m2 (fun b _ hb=>⟨by omega,by omega⟩));obtain ⟨⟨z0,z1,z2,z3⟩,zf⟩:=aQ;clear m2 x2 HJ;unfold plV;go_wp2_with fail;obtain ⟨v9,e9,k3,k4⟩:=jP.out;injection e9 with e9
 subst e9;exact bodyPost_ret (v:=.tuple #[plV X (.slice D0 dU dW) (.slice D1 X.cs.length dV),.int .i64 0]) (by simp [results,Tryz.results163,go_sem,z0,z1,z2,z3,plV]) rfl (by rw [oZ.out]; exact ⟨_,rfl,k3,k4⟩)
def uaw (c:Pl) (g:List Pl) (k:Nat) (rest:List Pl):List Pl:=
 (List.range (g.length - 1+k)).map fun j=>if k<=j then (rest.getD j Pl.zero).sub (c.mul (g.getD (j - k) Pl.zero)) else rest.getD j Pl.zero
theorem kb5 (c:Pl) (g:List Pl) (k:Nat) (rest:List Pl):(uaw c g k rest).length=g.length - 1+k:=by
 unfold uaw;rw [List.length_map,List.length_range]
theorem Pl.z_ne {g:Pl} (h:g.Can) (hl:g.lv=0) (hg:g ≠ Pl.zero):g.z ≠ 0:=fun e=>hg (by rw [xaf h hl,e]; unfold Pl.const Pl.zero; simp [jm])
def ql (l : Int) : Nat -> Pl -> List Pl
 | 0,_=>[]
 | n+1,r=>if 0 < mdg l r then r :: (if (ui l r).lv=0 then [] else ql l n (xab l r)) else []
def zai (l : Int) : Nat -> Pl -> Bool
 | 0,_=>false
 | n+1,r=>if 0 < mdg l r then (if (ui l r).lv=0 then true else zai l n (xab l r)) else false
def yf (l:Int) (f:Pl):List Pl:=ql l (mdg l f).toNat f
def gac (l:Int) (f:Pl):Bool:=zai l (mdg l f).toNat f
theorem vae {l:Int} {n:Nat} {r:Pl} (h:¬ 0 < mdg l r):ql l n r=[]:=by cases n <;> simp [ql,h]
theorem ya7 {l:Int} {n:Nat} {r:Pl} (h:¬ 0 < mdg l r):zai l n r=false:=by cases n <;> simp [zai,h]
theorem kab {l:Int} {n:Nat} {r:Pl} (h:0 < mdg l r):ql l (n+1) r=r :: (if (ui l r).lv=0 then [] else ql l n (xab l r)):=by rw [ql,if_pos h]
theorem xav {l:Int} {n:Nat} {r:Pl} (h:0 < mdg l r):zai l (n+1) r=if (ui l r).lv=0 then true else zai l n (xab l r):=by rw [zai,if_pos h]
theorem gbo {l:Int} (hl:1<=l) (ag:l<=4) {r:Pl} (h:r.Can) (h0:0 < mdg l r):mdg l (xab l r) < mdg l r:=by
 have:=kbj (l:=l) hl ag (cs:=(r.cfL l).dropLast) (fun c hc=>jah h c (List.dropLast_subset _ hc)) (fun c hc=>uaa hl ag h c (List.dropLast_subset _ hc));rw [List.length_dropLast] at this;unfold xab;unfold mdg at h0 ⊢;unfold mdg at this;omega
theorem vay {l : Int} {P : Nat -> Pl -> Prop} (hs : ∀ n r, P (n + 1) r -> 0 < mdg l r -> (ui l r).lv ≠ 0 -> P n (xab l r)) : ∀ (n : Nat) (r : Pl), P n r -> ∀ c ∈ ql l n r, ∃ m, m < n /\ P (m + 1) c /\ 0 < mdg l c
 | 0,_,_,_,hc=>by simp [ql] at hc
 | n+1,r,h,c,hc=>by
   by_cases h0:0 < mdg l r
   · rw [kab h0,List.mem_cons] at hc;rcases hc with rfl | hc
     · exact ⟨n,by omega,h,h0⟩
     · by_cases h1:(ui l r).lv=0
       · rw [if_pos h1] at hc; cases hc
       · rw [if_neg h1] at hc;obtain ⟨m,h2,h3,h4⟩:=vay hs n _ (hs n r h h0 h1) c hc;exact ⟨m,by omega,h3,h4⟩
   · rw [vae h0] at hc; cases hc
theorem jbc {l:Int} {f:Pl} {E D n:Nat} (h:Fit f E D) (hE:E < B32):∀ c ∈ ql l n f,Fit c E (D+n)/\0 < mdg l c:=fun c hc=>by
 obtain ⟨m,hm,hf,h0⟩:=vay (P:=fun k r=>k<=n/\Fit r E (D+(n - k))) (fun k r ⟨h1,h2⟩ _ _=>⟨by omega,(uay h2 hE).mono (Nat.le_refl _) (by omega)⟩) n f ⟨Nat.le_refl _,h.mono (Nat.le_refl _) (by omega)⟩ c hc;exact ⟨hf.2.mono (Nat.le_refl _) (by omega),h0⟩
theorem jca {l N:Int} {f:Pl} {n:Nat} (h:f.Can) (hN:0<=N) (hl:l<=N) (hf:f.lv<=N):∀ c ∈ ql l n f,c.lv<=N:=fun c hc=>by
 obtain ⟨m,hm,⟨-,h0⟩,-⟩:=vay (P:=fun _ r=>r.Can/\r.lv<=N) (fun k r ⟨h1,h2⟩ _ _=>⟨zck _ _,wba hN hl fun c hc=>⟨jah h1 c (List.dropLast_subset _ hc),Int.le_trans (Pl.cfL_lv h1 c (List.dropLast_subset _ hc)) h2⟩⟩) n f ⟨h,hf⟩ c hc;exact h0
theorem kbc {l : Int} : ∀ (n : Nat) (r : Pl) (i : Nat) (h : i + 1 < (ql l n r).length), (ql l n r)[i + 1] = xab l ((ql l n r)[i]'(by omega)) /\ (ui l ((ql l n r)[i]'(by omega))).lv ≠ 0
 | 0,_,i,h=>by simp [ql] at h
 | n+1,r,i,h=>by
   by_cases h0:0 < mdg l r
   · have e:=kab (n:=n) h0
     by_cases h1:(ui l r).lv=0
     · rw [if_pos h1] at e; simp [e] at h
     · rw [if_neg h1] at e;cases i with
       | zero =>
         have hn:0 < (ql l n (xab l r)).length:=by simp [e] at h; omega
         have:(ql l n (xab l r))[0]=xab l r:=by
          cases n with
          | zero=>simp [ql] at hn
          | succ n =>
            by_cases h2:0 < mdg l (xab l r)
            · simp [kab h2]
            · rw [vae h2] at hn; simp at hn
         simp only [e,List.getElem_cons_succ,List.getElem_cons_zero];exact ⟨this,h1⟩
       | succ i =>
         have hn:i+1 < (ql l n (xab l r)).length:=by simp [e] at h; omega
         have:=kbc n (xab l r) i hn;simp only [e,List.getElem_cons_succ];exact this
   · rw [vae h0] at h; simp at h
theorem wai {l : Int} : ∀ (n : Nat) (r : Pl), (ql l n r).length <= n
 | 0,_=>by simp [ql]
 | n+1,r=>by
   rw [ql]
   split
   · rw [List.length_cons]
     split
     · simp
     · have:=wai (l:=l) n (xab l r); omega
   · simp
theorem qca {l:Int} {f:Pl}:(yf l f).length=0 ↔ mdg l f < 1:=by
 unfold yf
 constructor
 · intro h
   by_cases h0:0 < mdg l f
   · obtain ⟨n,hn⟩:∃ n,(mdg l f).toNat=n+1:=⟨(mdg l f).toNat - 1,by omega⟩;rw [hn,kab h0] at h; simp at h
   · omega
 · intro h;rw [vae (by omega)]; rfl
theorem Pl.var_val' (ρ:Int->Rat) {n:Int} (h1:1<=n) (h4:n<=4):(Pl.var n).val ρ=ρ n:=by
 rw [Pl.var,if_pos ⟨h1,h4⟩,Pl.val,if_neg (by omega)];simp only [ve,Pl.zero_val,Pl.const_val]
 grind
theorem Pl.opp_zero:Pl.zero.opp=Pl.zero:=Pl.val_uniq (Pl.opp_can _) Pl.zero_can fun ρ=>by rw [Pl.opp_val,Pl.zero_val]; grind
def zi (l:Int) (f g:Pl):Pl:=uaf l f g.opp
def jaa (l:Int) (f g:Pl):Pl:=
 ((vg l 0 (zi l f g)).mul (vg l 0 (zi l f g))).sub ((vg l 1 (zi l f g)).mul (((vg l 1 f).mul (vg l 0 g)).sub ((vg l 0 f).mul (vg l 1 g))))
def uj (l:Int) (f g:Pl):List Pl:=
 if mdg l f<=0\/mdg l g<=0 then [] else if mdg l g=1 then [vg l 0 (zi l f g)] else if mdg l f=1 then [vg l 0 (zi l g f)] else [jaa l f g,vg l 1 (zi l f g)]
theorem qx (l:Int) (f g:Pl):(zi l f g).Can:=wcj _ _ _
theorem zbh {l:Int} (hl:1<=l) (ag:l<=4) {g:Pl} (hg:g.Can):g.opp.cfL l=(g.cfL l).map Pl.opp:=by
 refine (Pl.cfL_coefs hl ag (Pl.opp_can g)).uniq ⟨fun c hc=>?_,fun c hc=>?_,fun ρ=>?_,?_⟩
 · obtain ⟨d,-,rfl⟩:=List.mem_map.1 hc; exact Pl.opp_can d
 · obtain ⟨d,hd,rfl⟩:=List.mem_map.1 hc; exact (uaa hl ag hg d hd).opp
 · have h1:=(Pl.cfL_coefs hl ag hg).val ρ;have h2:∀ L:List Pl,ve ρ l (L.map Pl.opp)=-ve ρ l L:=by
    intro L
    induction L with
    | nil=>simp [ve]
    | cons c r ih=>simp only [List.map_cons,ve,ih,Pl.opp_val]; grind
   rw [h2,h1,Pl.opp_val]
 · intro h;rw [List.getLast?_map] at h;cases hL:(g.cfL l).getLast? with
   | none=>rw [hL] at h; cases h
   | some c =>
     rw [hL] at h;injection h with h
     have hc:c=Pl.zero:=by rw [<- Pl.opp_opp (jah hg c (List.mem_of_getLast? hL)),h,Pl.opp_zero]
     exact (Pl.cfL_coefs hl ag hg).last (by rw [hL,hc])
theorem zbz {l:Int} (hl:1<=l) (ag:l<=4) {g:Pl} (hg:g.Can):mdg l g.opp=mdg l g:=by
 unfold mdg; rw [zbh hl ag hg,List.length_map]
theorem xay {l:Int} (hl:1<=l) (ag:l<=4) {f g:Pl} (hf:f.Can) (hg:g.Can) (bI:g ≠ Pl.zero):mdg l (zi l f g) < mdg l g:=by
 have h1:g.opp ≠ Pl.zero:=fun e=>bI (by rw [<- Pl.opp_opp hg,e]; exact Pl.opp_zero)
 have:=gcj hl ag hf (Pl.opp_can g) h1;rw [zbz hl ag hg] at this;exact this
theorem vag {l:Int} {p:Pl} (h:0<=mdg l p):p ≠ Pl.zero:=fun e=>by
 rw [e] at h;unfold mdg at h;rw [Pl.cfL_zero] at h;simp at h
theorem gaj {l:Int} (hl:1<=l) (ag:l<=4) {f g:Pl} {E D F G:Nat} (hf:Fit f E D) (hg:Fit g F G) (hF:F < B32):Fit (zi l f g) (E+(E+1) * F+F) (D+(E+1) * (G+3)+1):=
 (ubg hl ag (n:=4) ag (by omega) hf hg.opp hf.can.lv_nonneg.2 (Pl.opp_can g).lv_nonneg.2 hF).1
theorem qcf {l i:Int} {p:Pl} (h:p.Can):(vg l i p).Can:=by
 unfold vg
 split
 · exact Pl.zero_can
 · exact gae (jah h) _
theorem ka0 {l:Int} (hl:1<=l) (ag:l<=4) {p:Pl} (h:p.Can) (h0:mdg l p<=0):vg l 0 p=p:=by
 unfold vg;rw [if_neg (by omega)];refine Pl.val_uniq (gae (jah h) _) h fun ρ=>?_
 have hv:=(Pl.cfL_coefs hl ag h).val ρ;have hlen:(p.cfL l).length<=1:=by unfold mdg at h0; omega
 rcases hL:p.cfL l with _ | ⟨c,_ | ⟨d,r⟩⟩
 · rw [hL] at hv; simp only [ve] at hv; rw [<- hv]; simp [Pl.zero_val]
 · rw [hL] at hv; simp only [ve] at hv; rw [<- hv]; simp only [Int.toNat_zero,List.getD_cons_zero]; grind
 · rw [hL] at hlen; simp at hlen
theorem ua3 (ρ:Int->Rat) (a:Pl) (G:List Pl) (j:Nat):((G.map fun c=>a.mul c).getD j Pl.zero).val ρ=a.val ρ * (G.getD j Pl.zero).val ρ:=by
 by_cases h:j < G.length
 · rw [qbq _ _ _ h,Pl.mul_val]
 · rw [uaz _ _ (by rw [List.length_map]; omega),uaz _ _ (by omega),Pl.zero_val]; grind
theorem ja4 (ρ : Int -> Rat) (c : Pl) (G : List Pl) : ∀ (Q : List Pl) (j : Nat), ((yl (Q ++ [c]) G).getD j Pl.zero).val ρ = ((yl Q G).getD j Pl.zero).val ρ + if Q.length <= j then c.val ρ * (G.getD (j - Q.length) Pl.zero).val ρ else 0
 | [],j=>by
   rw [List.nil_append,show yl [c] G=gab (G.map fun x=>c.mul x) [Pl.zero] from rfl,show yl [] G=[] from rfl,qae,ua3,List.getD_nil,Pl.zero_val,List.length_nil,if_pos (Nat.zero_le _),Nat.sub_zero];have:([Pl.zero].getD j Pl.zero).val ρ=0:=by
    cases j with
    | zero=>rw [List.getD_cons_zero,Pl.zero_val]
    | succ j=>rw [List.getD_cons_succ,List.getD_nil,Pl.zero_val]
   grind
 | a :: r,0=>by
   rw [List.cons_append,yl,yl,qae,qae,List.getD_cons_zero,List.getD_cons_zero,if_neg (by simp)]
   grind
 | a :: r,j+1=>by
   rw [List.cons_append,yl,yl,qae,qae,List.getD_cons_succ,List.getD_cons_succ,ja4 ρ c G r j,List.length_cons];have e:j+1 - (r.length+1)=j - r.length:=by omega
   rw [e]
   by_cases h:r.length<=j
   · rw [if_pos h,if_pos (by omega)]; grind
   · rw [if_neg h,if_neg (by omega)]; grind
def xy (G Q:List Pl) (n k:Nat):List Pl:=(List.range (n+k)).map fun j=>(yl (Q.take k) G).getD j Pl.zero
theorem wat (G Q:List Pl) (n k:Nat):(xy G Q n k).length=n+k:=by unfold xy; rw [List.length_map,List.length_range]
theorem kay (G Q:List Pl) (n k j:Nat) (h:j < n+k):(xy G Q n k).getD j Pl.zero=(yl (Q.take k) G).getD j Pl.zero:=by
 unfold xy;rw [List.getD_eq_getElem?_getD,List.getElem?_map,List.getElem?_range h]; rfl
theorem za3 (G Q:List Pl) (n k j:Nat) (h:j < (xy G Q n k).length):(xy G Q n k)[j]=(yl (Q.take k) G).getD j Pl.zero:=by
 have h1:=kay G Q n k j (by rw [wat] at h; exact h);rw [List.getD_eq_getElem?_getD,List.getElem?_eq_getElem h] at h1;exact h1
theorem yat {Q G:List Pl}:∀ c ∈ yl Q G,c.Can:=zav Pl.zero_can (fun a b _ _=>Pl.add_can a b) Q G fun x _ y _=>Pl.mul_can x y
theorem yca {G Q:List Pl} {n k:Nat}:∀ c ∈ xy G Q n k,c.Can:=fun c hc=>by
 unfold xy at hc;obtain ⟨j,-,rfl⟩:=List.mem_map.1 hc;exact gae yat j
section
variable {G Q:List Pl} {n k:Nat} (hG:G.length=n+1) (hk:k < Q.length)
include hG hk
theorem wb9 (hQ:∀ c ∈ Q,c.Can) (hg:∀ c ∈ G,c.Can):(xy G Q n (k+1)).getD (n+k) Pl.zero=(G.getD n Pl.zero).mul (Q.getD k Pl.zero):=by
 rw [kay _ _ _ _ _ (by omega)];refine Pl.val_uniq (gae yat _) (Pl.mul_can _ _) fun ρ=>?_
 have ht:Q.take (k+1)=Q.take k ++ [Q[k]]:=(List.take_append_getElem hk).symm;have jG:Q.getD k Pl.zero=Q[k]:=by rw [List.getD_eq_getElem?_getD,List.getElem?_eq_getElem hk]; rfl
 have hl:(Q.take k).length=k:=by rw [List.length_take]; omega
 have hz:((yl (Q.take k) G).getD (n+k) Pl.zero).val ρ=0:=by
  rw [uaz,Pl.zero_val]
  by_cases h0:Q.take k=[]
  · rw [h0,yl]; exact Nat.zero_le _
  · rw [kai (by intro e; rw [e] at hG; simp at hG) _ h0,hl,hG]; omega
 rw [ht,ja4,hz,hl,if_pos (by omega),show n+k - k=n by omega,Pl.mul_val,jG]
 grind
theorem ubr:uaw (Q.getD k Pl.zero) G k (xy G Q n (k+1))=xy G Q n k:=by
 have hlen:(uaw (Q.getD k Pl.zero) G k (xy G Q n (k+1))).length=n+k:=by rw [kb5]; omega
 refine List.ext_getElem (by rw [hlen,wat]) fun j h1 h2=>?_
 rw [hlen] at h1;have ht:Q.take (k+1)=Q.take k ++ [Q[k]]:=(List.take_append_getElem hk).symm;have jG:Q.getD k Pl.zero=Q[k]:=by rw [List.getD_eq_getElem?_getD,List.getElem?_eq_getElem hk]; rfl
 have hl:(Q.take k).length=k:=by rw [List.length_take]; omega
 have hv:∀ ρ,((xy G Q n (k+1)).getD j Pl.zero).val ρ=((yl (Q.take k) G).getD j Pl.zero).val ρ+if k<=j then Q[k].val ρ * (G.getD (j - k) Pl.zero).val ρ else 0:=fun ρ=>by
  rw [kay _ _ _ _ _ (by omega),ht,ja4,hl]
 rw [za3];simp only [uaw,List.getElem_map,List.getElem_range,jG]
 split
 · rename_i OQ;refine Pl.val_uniq (Pl.sub_can _ _) (gae yat _) fun ρ=>?_
   rw [Pl.sub_val,Pl.mul_val,hv,if_pos OQ]
   grind
 · rename_i OQ;refine Pl.val_uniq (gae yca _) (gae yat _) fun ρ=>?_
   rw [hv,if_neg OQ]
   grind
end
theorem yb3 (G Q:List Pl) (n:Nat):xy G Q n 0=List.replicate n Pl.zero:=by
 refine List.ext_getElem (by rw [wat,List.length_replicate]; rfl) fun j h1 h2=>?_
 rw [za3,List.getElem_replicate,List.take_zero,yl,List.getD_nil]
theorem xb3 {G Q:List Pl} {n:Nat} (hG:G.length=n+1) (hQ:Q ≠ []):xy G Q n Q.length=yl Q G:=by
 have hl:=kai (b:=G) (by intro e; rw [e] at hG; simp at hG) Q hQ;refine List.ext_getElem (by rw [wat,hl,hG]; omega) fun j h1 h2=>?_
 rw [za3,List.take_length,List.getD_eq_getElem?_getD,List.getElem?_eq_getElem h2]; rfl
theorem zao {l:Int} (hl:1<=l) {p:Pl} (h:p.Can) (e:p.lv=l):p.cfL l=p.cs/\2<=p.cs.length:=by
 have ag:l<=4:=by have:=h.lv_nonneg.2; omega
 cases p with
 | mk lv ng ds cs =>
   simp only [Pl.lv,Pl.cs] at e ⊢;subst e;exact ⟨(Pl.cfL_coefs hl ag h).uniq (gaq h (by omega)),(h.kids (by omega)).2.2.1⟩
theorem ubh {l:Int} (hl:1<=l) (ag:l<=4) {p:Pl} (h:p.Can) (hp:p ≠ Pl.zero) (e:p.lv < l):p.cfL l=[p]:=(Pl.cfL_coefs hl ag h).uniq (uav h hp (yap h e))
theorem xa4 {g q:Pl} (hg:g.Can) (hq:q.Can) (bI:g ≠ Pl.zero) (kC:q ≠ Pl.zero):g.lv<=(g.mul q).lv:=by
 have h1:=hg.lv_nonneg;have h2:=(Pl.mul_can g q).lv_nonneg
 by_cases h0:g.lv=0
 · omega
 refine Int.not_lt.1 fun af=>?_
 have hm:=ybz (l:=g.lv) (by omega) h1.2 hg hq bI kC;have hn:g.mul q ≠ Pl.zero:=fun e=>by
  rcases Pl.mul_zero hg hq (fun ρ=>by rw [<- Pl.mul_val,e,Pl.zero_val]) with e | e
  · exact bI e
  · exact kC e
 obtain ⟨e1,e2⟩:=zao (l:=g.lv) (by omega) hg rfl;have e3:=ubh (l:=g.lv) (by omega) h1.2 (Pl.mul_can g q) hn af;have e4:=List.length_pos_iff.2 (xae (l:=g.lv) (by omega) h1.2 hq kC);unfold mdg at hm;rw [e1,e3,List.length_singleton] at hm;omega
theorem vas (g q:Pl):g.mul q=q.mul g:=Pl.val_uniq (Pl.mul_can _ _) (Pl.mul_can _ _) fun ρ=>by rw [Pl.mul_val,Pl.mul_val]; grind
theorem xcv {g q:Pl} (hg:g.Can) (hq:q.Can) (bI:g ≠ Pl.zero) (kC:q ≠ Pl.zero) (hl:g.lv < (g.mul q).lv):q.lv=(g.mul q).lv/\(g.mul q).cs=q.cs.map (fun c=>g.mul c)/\joinL q.lv q.cs=q:=by
 have hf:=Pl.mul_can g q;have h1:=hg.lv_nonneg;have h2:=hf.lv_nonneg;obtain ⟨l,sU⟩:=n_m ((g.mul q).lv);rw [sU] at hl h2;have hqn:=hq.lv_nonneg;have pY:q.lv<=l:=by rw [<- sU,vas]; exact xa4 hq hg kC bI
 have hm:=ybz (l:=l) (by omega) h2.2 hg hq bI kC;obtain ⟨e1,e2⟩:=zao (l:=l) (by omega) hf sU;have e3:=ubh (l:=l) (by omega) h2.2 hg bI hl;have sG:q.lv=l:=by
  refine Int.le_antisymm pY (Int.not_lt.1 fun af=>?_);have e4:=ubh (l:=l) (by omega) h2.2 hq kC af;unfold mdg at hm;rw [e1,e3,e4] at hm;simp only [List.length_singleton] at hm;omega
 obtain ⟨k1,k2⟩:=zao (l:=l) (by omega) hq sG;refine ⟨by rw [sU,sG],?_,?_⟩
 · have hc:=ybh (l:=l) (by omega) h2.2 hg hq bI kC;rw [e1,e3,k1] at hc;rw [hc];refine List.ext_getElem (by rw [kai (b:=q.cs) (by intro e; rw [e] at k2; simp at k2) _ (by simp),List.length_map]; simp) fun i i1 i2=>?_
   have hi:i < q.cs.length:=by rw [List.length_map] at i2; exact i2
   have h5:(yl [g] q.cs)[i]=(yl [g] q.cs).getD i Pl.zero:=by rw [List.getD_eq_getElem?_getD,List.getElem?_eq_getElem i1]; rfl
   rw [h5,List.getElem_map];refine Pl.val_uniq (gae yat i) (Pl.mul_can _ _) fun ρ=>?_
   rw [show yl [g] q.cs=gab (q.cs.map fun x=>g.mul x) [Pl.zero] from rfl,qae,ua3,Pl.mul_val,List.getD_eq_getElem?_getD,List.getElem?_eq_getElem hi,Option.getD_some];have:([Pl.zero].getD i Pl.zero).val ρ=0:=by
    cases i with
    | zero=>rw [List.getD_cons_zero,Pl.zero_val]
    | succ j=>rw [List.getD_cons_succ,List.getD_nil,Pl.zero_val]
   grind
 · refine Pl.val_uniq (uac _ _) hq fun ρ=>?_
   rw [sG,vac (by omega) h2.2];cases q with
   | mk lv ng ds cs =>
     simp only [Pl.lv,Pl.cs] at sG ⊢;subst sG;rw [Pl.mk_val ρ _ _ _ (by omega) h2.2]
theorem qco {g q:Pl} (hg:g.Can) (hq:q.Can) (bI:g ≠ Pl.zero) (kC:q ≠ Pl.zero) (h0:1<=g.lv) (hl:(g.mul q).lv=g.lv):(g.mul q).cs=yl (q.cfL g.lv) g.cs/\q.cfL g.lv ≠ []/\joinL g.lv (q.cfL g.lv)=q/\2<=g.cs.length/\g.cs.getD (g.cs.length - 1) Pl.zero ≠ Pl.zero:=by
 have h1:=hg.lv_nonneg;have hf:=Pl.mul_can q g;rw [vas] at hl ⊢;obtain ⟨e1,e2⟩:=zao h0 hf hl;obtain ⟨k1,k2⟩:=zao h0 hg rfl;have hc:=ybh (l:=g.lv) h0 h1.2 hq hg kC bI;rw [e1,k1] at hc;refine ⟨hc,xae h0 h1.2 hq kC,Pl.val_uniq (uac _ _) hq fun ρ=>by rw [vac h0 h1.2]; exact (Pl.cfL_coefs h0 h1.2 hq).val ρ,k2,?_⟩;have:=xag (Pl.cfL_coefs h0 h1.2 hg).last (xae h0 h1.2 hg bI);rw [k1] at this;exact this
theorem ybl {c : Pl} : ∀ {x y : List Pl}, c ∈ gab x y -> (∃ a ∈ x, ∃ b ∈ y, c = a.add b) \/ c ∈ x \/ c ∈ y
 | [],y,h=>.inr (.inr h)
 | a :: r,[],h=>.inr (.inl h)
 | a :: r,b :: s,h=>by
   rw [gab] at h;rcases List.mem_cons.1 h with rfl | h
   · exact .inl ⟨a,by simp,b,by simp,rfl⟩
   · rcases ybl h with ⟨a',ha,b',hb,e⟩ | h | h
     · exact .inl ⟨a',by simp [ha],b',by simp [hb],e⟩
     · exact .inr (.inl (by simp [h]))
     · exact .inr (.inr (by simp [h]))
theorem ubs {E D F Dg : Nat} {G : List Pl} (hG : ∀ c ∈ G, Fit c F Dg) : ∀ Q : List Pl, (∀ c ∈ Q, Fit c E D) -> ∀ c ∈ yl Q G, Fit c (E + F) (D + Dg + Q.length)
 | [],_,c,hc=>by cases hc
 | a :: r,hQ,c,hc=>by
   rw [yl] at hc;have h1:∀ c ∈ G.map (fun c=>a.mul c),Fit c (E+F) (D+Dg):=fun c hc=>by
    obtain ⟨d,hd,rfl⟩:=List.mem_map.1 hc;exact (hQ a (by simp)).mul (hG d hd)
   have h2:∀ c ∈ Pl.zero :: yl r G,Fit c (E+F) (D+Dg+r.length):=fun c hc=>by
    rcases List.mem_cons.1 hc with rfl | hc
    · exact Fit.zero
    · exact ubs hG r (fun d hd=>hQ d (by simp [hd])) c hc
   rcases ybl hc with ⟨x,hx,y,hy,rfl⟩ | hc | hc
   · exact ((h1 x hx).add (h2 y hy)).mono (by omega) (by rw [List.length_cons]; omega)
   · exact (h1 c hc).mono (by omega) (by omega)
   · exact (h2 c hc).mono (by omega) (by rw [List.length_cons]; omega)
theorem zca {E D F Dg n k:Nat} {G Q:List Pl} (hG:∀ c ∈ G,Fit c F Dg) (hQ:∀ c ∈ Q,Fit c E D):∀ c ∈ xy G Q n k,Fit c (E+F) (D+Dg+Q.length):=fun c hc=>by
 unfold xy at hc;obtain ⟨j,-,rfl⟩:=List.mem_map.1 hc;have h1:=ubs hG (Q.take k) (fun d hd=>hQ d (List.mem_of_mem_take hd));exact (jab Fit.zero h1 j).mono (by omega) (by rw [List.length_take]; omega)
def ExI (G Q:List Pl) (n r:Nat) (L:List Pl):Prop:=L.length=n+Q.length/\∀ i,i < n+r->L.getD i Pl.zero=(xy G Q n r).getD i Pl.zero
def ExJ (G Q:List Pl) (n k j:Nat) (L:List Pl):Prop:=L.length=n+Q.length/\∀ i,i < n+k->L.getD i Pl.zero=if k<=i/\i < k+j then (xy G Q n k).getD i Pl.zero else (xy G Q n (k+1)).getD i Pl.zero
theorem ExI.toJ {G Q:List Pl} {n k:Nat} {L:List Pl} (h:ExI G Q n (k+1) L):ExJ G Q n k 0 L:=⟨h.1,fun i hi=>by rw [if_neg (by omega)]; exact h.2 i (by omega)⟩
section
variable {G Q:List Pl} {n:Nat} (hG:G.length=n+1)
include hG
theorem ExI.start (hQ:Q ≠ []):ExI G Q n Q.length (yl Q G):=by
 refine ⟨by rw [kai (by intro e; rw [e] at hG; simp at hG) Q hQ,hG]; omega,fun i _=>?_⟩;rw [xb3 hG hQ]
theorem ybc {k i:Nat} (hk:k < Q.length) (hi:i < n+k):(xy G Q n k).getD i Pl.zero=if k<=i then ((xy G Q n (k+1)).getD i Pl.zero).sub ((Q.getD k Pl.zero).mul (G.getD (i - k) Pl.zero)) else (xy G Q n (k+1)).getD i Pl.zero:=by
 rw [<- ubr hG hk];unfold uaw;rw [List.getD_eq_getElem?_getD,List.getElem?_map,List.getElem?_range (by rw [hG]; omega)]
 rfl
theorem ExJ.toI {k:Nat} {L:List Pl} (h:ExJ G Q n k n L) (hk:k < Q.length):ExI G Q n k L:=⟨h.1,fun i hi=>by
 rw [h.2 i hi]
 by_cases IA:k<=i
 · rw [if_pos ⟨IA,by omega⟩]
 · rw [if_neg (by omega),ybc hG hk hi,if_neg IA]⟩
theorem ExJ.step {k j:Nat} {L:List Pl} (h:ExJ G Q n k j L) (hj:j < n) (hk:k < Q.length) {x:Pl} (hx:x=((xy G Q n (k+1)).getD (j+k) Pl.zero).sub ((Q.getD k Pl.zero).mul (G.getD j Pl.zero))):ExJ G Q n k (j+1) (L.set (j+k) x):=by
 refine ⟨by rw [List.length_set]; exact h.1,fun i hi=>?_⟩
 by_cases rG:i=j+k
 · subst rG;rw [if_pos (by omega),ybc hG hk (by omega),if_pos (by omega),show j+k - k=j by omega,<- hx,List.getD_eq_getElem?_getD,List.getElem?_set_self (by rw [h.1]; omega)]
   rfl
 · rw [List.getD_eq_getElem?_getD,List.getElem?_set_ne (by omega),<- List.getD_eq_getElem?_getD,h.2 i hi]
   by_cases h2:k<=i/\i < k+j
   · rw [if_pos h2,if_pos (by omega)]
   · rw [if_neg h2,if_neg (by omega)]
end
theorem ExJ.at_ {G Q:List Pl} {n k j:Nat} {L:List Pl} (h:ExJ G Q n k j L) (hj:j < n):L.getD (j+k) Pl.zero=(xy G Q n (k+1)).getD (j+k) Pl.zero:=by
 rw [h.2 _ (by omega),if_neg (by omega)]
theorem ExI.fin {G Q:List Pl} {n:Nat} {L:List Pl} (h:ExI G Q n 0 L):L.take n=List.replicate n Pl.zero:=by
 have hl:(L.take n).length=n:=by rw [List.length_take,h.1]; omega
 refine List.ext_getElem (by rw [hl,List.length_replicate]) fun i h1 h2=>?_
 rw [hl] at h1;have:=h.2 i (by omega);rw [yb3,List.getD_eq_getElem?_getD,List.getElem?_eq_getElem (by rw [h.1]; omega)] at this;rw [List.getElem_take,List.getElem_replicate];have h3:(List.replicate n Pl.zero).getD i Pl.zero=Pl.zero:=by
  rw [List.getD_eq_getElem?_getD,List.getElem?_replicate,if_pos h1]; rfl
 rw [h3] at this;exact this
theorem ja8 {l:Int} (hl:1<=l) (ag:l<=4) (n:Nat):joinL l (List.replicate n Pl.zero)=Pl.zero:=Pl.val_uniq (uac _ _) Pl.zero_can fun ρ=>by
 rw [vac hl ag,Pl.zero_val]
 induction n with
 | zero=>rfl
 | succ n ih=>rw [List.replicate_succ,ve,ih,Pl.zero_val]; grind
def QuI (Q:List Pl) (r:Nat) (M:List Pl):Prop:=M.length=Q.length/\∀ i,r<=i->i < Q.length->M.getD i Pl.zero=Q.getD i Pl.zero
theorem QuI.start (Q:List Pl):QuI Q Q.length (List.replicate Q.length Pl.zero):=⟨List.length_replicate,fun i h1 h2=>by omega⟩
theorem QuI.step {Q M:List Pl} {k:Nat} (h:QuI Q (k+1) M) (hk:k < Q.length):QuI Q k (M.set k (Q.getD k Pl.zero)):=by
 refine ⟨by rw [List.length_set]; exact h.1,fun i h1 h2=>?_⟩
 by_cases rG:i=k
 · subst rG;rw [List.getD_eq_getElem?_getD,List.getElem?_set_self (by rw [h.1]; omega)]; rfl
 · rw [List.getD_eq_getElem?_getD,List.getElem?_set_ne (by omega),<- List.getD_eq_getElem?_getD];exact h.2 i (by omega) h2
theorem QuI.fin {Q M:List Pl} (h:QuI Q 0 M):M=Q:=by
 refine List.ext_getElem h.1 fun i h1 h2=>?_
 have:=h.2 i (Nat.zero_le _) h2;rw [List.getD_eq_getElem?_getD,List.getD_eq_getElem?_getD,List.getElem?_eq_getElem h1,List.getElem?_eq_getElem h2] at this;exact this
end Go.Proofs.YtklnlgnnlmdibaaGreat
