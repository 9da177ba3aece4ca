/- Layer 24: pseudo.Rem. -/
import Derived.Test.YtcepajijiabkmaaGreatMo30
set_option linter.all false
set_option maxRecDepth 100000
set_option maxHeartbeats 8000000
namespace Go.Proofs.YtcepajijiabkmaaGreat
open Lib (hid)
open Go.RowKit
theorem yci {w0 w1 w:World} {F G:List Pl} {v u:Value} {EM DM E D Eg Dg:Nat} (Qp:Ext w0 w1) (hx1:Ext w1 w) (hF:jag w1 (fun b=>w0.heap.size<=b) v F) (hG:jag w (fun b=>w1.heap.size<=b) u G) (hG0:0 < G.length) (hFb:F.length<=1000) (hGb:G.length<=1000) (TI:∀ c ∈ F,Fit c E D) (Ir:∀ c ∈ G,Fit c Eg Dg) (hE:E+(F.length - (G.length - 1)) * Eg<=EM) (hD:D+(F.length - (G.length - 1)) * (Dg+2)<=DM) (hEM:EM<=400) (hDM:DM<=8796093000000) :
 Calls Tryz.prog 165 #[v,u] w fun e w'=>∃ v0 v',e=.returned (.tuple #[v0,v'])/\jag w' (fun b=>w0.heap.size<=b) v' (zt G (F.length - (G.length - 1)) F)/\Ext w0 w':=by
 obtain ⟨A,cf,rfl,bY,dP,hF2⟩:=hF;obtain ⟨B,cg,rfl,eH,uD,IX⟩:=hG;obtain ⟨n,hn⟩:∃ n,G.length=n+1:=⟨G.length - 1,by omega⟩;rw [hn,uR] at hE hD ⊢
 by_cases hK:F.length<=n
 · rw [show F.length - n=0 by omega,wbc];refine (jb8 hK bY dP (by omega) uD (by omega)).mono ?_;rintro e w' ⟨v0,rfl,x⟩;exact ⟨v0,_,rfl,⟨A,cf,rfl,bY,dP,fun au=>by
    obtain ⟨R,e,h1,h2⟩:=hF2 au
    exact ⟨R,e,h1,h2.ext (hx1.trans x)⟩⟩,(Qp.trans hx1).trans x⟩
 · obtain ⟨R,rfl,hR,ae⟩:=hF2 (by intro e; rw [e] at hK; simp at hK);obtain ⟨Rg,rfl,hRg,QN⟩:=IX (by intro e; rw [e] at hn; simp at hn);have hR1:=ae.1;have:=xci (n:=n) (K:=F.length - n) (cf:=cf) (cg:=cg) (Qp.trans hx1) hR (by omega) (ae.ext hx1) (QN.mono fun b hb=>by omega) hn (by omega) (by omega) bY dP (by omega) uD (by omega) TI Ir hE hD hEM hDM;rw [hn] at this;refine this.mono ?_;rintro e w' ⟨v0,c',rfl,h1,h2,h3,h4⟩;exact ⟨v0,_,rfl,⟨_,c',rfl,h1,h2,fun _=>⟨R,rfl,hR,h3⟩⟩,h4⟩
theorem vbo {w:World} {qa:Nat->Prop} {p:Pl} {A0 A1:Option Addr} {n0 c0 c1:Nat} (hp:PlV w qa p (plV p (.slice A0 n0 c0) (.slice A1 p.cs.length c1))) (T:TypeId) :
 jd (w.alloc (.cells #[.int .i64 p.lv,.bool p.neg,.slice A0 n0 c0,.slice A1 p.cs.length c1] T)) (fun _=>True) [p] (some ⟨w.heap.size,0,none⟩) 0:=by
 refine ⟨⟨⟨w.heap.size,0,none⟩,_,_,rfl,by simp,trivial,?_,(hp.ext ((Ext.refl w).alloc _)).mono fun _ _=>trivial⟩,trivial⟩;refine ⟨?_,?_,?_,?_⟩ <;> simp [go_sem,uu]
theorem jag.qbJ {W:World} {q:Nat->Prop} {A:Option Addr} {n c:Nat} {L:List Pl} (h:jag W q (.slice A n c) L):jd W q L A 0:=by
 obtain ⟨B,d,e,h1,h2,h3⟩:=h;injection e with e1 e2 e3
 subst e1
 by_cases hL:L=[]
 · rw [hL]; unfold jd; trivial
 · obtain ⟨R,rfl,hR,hr⟩:=h3 hL;exact hr.fin hR
def jc9 (q:Nat->Prop) (p:Pl) (n:Int) (w:World) (e:Ending) (w':World):Prop:=∃ v,e=.returned (.tuple #[v,.int .i64 n])/\PlV w' q p v/\Ext w w'
theorem gcq {w:World} {q0 q1:Nat->Prop} {f g:Pl} {l:Int} {E D Eg Dg:Nat} (v0 v1:Value) (hl:1<=l) (ag:l<=4) (h0:PlV w q0 f v0) (h1:PlV w q1 g v1) (hf:Fit f E D) (hg:Fit g Eg Dg) (bI:g ≠ Pl.zero) (hE:E+(E+1) * Eg+Eg<=62) (hD:D+(E+1) * (Dg+2)+1<=1099511627776) :
 Calls Tryz.prog 162 #[v0,v1,.int .i64 l] w (jc9 (fun b=>w.heap.size<=b) (uah l f g) 0 w):=by
 have H0:=hid h0;have H1:=hid h1;have HF:=hid hf;have HG:=hid hg;obtain ⟨A0,n0,c0,A1,c1,rfl,-⟩:=h0.open_;obtain ⟨B0,m0,d0,B1,d1,rfl,-⟩:=h1.open_;obtain ⟨Wa,Wb,W,vO,zF,hW,Ol,eU,JV,nP,fZ,iR,aX,bF,hz⟩:=b_x w f g (.slice A0 n0 c0) (.slice A1 f.cs.length c1) (.slice B0 m0 d0) (.slice B1 g.cs.length d1);have HX:=hid ((eU.trans nP).trans iR);have dJ:=hid aX;have dH:=hid bF;have HZ:=hid hz;have HG0:=hid bI;unfold plV;clear h0 h1 hf hg eU nP iR aX bF hz bI;have Ed:¬ l < 1:=by omega
 have Fv:¬ 4 < l:=by omega
 go_enter Tryz.func162,Tryz.ntmps162;go_upto_region 3 with fail;obtain ⟨b0,b1,b2,b3⟩:=dH.out;clear vO zF hW;go_wp2_with fail;have qB:=qbk (c:=1) (vbo (H1.out.ext HX.out) 33) (fun p hp=>by rw [pD.1 hp]; exact HG.out.can) (by simp);rw [fZ] at qB;have OE:g.zp=false:=by
  cases e:g.zp
  · rfl
  · exact absurd ((Pl.xj HG.out.can).1 e) HG0.out
 simp only [List.any_cons,List.any_nil,OE,pbm,PF,if_false,PC] at qB;refine qB.mono ?_;rintro e w1 ⟨rfl,x1⟩;have X1:Hid (Ext W w1):=hid (((Ext.refl W).alloc _).trans x1);have XY:=HF.out;have hG0:=HG.out;have hlen:=jw (l:=l) HF.out.can HF.out.ex;have lL:=jw (l:=l) HG.out.can HG.out.ex;have FC:=rA.2 (jaf hl ag HG.out.can HG0.out);have hEg:Eg<=62:=by omega
 have O1:E<=62:=by omega
 have O4:Dg<=1099511627776:=by
  have:=pE (Dg+2) (show 1<=E+1 by omega);omega
 have Gy:=hid (fun (W':World) (hx:Ext W W')=>gak _ hl ag HF.out (by omega) (by omega) (H0.out.ext (HX.out.trans hx)));have Gx:=hid (fun (W':World) (hx:Ext W W')=>gak _ hl ag HG.out (by omega) (by omega) (H1.out.ext (HX.out.trans hx)));have hK:(f.xf l).length - ((g.xf l).length - 1)<=E+1:=by omega
 have hKE:=pE Eg hK;have hKD:=pE (Dg+2) hK;have Nh:=hid (fun (Wd W4 W5:World) (v u:Value) (x:Ext Wd W4) (y:Ext W4 W5) (hF:jag W4 (fun b=>Wd.heap.size<=b) v (f.xf l)) (hG:jag W5 (fun b=>W4.heap.size<=b) u (g.xf l))=>yci (EM:=400) (DM:=8796093000000) x y hF hG FC (by omega) (by omega) (Pl.zP HF.out) (Pl.zP HG.out) (by omega) (by omega) (by omega) (by omega));have VD:=hid (ycd hl ag (n:=4) ag (by omega) HF.out HG.out HF.out.can.qq.2 HG.out.can.qq.2 (by have:B32=4294967296:=rfl; omega)).1;have xU:=hid (fun c hc=>(qay (l:=l) (n:=4) (by omega) (by omega) (ga2 hl ag HG.out HG.out.can.qq.2) ((f.xf l).length - ((g.xf l).length - 1)) _ _ _ (ga2 hl ag HF.out HF.out.can.qq.2) c hc).fit);have Ji:=hid (jbo f g FC);have HRP:Hid (uah l f g=joinL l (zt (g.xf l) ((f.xf l).length - ((g.xf l).length - 1)) (f.xf l))):=hid (by unfold uah; rw [if_pos ⟨hl,ag⟩,OE]; rfl);have aH:Hid (∀ W',Ext W W'->(Ext W W'/\(jb W' (w.heap.size) f (.slice A0 n0 c0) (.slice A1 f.cs.length c1))/\(jb W' (w.heap.size+1) g (.slice B0 m0 d0) (.slice B1 g.cs.length d1)))):=hid fun W' hx=>⟨hx,dJ.out.ext hx (by omega),dH.out.ext hx (by omega)⟩
 unfold plV at Gy Gx;have hd:=X1.out.drew;have Y0:=hid hd;obtain ⟨RA,hRA⟩:=n_m (zt (g.xf l) ((f.xf l).length - ((g.xf l).length - 1)) (f.xf l));have NG:=xU.out;have VC:=Ji.out;have Gh:=HRP.out;rw [hRA] at NG VC Gh Nh;have YN:Hid (∀ (W':World) (q:Nat->Prop) (A':Option Addr) (c':Nat),jag W' q (.slice A' RA.length c') RA->Calls Tryz.prog 13 #[.slice A' RA.length c',.int .i64 l] W' (uf (fun b=>W'.heap.size<=b) (uah l f g) W')):=hid (by
  intro W' q A' c' ae;have KZ:∀ c ∈ RA,Fit c (E+(E+1) * Eg) (D+(E+1) * (Dg+2)):=fun c hc=>(NG c hc).mono (by omega) (by omega)
  have hEE:=pE Eg (show 1<=E+1 by omega);rw [Gh];have h2:=ae.qbJ;obtain ⟨B,d,e,k1,k2,-⟩:=ae;injection e with e1 e2 e3
  subst e1 e3;refine zan hl ag h2 k1 k2 (kav KZ (by omega) (by omega)) (by have:=uaq KZ; omega) ?_;rw [<- Gh]
  exact VD.out.copy_ (by omega))
 clear qB x1 b0 b1 b2 b3 hd hK hKE hKD XY hG0 xU Ji HRP NG VC Gh hRA hlen lL FC hE hD;go_upto_region 6 with fail;refine wp_region_held_drew (S:=fun W'=>Ext W W'/\(jb W' (w.heap.size) f (.slice A0 n0 c0) (.slice A1 f.cs.length c1))/\(jb W' (w.heap.size+1) g (.slice B0 m0 d0) (.slice B1 g.cs.length d1))) (by kernel_rfl) (aH.out _ Y0.out) (fun hHeld=>?_);refine tk 0 ?_ (hy:=Or.inl ⟨by rfl,by intro w' aO; obtain ⟨-,⟨k1,k2,k3,k4⟩,k5,k6,k7,k8⟩:=aO; go_simp; (try (with_reducible rfl))⟩);refine tk 1 ?_;refine tk 3 ?_ (hy:=Or.inl ⟨by rfl,by intro w' aO; obtain ⟨-,⟨k1,k2,k3,k4⟩,k5,k6,k7,k8⟩:=aO; go_simp; (try (with_reducible rfl))⟩);refine tk 4 ?_;refine r_1 2 fun K hK=>?_
 go_simp
 go_at_call 137
 refine (Gy.out _ Y0.out).mono ?_;rintro e w4 ⟨v4,rfl,row4,y4⟩;have z1:Ext W w4:=Y0.out.trans y4;refine k_t hK (aH.out _ z1) fun hHeld=>?_
 clear hK K;refine r_1 5 fun K hK=>?_
 go_simp
 go_at_call 137
 refine (Gx.out _ z1).mono ?_;rintro e w5 ⟨v5,rfl,jS,y5⟩;have z2:Ext W w5:=z1.trans y5;refine k_t hK (aH.out _ z2) fun hHeld=>?_
 clear hK K;refine r_1 6 fun K hK=>?_
 go_simp
 go_at_call 165
 refine (Nh.out _ _ _ _ _ y4 y5 row4 jS).mono ?_;rintro e w6 ⟨v6,v7,rfl,JC,y6⟩;have z3:Ext W w6:=Y0.out.trans y6;refine k_t hK (aH.out _ z3) fun hHeld=>?_
 clear hK K;refine tk 7 ?_;refine tk 8 ?_;refine tk 9 ?_;refine tk 10 ?_;refine tk 11 ?_;refine w_d ?_;obtain ⟨A',c',rfl,k1,k2,k3⟩:=id JC;have HJ:=hid (YN.out _ _ _ _ JC);have Z3:=hid (HX.out.trans z3);have AZ:=hid (HZ.out.ext z3 (by omega));have Eb:w.heap.size+1+1 < w6.heap.size:=by have:=z3.size; omega
 obtain ⟨X,hX⟩:=n_m (uah l f g);rw [hX] at HJ;have oP:=hid hX;clear hX hHeld k3 row4 jS JC y4 y5 y6 Gy Gx Nh YN z1 z2 z3 aH VD;go_wp2_with fail;refine HJ.out.mono ?_;rintro e w7 ⟨v8,rfl,m2,x2⟩;obtain ⟨D0,dX,dZ,D1,dY,rfl,-⟩:=id m2.open_;have aS:=AZ.out.ext x2 Eb;have iw:=hid (qf (q':=fun b=>w.heap.size<=b) (Z3.out.trans x2) (by omega) aS m2 (fun b _ hb=>⟨by omega,by omega⟩));obtain ⟨⟨z0,z1,z2,z3⟩,zf⟩:=aS;clear m2 x2 HJ;unfold plV;go_wp2_with fail;obtain ⟨v9,e9,k3,k4⟩:=iw.out;injection e9 with e9
 subst e9;exact bodyPost_ret (v:=.tuple #[plV X (.slice D0 dX dZ) (.slice D1 X.cs.length dY),.int .i64 0]) (by simp [results,Tryz.results162,go_sem,z0,z1,z2,z3,plV]) rfl (by rw [oP.out]; exact ⟨_,rfl,k3,k4⟩)
def za2 (c:Pl) (g:List Pl) (k:Nat) (rest:List Pl):List Pl:=
 (List.range (g.length - 1+k)).map fun j=>if k<=j then (rest.getD j Pl.zero).sub (c.mul (g.getD (j - k) Pl.zero)) else rest.getD j Pl.zero
theorem zcl (c:Pl) (g:List Pl) (k:Nat) (rest:List Pl):(za2 c g k rest).length=g.length - 1+k:=by
 unfold za2;rw [pw,tt]
theorem Pl.qbO {g:Pl} (h:g.Can) (hl:g.lv=0) (hg:g ≠ Pl.zero):g.z ≠ 0:=fun e=>hg (by rw [yah h hl,e]; unfold Pl.const Pl.zero; simp [zo])
def jab (l : Int) : Nat -> Pl -> List Pl
 | 0,_=>[]
 | n+1,r=>if 0 < mdg l r then r :: (if (yl l r).lv=0 then [] else jab l n (wag l r)) else []
def zah (l : Int) : Nat -> Pl -> Bool
 | 0,_=>false
 | n+1,r=>if 0 < mdg l r then (if (yl l r).lv=0 then true else zah l n (wag l r)) else false
def vg (l:Int) (f:Pl):List Pl:=jab l (mdg l f).toNat f
def gag (l:Int) (f:Pl):Bool:=zah l (mdg l f).toNat f
theorem ubc {l:Int} {n:Nat} {r:Pl} (h:¬ 0 < mdg l r):jab l n r=[]:=by cases n <;> simp [jab,h]
theorem ub8 {l:Int} {n:Nat} {r:Pl} (h:¬ 0 < mdg l r):zah l n r=false:=by cases n <;> simp [zah,h]
theorem za0 {l:Int} {n:Nat} {r:Pl} (h:0 < mdg l r):jab l (n+1) r=r :: (if (yl l r).lv=0 then [] else jab l n (wag l r)):=by rw [jab,if_pos h]
theorem gbc {l:Int} {n:Nat} {r:Pl} (h:0 < mdg l r):zah l (n+1) r=if (yl l r).lv=0 then true else zah l n (wag l r):=by rw [zah,if_pos h]
theorem vc0 {l:Int} (hl:1<=l) (ag:l<=4) {r:Pl} (h:r.Can) (h0:0 < mdg l r):mdg l (wag l r) < mdg l r:=by
 have:=xa9 (l:=l) hl ag (cs:=(r.xf l).dropLast) (fun c hc=>wae h c (List.dropLast_subset _ hc)) (fun c hc=>qx hl ag h c (List.dropLast_subset _ hc));rw [List.length_dropLast] at this;unfold wag;unfold mdg at h0 ⊢;unfold mdg at this;omega
theorem kbk {l : Int} {P : Nat -> Pl -> Prop} (hs : ∀ n r, P (n + 1) r -> 0 < mdg l r -> (yl l r).lv ≠ 0 -> P n (wag l r)) : ∀ (n : Nat) (r : Pl), P n r -> ∀ c ∈ jab l n r, ∃ m, m < n /\ P (m + 1) c /\ 0 < mdg l c
 | 0,_,_,_,hc=>by simp [jab] at hc
 | n+1,r,h,c,hc=>by
   by_cases h0:0 < mdg l r
   · rw [za0 h0,pN] at hc;rcases hc with rfl | hc
     · exact ⟨n,by omega,h,h0⟩
     · by_cases h1:(yl l r).lv=0
       · rw [if_pos h1] at hc; cases hc
       · rw [if_neg h1] at hc;obtain ⟨m,h2,h3,h4⟩:=kbk hs n _ (hs n r h h0 h1) c hc;exact ⟨m,by omega,h3,h4⟩
   · rw [ubc h0] at hc; cases hc
theorem jbk {l:Int} {f:Pl} {E D n:Nat} (h:Fit f E D) (hE:E < B32):∀ c ∈ jab l n f,Fit c E (D+n)/\0 < mdg l c:=fun c hc=>by
 obtain ⟨m,hm,hf,h0⟩:=kbk (P:=fun k r=>k<=n/\Fit r E (D+(n - k))) (fun k r ⟨h1,h2⟩ _ _=>⟨by omega,(xbg h2 hE).mono (pj _) (by omega)⟩) n f ⟨pj _,h.mono (pj _) (by omega)⟩ c hc;exact ⟨hf.2.mono (pj _) (by omega),h0⟩
theorem kao {l : Int} : ∀ (n : Nat) (r : Pl), (jab l n r).length <= n
 | 0,_=>by simp [jab]
 | n+1,r=>by
   rw [jab]
   split
   · rw [pH]
     split
     · simp
     · have:=kao (l:=l) n (wag l r); omega
   · simp
theorem Pl.vt (ρ:Int->Rat) {n:Int} (h1:1<=n) (h4:n<=4):(Pl.var n).val ρ=ρ n:=by
 rw [Pl.var,if_pos ⟨h1,h4⟩,Pl.val,if_neg (by omega)];simp only [je,Pl.qt,Pl.qS]
 grind
theorem Pl.kn:Pl.zero.yd=Pl.zero:=Pl.qv (Pl.ye _) Pl.qT fun ρ=>by rw [Pl.xT,Pl.qt]; grind
def ji (l:Int) (f g:Pl):Pl:=uah l f g.yd
def uab (l:Int) (f g:Pl):Pl:=
 ((qi l 0 (ji l f g)).mul (qi l 0 (ji l f g))).sub ((qi l 1 (ji l f g)).mul (((qi l 1 f).mul (qi l 0 g)).sub ((qi l 0 f).mul (qi l 1 g))))
def gp (l:Int) (f g:Pl):List Pl:=
 if mdg l f<=0\/mdg l g<=0 then [] else if mdg l g=1 then [qi l 0 (ji l f g)] else if mdg l f=1 then [qi l 0 (ji l g f)] else [uab l f g,qi l 1 (ji l f g)]
theorem qad (l:Int) (f g:Pl):(ji l f g).Can:=kc0 _ _ _
theorem gbo {l:Int} (hl:1<=l) (ag:l<=4) {g:Pl} (hg:g.Can):g.yd.xf l=(g.xf l).map Pl.yd:=by
 refine (Pl.q8 hl ag (Pl.ye g)).uniq ⟨fun c hc=>?_,fun c hc=>?_,fun ρ=>?_,?_⟩
 · obtain ⟨d,-,rfl⟩:=pS.1 hc; exact Pl.ye d
 · obtain ⟨d,hd,rfl⟩:=pS.1 hc; exact (qx hl ag hg d hd).yd
 · have h1:=(Pl.q8 hl ag hg).val ρ;have h2:∀ L:List Pl,je ρ l (L.map Pl.yd)=-je ρ l L:=by
    intro L
    induction L with
    | nil=>simp [je]
    | cons c r ih=>simp only [ss,je,ih,Pl.xT]; grind
   rw [h2,h1,Pl.xT]
 · intro h;rw [T8] at h;cases hL:(g.xf l).getLast? with
   | none=>rw [hL] at h; cases h
   | some c =>
     rw [hL] at h;injection h with h
     have hc:c=Pl.zero:=by rw [<- Pl.vp (wae hg c (pac hL)),h,Pl.kn]
     exact (Pl.q8 hl ag hg).last (by rw [hL,hc])
theorem zce {l:Int} (hl:1<=l) (ag:l<=4) {g:Pl} (hg:g.Can):mdg l g.yd=mdg l g:=by
 unfold mdg; rw [gbo hl ag hg,pw]
theorem va3 {l:Int} (hl:1<=l) (ag:l<=4) {f g:Pl} (hf:f.Can) (hg:g.Can) (bI:g ≠ Pl.zero):mdg l (ji l f g) < mdg l g:=by
 have h1:g.yd ≠ Pl.zero:=fun e=>bI (by rw [<- Pl.vp hg,e]; exact Pl.kn)
 have:=jc0 hl ag hf (Pl.ye g) h1;rw [zce hl ag hg] at this;exact this
theorem qah {l:Int} {p:Pl} (h:0<=mdg l p):p ≠ Pl.zero:=fun e=>by
 rw [e] at h;unfold mdg at h;rw [Pl.kt] at h;simp at h
theorem zam {l:Int} (hl:1<=l) (ag:l<=4) {f g:Pl} {E D F G:Nat} (hf:Fit f E D) (hg:Fit g F G) (hF:F < B32):Fit (ji l f g) (E+(E+1) * F+F) (D+(E+1) * (G+3)+1):=
 (ycd hl ag (n:=4) ag (by omega) hf hg.yd hf.can.qq.2 (Pl.ye g).qq.2 hF).1
theorem va5 {l:Int} (hl:1<=l) (ag:l<=4) {p:Pl} (h:p.Can) (h0:mdg l p<=0):qi l 0 p=p:=by
 unfold qi;rw [if_neg (by omega)];refine Pl.qv (zae (wae h) _) h fun ρ=>?_
 have hv:=(Pl.q8 hl ag h).val ρ;have hlen:(p.xf l).length<=1:=by unfold mdg at h0; omega
 rcases hL:p.xf l with _ | ⟨c,_ | ⟨d,r⟩⟩
 · rw [hL] at hv; simp only [je] at hv; rw [<- hv]; simp [Pl.qt]
 · rw [hL] at hv; simp only [je] at hv; rw [<- hv]; simp only [Int.toNat_zero,sR]; grind
 · rw [hL] at hlen; simp at hlen
theorem za9 (ρ:Int->Rat) (a:Pl) (G:List Pl) (j:Nat):((G.map fun c=>a.mul c).getD j Pl.zero).val ρ=a.val ρ * (G.getD j Pl.zero).val ρ:=by
 by_cases h:j < G.length
 · rw [ub1 _ _ _ h,Pl.qD]
 · rw [za5 _ _ (by rw [pw]; omega),za5 _ _ (by omega),Pl.qt]; grind
theorem va9 (ρ : Int -> Rat) (c : Pl) (G : List Pl) : ∀ (Q : List Pl) (j : Nat), ((uk (Q ++ [c]) G).getD j Pl.zero).val ρ = ((uk Q G).getD j Pl.zero).val ρ + if Q.length <= j then c.val ρ * (G.getD (j - Q.length) Pl.zero).val ρ else 0
 | [],j=>by
   rw [tz,show uk [c] G=vac (G.map fun x=>c.mul x) [Pl.zero] from rfl,show uk [] G=[] from rfl,kaf,za9,Rr,Pl.qt,rK,if_pos (pZ _),Nat.sub_zero];have:([Pl.zero].getD j Pl.zero).val ρ=0:=by
    cases j with
    | zero=>rw [sR,Pl.qt]
    | succ j=>rw [sA,Rr,Pl.qt]
   grind
 | a :: r,0=>by
   rw [rI,uk,uk,kaf,kaf,sR,sR,if_neg (by simp)]
   grind
 | a :: r,j+1=>by
   rw [rI,uk,uk,kaf,kaf,sA,sA,va9 ρ c G r j,pH];have e:j+1 - (r.length+1)=j - r.length:=by omega
   rw [e]
   by_cases h:r.length<=j
   · rw [if_pos h,if_pos (by omega)]; grind
   · rw [if_neg h,if_neg (by omega)]; grind
def vz (G Q:List Pl) (n k:Nat):List Pl:=(List.range (n+k)).map fun j=>(uk (Q.take k) G).getD j Pl.zero
theorem xay (G Q:List Pl) (n k:Nat):(vz G Q n k).length=n+k:=by unfold vz; rw [pw,tt]
theorem wa3 (G Q:List Pl) (n k j:Nat) (h:j < n+k):(vz G Q n k).getD j Pl.zero=(uk (Q.take k) G).getD j Pl.zero:=by
 unfold vz;rw [po,tS,pak h]; rfl
theorem za8 (G Q:List Pl) (n k j:Nat) (h:j < (vz G Q n k).length):(vz G Q n k)[j]=(uk (Q.take k) G).getD j Pl.zero:=by
 have h1:=wa3 G Q n k j (by rw [xay] at h; exact h);rw [po,pr h] at h1;exact h1
theorem xax {Q G:List Pl}:∀ c ∈ uk Q G,c.Can:=vaz Pl.qT (fun a b _ _=>Pl.yk a b) Q G fun x _ y _=>Pl.q9 x y
theorem jcq {G Q:List Pl} {n k:Nat}:∀ c ∈ vz G Q n k,c.Can:=fun c hc=>by
 unfold vz at hc;obtain ⟨j,-,rfl⟩:=pS.1 hc;exact zae xax j
section
variable {G Q:List Pl} {n k:Nat} (hG:G.length=n+1) (hk:k < Q.length)
include hG hk
theorem xcq (hQ:∀ c ∈ Q,c.Can) (hg:∀ c ∈ G,c.Can):(vz G Q n (k+1)).getD (n+k) Pl.zero=(G.getD n Pl.zero).mul (Q.getD k Pl.zero):=by
 rw [wa3 _ _ _ _ _ (by omega)];refine Pl.qv (zae xax _) (Pl.q9 _ _) fun ρ=>?_
 have ht:Q.take (k+1)=Q.take k ++ [Q[k]]:=(pbd hk).symm;have jJ:Q.getD k Pl.zero=Q[k]:=by rw [po,pr hk]; rfl
 have hl:(Q.take k).length=k:=by rw [pA]; omega
 have hz:((uk (Q.take k) G).getD (n+k) Pl.zero).val ρ=0:=by
  rw [za5,Pl.qt]
  by_cases h0:Q.take k=[]
  · rw [h0,uk]; exact pZ _
  · rw [yak (by intro e; rw [e] at hG; simp at hG) _ h0,hl,hG]; omega
 rw [ht,va9,hz,hl,if_pos (by omega),show n+k - k=n by omega,Pl.qD,jJ]
 grind
theorem vb4:za2 (Q.getD k Pl.zero) G k (vz G Q n (k+1))=vz G Q n k:=by
 have hlen:(za2 (Q.getD k Pl.zero) G k (vz G Q n (k+1))).length=n+k:=by rw [zcl]; omega
 refine sT (by rw [hlen,xay]) fun j h1 h2=>?_
 rw [hlen] at h1;have ht:Q.take (k+1)=Q.take k ++ [Q[k]]:=(pbd hk).symm;have jJ:Q.getD k Pl.zero=Q[k]:=by rw [po,pr hk]; rfl
 have hl:(Q.take k).length=k:=by rw [pA]; omega
 have hv:∀ ρ,((vz G Q n (k+1)).getD j Pl.zero).val ρ=((uk (Q.take k) G).getD j Pl.zero).val ρ+if k<=j then Q[k].val ρ * (G.getD (j - k) Pl.zero).val ρ else 0:=fun ρ=>by
  rw [wa3 _ _ _ _ _ (by omega),ht,va9,hl]
 rw [za8];simp only [za2,rN,tI,jJ]
 split
 · rename_i OB;refine Pl.qv (Pl.Kx _ _) (zae xax _) fun ρ=>?_
   rw [Pl.z8,Pl.qD,hv,if_pos OB]
   grind
 · rename_i OB;refine Pl.qv (zae jcq _) (zae xax _) fun ρ=>?_
   rw [hv,if_neg OB]
   grind
end
theorem wch (G Q:List Pl) (n:Nat):vz G Q n 0=List.replicate n Pl.zero:=by
 refine sT (by rw [xay,ra]; rfl) fun j h1 h2=>?_
 rw [za8,we,td,uk,Rr]
theorem zci {G Q:List Pl} {n:Nat} (hG:G.length=n+1) (hQ:Q ≠ []):vz G Q n Q.length=uk Q G:=by
 have hl:=yak (b:=G) (by intro e; rw [e] at hG; simp at hG) Q hQ;refine sT (by rw [xay,hl,hG]; omega) fun j h1 h2=>?_
 rw [za8,pQ,po,pr h2]; rfl
theorem uar {l:Int} (hl:1<=l) {p:Pl} (h:p.Can) (e:p.lv=l):p.xf l=p.cs/\2<=p.cs.length:=by
 have ag:l<=4:=by have:=h.qq.2; omega
 cases p with
 | mk lv ng ds cs =>
   simp only [Pl.lv,Pl.cs] at e ⊢;subst e;exact ⟨(Pl.q8 hl ag h).uniq (zav h (by omega)),(h.kids (by omega)).2.2.1⟩
theorem ubp {l:Int} (hl:1<=l) (ag:l<=4) {p:Pl} (h:p.Can) (hp:p ≠ Pl.zero) (e:p.lv < l):p.xf l=[p]:=(Pl.q8 hl ag h).uniq (ua0 h hp (uas h e))
theorem ka9 {g q:Pl} (hg:g.Can) (hq:q.Can) (bI:g ≠ Pl.zero) (kD:q ≠ Pl.zero):g.lv<=(g.mul q).lv:=by
 have h1:=hg.qq;have h2:=(Pl.q9 g q).qq
 by_cases h0:g.lv=0
 · omega
 refine Int.not_lt.1 fun af=>?_
 have hm:=xce (l:=g.lv) (by omega) h1.2 hg hq bI kD;have hn:g.mul q ≠ Pl.zero:=fun e=>by
  rcases Pl.mul_zero hg hq (fun ρ=>by rw [<- Pl.qD,e,Pl.qt]) with e | e
  · exact bI e
  · exact kD e
 obtain ⟨e1,e2⟩:=uar (l:=g.lv) (by omega) hg rfl;have e3:=ubp (l:=g.lv) (by omega) h1.2 (Pl.q9 g q) hn af;have e4:=rA.2 (jaf (l:=g.lv) (by omega) h1.2 hq kD);unfold mdg at hm;rw [e1,e3,PC] at hm;omega
theorem vaw (g q:Pl):g.mul q=q.mul g:=Pl.qv (Pl.q9 _ _) (Pl.q9 _ _) fun ρ=>by rw [Pl.qD,Pl.qD]; grind
theorem udd {g q:Pl} (hg:g.Can) (hq:q.Can) (bI:g ≠ Pl.zero) (kD:q ≠ Pl.zero) (hl:g.lv < (g.mul q).lv):q.lv=(g.mul q).lv/\(g.mul q).cs=q.cs.map (fun c=>g.mul c)/\joinL q.lv q.cs=q:=by
 have hf:=Pl.q9 g q;have h1:=hg.qq;have h2:=hf.qq;obtain ⟨l,qN⟩:=n_m ((g.mul q).lv);rw [qN] at hl h2;have hqn:=hq.qq;have pW:q.lv<=l:=by rw [<- qN,vaw]; exact ka9 hq hg kD bI
 have hm:=xce (l:=l) (by omega) h2.2 hg hq bI kD;obtain ⟨e1,e2⟩:=uar (l:=l) (by omega) hf qN;have e3:=ubp (l:=l) (by omega) h2.2 hg bI hl;have rY:q.lv=l:=by
  refine Int.le_antisymm pW (Int.not_lt.1 fun af=>?_);have e4:=ubp (l:=l) (by omega) h2.2 hq kD af;unfold mdg at hm;rw [e1,e3,e4] at hm;simp only [PC] at hm;omega
 obtain ⟨k1,k2⟩:=uar (l:=l) (by omega) hq rY;refine ⟨by rw [qN,rY],?_,?_⟩
 · have hc:=wbo (l:=l) (by omega) h2.2 hg hq bI kD;rw [e1,e3,k1] at hc;rw [hc];refine sT (by rw [yak (b:=q.cs) (by intro e; rw [e] at k2; simp at k2) _ (by simp),pw]; simp) fun i i1 i2=>?_
   have hi:i < q.cs.length:=by rw [pw] at i2; exact i2
   have h5:(uk [g] q.cs)[i]=(uk [g] q.cs).getD i Pl.zero:=by rw [po,pr i1]; rfl
   rw [h5,rN];refine Pl.qv (zae xax i) (Pl.q9 _ _) fun ρ=>?_
   rw [show uk [g] q.cs=vac (q.cs.map fun x=>g.mul x) [Pl.zero] from rfl,kaf,za9,Pl.qD,po,pr hi,Pr];have:([Pl.zero].getD i Pl.zero).val ρ=0:=by
    cases i with
    | zero=>rw [sR,Pl.qt]
    | succ j=>rw [sA,Rr,Pl.qt]
   grind
 · refine Pl.qv (zad _ _) hq fun ρ=>?_
   rw [rY,uz (by omega) h2.2];cases q with
   | mk lv ng ds cs =>
     simp only [Pl.lv,Pl.cs] at rY ⊢;subst rY;rw [Pl.mk_val ρ _ _ _ (by omega) h2.2]
theorem gc6 {g q:Pl} (hg:g.Can) (hq:q.Can) (bI:g ≠ Pl.zero) (kD:q ≠ Pl.zero) (h0:1<=g.lv) (hl:(g.mul q).lv=g.lv):(g.mul q).cs=uk (q.xf g.lv) g.cs/\q.xf g.lv ≠ []/\joinL g.lv (q.xf g.lv)=q/\2<=g.cs.length/\g.cs.getD (g.cs.length - 1) Pl.zero ≠ Pl.zero:=by
 have h1:=hg.qq;have hf:=Pl.q9 q g;rw [vaw] at hl ⊢;obtain ⟨e1,e2⟩:=uar h0 hf hl;obtain ⟨k1,k2⟩:=uar h0 hg rfl;have hc:=wbo (l:=g.lv) h0 h1.2 hq hg kD bI;rw [e1,k1] at hc;refine ⟨hc,jaf h0 h1.2 hq kD,Pl.qv (zad _ _) hq fun ρ=>by rw [uz h0 h1.2]; exact (Pl.q8 h0 h1.2 hq).val ρ,k2,?_⟩;have:=yai (Pl.q8 h0 h1.2 hg).last (jaf h0 h1.2 hg bI);rw [k1] at this;exact this
theorem xbu {c : Pl} : ∀ {x y : List Pl}, c ∈ vac x y -> (∃ a ∈ x, ∃ b ∈ y, c = a.add b) \/ c ∈ x \/ c ∈ y
 | [],y,h=>.inr (.inr h)
 | a :: r,[],h=>.inr (.inl h)
 | a :: r,b :: s,h=>by
   rw [vac] at h;rcases pN.1 h with rfl | h
   · exact .inl ⟨a,by simp,b,by simp,rfl⟩
   · rcases xbu h with ⟨a',ha,b',hb,e⟩ | h | h
     · exact .inl ⟨a',by simp [ha],b',by simp [hb],e⟩
     · exact .inr (.inl (by simp [h]))
     · exact .inr (.inr (by simp [h]))
theorem wb5 {E D F Dg : Nat} {G : List Pl} (hG : ∀ c ∈ G, Fit c F Dg) : ∀ Q : List Pl, (∀ c ∈ Q, Fit c E D) -> ∀ c ∈ uk Q G, Fit c (E + F) (D + Dg + Q.length)
 | [],_,c,hc=>by cases hc
 | a :: r,hQ,c,hc=>by
   rw [uk] at hc;have h1:∀ c ∈ G.map (fun c=>a.mul c),Fit c (E+F) (D+Dg):=fun c hc=>by
    obtain ⟨d,hd,rfl⟩:=pS.1 hc;exact (hQ a (by simp)).mul (hG d hd)
   have h2:∀ c ∈ Pl.zero :: uk r G,Fit c (E+F) (D+Dg+r.length):=fun c hc=>by
    rcases pN.1 hc with rfl | hc
    · exact Fit.zero
    · exact wb5 hG r (fun d hd=>hQ d (by simp [hd])) c hc
   rcases xbu hc with ⟨x,hx,y,hy,rfl⟩ | hc | hc
   · exact ((h1 x hx).add (h2 y hy)).mono (by omega) (by rw [pH]; omega)
   · exact (h1 c hc).mono (by omega) (by omega)
   · exact (h2 c hc).mono (by omega) (by rw [pH]; omega)
theorem qcq {E D F Dg n k:Nat} {G Q:List Pl} (hG:∀ c ∈ G,Fit c F Dg) (hQ:∀ c ∈ Q,Fit c E D):∀ c ∈ vz G Q n k,Fit c (E+F) (D+Dg+Q.length):=fun c hc=>by
 unfold vz at hc;obtain ⟨j,-,rfl⟩:=pS.1 hc;have h1:=wb5 hG (Q.take k) (fun d hd=>hQ d (tl hd));exact (yae Fit.zero h1 j).mono (by omega) (by rw [pA]; omega)
def ExI (G Q:List Pl) (n r:Nat) (L:List Pl):Prop:=L.length=n+Q.length/\∀ i,i < n+r->L.getD i Pl.zero=(vz G Q n r).getD i Pl.zero
def ExJ (G Q:List Pl) (n k j:Nat) (L:List Pl):Prop:=L.length=n+Q.length/\∀ i,i < n+k->L.getD i Pl.zero=if k<=i/\i < k+j then (vz G Q n k).getD i Pl.zero else (vz G Q n (k+1)).getD i Pl.zero
theorem ExI.qbT {G Q:List Pl} {n k:Nat} {L:List Pl} (h:ExI G Q n (k+1) L):ExJ G Q n k 0 L:=⟨h.1,fun i hi=>by rw [if_neg (by omega)]; exact h.2 i (by omega)⟩
section
variable {G Q:List Pl} {n:Nat} (hG:G.length=n+1)
include hG
theorem ExI.start (hQ:Q ≠ []):ExI G Q n Q.length (uk Q G):=by
 refine ⟨by rw [yak (by intro e; rw [e] at hG; simp at hG) Q hQ,hG]; omega,fun i _=>?_⟩;rw [zci hG hQ]
theorem ybk {k i:Nat} (hk:k < Q.length) (hi:i < n+k):(vz G Q n k).getD i Pl.zero=if k<=i then ((vz G Q n (k+1)).getD i Pl.zero).sub ((Q.getD k Pl.zero).mul (G.getD (i - k) Pl.zero)) else (vz G Q n (k+1)).getD i Pl.zero:=by
 rw [<- vb4 hG hk];unfold za2;rw [po,tS,pak (by rw [hG]; omega)]
 rfl
theorem ExJ.qbU {k:Nat} {L:List Pl} (h:ExJ G Q n k n L) (hk:k < Q.length):ExI G Q n k L:=⟨h.1,fun i hi=>by
 rw [h.2 i hi]
 by_cases Ia:k<=i
 · rw [if_pos ⟨Ia,by omega⟩]
 · rw [if_neg (by omega),ybk hG hk hi,if_neg Ia]⟩
theorem ExJ.step {k j:Nat} {L:List Pl} (h:ExJ G Q n k j L) (hj:j < n) (hk:k < Q.length) {x:Pl} (hx:x=((vz G Q n (k+1)).getD (j+k) Pl.zero).sub ((Q.getD k Pl.zero).mul (G.getD j Pl.zero))):ExJ G Q n k (j+1) (L.set (j+k) x):=by
 refine ⟨by rw [pL]; exact h.1,fun i hi=>?_⟩
 by_cases oK:i=j+k
 · subst oK;rw [if_pos (by omega),ybk hG hk (by omega),if_pos (by omega),show j+k - k=j by omega,<- hx,po,SP (by rw [h.1]; omega)]
   rfl
 · rw [po,List.getElem?_set_ne (by omega),<- po,h.2 i hi]
   by_cases h2:k<=i/\i < k+j
   · rw [if_pos h2,if_pos (by omega)]
   · rw [if_neg h2,if_neg (by omega)]
end
theorem ExJ.at_ {G Q:List Pl} {n k j:Nat} {L:List Pl} (h:ExJ G Q n k j L) (hj:j < n):L.getD (j+k) Pl.zero=(vz G Q n (k+1)).getD (j+k) Pl.zero:=by
 rw [h.2 _ (by omega),if_neg (by omega)]
theorem ExI.fin {G Q:List Pl} {n:Nat} {L:List Pl} (h:ExI G Q n 0 L):L.take n=List.replicate n Pl.zero:=by
 have hl:(L.take n).length=n:=by rw [pA,h.1]; omega
 refine sT (by rw [hl,ra]) fun i h1 h2=>?_
 rw [hl] at h1;have:=h.2 i (by omega);rw [wch,po,pr (by rw [h.1]; omega)] at this;rw [tD,we];have h3:(List.replicate n Pl.zero).getD i Pl.zero=Pl.zero:=by
  rw [po,pbl,if_pos h1]; rfl
 rw [h3] at this;exact this
theorem ybe {l:Int} (hl:1<=l) (ag:l<=4) (n:Nat):joinL l (List.replicate n Pl.zero)=Pl.zero:=Pl.qv (zad _ _) Pl.qT fun ρ=>by
 rw [uz hl ag,Pl.qt]
 induction n with
 | zero=>rfl
 | succ n ih=>rw [Sn,je,ih,Pl.qt]; grind
def QuI (Q:List Pl) (r:Nat) (M:List Pl):Prop:=M.length=Q.length/\∀ i,r<=i->i < Q.length->M.getD i Pl.zero=Q.getD i Pl.zero
theorem QuI.start (Q:List Pl):QuI Q Q.length (List.replicate Q.length Pl.zero):=⟨ra,fun i h1 h2=>by omega⟩
theorem QuI.step {Q M:List Pl} {k:Nat} (h:QuI Q (k+1) M) (hk:k < Q.length):QuI Q k (M.set k (Q.getD k Pl.zero)):=by
 refine ⟨by rw [pL]; exact h.1,fun i h1 h2=>?_⟩
 by_cases oK:i=k
 · subst oK;rw [po,SP (by rw [h.1]; omega)]; rfl
 · rw [po,List.getElem?_set_ne (by omega),<- po];exact h.2 i (by omega) h2
theorem QuI.fin {Q M:List Pl} (h:QuI Q 0 M):M=Q:=by
 refine sT h.1 fun i h1 h2=>?_
 have:=h.2 i (pZ _) h2;rw [po,po,pr h1,pr h2] at this;exact this
theorem PBx.Vn {V:World} {Q:Nat->Prop} {g:Nat} {p:Pl} (h:PBx V Q g p) (x0:Int) (x1:Bool) (A0 A1:Option Addr) (n0 c0 n1 c1:Nat) :
 Frr V g ((((V.setCell ⟨g,0,none⟩ (.int .i64 x0)).setCell ⟨g,1,none⟩ (.bool x1)).setCell ⟨g,2,none⟩ (.slice A0 n0 c0)).setCell ⟨g,3,none⟩ (.slice A1 n1 c1)):=by
 obtain ⟨h0,h1,B0,m0,d0,B1,d1,⟨g0,g1,g2,g3⟩,h3⟩:=h;refine ⟨by simp [World.setCell],fun v ds hv=>?_,fun b _ hb=>gac _ _ _ _ _ _ _ hb⟩;refine (((hv.box g0 rfl _).box (u:=.bool p.neg) ?_ rfl _).box (u:=.slice B0 m0 d0) ?_ rfl _).box (u:=.slice B1 p.cs.length d1) ?_ rfl _
 · rw [ph _ _ _ _ (by simp)]; exact g1
 · rw [ph _ _ _ _ (by simp),ph _ _ _ _ (by simp)]; exact g2
 · rw [ph _ _ _ _ (by simp),ph _ _ _ _ (by simp),ph _ _ _ _ (by simp)]; exact g3
theorem Frr.Kd {V V7:World} {o g:Nat} {Q:Nat->Prop} {p:Pl} (hf:Frr V o V7) (h:PBx V Q g p) (hg:g ≠ o) (hq:∀ b,Q b->b ≠ o):PBx V7 Q g p:=by
 obtain ⟨h0,h1,B0,m0,d0,B1,d1,⟨g0,g1,g2,g3⟩,h3⟩:=h;exact ⟨px h0 hf.size,fun i=>(sP (a:=⟨g,i,none⟩) (hf.block g h0 hg)).trans (h1 i),B0,m0,d0,B1,d1,⟨(hf.cell h0 hg).trans g0,(hf.cell h0 hg).trans g1,(hf.cell h0 hg).trans g2,(hf.cell h0 hg).trans g3⟩,hf.pl h3 fun b hb=>hq b hb.1⟩
theorem xw {α:Type} {K:α->World->Prop} {a:α} {V:World} {P:World->Prop} (hp:P V) (h:∀ V7,P V7->K a V7):K a V:=h V hp
theorem PlV.xo {W:World} {q:Nat->Prop} {p:Pl} {v:Value} (h:PlV W q p v):PlV W (fun b=>q b/\b < W.heap.size) p v:=PlV.zd (pj _) (fun _ _ h=>h) (fun b hb hq=>⟨⟨hq,hb⟩,rfl⟩) h
theorem check_any {w:World} {q0 q1:Nat->Prop} {f g:Pl} {l:Int} (v0 v1:Value) (hl:1<=l) (ag:l<=4) (h0:PlV w q0 f v0) (h1:PlV w q1 g v1) (hf:f.Can) (hg:g.Can) (rC:f ≠ Pl.zero) (bI:g ≠ Pl.zero) :
 Calls Tryz.prog 157 #[v0,v1,.int .i64 l] w (qc9 0 w):=by
 have H0:=hid h0;have H1:=hid h1;obtain ⟨A0,m0,e0,B0,f0,rfl,-⟩:=h0.open_;obtain ⟨A1,m1,e1,B1,f1,rfl,-⟩:=h1.open_;obtain ⟨Eo,W,gI,jH,iT,aC,bW,hx1,aX,bF⟩:=b_2 w f g (.slice A0 m0 e0) (.slice B0 f.cs.length f0) (.slice A1 m1 e1) (.slice B1 g.cs.length f1);have HX:=hid (aC.trans hx1);have dJ:=hid aX;have dH:=hid bF;have fZ:W.heap.size=w.heap.size+1+1:=bW;clear h0 h1 aC hx1 aX bF;have qB:f.zp=false:=by
  cases e:f.zp
  · rfl
  · exact absurd ((Pl.xj hf).1 e) rC
 have OE:g.zp=false:=by
  cases e:g.zp
  · rfl
  · exact absurd ((Pl.xj hg).1 e) bI
 have kH:=hid (fun (W':World) (hx:Ext w W')=>kac _ (H0.out.ext hx) hf);have Jt:=hid (fun (W':World) (hx:Ext w W')=>kac _ (H1.out.ext hx) hg);rw [qB] at kH;rw [OE] at Jt;have Ed:¬ l < 1:=by omega
 have Fv:¬ 4 < l:=by omega
 unfold plV at kH Jt ⊢;obtain ⟨b0,b1,b2,b3⟩:=dJ.out;go_enter Tryz.func157,Tryz.ntmps157;go_wp2_with fail;clear gI jH;clear b0 b1 b2 b3;refine (kH.out _ HX.out).mono ?_;rintro e w1 ⟨rfl,x1⟩;have X1:=hid (HX.out.trans x1);obtain ⟨b0,b1,b2,b3⟩:=dH.out.ext x1 (by omega);clear x1;go_wp2_with fail;clear b0 b1 b2 b3;refine (Jt.out _ X1.out).mono ?_;rintro e w2 ⟨rfl,x2⟩;have X2:=hid (X1.out.trans x2);clear x2;go_wp2_with fail;go_ret;exact ⟨rfl,X2.out⟩
theorem xbf {w:World} {q0 q1:Nat->Prop} {f g:Pl} {l:Int} {E D Eg Dg:Nat} (v0 v1:Value) (hl:1<=l) (ag:l<=4) (h0:PlV w q0 f v0) (h1:PlV w q1 g v1) (hf:Fit f E D) (hg:Fit g Eg Dg) (bI:g ≠ Pl.zero) (hE:E+(E+1) * Eg+Eg<=62) (hD:D+(E+1) * (Dg+3)+1<=1099511627776) :
 Calls Tryz.prog 160 #[v0,v1,.int .i64 l] w (uf (fun b=>w.heap.size<=b) (ji l f g) w):=by
 have H0:=hid h0;have H1:=hid h1;obtain ⟨A0,m0,e0,B0,f0,rfl,-⟩:=h0.open_;obtain ⟨A1,m1,e1,B1,f1,rfl,-⟩:=h1.open_;obtain ⟨Eo,Wx1,W,gI,jH,rD,iT,aC,bW,hx1,jF,aN,aX,bF,hz⟩:=b_x w f g (.slice A0 m0 e0) (.slice B0 f.cs.length f0) (.slice A1 m1 e1) (.slice B1 g.cs.length f1);have HZ:=hid hz;have HX:=hid ((aC.trans hx1).trans aN);have dJ:=hid aX;have dH:=hid bF;have fZ:W.heap.size=w.heap.size+1+1+1:=jF;clear h0 h1 aC hx1 aN aX bF hz;have O4:Dg<=1099511627776:=by
  have:=pE (Dg+3) (show 1<=E+1 by omega);omega
 have HN:=hid (fun (W':World) (hx:Ext w W')=>jc1 _ (H1.out.ext hx) hg (by omega) (by omega));have CE:Fit g.yd Eg (Dg+1):=hg.yd;have Tm:g.yd ≠ Pl.zero:=fun e=>bI (by rw [<- Pl.vp hg.can,e]; exact Pl.kn)
 have HR:=hid (fun (W1 W':World) (q:Nat->Prop) (u:Value) (hx:Ext w W') (hu:PlV W' q g.yd u)=>gcq _ u hl ag (H0.out.ext hx) hu hf CE Tm hE (by omega));unfold plV at HN HR ⊢;obtain ⟨b0,b1,b2,b3⟩:=dJ.out;obtain ⟨d0,d1,d2,d3⟩:=dH.out;clear O4 CE Tm hf hg bI hE hD;go_enter Tryz.func160,Tryz.ntmps160;go_upto_region 1 with fail;clear gI jH rD;clear b0 b1 b2 b3 d0 d1 d2 d3;have aH:Hid (∀ W',Ext W W'->(Ext W W'/\(jb W' (w.heap.size) f (.slice A0 m0 e0) (.slice B0 f.cs.length f0))/\(jb W' (w.heap.size+1) g (.slice A1 m1 e1) (.slice B1 g.cs.length f1)))):=hid (fun W' hx=>⟨hx,dJ.out.ext hx (by omega),dH.out.ext hx (by omega)⟩);have y0:Ext W W.drew:=(Ext.refl W).drew;have Dn:=hid fZ;clear fZ iT bW jF;refine wp_region_held_drew (S:=fun W'=>Ext W W'/\(jb W' (w.heap.size) f (.slice A0 m0 e0) (.slice B0 f.cs.length f0))/\(jb W' (w.heap.size+1) g (.slice A1 m1 e1) (.slice B1 g.cs.length f1))) (by kernel_rfl) (aH.out _ y0) (fun hHeld=>?_);refine tk 0 ?_ (hy:=Or.inl ⟨by rfl,by intro w' aO; obtain ⟨-,⟨k0,k1,k2,k3⟩,k4,k5,k6,k7⟩:=aO; go_simp; (try (with_reducible rfl))⟩);refine tk 1 ?_ (hy:=Or.inl ⟨by rfl,by intro w' aO; obtain ⟨-,⟨k0,k1,k2,k3⟩,k4,k5,k6,k7⟩:=aO; go_simp; (try (with_reducible rfl))⟩);refine tk 3 ?_;refine r_2 2 8 (fun K hK=>?brP) fun K hK=>?brQ
 case' brP =>
  go_simp
  go_at_call 159
  refine (HN.out _ (HX.out.trans y0)).mono ?_;rintro e w1 ⟨v1,rfl,p1,x1⟩;have y1:=y0.trans x1;obtain ⟨C0,j0,k0,C1,k1,rfl,-⟩:=id p1.open_;unfold plV;refine k_t hK (aH.out _ y1) fun hHeld=>?_
  clear hK K;refine r_2 4 8 (fun K hK=>?brA) fun K hK=>?brB
  case' brA =>
   go_simp
   go_at_call 162
   refine (HR.out w _ _ _ (HX.out.trans y1) p1).mono ?_;rintro e w2 ⟨v2,rfl,p2,x2⟩;have y2:=y1.trans x2;obtain ⟨D0,j2,k2,D1,k3,rfl,-⟩:=id p2.open_;unfold plV;refine k_t hK (aH.out _ y2) fun hHeld=>?_
   clear hK K;refine tk 5 ?_;refine tk 6 ?_;refine tk 7 ?_;refine r_1 8 fun K hK=>?_
   go_simp;obtain ⟨V,hV⟩:=n_m ((w2.alloc (.cells #[.int .i64 0,.bool false,.slice none 0 0,.slice none 0 0] 33)));obtain ⟨o,ho⟩:=n_m (w2.heap.size);have kK:PBx V (fun _=>True) o Pl.zero:=by rw [<- hV,<- ho]; exact PBx.new (Pl.xt _ _ none 0 (by omega)) _
   have yE:Ext W V:=by rw [<- hV]; exact y2.alloc _
   have kR:W.heap.size<=o:=by rw [<- ho]; exact y2.size
   have pF:o < V.heap.size:=kK.1;have jU:=hid ho.symm;have mO:Ext w2 V:=by rw [<- hV]; exact (Ext.refl _).alloc _
   try rw [hV]
   try rw [ho]
   refine k_t hK (aH.out _ yE) fun hHeld=>?_
   clear hK K hV ho;have nT:PlV V (fun b=>W.heap.size<=b/\b ≠ o) (uah l f g.yd) _:=(p2.xo.ext mO).mono fun b hb=>by have:=hb.2; have:=jU.out; have:=y1.size; constructor <;> omega
  case' brB =>
   go_simp;obtain ⟨V,hV⟩:=n_m ((w1.alloc (.cells #[.int .i64 0,.bool false,.slice none 0 0,.slice none 0 0] 33)));obtain ⟨o,ho⟩:=n_m (w1.heap.size);have hz:PBx V (fun _=>True) o Pl.zero:=by rw [<- hV,<- ho]; exact PBx.new (Pl.xt _ _ none 0 (by omega)) _
   have yV:Ext W V:=by rw [<- hV]; exact y1.alloc _
   have kR:W.heap.size<=o:=by rw [<- ho]; exact y1.size
   have pF:o < V.heap.size:=hz.1;have jU:=hid ho.symm;have mO:Ext w1 V:=by rw [<- hV]; exact (Ext.refl _).alloc _
   try rw [hV]
   try rw [ho]
   refine k_t hK (aH.out _ yV) fun hHeld=>?_
   clear hK K hV ho;refine r_1 4 fun K hK=>?_
   go_simp
   go_at_call 162
   refine (HR.out w _ _ _ (HX.out.trans yV) (p1.ext mO)).mono ?_;rintro e w2 ⟨v2,rfl,p2,x2⟩;have y2:=yV.trans x2;obtain ⟨D0,j2,k2,D1,k3,rfl,-⟩:=id p2.open_;unfold plV;refine k_t hK (aH.out _ y2) fun hHeld=>?_
   clear hK K;refine tk 5 ?_;refine tk 6 ?_;refine tk 7 ?_;have yE:=y2;have kK:=hz.ext x2;have nT:PlV w2 (fun b=>W.heap.size<=b/\b ≠ o) (uah l f g.yd) _:=p2.mono fun b hb=>by have:=jU.out; have:=y1.size; have:=yV.size; have:=mO.size; constructor <;> omega
 case' brQ =>
  go_simp;obtain ⟨V,hV⟩:=n_m ((W.alloc (.cells #[.int .i64 0,.bool false,.slice none 0 0,.slice none 0 0] 33)).drew);obtain ⟨o,ho⟩:=n_m (W.heap.size);have hz:PBx V (fun _=>True) o Pl.zero:=by rw [<- hV,<- ho]; exact (PBx.new (Pl.xt _ _ none 0 (by omega)) _).ext (Ext.refl _).drew
  have yV:Ext W V:=by rw [<- hV]; exact ((Ext.refl W).alloc _).drew
  have kR:W.heap.size<=o:=by rw [<- ho]; exact (Ext.refl W).size
  have pF:o < V.heap.size:=hz.1;have jU:=hid ho.symm;have mO:Ext W V:=by rw [<- hV]; exact ((Ext.refl _).alloc _).drew
  try rw [hV]
  try rw [ho]
  refine k_t hK (aH.out _ yV) fun hHeld=>?_
  clear hK K hV ho;refine r_1 2 fun K hK=>?_
  go_simp
  go_at_call 159
  refine (HN.out _ (HX.out.trans yV)).mono ?_;rintro e w1 ⟨v1,rfl,p1,x1⟩;have y1:=yV.trans x1;obtain ⟨C0,j0,k0,C1,k1,rfl,-⟩:=id p1.open_;unfold plV;refine k_t hK (aH.out _ y1) fun hHeld=>?_
  clear hK K;refine r_1 4 fun K hK=>?_
  go_simp
  go_at_call 162
  refine (HR.out w _ _ _ (HX.out.trans y1) p1).mono ?_;rintro e w2 ⟨v2,rfl,p2,x2⟩;have y2:=y1.trans x2;obtain ⟨D0,j2,k2,D1,k3,rfl,-⟩:=id p2.open_;unfold plV;refine k_t hK (aH.out _ y2) fun hHeld=>?_
  clear hK K;refine tk 5 ?_;refine tk 6 ?_;refine tk 7 ?_;have yE:=y2;have kK:=(hz.ext x1).ext x2;have nT:PlV w2 (fun b=>W.heap.size<=b/\b ≠ o) (uah l f g.yd) _:=p2.mono fun b hb=>by have:=x1.size; have:=jU.out; have:=y1.size; constructor <;> omega
 all_goals
  obtain ⟨P,hP⟩:=n_m (uah l f g.yd);rw [hP] at nT ⊢;have Dy:=hid hP;clear hP;have kU:=kK.2.1;obtain ⟨Z0,zn,zc,Z1,vZ,⟨g0,g1,g2,g3⟩,-⟩:=kK.2.2;refine r_1 9 fun K hK=>?_
  go_simp;clear g0 g1 g2 g3 kU;refine xw (P:=fun V7=>Ext W V7/\PBx V7 (fun b=>W.heap.size<=b) o P) ⟨(((yE.setCell kR _).setCell kR _).setCell kR _).setCell kR _,kK.store nT⟩ (fun V7 mg=>?_);obtain ⟨y9,b9⟩:=mg;refine k_t hK (aH.out _ y9) fun hHeld=>?_
  clear hK K;refine tk 10 ?_;refine w_d ?_;obtain ⟨-,-,C9,n9,k9,D9,k8,⟨g0,g1,g2,g3⟩,p9⟩:=b9;have fZ:=Dn.out;have aS:=HZ.out.ext y9 (by omega);have iw:=hid (qf (q':=fun b=>w.heap.size<=b) (HX.out.trans y9) (by omega) aS p9 (fun b _ hb=>by
   have:=hb.1
   exact ⟨by omega,by omega⟩))
  obtain ⟨⟨z0,z1,z2,z3⟩,zf⟩:=aS;clear y9 p9 fZ kK nT;go_wp2_with fail;obtain ⟨v9,e9,q3,q4⟩:=iw.out;injection e9 with e9
  subst e9;exact bodyPost_ret (v:=plV P (.slice C9 n9 k9) (.slice D9 P.cs.length k8)) (by simp [results,Tryz.results160,go_sem,z0,z1,z2,z3,plV]) rfl (by unfold ji; rw [Dy.out]; exact ⟨_,rfl,q3,q4⟩)
def xdj (z:Int) (b:Bool) (w:World) (e:Ending) (w':World):Prop:=∃ x,e=.returned (.tuple #[x,.bool b])/\qm w' x z/\Ext w w'
theorem ua9 {w:World} {q:Nat->Prop} {E D:Nat} (p:Pl) (v:Value) (h:PlV w q p v) (hsz:p.sz<=1073741824) (ig:p.dm<=1099511627776) (hp:Fit p.nf E D) (hD:D<=35184372088832) :
 Calls Tryz.prog 59 #[v] w (xdj (if p.nf.lv=0 then p.nf.z else 0) (decide (p.nf.lv=0)) w):=by
 have HH:=hid h;obtain ⟨A0,n0,c0,A,c,rfl,-,-,-,-⟩:=h.open_;clear h;obtain ⟨W,hW⟩:=n_m ((w.alloc (.cells #[.int .i64 p.lv,.bool p.neg,.slice A0 n0 c0,.slice A p.cs.length c] 33)).alloc (.cells #[.bool false,.slice none 0 0] 30));have ai:Ext w W:=by rw [<- hW]; exact ((Ext.refl w).alloc _).alloc _
 have dG:W.heap.size=w.heap.size+1+1:=by rw [<- hW]; simp
 have bV:jb W w.heap.size p (.slice A0 n0 c0) (.slice A p.cs.length c):=by rw [<- hW]; exact (jb.new w p _ _ _).ext ((Ext.refl _).alloc _) (by simp)
 have bG:∀ i,W.frozen? ⟨w.heap.size,i,none⟩=false:=fun i=>by rw [<- hW]; simp [go_sem]
 have hz:(W.cell? ⟨w.heap.size+1,0,none⟩=some (.bool false)/\W.cell? ⟨w.heap.size+1,1,none⟩=some (.slice none 0 0))/\∀ i,W.frozen? ⟨w.heap.size+1,i,none⟩=false:=by
  rw [<- hW]; refine ⟨⟨?_,?_⟩,fun i=>?_⟩ <;> simp [go_sem]
 have HZ:=hid hz;have kJ:=hid bV;have qZ:=hid bG;have aG:=hid ai;have uM:=hid (gal p _ (HH.out.ext ai) hsz ig);have HNC:=hid p.xV;have HFD:=hid (py p.nf.vd hp.dm);obtain ⟨b0,b1,b2,b3⟩:=bV;clear hz bG ai hp hsz ig;generalize p.nf=P at *;unfold plV at uM;unfold plV;obtain ⟨zz,Aw⟩:=n_m ((if P.lv=0 then P.z else 0));obtain ⟨bb,CU⟩:=n_m (decide (P.lv=0));rw [Aw,CU];have Yn:=hid Aw;have YY:=hid CU;clear Aw CU;go_enter Tryz.func59,Tryz.ntmps59;go_wp2_with fail;clear hW b0 b1 b2 b3;refine uM.out.mono ?_;rintro e w1 ⟨v1,rfl,m1,x1⟩;obtain ⟨C0,j0,f0,C1,f1,rfl,-⟩:=id m1.open_;have bW:=x1.size;obtain ⟨b0,b1,b2,b3⟩:=kJ.out.ext x1 (by omega);have fr:∀ i,w1.frozen? ⟨w.heap.size,i,none⟩=false:=fun i=>(x1.frozen (p:=⟨w.heap.size,i,none⟩) (by show w.heap.size < _; omega)).trans (qZ.out i)
 obtain ⟨W1,aW⟩:=n_m (((((w1.setCell ⟨w.heap.size,0,none⟩ (.int .i64 P.lv)).setCell ⟨w.heap.size,1,none⟩ (.bool P.neg)).setCell ⟨w.heap.size,2,none⟩ (.slice C0 j0 f0)).setCell ⟨w.heap.size,3,none⟩ (.slice C1 P.cs.length f1)));have X1:Hid (Ext w W1):=hid (by rw [<- aW]; exact ((((aG.out.trans x1).setCell (pj _) _).setCell (pj _) _).setCell (pj _) _).setCell (pj _) _);have CU:jb W1 w.heap.size P (.slice C0 j0 f0) (.slice C1 P.cs.length f1):=by rw [<- aW]; exact jb.set (kJ.out.ext x1 (by omega))
 have bF:W1.heap[w.heap.size+1]?=W.heap[w.heap.size+1]?:=by
  rw [<- aW,gac _ _ _ _ _ _ _ (by omega)];exact x1.below.block _ (by omega)
 have jF:W1.heap.size=w1.heap.size:=by rw [<- aW]; simp [World.setCell]
 have Js:Hid (qo W1 (.agg #[.bool P.neg,.slice C0 j0 f0]) P.z P.ds.length):=by
  have:qo W1 (.agg #[.bool P.neg,.slice C0 j0 f0]) P.z P.ds.length:=by
   obtain ⟨A1,n1,c1,A2,c2,e,hn,-⟩:=m1.open_;unfold plV at e;simp only [tm,tF,sy,and_true,true_and] at e;rw [e.1];refine ⟨_,_,_,rfl,?_,rfl,pj _⟩;rw [<- aW];have e1:=fun (i j:Nat) (oK:i ≠ j) (X:World) (u:Value)=>ph X ⟨w.heap.size,i,none⟩ ⟨w.heap.size,j,none⟩ u (by intro e; injection e; omega)
   refine (((hn.box b0 rfl _).box (u:=.bool p.neg) ?_ rfl _).box (u:=.slice A0 n0 c0) ?_ rfl _).box (u:=.slice A p.cs.length c) ?_ rfl _
   · rw [ph _ _ _ _ (by simp)]; exact b1
   · rw [ph _ _ _ _ (by simp),ph _ _ _ _ (by simp)]; exact b2
   · rw [ph _ _ _ _ (by simp),ph _ _ _ _ (by simp),ph _ _ _ _ (by simp)]; exact b3
  exact this
 have eY:Hid (∀ W',Ext W1 W'->(W'.cell? ⟨w.heap.size+1,0,none⟩=some (.bool false)/\W'.cell? ⟨w.heap.size+1,1,none⟩=some (.slice none 0 0))/\∀ i,W'.frozen? ⟨w.heap.size+1,i,none⟩=false):=by
  have:∀ W',Ext W1 W'->(W'.cell? ⟨w.heap.size+1,0,none⟩=some (.bool false)/\W'.cell? ⟨w.heap.size+1,1,none⟩=some (.slice none 0 0))/\∀ i,W'.frozen? ⟨w.heap.size+1,i,none⟩=false:=fun W' hx=>by
   have hh:=(hx.below.block (w.heap.size+1) (by omega)).trans bF;have k1:∀ i,W'.cell? ⟨w.heap.size+1,i,none⟩=W.cell? ⟨w.heap.size+1,i,none⟩:=fun i=>pB (a:=⟨w.heap.size+1,i,none⟩) hh
   have k2:∀ i,W'.frozen? ⟨w.heap.size+1,i,none⟩=W.frozen? ⟨w.heap.size+1,i,none⟩:=fun i=>by
    rw [hx.frozen (p:=⟨w.heap.size+1,i,none⟩) (by show w.heap.size+1 < _; omega),<- aW];simp only [rm];exact x1.frozen (p:=⟨w.heap.size+1,i,none⟩) (by show w.heap.size+1 < _; omega)
   exact ⟨⟨(k1 0).trans HZ.out.1.1,(k1 1).trans HZ.out.1.2⟩,fun i=>(k2 i).trans (HZ.out.2 i)⟩
  exact this
 have Eb:=X1.out.size;unfold plV
 by_cases hl:P.lv=0
 · have dK:(P.lv != 0)=false:=by simpa using hl
   have HB:Hid (bb=true):=hid (YY.out.symm.trans (by simpa using hl));have HV:Hid (zz=P.z):=hid (Yn.out.symm.trans (if_pos hl));have Ns:=hid hl;clear hl;have Ez:=hid (wao _ P.z _ W1 Js.out (py HFD.out hD));go_upto_region 2 with fail;obtain ⟨d0,d1,d2,d3⟩:=CU;have hl:=Ns.out;clear aW b0 b1 b2 b3 fr;go_wp2_with fail;clear d0 d1 d2 d3;refine Ez.out.mono ?_;rintro e w2 ⟨z2,rfl,⟨y2,rfl,m2⟩,x2⟩;obtain ⟨C2,k2,rfl,-⟩:=id m2;obtain ⟨⟨z0,z1⟩,zf⟩:=eY.out _ x2;have nY:=yx (g:=w.heap.size+1) (z:=P.z) (u0:=.bool false) (u1:=.slice none 0 0) (X1.out.trans x2) (se _) z0 z1 rfl rfl ⟨_,rfl,m2⟩;have HF:=hid nY;have rH:=hid m2;clear m2 x2 Ez eY Js nY;go_wp2_with fail;obtain ⟨x,ex,hx1,aN⟩:=HF.out;injection ex with ex
   subst ex;exact bodyPost_ret (v:=.tuple #[.agg #[.bool (decide (P.z < 0)),.slice C2 (dg P.z.natAbs).length k2],.bool true]) (by simp [results,Tryz.results59,go_sem,z0,z1]) rfl ⟨_,by rw [HB.out],by rw [HV.out]; exact hx1,aN⟩
 · have dK:(P.lv != 0)=true:=by simpa using hl
   have HB:Hid (bb=false):=hid (YY.out.symm.trans (by simpa using hl));have HV:Hid (zz=0):=hid (Yn.out.symm.trans (if_neg hl));have Ns:=hid hl;clear hl;go_upto_region 2 with fail;obtain ⟨d0,d1,d2,d3⟩:=CU;obtain ⟨⟨z0,z1⟩,zf⟩:=eY.out _ (Ext.refl _);clear aW b0 b1 b2 b3 fr;have hl:=Ns.out;have nY:=yx (g:=w.heap.size+1) (z:=0) (u0:=.bool false) (u1:=.slice none 0 0) (b:=.bool false) (s:=.slice none 0 0) X1.out (se _) z0 z1 rfl rfl ⟨_,rfl,by rw [Tk,zo]; exact jc.nil _⟩;have HF:=hid nY;clear nY;go_wp2_with fail;obtain ⟨x,ex,hx1,aN⟩:=HF.out;injection ex with ex
   subst ex;exact bodyPost_ret (v:=.tuple #[.agg #[.bool false,.slice none 0 0],.bool false]) (by simp [results,Tryz.results59,go_sem,z0,z1]) rfl ⟨_,by rw [HB.out],by rw [HV.out]; exact hx1,aN⟩
end Go.Proofs.YtcepajijiabkmaaGreat
