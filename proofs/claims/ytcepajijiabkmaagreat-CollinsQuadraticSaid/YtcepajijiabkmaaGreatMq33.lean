/- Layer 24: pseudo.Rem. -/
import Derived.Test.YtcepajijiabkmaaGreatMq32
set_option linter.unusedSimpArgs false
set_option linter.unusedVariables false

set_option maxRecDepth 100000
set_option maxHeartbeats 8000000
namespace Go.Proofs.YtcepajijiabkmaaGreat
open Lib (hid)
open Go.RowKit
theorem uca {w0 w1 w:World} {F G:List Pl} {v u:Value} {EM DM E D Eg Dg:Nat} (Nw:Ext w0 w1) (hx1:Ext w1 w) (hF:qae w1 (fun b=>w0.heap.size<=b) v F) (hG:qae w (fun b=>w1.heap.size<=b) u G) (hG0:0 < G.length) (hFb:F.length<=1000) (hGb:G.length<=1000) (PS:∀ c ∈ F,Fit c E D) (Ul:∀ c ∈ G,Fit c Eg Dg) (hE:E+(F.length - (G.length - 1)) * Eg<=EM) (hD:D+(F.length - (G.length - 1)) * (Dg+2)<=DM) (hEM:EM<=400) (hDM:DM<=8796093000000) :
 Calls Tryz.prog 165 #[v,u] w fun e w'=>∃ v0 v',e=.returned (.tuple #[v0,v'])/\qae w' (fun b=>w0.heap.size<=b) v' (zu G (F.length - (G.length - 1)) F)/\Ext w0 w':=by
 obtain ⟨A,cf,rfl,bZ,dw,FY⟩:=hF;obtain ⟨B,cg,rfl,dO,nR,UI⟩:=hG;obtain ⟨n,hn⟩:∃ n,G.length=n+1:=⟨G.length - 1,by omega⟩;rw [hn,Nat.add_sub_cancel] at hE hD ⊢
 by_cases hK:F.length<=n
 · rw [show F.length - n=0 by omega,ga8];refine (yb1 hK bZ dw (by omega) nR (by omega)).mono ?_;rintro e w' ⟨v0,rfl,x⟩;exact ⟨v0,_,rfl,⟨A,cf,rfl,bZ,dw,fun au=>by
    obtain ⟨R,e,h1,h2⟩:=FY au
    exact ⟨R,e,h1,h2.ext (hx1.trans x)⟩⟩,(Nw.trans hx1).trans x⟩
 · obtain ⟨R,rfl,hR,ae⟩:=FY (by intro e; rw [e] at hK; simp at hK);obtain ⟨Rg,rfl,hRg,Oa⟩:=UI (by intro e; rw [e] at hn; simp at hn);have Uz:=ae.1;have:=gca (n:=n) (K:=F.length - n) (cf:=cf) (cg:=cg) (Nw.trans hx1) hR (by omega) (ae.ext hx1) (Oa.mono fun b hb=>by omega) hn (by omega) (by omega) bZ dw (by omega) nR (by omega) PS Ul hE hD hEM hDM;rw [hn] at this;refine this.mono ?_;rintro e w' ⟨v0,c',rfl,h1,h2,h3,h4⟩;exact ⟨v0,_,rfl,⟨_,c',rfl,h1,h2,fun _=>⟨R,rfl,hR,h3⟩⟩,h4⟩
theorem gax {w:World} {qa:Nat->Prop} {p:Pl} {A0 A1:Option Addr} {n0 c0 c1:Nat} (hp:PlV w qa p (plV p (.slice A0 n0 c0) (.slice A1 p.cs.length c1))) (T:TypeId) :
 jd (w.alloc (.cells #[.int .i64 p.lv,.bool p.neg,.slice A0 n0 c0,.slice A1 p.cs.length c1] T)) (fun _=>True) [p] (some ⟨w.heap.size,0,none⟩) 0:=by
 refine ⟨⟨⟨w.heap.size,0,none⟩,_,_,rfl,by simp,trivial,?_,(hp.ext ((Ext.refl w).alloc _)).mono fun _ _=>trivial⟩,trivial⟩;refine ⟨?_,?_,?_,?_⟩ <;> simp [go_sem,uq]
theorem qae.pls {W:World} {q:Nat->Prop} {A:Option Addr} {n c:Nat} {L:List Pl} (h:qae W q (.slice A n c) L):jd W q L A 0:=by
 obtain ⟨B,d,e,h1,h2,h3⟩:=h;injection e with e1 e2 e3
 subst e1
 by_cases hL:L=[]
 · rw [hL]; unfold jd; trivial
 · obtain ⟨R,rfl,hR,hr⟩:=h3 hL;exact hr.fin hR
def vc8 (q:Nat->Prop) (p:Pl) (n:Int) (w:World) (e:Ending) (w':World):Prop:=∃ v,e=.returned (.tuple #[v,.int .i64 n])/\PlV w' q p v/\Ext w w'
theorem gci {w:World} {q0 q1:Nat->Prop} {f g:Pl} {l:Int} {E D Eg Dg:Nat} (v0 v1:Value) (hl:1<=l) (aj:l<=4) (h0:PlV w q0 f v0) (h1:PlV w q1 g v1) (hf:Fit f E D) (hg:Fit g Eg Dg) (iy:g ≠ Pl.zero) (hE:E+(E+1) * Eg+Eg<=62) (hD:D+(E+1) * (Dg+2)+1<=1099511627776) :
 Calls Tryz.prog 162 #[v0,v1,.int .i64 l] w (vc8 (fun b=>w.heap.size<=b) (wae l f g) 0 w):=by
 have H0:=hid h0;have H1:=hid h1;have HF:=hid hf;have HG:=hid hg;obtain ⟨A0,n0,c0,A1,c1,rfl,-⟩:=h0.open_;obtain ⟨B0,m0,d0,B1,d1,rfl,-⟩:=h1.open_;obtain ⟨Wa,Wb,W,hWa,hWb,hW,hsa,iM,hsb,Hq,jS,mr,bU,cO,hz⟩:=b_x w f g (.slice A0 n0 c0) (.slice A1 f.cs.length c1) (.slice B0 m0 d0) (.slice B1 g.cs.length d1);have HX:=hid ((iM.trans Hq).trans mr);have fO:=hid bU;have fM:=hid cO;have HZ:=hid hz;have HG0:=hid iy;unfold plV;clear h0 h1 hf hg iM Hq mr bU cO hz iy;have hl5:¬ l < 1:=by omega
 have hl6:¬ 4 < l:=by omega
 go_enter Tryz.func162,Tryz.ntmps162;go_upto_region 3 with fail;obtain ⟨b0,b1,b2,b3⟩:=fM.out;clear hWa hWb hW;go_wp2_with fail;have FB:=vca (c:=1) (gax (H1.out.ext HX.out) 33) (fun p hp=>by rw [List.mem_singleton.1 hp]; exact HG.out.can) (by simp);rw [jS] at FB;have Uj:g.isZ=false:=by
  cases e:g.isZ
  · rfl
  · exact absurd ((Pl.zero_isZ HG.out.can).1 e) HG0.out
 simp only [List.any_cons,List.any_nil,Uj,Bool.or_false,Bool.false_eq_true,if_false,List.length_singleton] at FB;refine FB.mono ?_;rintro e w1 ⟨rfl,x1⟩;have X1:Hid (Ext W w1):=hid (((Ext.refl W).alloc _).trans x1);have hF0:=HF.out;have hG0:=HG.out;have hlen:=jaa (l:=l) HF.out.can HF.out.ex;have nM:=jaa (l:=l) HG.out.can HG.out.ex;have Xz:=List.length_pos_iff.2 (jby hl aj HG.out.can HG0.out);have YY:Eg<=62:=by omega
 have LU:E<=62:=by omega
 have UN:Dg<=1099511627776:=by
  have:=Nat.mul_le_mul_right (Dg+2) (show 1<=E+1 by omega);omega
 have Ez:=hid (fun (W':World) (hx:Ext W W')=>uai _ hl aj HF.out (by omega) (by omega) (H0.out.ext (HX.out.trans hx)));have Ey:=hid (fun (W':World) (hx:Ext W W')=>uai _ hl aj HG.out (by omega) (by omega) (H1.out.ext (HX.out.trans hx)));have hK:(f.cfL l).length - ((g.cfL l).length - 1)<=E+1:=by omega
 have hKE:=Nat.mul_le_mul_right Eg hK;have hKD:=Nat.mul_le_mul_right (Dg+2) hK;have JM:=hid (fun (Wd W4 W5:World) (v u:Value) (x:Ext Wd W4) (y:Ext W4 W5) (hF:qae W4 (fun b=>Wd.heap.size<=b) v (f.cfL l)) (hG:qae W5 (fun b=>W4.heap.size<=b) u (g.cfL l))=>uca (EM:=400) (DM:=8796093000000) x y hF hG Xz (by omega) (by omega) (Pl.cfL_fit HF.out) (Pl.cfL_fit HG.out) (by omega) (by omega) (by omega) (by omega));have RN:=hid (ub5 hl aj (n:=4) aj (by omega) HF.out HG.out HF.out.can.lv_nonneg.2 HG.out.can.lv_nonneg.2 (by have:B32=4294967296:=rfl; omega)).1;have MQ:=hid (fun c hc=>(wau (l:=l) (n:=4) (by omega) (by omega) (yaz hl aj HG.out HG.out.can.lv_nonneg.2) ((f.cfL l).length - ((g.cfL l).length - 1)) _ _ _ (yaz hl aj HF.out HF.out.can.lv_nonneg.2) c hc).fit);have xX:=hid (gbi f g Xz);have HRP:Hid (wae l f g=joinL l (zu (g.cfL l) ((f.cfL l).length - ((g.cfL l).length - 1)) (f.cfL l))):=hid (by unfold wae; rw [if_pos ⟨hl,aj⟩,Uj]; rfl);have aN:Hid (∀ W',Ext W W'->(Ext W W'/\(jc W' (w.heap.size) f (.slice A0 n0 c0) (.slice A1 f.cs.length c1))/\(jc W' (w.heap.size+1) g (.slice B0 m0 d0) (.slice B1 g.cs.length d1)))):=hid fun W' hx=>⟨hx,fO.out.ext hx (by omega),fM.out.ext hx (by omega)⟩
 unfold plV at Ez Ey;have hd:=X1.out.drew;have Y0:=hid hd;obtain ⟨RA,hRA⟩:=n_m (zu (g.cfL l) ((f.cfL l).length - ((g.cfL l).length - 1)) (f.cfL l));have J6:=MQ.out;have RJ:=xX.out;have Eh:=HRP.out;rw [hRA] at J6 RJ Eh JM;have Vm:Hid (∀ (W':World) (q:Nat->Prop) (A':Option Addr) (c':Nat),qae W' q (.slice A' RA.length c') RA->Calls Tryz.prog 13 #[.slice A' RA.length c',.int .i64 l] W' (zg (fun b=>W'.heap.size<=b) (wae l f g) W')):=hid (by
  intro W' q A' c' ae;have IX:∀ c ∈ RA,Fit c (E+(E+1) * Eg) (D+(E+1) * (Dg+2)):=fun c hc=>(J6 c hc).mono (by omega) (by omega)
  have hEE:=Nat.mul_le_mul_right Eg (show 1<=E+1 by omega);rw [Eh];have h2:=ae.pls;obtain ⟨B,d,e,k1,k2,-⟩:=ae;injection e with e1 e2 e3
  subst e1 e3;refine kav hl aj h2 k1 k2 (za7 IX (by omega) (by omega)) (by have:=ka0 IX; omega) ?_;rw [<- Eh]
  exact RN.out.copy_ (by omega))
 clear FB x1 b0 b1 b2 b3 hd hK hKE hKD hF0 hG0 MQ xX HRP J6 RJ Eh hRA hlen nM Xz hE hD;go_upto_region 6 with fail;refine wp_region_held_drew (S:=fun W'=>Ext W W'/\(jc W' (w.heap.size) f (.slice A0 n0 c0) (.slice A1 f.cs.length c1))/\(jc W' (w.heap.size+1) g (.slice B0 m0 d0) (.slice B1 g.cs.length d1))) (by kernel_rfl) (aN.out _ Y0.out) (fun hHeld=>?_);refine tk 0 ?_ (hy:=Or.inl ⟨by rfl,by intro w' aZ; obtain ⟨-,⟨k1,k2,k3,k4⟩,k5,k6,k7,k8⟩:=aZ; go_simp; (try (with_reducible rfl))⟩);refine tk 1 ?_;refine tk 3 ?_ (hy:=Or.inl ⟨by rfl,by intro w' aZ; obtain ⟨-,⟨k1,k2,k3,k4⟩,k5,k6,k7,k8⟩:=aZ; go_simp; (try (with_reducible rfl))⟩);refine tk 4 ?_;refine r_1 2 fun K hK=>?_
 go_simp
 go_at_call 137
 refine (Ez.out _ Y0.out).mono ?_;rintro e w4 ⟨v4,rfl,row4,y4⟩;have z1:Ext W w4:=Y0.out.trans y4;refine k_t hK (aN.out _ z1) fun hHeld=>?_
 clear hK K;refine r_1 5 fun K hK=>?_
 go_simp
 go_at_call 137
 refine (Ey.out _ z1).mono ?_;rintro e w5 ⟨v5,rfl,iL,y5⟩;have z2:Ext W w5:=z1.trans y5;refine k_t hK (aN.out _ z2) fun hHeld=>?_
 clear hK K;refine r_1 6 fun K hK=>?_
 go_simp
 go_at_call 165
 refine (JM.out _ _ _ _ _ y4 y5 row4 iL).mono ?_;rintro e w6 ⟨v6,v7,rfl,Ha,y6⟩;have z3:Ext W w6:=Y0.out.trans y6;refine k_t hK (aN.out _ z3) fun hHeld=>?_
 clear hK K;refine tk 7 ?_;refine tk 8 ?_;refine tk 9 ?_;refine tk 10 ?_;refine tk 11 ?_;refine w_d ?_;obtain ⟨A',c',rfl,k1,k2,k3⟩:=id Ha;have HJ:=hid (Vm.out _ _ _ _ Ha);have Z3:=hid (HX.out.trans z3);have Cj:=hid (HZ.out.ext z3 (by omega));have EK:w.heap.size+1+1 < w6.heap.size:=by have:=z3.size; omega
 obtain ⟨X,hX⟩:=n_m (wae l f g);rw [hX] at HJ;have o7:=hid hX;clear hX hHeld k3 row4 iL Ha y4 y5 y6 Ez Ey JM Vm z1 z2 z3 aN RN;go_wp2_with fail;refine HJ.out.mono ?_;rintro e w7 ⟨v8,rfl,m2,x2⟩;obtain ⟨D0,gX,gZ,D1,gY,rfl,-⟩:=id m2.open_;have aX:=Cj.out.ext x2 EK;have lg:=hid (jg (q':=fun b=>w.heap.size<=b) (Z3.out.trans x2) (by omega) aX m2 (fun b _ hb=>⟨by omega,by omega⟩));obtain ⟨⟨z0,z1,z2,z3⟩,zf⟩:=aX;clear m2 x2 HJ;unfold plV;go_wp2_with fail;obtain ⟨v9,e9,k3,k4⟩:=lg.out;injection e9 with e9
 subst e9;exact bodyPost_ret (v:=.tuple #[plV X (.slice D0 gX gZ) (.slice D1 X.cs.length gY),.int .i64 0]) (by simp [results,Tryz.results162,go_sem,z0,z1,z2,z3,plV]) rfl (by rw [o7.out]; exact ⟨_,rfl,k3,k4⟩)
def kz (l : Int) : Nat -> Pl -> List Pl
 | 0,_=>[]
 | n+1,r=>if 0 < mdg l r then r :: (if (wu l r).lv=0 then [] else kz l n (kag l r)) else []
def xad (l : Int) : Nat -> Pl -> Bool
 | 0,_=>false
 | n+1,r=>if 0 < mdg l r then (if (wu l r).lv=0 then true else xad l n (kag l r)) else false
def uk (l:Int) (f:Pl):List Pl:=kz l (mdg l f).toNat f
def uaf (l:Int) (f:Pl):Bool:=xad l (mdg l f).toNat f
theorem vaw {l:Int} {n:Nat} {r:Pl} (h:¬ 0 < mdg l r):kz l n r=[]:=by cases n <;> simp [kz,h]
theorem ua8 {l:Int} {n:Nat} {r:Pl} (h:¬ 0 < mdg l r):xad l n r=false:=by cases n <;> simp [xad,h]
theorem vaj {l:Int} {n:Nat} {r:Pl} (h:0 < mdg l r):kz l (n+1) r=r :: (if (wu l r).lv=0 then [] else kz l n (kag l r)):=by rw [kz,if_pos h]
theorem yap {l:Int} {n:Nat} {r:Pl} (h:0 < mdg l r):xad l (n+1) r=if (wu l r).lv=0 then true else xad l n (kag l r):=by rw [xad,if_pos h]
theorem xcr {l:Int} (hl:1<=l) (aj:l<=4) {r:Pl} (h:r.Can) (h0:0 < mdg l r):mdg l (kag l r) < mdg l r:=by
 have:=vbm (l:=l) hl aj (cs:=(r.cfL l).dropLast) (fun c hc=>jao h c (List.dropLast_subset _ hc)) (fun c hc=>kac hl aj h c (List.dropLast_subset _ hc));rw [List.length_dropLast] at this;unfold kag;unfold mdg at h0 ⊢;unfold mdg at this;omega
theorem qbf {l : Int} {P : Nat -> Pl -> Prop} (hs : ∀ n r, P (n + 1) r -> 0 < mdg l r -> (wu l r).lv ≠ 0 -> P n (kag l r)) : ∀ (n : Nat) (r : Pl), P n r -> ∀ c ∈ kz l n r, ∃ m, m < n /\ P (m + 1) c /\ 0 < mdg l c
 | 0,_,_,_,hc=>by simp [kz] at hc
 | n+1,r,h,c,hc=>by
   by_cases h0:0 < mdg l r
   · rw [vaj h0,List.mem_cons] at hc;rcases hc with rfl | hc
     · exact ⟨n,by omega,h,h0⟩
     · by_cases h1:(wu l r).lv=0
       · rw [if_pos h1] at hc; cases hc
       · rw [if_neg h1] at hc;obtain ⟨m,h2,h3,h4⟩:=qbf hs n _ (hs n r h h0 h1) c hc;exact ⟨m,by omega,h3,h4⟩
   · rw [vaw h0] at hc; cases hc
theorem xbf {l:Int} {f:Pl} {E D n:Nat} (h:Fit f E D) (hE:E < B32):∀ c ∈ kz l n f,Fit c E (D+n)/\0 < mdg l c:=fun c hc=>by
 obtain ⟨m,hm,hf,h0⟩:=qbf (P:=fun k r=>k<=n/\Fit r E (D+(n - k))) (fun k r ⟨h1,h2⟩ _ _=>⟨by omega,(gbb h2 hE).mono (Nat.le_refl _) (by omega)⟩) n f ⟨Nat.le_refl _,h.mono (Nat.le_refl _) (by omega)⟩ c hc;exact ⟨hf.2.mono (Nat.le_refl _) (by omega),h0⟩
theorem gaq {l : Int} : ∀ (n : Nat) (r : Pl), (kz l n r).length <= n
 | 0,_=>by simp [kz]
 | n+1,r=>by
   rw [kz]
   split
   · rw [List.length_cons]
     split
     · simp
     · have:=gaq (l:=l) n (kag l r); omega
   · simp
theorem Pl.var_val' (ρ:Int->Rat) {n:Int} (h1:1<=n) (h4:n<=4):(Pl.var n).val ρ=ρ n:=by
 rw [Pl.var,if_pos ⟨h1,h4⟩,Pl.val,if_neg (by omega)];simp only [qf,Pl.zero_val,Pl.const_val]
 grind
theorem Pl.opp_zero:Pl.zero.opp=Pl.zero:=Pl.val_uniq (Pl.opp_can _) Pl.zero_can fun ρ=>by rw [Pl.opp_val,Pl.zero_val]; grind
def ul (l:Int) (f g:Pl):Pl:=wae l f g.opp
def zc8 (l:Int) (f g:Pl):Pl:=
 ((ji l 0 (ul l f g)).mul (ji l 0 (ul l f g))).sub ((ji l 1 (ul l f g)).mul (((ji l 1 f).mul (ji l 0 g)).sub ((ji l 0 f).mul (ji l 1 g))))
def jy (l:Int) (f g:Pl):List Pl:=
 if mdg l f<=0\/mdg l g<=0 then [] else if mdg l g=1 then [ji l 0 (ul l f g)] else if mdg l f=1 then [ji l 0 (ul l g f)] else [zc8 l f g,ji l 1 (ul l f g)]
theorem yah (l:Int) (f g:Pl):(ul l f g).Can:=ycr _ _ _
theorem jbj {l:Int} (hl:1<=l) (aj:l<=4) {g:Pl} (hg:g.Can):g.opp.cfL l=(g.cfL l).map Pl.opp:=by
 refine (Pl.cfL_coefs hl aj (Pl.opp_can g)).uniq ⟨fun c hc=>?_,fun c hc=>?_,fun ρ=>?_,?_⟩
 · obtain ⟨d,-,rfl⟩:=List.mem_map.1 hc; exact Pl.opp_can d
 · obtain ⟨d,hd,rfl⟩:=List.mem_map.1 hc; exact (kac hl aj hg d hd).opp
 · have h1:=(Pl.cfL_coefs hl aj hg).val ρ;have h2:∀ L:List Pl,qf ρ l (L.map Pl.opp)=-qf ρ l L:=by
    intro L
    induction L with
    | nil=>simp [qf]
    | cons c r ih=>simp only [List.map_cons,qf,ih,Pl.opp_val]; grind
   rw [h2,h1,Pl.opp_val]
 · intro h;rw [List.getLast?_map] at h;cases hL:(g.cfL l).getLast? with
   | none=>rw [hL] at h; cases h
   | some c =>
     rw [hL] at h;injection h with h
     have hc:c=Pl.zero:=by rw [<- Pl.opp_opp (jao hg c (List.mem_of_getLast? hL)),h,Pl.opp_zero]
     exact (Pl.cfL_coefs hl aj hg).last (by rw [hL,hc])
theorem vb6 {l:Int} (hl:1<=l) (aj:l<=4) {g:Pl} (hg:g.Can):mdg l g.opp=mdg l g:=by
 unfold mdg; rw [jbj hl aj hg,List.length_map]
theorem gbq {l:Int} (hl:1<=l) (aj:l<=4) {f g:Pl} (hf:f.Can) (hg:g.Can) (iy:g ≠ Pl.zero):mdg l (ul l f g) < mdg l g:=by
 have h1:g.opp ≠ Pl.zero:=fun e=>iy (by rw [<- Pl.opp_opp hg,e]; exact Pl.opp_zero)
 have:=zcr hl aj hf (Pl.opp_can g) h1;rw [vb6 hl aj hg] at this;exact this
theorem kat {l:Int} {p:Pl} (h:0<=mdg l p):p ≠ Pl.zero:=fun e=>by
 rw [e] at h;unfold mdg at h;rw [Pl.cfL_zero] at h;simp at h
theorem gaz {l:Int} (hl:1<=l) (aj:l<=4) {f g:Pl} {E D F G:Nat} (hf:Fit f E D) (hg:Fit g F G) (hF:F < B32):Fit (ul l f g) (E+(E+1) * F+F) (D+(E+1) * (G+3)+1):=
 (ub5 hl aj (n:=4) aj (by omega) hf hg.opp hf.can.lv_nonneg.2 (Pl.opp_can g).lv_nonneg.2 hF).1
theorem wa5 {l i:Int} {p:Pl} (h:p.Can):(ji l i p).Can:=by
 unfold ji
 split
 · exact Pl.zero_can
 · exact kbw (jao h) _
theorem wcd {l:Int} (hl:1<=l) (aj:l<=4) {p:Pl} (h:p.Can) (h0:mdg l p<=0):ji l 0 p=p:=by
 unfold ji;rw [if_neg (by omega)];refine Pl.val_uniq (kbw (jao h) _) h fun ρ=>?_
 have hv:=(Pl.cfL_coefs hl aj h).val ρ;have hlen:(p.cfL l).length<=1:=by unfold mdg at h0; omega
 rcases hL:p.cfL l with _ | ⟨c,_ | ⟨d,r⟩⟩
 · rw [hL] at hv; simp only [qf] at hv; rw [<- hv]; simp [Pl.zero_val]
 · rw [hL] at hv; simp only [qf] at hv; rw [<- hv]; simp only [Int.toNat_zero,List.getD_cons_zero]; grind
 · rw [hL] at hlen; simp at hlen
section
variable {G Q:List Pl} {n k:Nat} (hG:G.length=n+1) (hk:k < Q.length)
include hG hk
end
theorem jc3 {l:Int} (hl:1<=l) (aj:l<=4) {p:Pl} (h:p.Can) (hp:p ≠ Pl.zero) (e:p.lv < l):p.cfL l=[p]:=(Pl.cfL_coefs hl aj h).uniq (qba h hp (kah h e))
section
variable {G Q:List Pl} {n:Nat} (hG:G.length=n+1)
include hG
end
end Go.Proofs.YtcepajijiabkmaaGreat
