/- Layer 24: pseudo.Rem. -/
import Derived.Test.YtcepajijiabkmaaGreatMp32
set_option linter.unusedSimpArgs false
set_option linter.unusedVariables false

set_option maxRecDepth 100000
set_option maxHeartbeats 8000000
namespace Go.Proofs.YtcepajijiabkmaaGreat
open Lib (hid)
open Go.RowKit
theorem kcd {w0 w1 w:World} {F G:List Pl} {v u:Value} {EM DM E D Eg Dg:Nat} (Qo:Ext w0 w1) (hx1:Ext w1 w) (hF:jaf w1 (fun b=>w0.heap.size<=b) v F) (hG:jaf w (fun b=>w1.heap.size<=b) u G) (hG0:0 < G.length) (hFb:F.length<=1000) (hGb:G.length<=1000) (TI:∀ c ∈ F,Fit c E D) (Ii:∀ c ∈ G,Fit c Eg Dg) (hE:E+(F.length - (G.length - 1)) * Eg<=EM) (hD:D+(F.length - (G.length - 1)) * (Dg+2)<=DM) (hEM:EM<=400) (hDM:DM<=8796093000000) :
 Calls Tryz.prog 165 #[v,u] w fun e w'=>∃ v0 v',e=.returned (.tuple #[v0,v'])/\jaf w' (fun b=>w0.heap.size<=b) v' (jq G (F.length - (G.length - 1)) F)/\Ext w0 w':=by
 obtain ⟨A,cf,rfl,bZ,dO,hF2⟩:=hF;obtain ⟨B,cg,rfl,eH,uF,IJ⟩:=hG;obtain ⟨n,hn⟩:∃ n,G.length=n+1:=⟨G.length - 1,by omega⟩;rw [hn,ur] at hE hD ⊢
 by_cases hK:F.length<=n
 · rw [show F.length - n=0 by omega,uba];refine (vb4 hK bZ dO (by omega) uF (by omega)).mono ?_;rintro e w' ⟨v0,rfl,x⟩;exact ⟨v0,_,rfl,⟨A,cf,rfl,bZ,dO,fun ax=>by
    obtain ⟨R,e,h1,h2⟩:=hF2 ax
    exact ⟨R,e,h1,h2.ext (hx1.trans x)⟩⟩,(Qo.trans hx1).trans x⟩
 · obtain ⟨R,rfl,hR,ae⟩:=hF2 (by intro e; rw [e] at hK; simp at hK);obtain ⟨Rg,rfl,hRg,QM⟩:=IJ (by intro e; rw [e] at hn; simp at hn);have hR1:=ae.1;have:=vcd (n:=n) (K:=F.length - n) (cf:=cf) (cg:=cg) (Qo.trans hx1) hR (by omega) (ae.ext hx1) (QM.mono fun b hb=>by omega) hn (by omega) (by omega) bZ dO (by omega) uF (by omega) TI Ii hE hD hEM hDM;rw [hn] at this;refine this.mono ?_;rintro e w' ⟨v0,c',rfl,h1,h2,h3,h4⟩;exact ⟨v0,_,rfl,⟨_,c',rfl,h1,h2,fun _=>⟨R,rfl,hR,h3⟩⟩,h4⟩
theorem kbl {w:World} {qa:Nat->Prop} {p:Pl} {A0 A1:Option Addr} {n0 c0 c1:Nat} (hp:PlV w qa p (plV p (.slice A0 n0 c0) (.slice A1 p.cs.length c1))) (T:TypeId) :
 jd (w.alloc (.cells #[.int .i64 p.lv,.bool p.neg,.slice A0 n0 c0,.slice A1 p.cs.length c1] T)) (fun _=>True) [p] (some ⟨w.heap.size,0,none⟩) 0:=by
 refine ⟨⟨⟨w.heap.size,0,none⟩,_,_,rfl,by simp,trivial,?_,(hp.ext ((Ext.refl w).alloc _)).mono fun _ _=>trivial⟩,trivial⟩;refine ⟨?_,?_,?_,?_⟩ <;> simp [go_sem,zu]
theorem jaf.qbI {W:World} {q:Nat->Prop} {A:Option Addr} {n c:Nat} {L:List Pl} (h:jaf W q (.slice A n c) L):jd W q L A 0:=by
 obtain ⟨B,d,e,h1,h2,h3⟩:=h;injection e with e1 e2 e3
 subst e1
 by_cases hL:L=[]
 · rw [hL]; unfold jd; trivial
 · obtain ⟨R,rfl,hR,hr⟩:=h3 hL;exact hr.fin hR
def vc3 (q:Nat->Prop) (p:Pl) (n:Int) (w:World) (e:Ending) (w':World):Prop:=∃ v,e=.returned (.tuple #[v,.int .i64 n])/\PlV w' q p v/\Ext w w'
theorem gcl {w:World} {q0 q1:Nat->Prop} {f g:Pl} {l:Int} {E D Eg Dg:Nat} (v0 v1:Value) (hl:1<=l) (ag:l<=4) (h0:PlV w q0 f v0) (h1:PlV w q1 g v1) (hf:Fit f E D) (hg:Fit g Eg Dg) (bI:g ≠ Pl.zero) (hE:E+(E+1) * Eg+Eg<=62) (hD:D+(E+1) * (Dg+2)+1<=1099511627776) :
 Calls Tryz.prog 162 #[v0,v1,.int .i64 l] w (vc3 (fun b=>w.heap.size<=b) (qag l f g) 0 w):=by
 have H0:=hid h0;have H1:=hid h1;have HF:=hid hf;have HG:=hid hg;obtain ⟨A0,n0,c0,A1,c1,rfl,-⟩:=h0.open_;obtain ⟨B0,m0,d0,B1,d1,rfl,-⟩:=h1.open_;obtain ⟨Wa,Wb,W,vT,zI,hW,Oe,eU,JM,nO,fO,iR,aX,bF,hz⟩:=b_x w f g (.slice A0 n0 c0) (.slice A1 f.cs.length c1) (.slice B0 m0 d0) (.slice B1 g.cs.length d1);have HX:=hid ((eU.trans nO).trans iR);have dJ:=hid aX;have dH:=hid bF;have HZ:=hid hz;have HG0:=hid bI;unfold plV;clear h0 h1 hf hg eU nO iR aX bF hz bI;have D8:¬ l < 1:=by omega
 have Fg:¬ 4 < l:=by omega
 go_enter Tryz.func162,Tryz.ntmps162;go_upto_region 3 with fail;obtain ⟨b0,b1,b2,b3⟩:=dH.out;clear vT zI hW;go_wp2_with fail;have qA:=ybh (c:=1) (kbl (H1.out.ext HX.out) 33) (fun p hp=>by rw [pD.1 hp]; exact HG.out.can) (by simp);rw [fO] at qA;have Oz:g.zp=false:=by
  cases e:g.zp
  · rfl
  · exact absurd ((Pl.xj HG.out.can).1 e) HG0.out
 simp only [List.any_cons,List.any_nil,Oz,Bool.or_false,Pu,if_false,Pt] at qA;refine qA.mono ?_;rintro e w1 ⟨rfl,x1⟩;have X1:Hid (Ext W w1):=hid (((Ext.refl W).alloc _).trans x1);have XW:=HF.out;have hG0:=HG.out;have hlen:=uu (l:=l) HF.out.can HF.out.ex;have lK:=uu (l:=l) HG.out.can HG.out.ex;have Fp:=rA.2 (vae hl ag HG.out.can HG0.out);have hEg:Eg<=62:=by omega
 have OY:E<=62:=by omega
 have OZ:Dg<=1099511627776:=by
  have:=pE (Dg+2) (show 1<=E+1 by omega);omega
 have Gs:=hid (fun (W':World) (hx:Ext W W')=>uaj _ hl ag HF.out (by omega) (by omega) (H0.out.ext (HX.out.trans hx)));have Gq:=hid (fun (W':World) (hx:Ext W W')=>uaj _ hl ag HG.out (by omega) (by omega) (H1.out.ext (HX.out.trans hx)));have hK:(f.xi l).length - ((g.xi l).length - 1)<=E+1:=by omega
 have hKE:=pE Eg hK;have hKD:=pE (Dg+2) hK;have MW:=hid (fun (Wd W4 W5:World) (v u:Value) (x:Ext Wd W4) (y:Ext W4 W5) (hF:jaf W4 (fun b=>Wd.heap.size<=b) v (f.xi l)) (hG:jaf W5 (fun b=>W4.heap.size<=b) u (g.xi l))=>kcd (EM:=400) (DM:=8796093000000) x y hF hG Fp (by omega) (by omega) (Pl.zP HF.out) (Pl.zP HG.out) (by omega) (by omega) (by omega) (by omega));have VC:=hid (wb8 hl ag (n:=4) ag (by omega) HF.out HG.out HF.out.can.qq.2 HG.out.can.qq.2 (by have:B32=4294967296:=rfl; omega)).1;have Jo:=hid (fun c hc=>(gaw (l:=l) (n:=4) (by omega) (by omega) (wa0 hl ag HG.out HG.out.can.qq.2) ((f.xi l).length - ((g.xi l).length - 1)) _ _ _ (wa0 hl ag HF.out HF.out.can.qq.2) c hc).fit);have Jb:=hid (xbl f g Fp);have HRP:Hid (qag l f g=joinL l (jq (g.xi l) ((f.xi l).length - ((g.xi l).length - 1)) (f.xi l))):=hid (by unfold qag; rw [if_pos ⟨hl,ag⟩,Oz]; rfl);have aH:Hid (∀ W',Ext W W'->(Ext W W'/\(jb W' (w.heap.size) f (.slice A0 n0 c0) (.slice A1 f.cs.length c1))/\(jb W' (w.heap.size+1) g (.slice B0 m0 d0) (.slice B1 g.cs.length d1)))):=hid fun W' hx=>⟨hx,dJ.out.ext hx (by omega),dH.out.ext hx (by omega)⟩
 unfold plV at Gs Gq;have hd:=X1.out.drew;have Y0:=hid hd;obtain ⟨RA,hRA⟩:=n_m (jq (g.xi l) ((f.xi l).length - ((g.xi l).length - 1)) (f.xi l));have Nw:=Jo.out;have VA:=Jb.out;have F7:=HRP.out;rw [hRA] at Nw VA F7 MW;have YJ:Hid (∀ (W':World) (q:Nat->Prop) (A':Option Addr) (c':Nat),jaf W' q (.slice A' RA.length c') RA->Calls Tryz.prog 13 #[.slice A' RA.length c',.int .i64 l] W' (uf (fun b=>W'.heap.size<=b) (qag l f g) W')):=hid (by
  intro W' q A' c' ae;have KR:∀ c ∈ RA,Fit c (E+(E+1) * Eg) (D+(E+1) * (Dg+2)):=fun c hc=>(Nw c hc).mono (by omega) (by omega)
  have hEE:=pE Eg (show 1<=E+1 by omega);rw [F7];have h2:=ae.qbI;obtain ⟨B,d,e,k1,k2,-⟩:=ae;injection e with e1 e2 e3
  subst e1 e3;refine wal hl ag h2 k1 k2 (xau KR (by omega) (by omega)) (by have:=qap KR; omega) ?_;rw [<- F7]
  exact VC.out.copy_ (by omega))
 clear qA x1 b0 b1 b2 b3 hd hK hKE hKD XW hG0 Jo Jb HRP Nw VA F7 hRA hlen lK Fp hE hD;go_upto_region 6 with fail;refine wp_region_held_drew (S:=fun W'=>Ext W W'/\(jb W' (w.heap.size) f (.slice A0 n0 c0) (.slice A1 f.cs.length c1))/\(jb W' (w.heap.size+1) g (.slice B0 m0 d0) (.slice B1 g.cs.length d1))) (by kernel_rfl) (aH.out _ Y0.out) (fun hHeld=>?_);refine tk 0 ?_ (hy:=Or.inl ⟨by rfl,by intro w' aP; obtain ⟨-,⟨k1,k2,k3,k4⟩,k5,k6,k7,k8⟩:=aP; go_simp; (try (with_reducible rfl))⟩);refine tk 1 ?_;refine tk 3 ?_ (hy:=Or.inl ⟨by rfl,by intro w' aP; obtain ⟨-,⟨k1,k2,k3,k4⟩,k5,k6,k7,k8⟩:=aP; go_simp; (try (with_reducible rfl))⟩);refine tk 4 ?_;refine r_1 2 fun K hK=>?_
 go_simp
 go_at_call 137
 refine (Gs.out _ Y0.out).mono ?_;rintro e w4 ⟨v4,rfl,row4,y4⟩;have z1:Ext W w4:=Y0.out.trans y4;refine k_t hK (aH.out _ z1) fun hHeld=>?_
 clear hK K;refine r_1 5 fun K hK=>?_
 go_simp
 go_at_call 137
 refine (Gq.out _ z1).mono ?_;rintro e w5 ⟨v5,rfl,jW,y5⟩;have z2:Ext W w5:=z1.trans y5;refine k_t hK (aH.out _ z2) fun hHeld=>?_
 clear hK K;refine r_1 6 fun K hK=>?_
 go_simp
 go_at_call 165
 refine (MW.out _ _ _ _ _ y4 y5 row4 jW).mono ?_;rintro e w6 ⟨v6,v7,rfl,Jv,y6⟩;have z3:Ext W w6:=Y0.out.trans y6;refine k_t hK (aH.out _ z3) fun hHeld=>?_
 clear hK K;refine tk 7 ?_;refine tk 8 ?_;refine tk 9 ?_;refine tk 10 ?_;refine tk 11 ?_;refine w_d ?_;obtain ⟨A',c',rfl,k1,k2,k3⟩:=id Jv;have HJ:=hid (YJ.out _ _ _ _ Jv);have Z3:=hid (HX.out.trans z3);have Be:=hid (HZ.out.ext z3 (by omega));have DY:w.heap.size+1+1 < w6.heap.size:=by have:=z3.size; omega
 obtain ⟨X,hX⟩:=n_m (qag l f g);rw [hX] at HJ;have oO:=hid hX;clear hX hHeld k3 row4 jW Jv y4 y5 y6 Gs Gq MW YJ z1 z2 z3 aH VC;go_wp2_with fail;refine HJ.out.mono ?_;rintro e w7 ⟨v8,rfl,m2,x2⟩;obtain ⟨D0,dY,ed,D1,dZ,rfl,-⟩:=id m2.open_;have aQ:=Be.out.ext x2 DY;have iM:=hid (qf (q':=fun b=>w.heap.size<=b) (Z3.out.trans x2) (by omega) aQ m2 (fun b _ hb=>⟨by omega,by omega⟩));obtain ⟨⟨z0,z1,z2,z3⟩,zf⟩:=aQ;clear m2 x2 HJ;unfold plV;go_wp2_with fail;obtain ⟨v9,e9,k3,k4⟩:=iM.out;injection e9 with e9
 subst e9;exact bodyPost_ret (v:=.tuple #[plV X (.slice D0 dY ed) (.slice D1 X.cs.length dZ),.int .i64 0]) (by simp [results,Tryz.results162,go_sem,z0,z1,z2,z3,plV]) rfl (by rw [oO.out]; exact ⟨_,rfl,k3,k4⟩)
def za0 (c:Pl) (g:List Pl) (k:Nat) (rest:List Pl):List Pl:=
 (List.range (g.length - 1+k)).map fun j=>if k<=j then (rest.getD j Pl.zero).sub (c.mul (g.getD (j - k) Pl.zero)) else rest.getD j Pl.zero
theorem jcg (c:Pl) (g:List Pl) (k:Nat) (rest:List Pl):(za0 c g k rest).length=g.length - 1+k:=by
 unfold za0;rw [px,tt]
theorem Pl.qbP {g:Pl} (h:g.Can) (hl:g.lv=0) (hg:g ≠ Pl.zero):g.z ≠ 0:=fun e=>hg (by rw [gaf h hl,e]; unfold Pl.const Pl.zero; simp [qm])
def yad (l : Int) : Nat -> Pl -> List Pl
 | 0,_=>[]
 | n+1,r=>if 0 < mdg l r then r :: (if (qo l r).lv=0 then [] else yad l n (xak l r)) else []
def jan (l : Int) : Nat -> Pl -> Bool
 | 0,_=>false
 | n+1,r=>if 0 < mdg l r then (if (qo l r).lv=0 then true else jan l n (xak l r)) else false
def uh (l:Int) (f:Pl):List Pl:=yad l (mdg l f).toNat f
def qak (l:Int) (f:Pl):Bool:=jan l (mdg l f).toNat f
theorem kba {l:Int} {n:Nat} {r:Pl} (h:¬ 0 < mdg l r):yad l n r=[]:=by cases n <;> simp [yad,h]
theorem gb4 {l:Int} {n:Nat} {r:Pl} (h:¬ 0 < mdg l r):jan l n r=false:=by cases n <;> simp [jan,h]
theorem qay {l:Int} {n:Nat} {r:Pl} (h:0 < mdg l r):yad l (n+1) r=r :: (if (qo l r).lv=0 then [] else yad l n (xak l r)):=by rw [yad,if_pos h]
theorem vba {l:Int} {n:Nat} {r:Pl} (h:0 < mdg l r):jan l (n+1) r=if (qo l r).lv=0 then true else jan l n (xak l r):=by rw [jan,if_pos h]
theorem wcu {l:Int} (hl:1<=l) (ag:l<=4) {r:Pl} (h:r.Can) (h0:0 < mdg l r):mdg l (xak l r) < mdg l r:=by
 have:=qbp (l:=l) hl ag (cs:=(r.xi l).dropLast) (fun c hc=>kaq h c (List.dropLast_subset _ hc)) (fun c hc=>kaa hl ag h c (List.dropLast_subset _ hc));rw [List.length_dropLast] at this;unfold xak;unfold mdg at h0 ⊢;unfold mdg at this;omega
theorem qbh {l : Int} {P : Nat -> Pl -> Prop} (hs : ∀ n r, P (n + 1) r -> 0 < mdg l r -> (qo l r).lv ≠ 0 -> P n (xak l r)) : ∀ (n : Nat) (r : Pl), P n r -> ∀ c ∈ yad l n r, ∃ m, m < n /\ P (m + 1) c /\ 0 < mdg l c
 | 0,_,_,_,hc=>by simp [yad] at hc
 | n+1,r,h,c,hc=>by
   by_cases h0:0 < mdg l r
   · rw [qay h0,pQ] at hc;rcases hc with rfl | hc
     · exact ⟨n,by omega,h,h0⟩
     · by_cases h1:(qo l r).lv=0
       · rw [if_pos h1] at hc; cases hc
       · rw [if_neg h1] at hc;obtain ⟨m,h2,h3,h4⟩:=qbh hs n _ (hs n r h h0 h1) c hc;exact ⟨m,by omega,h3,h4⟩
   · rw [kba h0] at hc; cases hc
theorem xbh {l:Int} {f:Pl} {E D n:Nat} (h:Fit f E D) (hE:E < B32):∀ c ∈ yad l n f,Fit c E (D+n)/\0 < mdg l c:=fun c hc=>by
 obtain ⟨m,hm,hf,h0⟩:=qbh (P:=fun k r=>k<=n/\Fit r E (D+(n - k))) (fun k r ⟨h1,h2⟩ _ _=>⟨by omega,(gbd h2 hE).mono (pj _) (by omega)⟩) n f ⟨pj _,h.mono (pj _) (by omega)⟩ c hc;exact ⟨hf.2.mono (pj _) (by omega),h0⟩
theorem qan {l : Int} : ∀ (n : Nat) (r : Pl), (yad l n r).length <= n
 | 0,_=>by simp [yad]
 | n+1,r=>by
   rw [yad]
   split
   · rw [pL]
     split
     · simp
     · have:=qan (l:=l) n (xak l r); omega
   · simp
theorem Pl.vt (ρ:Int->Rat) {n:Int} (h1:1<=n) (h4:n<=4):(Pl.var n).val ρ=ρ n:=by
 rw [Pl.var,if_pos ⟨h1,h4⟩,Pl.val,if_neg (by omega)];simp only [ve,Pl.qu,Pl.qT]
 grind
theorem Pl.km:Pl.zero.z8=Pl.zero:=Pl.qz (Pl.ye _) Pl.qS fun ρ=>by rw [Pl.xV,Pl.qu]; grind
def qi (l:Int) (f g:Pl):Pl:=qag l f g.z8
def uaa (l:Int) (f g:Pl):Pl:=
 ((ji l 0 (qi l f g)).mul (ji l 0 (qi l f g))).sub ((ji l 1 (qi l f g)).mul (((ji l 1 f).mul (ji l 0 g)).sub ((ji l 0 f).mul (ji l 1 g))))
def wu (l:Int) (f g:Pl):List Pl:=
 if mdg l f<=0\/mdg l g<=0 then [] else if mdg l g=1 then [ji l 0 (qi l f g)] else if mdg l f=1 then [ji l 0 (qi l g f)] else [uaa l f g,ji l 1 (qi l f g)]
theorem qac (l:Int) (f g:Pl):(qi l f g).Can:=gcu _ _ _
theorem ubl {l:Int} (hl:1<=l) (ag:l<=4) {g:Pl} (hg:g.Can):g.z8.xi l=(g.xi l).map Pl.z8:=by
 refine (Pl.xf hl ag (Pl.ye g)).uniq ⟨fun c hc=>?_,fun c hc=>?_,fun ρ=>?_,?_⟩
 · obtain ⟨d,-,rfl⟩:=pZ.1 hc; exact Pl.ye d
 · obtain ⟨d,hd,rfl⟩:=pZ.1 hc; exact (kaa hl ag hg d hd).z8
 · have h1:=(Pl.xf hl ag hg).val ρ;have h2:∀ L:List Pl,ve ρ l (L.map Pl.z8)=-ve ρ l L:=by
    intro L
    induction L with
    | nil=>simp [ve]
    | cons c r ih=>simp only [sr,ve,ih,Pl.xV]; grind
   rw [h2,h1,Pl.xV]
 · intro h;rw [List.getLast?_map] at h;cases hL:(g.xi l).getLast? with
   | none=>rw [hL] at h; cases h
   | some c =>
     rw [hL] at h;injection h with h
     have hc:c=Pl.zero:=by rw [<- Pl.vp (kaq hg c (List.mem_of_getLast? hL)),h,Pl.km]
     exact (Pl.xf hl ag hg).last (by rw [hL,hc])
theorem vb9 {l:Int} (hl:1<=l) (ag:l<=4) {g:Pl} (hg:g.Can):mdg l g.z8=mdg l g:=by
 unfold mdg; rw [ubl hl ag hg,px]
theorem ga1 {l:Int} (hl:1<=l) (ag:l<=4) {f g:Pl} (hf:f.Can) (hg:g.Can) (bI:g ≠ Pl.zero):mdg l (qi l f g) < mdg l g:=by
 have h1:g.z8 ≠ Pl.zero:=fun e=>bI (by rw [<- Pl.vp hg,e]; exact Pl.km)
 have:=ucu hl ag hf (Pl.ye g) h1;rw [vb9 hl ag hg] at this;exact this
theorem qah {l:Int} {p:Pl} (h:0<=mdg l p):p ≠ Pl.zero:=fun e=>by
 rw [e] at h;unfold mdg at h;rw [Pl.kr] at h;simp at h
theorem gak {l:Int} (hl:1<=l) (ag:l<=4) {f g:Pl} {E D F G:Nat} (hf:Fit f E D) (hg:Fit g F G) (hF:F < B32):Fit (qi l f g) (E+(E+1) * F+F) (D+(E+1) * (G+3)+1):=
 (wb8 hl ag (n:=4) ag (by omega) hf hg.z8 hf.can.qq.2 (Pl.ye g).qq.2 hF).1
theorem ga3 {l:Int} (hl:1<=l) (ag:l<=4) {p:Pl} (h:p.Can) (h0:mdg l p<=0):ji l 0 p=p:=by
 unfold ji;rw [if_neg (by omega)];refine Pl.qz (wag (kaq h) _) h fun ρ=>?_
 have hv:=(Pl.xf hl ag h).val ρ;have hlen:(p.xi l).length<=1:=by unfold mdg at h0; omega
 rcases hL:p.xi l with _ | ⟨c,_ | ⟨d,r⟩⟩
 · rw [hL] at hv; simp only [ve] at hv; rw [<- hv]; simp [Pl.qu]
 · rw [hL] at hv; simp only [ve] at hv; rw [<- hv]; simp only [Int.toNat_zero,sP]; grind
 · rw [hL] at hlen; simp at hlen
theorem za7 (ρ:Int->Rat) (a:Pl) (G:List Pl) (j:Nat):((G.map fun c=>a.mul c).getD j Pl.zero).val ρ=a.val ρ * (G.getD j Pl.zero).val ρ:=by
 by_cases h:j < G.length
 · rw [qbx _ _ _ h,Pl.qD]
 · rw [xa3 _ _ (by rw [px]; omega),xa3 _ _ (by omega),Pl.qu]; grind
theorem va7 (ρ : Int -> Rat) (c : Pl) (G : List Pl) : ∀ (Q : List Pl) (j : Nat), ((uk (Q ++ [c]) G).getD j Pl.zero).val ρ = ((uk Q G).getD j Pl.zero).val ρ + if Q.length <= j then c.val ρ * (G.getD (j - Q.length) Pl.zero).val ρ else 0
 | [],j=>by
   rw [tI,show uk [c] G=vab (G.map fun x=>c.mul x) [Pl.zero] from rfl,show uk [] G=[] from rfl,uae,za7,Rb,Pl.qu,r8,if_pos (pS _),Nat.sub_zero];have:([Pl.zero].getD j Pl.zero).val ρ=0:=by
    cases j with
    | zero=>rw [sP,Pl.qu]
    | succ j=>rw [ss,Rb,Pl.qu]
   grind
 | a :: r,0=>by
   rw [rI,uk,uk,uae,uae,sP,sP,if_neg (by simp)]
   grind
 | a :: r,j+1=>by
   rw [rI,uk,uk,uae,uae,ss,ss,va7 ρ c G r j,pL];have e:j+1 - (r.length+1)=j - r.length:=by omega
   rw [e]
   by_cases h:r.length<=j
   · rw [if_pos h,if_pos (by omega)]; grind
   · rw [if_neg h,if_neg (by omega)]; grind
def xy (G Q:List Pl) (n k:Nat):List Pl:=(List.range (n+k)).map fun j=>(uk (Q.take k) G).getD j Pl.zero
theorem uaw (G Q:List Pl) (n k:Nat):(xy G Q n k).length=n+k:=by unfold xy; rw [px,tt]
theorem ya2 (G Q:List Pl) (n k j:Nat) (h:j < n+k):(xy G Q n k).getD j Pl.zero=(uk (Q.take k) G).getD j Pl.zero:=by
 unfold xy;rw [pr,ue,List.getElem?_range h]; rfl
theorem ya6 (G Q:List Pl) (n k j:Nat) (h:j < (xy G Q n k).length):(xy G Q n k)[j]=(uk (Q.take k) G).getD j Pl.zero:=by
 have h1:=ya2 G Q n k j (by rw [uaw] at h; exact h);rw [pr,po h] at h1;exact h1
theorem gav {Q G:List Pl}:∀ c ∈ uk Q G,c.Can:=wax Pl.qS (fun a b _ _=>Pl.yk a b) Q G fun x _ y _=>Pl.q8 x y
theorem jcl {G Q:List Pl} {n k:Nat}:∀ c ∈ xy G Q n k,c.Can:=fun c hc=>by
 unfold xy at hc;obtain ⟨j,-,rfl⟩:=pZ.1 hc;exact wag gav j
section
variable {G Q:List Pl} {n k:Nat} (hG:G.length=n+1) (hk:k < Q.length)
include hG hk
theorem xcl (hQ:∀ c ∈ Q,c.Can) (hg:∀ c ∈ G,c.Can):(xy G Q n (k+1)).getD (n+k) Pl.zero=(G.getD n Pl.zero).mul (Q.getD k Pl.zero):=by
 rw [ya2 _ _ _ _ _ (by omega)];refine Pl.qz (wag gav _) (Pl.q8 _ _) fun ρ=>?_
 have ht:Q.take (k+1)=Q.take k ++ [Q[k]]:=(List.take_append_getElem hk).symm;have jB:Q.getD k Pl.zero=Q[k]:=by rw [pr,po hk]; rfl
 have hl:(Q.take k).length=k:=by rw [pA]; omega
 have hz:((uk (Q.take k) G).getD (n+k) Pl.zero).val ρ=0:=by
  rw [xa3,Pl.qu]
  by_cases h0:Q.take k=[]
  · rw [h0,uk]; exact pS _
  · rw [yaj (by intro e; rw [e] at hG; simp at hG) _ h0,hl,hG]; omega
 rw [ht,va7,hz,hl,if_pos (by omega),show n+k - k=n by omega,Pl.qD,jB]
 grind
theorem jbz:za0 (Q.getD k Pl.zero) G k (xy G Q n (k+1))=xy G Q n k:=by
 have hlen:(za0 (Q.getD k Pl.zero) G k (xy G Q n (k+1))).length=n+k:=by rw [jcg]; omega
 refine sR (by rw [hlen,uaw]) fun j h1 h2=>?_
 rw [hlen] at h1;have ht:Q.take (k+1)=Q.take k ++ [Q[k]]:=(List.take_append_getElem hk).symm;have jB:Q.getD k Pl.zero=Q[k]:=by rw [pr,po hk]; rfl
 have hl:(Q.take k).length=k:=by rw [pA]; omega
 have hv:∀ ρ,((xy G Q n (k+1)).getD j Pl.zero).val ρ=((uk (Q.take k) G).getD j Pl.zero).val ρ+if k<=j then Q[k].val ρ * (G.getD (j - k) Pl.zero).val ρ else 0:=fun ρ=>by
  rw [ya2 _ _ _ _ _ (by omega),ht,va7,hl]
 rw [ya6];simp only [za0,rK,tF,jB]
 split
 · rename_i Ov;refine Pl.qz (Pl.Ks _ _) (wag gav _) fun ρ=>?_
   rw [Pl.yd,Pl.qD,hv,if_pos Ov]
   grind
 · rename_i Ov;refine Pl.qz (wag jcl _) (wag gav _) fun ρ=>?_
   rw [hv,if_neg Ov]
   grind
end
theorem qcd (G Q:List Pl) (n:Nat):xy G Q n 0=List.replicate n Pl.zero:=by
 refine sR (by rw [uaw,p8]; rfl) fun j h1 h2=>?_
 rw [ya6,u7,s9,uk,Rb]
theorem jcd {G Q:List Pl} {n:Nat} (hG:G.length=n+1) (hQ:Q ≠ []):xy G Q n Q.length=uk Q G:=by
 have hl:=yaj (b:=G) (by intro e; rw [e] at hG; simp at hG) Q hQ;refine sR (by rw [uaw,hl,hG]; omega) fun j h1 h2=>?_
 rw [ya6,pP,pr,po h2]; rfl
theorem jaq {l:Int} (hl:1<=l) {p:Pl} (h:p.Can) (e:p.lv=l):p.xi l=p.cs/\2<=p.cs.length:=by
 have ag:l<=4:=by have:=h.qq.2; omega
 cases p with
 | mk lv ng ds cs =>
   simp only [Pl.lv,Pl.cs] at e ⊢;subst e;exact ⟨(Pl.xf hl ag h).uniq (wat h (by omega)),(h.kids (by omega)).2.2.1⟩
theorem gbm {l:Int} (hl:1<=l) (ag:l<=4) {p:Pl} (h:p.Can) (hp:p ≠ Pl.zero) (e:p.lv < l):p.xi l=[p]:=(Pl.xf hl ag h).uniq (gay h hp (jar h e))
theorem ja7 {g q:Pl} (hg:g.Can) (hq:q.Can) (bI:g ≠ Pl.zero) (kH:q ≠ Pl.zero):g.lv<=(g.mul q).lv:=by
 have h1:=hg.qq;have h2:=(Pl.q8 g q).qq
 by_cases h0:g.lv=0
 · omega
 refine Int.not_lt.1 fun af=>?_
 have hm:=ub9 (l:=g.lv) (by omega) h1.2 hg hq bI kH;have hn:g.mul q ≠ Pl.zero:=fun e=>by
  rcases Pl.mul_zero hg hq (fun ρ=>by rw [<- Pl.qD,e,Pl.qu]) with e | e
  · exact bI e
  · exact kH e
 obtain ⟨e1,e2⟩:=jaq (l:=g.lv) (by omega) hg rfl;have e3:=gbm (l:=g.lv) (by omega) h1.2 (Pl.q8 g q) hn af;have e4:=rA.2 (vae (l:=g.lv) (by omega) h1.2 hq kH);unfold mdg at hm;rw [e1,e3,Pt] at hm;omega
theorem qav (g q:Pl):g.mul q=q.mul g:=Pl.qz (Pl.q8 _ _) (Pl.q8 _ _) fun ρ=>by rw [Pl.qD,Pl.qD]; grind
theorem xc8 {g q:Pl} (hg:g.Can) (hq:q.Can) (bI:g ≠ Pl.zero) (kH:q ≠ Pl.zero) (hl:g.lv < (g.mul q).lv):q.lv=(g.mul q).lv/\(g.mul q).cs=q.cs.map (fun c=>g.mul c)/\joinL q.lv q.cs=q:=by
 have hf:=Pl.q8 g q;have h1:=hg.qq;have h2:=hf.qq;obtain ⟨l,qO⟩:=n_m ((g.mul q).lv);rw [qO] at hl h2;have hqn:=hq.qq;have pV:q.lv<=l:=by rw [<- qO,qav]; exact ja7 hq hg kH bI
 have hm:=ub9 (l:=l) (by omega) h2.2 hg hq bI kH;obtain ⟨e1,e2⟩:=jaq (l:=l) (by omega) hf qO;have e3:=gbm (l:=l) (by omega) h2.2 hg bI hl;have rY:q.lv=l:=by
  refine Int.le_antisymm pV (Int.not_lt.1 fun af=>?_);have e4:=gbm (l:=l) (by omega) h2.2 hq kH af;unfold mdg at hm;rw [e1,e3,e4] at hm;simp only [Pt] at hm;omega
 obtain ⟨k1,k2⟩:=jaq (l:=l) (by omega) hq rY;refine ⟨by rw [qO,rY],?_,?_⟩
 · have hc:=gbl (l:=l) (by omega) h2.2 hg hq bI kH;rw [e1,e3,k1] at hc;rw [hc];refine sR (by rw [yaj (b:=q.cs) (by intro e; rw [e] at k2; simp at k2) _ (by simp),px]; simp) fun i i1 i2=>?_
   have hi:i < q.cs.length:=by rw [px] at i2; exact i2
   have h5:(uk [g] q.cs)[i]=(uk [g] q.cs).getD i Pl.zero:=by rw [pr,po i1]; rfl
   rw [h5,rK];refine Pl.qz (wag gav i) (Pl.q8 _ _) fun ρ=>?_
   rw [show uk [g] q.cs=vab (q.cs.map fun x=>g.mul x) [Pl.zero] from rfl,uae,za7,Pl.qD,pr,po hi,Pf];have:([Pl.zero].getD i Pl.zero).val ρ=0:=by
    cases i with
    | zero=>rw [sP,Pl.qu]
    | succ j=>rw [ss,Rb,Pl.qu]
   grind
 · refine Pl.qz (qae _ _) hq fun ρ=>?_
   rw [rY,zad (by omega) h2.2];cases q with
   | mk lv ng ds cs =>
     simp only [Pl.lv,Pl.cs] at rY ⊢;subst rY;rw [Pl.mk_val ρ _ _ _ (by omega) h2.2]
theorem vcz {g q:Pl} (hg:g.Can) (hq:q.Can) (bI:g ≠ Pl.zero) (kH:q ≠ Pl.zero) (h0:1<=g.lv) (hl:(g.mul q).lv=g.lv):(g.mul q).cs=uk (q.xi g.lv) g.cs/\q.xi g.lv ≠ []/\joinL g.lv (q.xi g.lv)=q/\2<=g.cs.length/\g.cs.getD (g.cs.length - 1) Pl.zero ≠ Pl.zero:=by
 have h1:=hg.qq;have hf:=Pl.q8 q g;rw [qav] at hl ⊢;obtain ⟨e1,e2⟩:=jaq h0 hf hl;obtain ⟨k1,k2⟩:=jaq h0 hg rfl;have hc:=gbl (l:=g.lv) h0 h1.2 hq hg kH bI;rw [e1,k1] at hc;refine ⟨hc,vae h0 h1.2 hq kH,Pl.qz (qae _ _) hq fun ρ=>by rw [zad h0 h1.2]; exact (Pl.xf h0 h1.2 hq).val ρ,k2,?_⟩;have:=gag (Pl.xf h0 h1.2 hg).last (vae h0 h1.2 hg bI);rw [k1] at this;exact this
theorem ybr {c : Pl} : ∀ {x y : List Pl}, c ∈ vab x y -> (∃ a ∈ x, ∃ b ∈ y, c = a.add b) \/ c ∈ x \/ c ∈ y
 | [],y,h=>.inr (.inr h)
 | a :: r,[],h=>.inr (.inl h)
 | a :: r,b :: s,h=>by
   rw [vab] at h;rcases pQ.1 h with rfl | h
   · exact .inl ⟨a,by simp,b,by simp,rfl⟩
   · rcases ybr h with ⟨a',ha,b',hb,e⟩ | h | h
     · exact .inl ⟨a',by simp [ha],b',by simp [hb],e⟩
     · exact .inr (.inl (by simp [h]))
     · exact .inr (.inr (by simp [h]))
theorem wb0 {E D F Dg : Nat} {G : List Pl} (hG : ∀ c ∈ G, Fit c F Dg) : ∀ Q : List Pl, (∀ c ∈ Q, Fit c E D) -> ∀ c ∈ uk Q G, Fit c (E + F) (D + Dg + Q.length)
 | [],_,c,hc=>by cases hc
 | a :: r,hQ,c,hc=>by
   rw [uk] at hc;have h1:∀ c ∈ G.map (fun c=>a.mul c),Fit c (E+F) (D+Dg):=fun c hc=>by
    obtain ⟨d,hd,rfl⟩:=pZ.1 hc;exact (hQ a (by simp)).mul (hG d hd)
   have h2:∀ c ∈ Pl.zero :: uk r G,Fit c (E+F) (D+Dg+r.length):=fun c hc=>by
    rcases pQ.1 hc with rfl | hc
    · exact Fit.zero
    · exact wb0 hG r (fun d hd=>hQ d (by simp [hd])) c hc
   rcases ybr hc with ⟨x,hx,y,hy,rfl⟩ | hc | hc
   · exact ((h1 x hx).add (h2 y hy)).mono (by omega) (by rw [pL]; omega)
   · exact (h1 c hc).mono (by omega) (by omega)
   · exact (h2 c hc).mono (by omega) (by rw [pL]; omega)
theorem qcl {E D F Dg n k:Nat} {G Q:List Pl} (hG:∀ c ∈ G,Fit c F Dg) (hQ:∀ c ∈ Q,Fit c E D):∀ c ∈ xy G Q n k,Fit c (E+F) (D+Dg+Q.length):=fun c hc=>by
 unfold xy at hc;obtain ⟨j,-,rfl⟩:=pZ.1 hc;have h1:=wb0 hG (Q.take k) (fun d hd=>hQ d (tl hd));exact (jad Fit.zero h1 j).mono (by omega) (by rw [pA]; omega)
def ExI (G Q:List Pl) (n r:Nat) (L:List Pl):Prop:=L.length=n+Q.length/\∀ i,i < n+r->L.getD i Pl.zero=(xy G Q n r).getD i Pl.zero
def ExJ (G Q:List Pl) (n k j:Nat) (L:List Pl):Prop:=L.length=n+Q.length/\∀ i,i < n+k->L.getD i Pl.zero=if k<=i/\i < k+j then (xy G Q n k).getD i Pl.zero else (xy G Q n (k+1)).getD i Pl.zero
theorem ExI.qbR {G Q:List Pl} {n k:Nat} {L:List Pl} (h:ExI G Q n (k+1) L):ExJ G Q n k 0 L:=⟨h.1,fun i hi=>by rw [if_neg (by omega)]; exact h.2 i (by omega)⟩
section
variable {G Q:List Pl} {n:Nat} (hG:G.length=n+1)
include hG
theorem ExI.start (hQ:Q ≠ []):ExI G Q n Q.length (uk Q G):=by
 refine ⟨by rw [yaj (by intro e; rw [e] at hG; simp at hG) Q hQ,hG]; omega,fun i _=>?_⟩;rw [jcd hG hQ]
theorem wbg {k i:Nat} (hk:k < Q.length) (hi:i < n+k):(xy G Q n k).getD i Pl.zero=if k<=i then ((xy G Q n (k+1)).getD i Pl.zero).sub ((Q.getD k Pl.zero).mul (G.getD (i - k) Pl.zero)) else (xy G Q n (k+1)).getD i Pl.zero:=by
 rw [<- jbz hG hk];unfold za0;rw [pr,ue,List.getElem?_range (by rw [hG]; omega)]
 rfl
theorem ExJ.qbS {k:Nat} {L:List Pl} (h:ExJ G Q n k n L) (hk:k < Q.length):ExI G Q n k L:=⟨h.1,fun i hi=>by
 rw [h.2 i hi]
 by_cases Hw:k<=i
 · rw [if_pos ⟨Hw,by omega⟩]
 · rw [if_neg (by omega),wbg hG hk hi,if_neg Hw]⟩
theorem ExJ.step {k j:Nat} {L:List Pl} (h:ExJ G Q n k j L) (hj:j < n) (hk:k < Q.length) {x:Pl} (hx:x=((xy G Q n (k+1)).getD (j+k) Pl.zero).sub ((Q.getD k Pl.zero).mul (G.getD j Pl.zero))):ExJ G Q n k (j+1) (L.set (j+k) x):=by
 refine ⟨by rw [pH]; exact h.1,fun i hi=>?_⟩
 by_cases oI:i=j+k
 · subst oI;rw [if_pos (by omega),wbg hG hk (by omega),if_pos (by omega),show j+k - k=j by omega,<- hx,pr,Sx (by rw [h.1]; omega)]
   rfl
 · rw [pr,List.getElem?_set_ne (by omega),<- pr,h.2 i hi]
   by_cases h2:k<=i/\i < k+j
   · rw [if_pos h2,if_pos (by omega)]
   · rw [if_neg h2,if_neg (by omega)]
end
theorem ExJ.at_ {G Q:List Pl} {n k j:Nat} {L:List Pl} (h:ExJ G Q n k j L) (hj:j < n):L.getD (j+k) Pl.zero=(xy G Q n (k+1)).getD (j+k) Pl.zero:=by
 rw [h.2 _ (by omega),if_neg (by omega)]
theorem ExI.fin {G Q:List Pl} {n:Nat} {L:List Pl} (h:ExI G Q n 0 L):L.take n=List.replicate n Pl.zero:=by
 have hl:(L.take n).length=n:=by rw [pA,h.1]; omega
 refine sR (by rw [hl,p8]) fun i h1 h2=>?_
 rw [hl] at h1;have:=h.2 i (by omega);rw [qcd,pr,po (by rw [h.1]; omega)] at this;rw [tz,u7];have h3:(List.replicate n Pl.zero).getD i Pl.zero=Pl.zero:=by
  rw [pr,List.getElem?_replicate,if_pos h1]; rfl
 rw [h3] at this;exact this
theorem gbb {l:Int} (hl:1<=l) (ag:l<=4) (n:Nat):joinL l (List.replicate n Pl.zero)=Pl.zero:=Pl.qz (qae _ _) Pl.qS fun ρ=>by
 rw [zad hl ag,Pl.qu]
 induction n with
 | zero=>rfl
 | succ n ih=>rw [Se,ve,ih,Pl.qu]; grind
def QuI (Q:List Pl) (r:Nat) (M:List Pl):Prop:=M.length=Q.length/\∀ i,r<=i->i < Q.length->M.getD i Pl.zero=Q.getD i Pl.zero
theorem QuI.start (Q:List Pl):QuI Q Q.length (List.replicate Q.length Pl.zero):=⟨p8,fun i h1 h2=>by omega⟩
theorem QuI.step {Q M:List Pl} {k:Nat} (h:QuI Q (k+1) M) (hk:k < Q.length):QuI Q k (M.set k (Q.getD k Pl.zero)):=by
 refine ⟨by rw [pH]; exact h.1,fun i h1 h2=>?_⟩
 by_cases oI:i=k
 · subst oI;rw [pr,Sx (by rw [h.1]; omega)]; rfl
 · rw [pr,List.getElem?_set_ne (by omega),<- pr];exact h.2 i (by omega) h2
theorem QuI.fin {Q M:List Pl} (h:QuI Q 0 M):M=Q:=by
 refine sR h.1 fun i h1 h2=>?_
 have:=h.2 i (pS _) h2;rw [pr,pr,po h1,po h2] at this;exact this
end Go.Proofs.YtcepajijiabkmaaGreat
