/- Layer 24: pseudo.Rem. -/
import Derived.Test.YtklnlgnnlmdibaaGreatMr33
import Derived.Test.YtklnlgnnlmdibaaGreatMr30
import Derived.Test.YtklnlgnnlmdibaaGreatMr17
import Derived.Test.YtklnlgnnlmdibaaGreatMr19
set_option linter.unusedSimpArgs false
set_option linter.unusedVariables false
set_option maxRecDepth 100000
set_option maxHeartbeats 8000000
namespace Go.Proofs.YtklnlgnnlmdibaaGreat
open Go.RowKit
theorem jbu {w0 w1 w:World} {F G:List Pl} {v u:Value} {EM DM E D Eg Dg:Nat} (hx01:Ext w0 w1) (hx1:Ext w1 w) (hF:uac w1 (fun b=>w0.heap.size<=b) v F) (hG:uac w (fun b=>w1.heap.size<=b) u G) (hG0:0 < G.length) (hFb:F.length<=1000) (hGb:G.length<=1000) (hfF:∀ c ∈ F,Fit c E D) (hfG:∀ c ∈ G,Fit c Eg Dg) (hE:E+(F.length - (G.length - 1)) * Eg<=EM) (hD:D+(F.length - (G.length - 1)) * (Dg+2)<=DM) (hEM:EM<=400) (hDM:DM<=8796093000000) :
 Calls Tryz.prog 171 #[v,u] w fun e w'=>∃ v0 v',e=.returned (.tuple #[v0,v'])/\uac w' (fun b=>w0.heap.size<=b) v' (yw G (F.length - (G.length - 1)) F)/\Ext w0 w':=by
 obtain ⟨A,cf,rfl,hc1,hc2,hF2⟩:=hF;obtain ⟨B,cg,rfl,hd1,hd2,hG2⟩:=hG;obtain ⟨n,hn⟩:∃ n,G.length=n+1:=⟨G.length - 1,by omega⟩;rw [hn,Nat.add_sub_cancel] at hE hD ⊢
 by_cases hK:F.length<=n
 · rw [show F.length - n=0 by omega,ja0];refine (kbn hK hc1 hc2 (by omega) hd2 (by omega)).mono ?_;rintro e w' ⟨v0,rfl,x⟩;exact ⟨v0,_,rfl,⟨A,cf,rfl,hc1,hc2,fun hne=>by
    obtain ⟨R,e,h1,h2⟩:=hF2 hne
    exact ⟨R,e,h1,h2.ext (hx1.trans x)⟩⟩,(hx01.trans hx1).trans x⟩
 · obtain ⟨R,rfl,hR,hrow⟩:=hF2 (by intro e; rw [e] at hK; simp at hK);obtain ⟨Rg,rfl,hRg,hrowg⟩:=hG2 (by intro e; rw [e] at hn; simp at hn);have hR1:=hrow.1;have:=kbu (n:=n) (K:=F.length - n) (cf:=cf) (cg:=cg) (hx01.trans hx1) hR (by omega) (hrow.ext hx1) (hrowg.mono fun b hb=>by omega) hn (by omega) (by omega) hc1 hc2 (by omega) hd2 (by omega) hfF hfG hE hD hEM hDM;rw [hn] at this;refine this.mono ?_;rintro e w' ⟨v0,c',rfl,h1,h2,h3,h4⟩;exact ⟨v0,_,rfl,⟨_,c',rfl,h1,h2,fun _=>⟨R,rfl,hR,h3⟩⟩,h4⟩
theorem xbr {w:World} {qa:Nat->Prop} {p:Pl} {A0 A1:Option Addr} {n0 c0 c1:Nat} (hp:PlV w qa p (plV p (.slice A0 n0 c0) (.slice A1 p.cs.length c1))) (T:TypeId) :
 jd (w.alloc (.cells #[.int .i64 p.lv,.bool p.neg,.slice A0 n0 c0,.slice A1 p.cs.length c1] T)) (fun _=>True) [p] (some ⟨w.heap.size,0,none⟩) 0:=by
 refine ⟨⟨⟨w.heap.size,0,none⟩,_,_,rfl,by simp,trivial,?_,(hp.ext ((Ext.refl w).alloc _)).mono fun _ _=>trivial⟩,trivial⟩;refine ⟨?_,?_,?_,?_⟩ <;> simp [go_sem,yt]
theorem uac.pls {W:World} {q:Nat->Prop} {A:Option Addr} {n c:Nat} {L:List Pl} (h:uac W q (.slice A n c) L):jd W q L A 0:=by
 obtain ⟨B,d,e,h1,h2,h3⟩:=h;injection e with e1 e2 e3
 subst e1
 by_cases hL:L=[]
 · rw [hL]; unfold jd; trivial
 · obtain ⟨R,rfl,hR,hr⟩:=h3 hL;exact hr.fin hR
def jco (q:Nat->Prop) (p:Pl) (n:Int) (w:World) (e:Ending) (w':World):Prop:=∃ v,e=.returned (.tuple #[v,.int .i64 n])/\PlV w' q p v/\Ext w w'
theorem jb0 {w:World} {q0 q1:Nat->Prop} {f g:Pl} {l:Int} {E D Eg Dg:Nat} (v0 v1:Value) (hl:1<=l) (hl4:l<=4) (h0:PlV w q0 f v0) (h1:PlV w q1 g v1) (hf:Fit f E D) (hg:Fit g Eg Dg) (hg0:g ≠ Pl.zero) (hE:E+(E+1) * Eg+Eg<=62) (hD:D+(E+1) * (Dg+2)+1<=1099511627776) :
 Calls Tryz.prog 163 #[v0,v1,.int .i64 l] w (jco (fun b=>w.heap.size<=b) (jae l f g) 0 w):=by
 have H0:=Lib.hid h0;have H1:=Lib.hid h1;have HF:=Lib.hid hf;have HG:=Lib.hid hg;obtain ⟨A0,n0,c0,A1,c1,rfl,-⟩:=h0.open_;obtain ⟨B0,m0,d0,B1,d1,rfl,-⟩:=h1.open_;obtain ⟨Wa,hWa⟩:∃ Wa,(w.alloc (.cells #[.int .i64 f.lv,.bool f.neg,.slice A0 n0 c0,.slice A1 f.cs.length c1] 35))=Wa:=⟨_,rfl⟩;obtain ⟨Wb,hWb⟩:∃ Wb,(Wa.alloc (.cells #[.int .i64 g.lv,.bool g.neg,.slice B0 m0 d0,.slice B1 g.cs.length d1] 35))=Wb:=⟨_,rfl⟩;obtain ⟨W,hW⟩:∃ W,(Wb.alloc (.cells #[.int .i64 0,.bool false,.slice none 0 0,.slice none 0 0] 35))=W:=⟨_,rfl⟩;have hsa:Wa.heap.size=w.heap.size+1:=by rw [<- hWa]; simp
 have hsb:Wb.heap.size=w.heap.size+1+1:=by rw [<- hWb,<- hsa]; simp
 have hsw:W.heap.size=w.heap.size+1+1+1:=by rw [<- hW,<- hsb]; simp
 have hxa:Ext w Wa:=by rw [<- hWa]; exact (Ext.refl w).alloc _
 have hxb:Ext Wa Wb:=by rw [<- hWb]; exact (Ext.refl Wa).alloc _
 have hxw:Ext Wb W:=by rw [<- hW]; exact (Ext.refl Wb).alloc _
 have hb0:jb W w.heap.size f (.slice A0 n0 c0) (.slice A1 f.cs.length c1):=by
  have:jb Wa w.heap.size f (.slice A0 n0 c0) (.slice A1 f.cs.length c1):=by rw [<- hWa]; exact jb.new w f _ _ _
  exact this.ext (hxb.trans hxw) (by omega)
 have hb1:jb W (w.heap.size+1) g (.slice B0 m0 d0) (.slice B1 g.cs.length d1):=by
  have:jb Wb Wa.heap.size g (.slice B0 m0 d0) (.slice B1 g.cs.length d1):=by rw [<- hWb]; exact jb.new Wa g _ _ _
  rw [hsa] at this;exact this.ext hxw (by omega)
 have hz:yf W (w.heap.size+1+1):=by
  have:yf W Wb.heap.size:=by rw [<- hW]; exact yf.new Wb _
  rw [hsb] at this;exact this
 have HX:=Lib.hid ((hxa.trans hxb).trans hxw);have HB0:=Lib.hid hb0;have HB1:=Lib.hid hb1;have HZ:=Lib.hid hz;have HG0:=Lib.hid hg0;unfold plV;clear h0 h1 hf hg hxa hxb hxw hb0 hb1 hz hg0;have hl5:¬ l < 1:=by omega
 have hl6:¬ 4 < l:=by omega
 go_enter Tryz.func163,Tryz.ntmps163;go_upto_region 3 with fail;obtain ⟨b0,b1,b2,b3⟩:=HB1.out;clear hWa hWb hW;go_wp2_with fail;have hfz:=xbu (c:=1) (xbr (H1.out.ext HX.out) 35) (fun p hp=>by rw [List.mem_singleton.1 hp]; exact HG.out.can) (by simp);rw [hsw] at hfz;have hgz:g.isZ=false:=by
  cases e:g.isZ
  · rfl
  · exact absurd ((Pl.zero_isZ HG.out.can).1 e) HG0.out
 simp only [List.any_cons,List.any_nil,hgz,Bool.or_false,Bool.false_eq_true,if_false,List.length_singleton] at hfz;refine hfz.mono ?_;rintro e w1 ⟨rfl,x1⟩;have X1:Hid (Ext W w1):=Lib.hid (((Ext.refl W).alloc _).trans x1);have hF0:=HF.out;have hG0:=HG.out;have hlen:=qy (l:=l) HF.out.can HF.out.ex;have hgl:=qy (l:=l) HG.out.can HG.out.ex;have hgn:=List.length_pos_iff.2 (qbl hl hl4 HG.out.can HG0.out);have hEg:Eg<=62:=by omega
 have hE0:E<=62:=by omega
 have hDg:Dg<=1099511627776:=by
  have:=Nat.mul_le_mul_right (Dg+2) (show 1<=E+1 by omega);omega
 have HC0:=Lib.hid (fun (W':World) (hx:Ext W W')=>vaf _ hl hl4 HF.out (by omega) (by omega) (H0.out.ext (HX.out.trans hx)));have HC1:=Lib.hid (fun (W':World) (hx:Ext W W')=>vaf _ hl hl4 HG.out (by omega) (by omega) (H1.out.ext (HX.out.trans hx)));have hK:(f.cfL l).length - ((g.cfL l).length - 1)<=E+1:=by omega
 have hKE:=Nat.mul_le_mul_right Eg hK;have hKD:=Nat.mul_le_mul_right (Dg+2) hK;have HRED:=Lib.hid (fun (Wd W4 W5:World) (v u:Value) (x:Ext Wd W4) (y:Ext W4 W5) (hF:uac W4 (fun b=>Wd.heap.size<=b) v (f.cfL l)) (hG:uac W5 (fun b=>W4.heap.size<=b) u (g.cfL l))=>jbu (EM:=400) (DM:=8796093000000) x y hF hG hgn (by omega) (by omega) (Pl.cfL_fit HF.out) (Pl.cfL_fit HG.out) (by omega) (by omega) (by omega) (by omega));have HREM:=Lib.hid (gbq hl hl4 (n:=4) hl4 (by omega) HF.out HG.out HF.out.can.lv_nonneg.2 HG.out.can.lv_nonneg.2 (by have:B32=4294967296:=rfl; omega)).1;have HEL:=Lib.hid (fun c hc=>(jap (l:=l) (n:=4) (by omega) (by omega) (jas hl hl4 HG.out HG.out.can.lv_nonneg.2) ((f.cfL l).length - ((g.cfL l).length - 1)) _ _ _ (jas hl hl4 HF.out HF.out.can.lv_nonneg.2) c hc).fit);have HRL:=Lib.hid (ja9 f g hgn);have HRP:Hid (jae l f g=joinL l (yw (g.cfL l) ((f.cfL l).length - ((g.cfL l).length - 1)) (f.cfL l))):=Lib.hid (by unfold jae; rw [if_pos ⟨hl,hl4⟩,hgz]; rfl);have HSS:Hid (∀ W',Ext W W'->(Ext W W'/\(W'.cell? ⟨w.heap.size,0,none⟩=some (.int .i64 f.lv)/\W'.cell? ⟨w.heap.size,1,none⟩=some (.bool f.neg)/\W'.cell? ⟨w.heap.size,2,none⟩=some (.slice A0 n0 c0)/\W'.cell? ⟨w.heap.size,3,none⟩=some (.slice A1 f.cs.length c1))/\(W'.cell? ⟨w.heap.size+1,0,none⟩=some (.int .i64 g.lv)/\W'.cell? ⟨w.heap.size+1,1,none⟩=some (.bool g.neg)/\W'.cell? ⟨w.heap.size+1,2,none⟩=some (.slice B0 m0 d0)/\W'.cell? ⟨w.heap.size+1,3,none⟩=some (.slice B1 g.cs.length d1)))):=Lib.hid fun W' hx=>⟨hx,HB0.out.ext hx (by omega),HB1.out.ext hx (by omega)⟩
 unfold plV at HC0 HC1;have hd:=X1.out.drew;have Y0:=Lib.hid hd;obtain ⟨RA,hRA⟩:∃ RA,yw (g.cfL l) ((f.cfL l).length - ((g.cfL l).length - 1)) (f.cfL l)=RA:=⟨_,rfl⟩;have HELR:=HEL.out;have HRLR:=HRL.out;have HRPR:=HRP.out;rw [hRA] at HELR HRLR HRPR HRED;have HJN:Hid (∀ (W':World) (q:Nat->Prop) (A':Option Addr) (c':Nat),uac W' q (.slice A' RA.length c') RA->Calls Tryz.prog 28 #[.slice A' RA.length c',.int .i64 l] W' (jf (fun b=>W'.heap.size<=b) (jae l f g) W')):=Lib.hid (by
  intro W' q A' c' hrow;have hfe:∀ c ∈ RA,Fit c (E+(E+1) * Eg) (D+(E+1) * (Dg+2)):=fun c hc=>(HELR c hc).mono (by omega) (by omega)
  have hEE:=Nat.mul_le_mul_right Eg (show 1<=E+1 by omega);rw [HRPR];have h2:=hrow.pls;obtain ⟨B,d,e,k1,k2,-⟩:=hrow;injection e with e1 e2 e3
  subst e1 e3;refine jax hl hl4 h2 k1 k2 (xba hfe (by omega) (by omega)) (by have:=ga3 hfe; omega) ?_;rw [<- HRPR]
  exact HREM.out.copy_ (by omega))
 clear hfz x1 b0 b1 b2 b3 hd hK hKE hKD hF0 hG0 HEL HRL HRP HELR HRLR HRPR hRA hlen hgl hgn hE hD;go_upto_region 6 with fail;refine wp_region_held_drew (S:=fun W'=>Ext W W'/\(W'.cell? ⟨w.heap.size,0,none⟩=some (.int .i64 f.lv)/\W'.cell? ⟨w.heap.size,1,none⟩=some (.bool f.neg)/\W'.cell? ⟨w.heap.size,2,none⟩=some (.slice A0 n0 c0)/\W'.cell? ⟨w.heap.size,3,none⟩=some (.slice A1 f.cs.length c1))/\(W'.cell? ⟨w.heap.size+1,0,none⟩=some (.int .i64 g.lv)/\W'.cell? ⟨w.heap.size+1,1,none⟩=some (.bool g.neg)/\W'.cell? ⟨w.heap.size+1,2,none⟩=some (.slice B0 m0 d0)/\W'.cell? ⟨w.heap.size+1,3,none⟩=some (.slice B1 g.cs.length d1))) (by kernel_rfl) (HSS.out _ Y0.out) (fun hHeld=>?_);refine tk 0 ?_ (hy:=Or.inl ⟨by rfl,by intro w' hSw; obtain ⟨-,⟨k1,k2,k3,k4⟩,k5,k6,k7,k8⟩:=hSw; go_simp; (try (with_reducible rfl))⟩);refine tk 1 ?_;refine tk 3 ?_ (hy:=Or.inl ⟨by rfl,by intro w' hSw; obtain ⟨-,⟨k1,k2,k3,k4⟩,k5,k6,k7,k8⟩:=hSw; go_simp; (try (with_reducible rfl))⟩);refine tk 4 ?_;refine wpAnyH_ready (rs:=[2]) (by kernel_rfl) (by simp) ?_;refine AllReadyH.cons rfl (fun K hK=>?_) AllReadyH.nil;go_simp
 go_at_call 49
 refine (HC0.out _ Y0.out).mono ?_;rintro e w4 ⟨v4,rfl,row4,y4⟩;have z1:Ext W w4:=Y0.out.trans y4;refine hK.out _ _ (HSS.out _ z1) (fun hHeld=>?_);clear hK K
 try simp only [Act.put,List.getElem_toArray,List.getElem_cons_zero,List.getElem_cons_succ,List.setIfInBounds_toArray,List.set_cons_zero,List.set_cons_succ]
 refine wpAnyH_ready (rs:=[5]) (by kernel_rfl) (by simp) ?_;refine AllReadyH.cons rfl (fun K hK=>?_) AllReadyH.nil;go_simp
 go_at_call 49
 refine (HC1.out _ z1).mono ?_;rintro e w5 ⟨v5,rfl,row5,y5⟩;have z2:Ext W w5:=z1.trans y5;refine hK.out _ _ (HSS.out _ z2) (fun hHeld=>?_);clear hK K
 try simp only [Act.put,List.getElem_toArray,List.getElem_cons_zero,List.getElem_cons_succ,List.setIfInBounds_toArray,List.set_cons_zero,List.set_cons_succ]
 refine wpAnyH_ready (rs:=[6]) (by kernel_rfl) (by simp) ?_;refine AllReadyH.cons rfl (fun K hK=>?_) AllReadyH.nil;go_simp
 go_at_call 171
 refine (HRED.out _ _ _ _ _ y4 y5 row4 row5).mono ?_;rintro e w6 ⟨v6,v7,rfl,row6,y6⟩;have z3:Ext W w6:=Y0.out.trans y6;refine hK.out _ _ (HSS.out _ z3) (fun hHeld=>?_);clear hK K
 try simp only [Act.put,List.getElem_toArray,List.getElem_cons_zero,List.getElem_cons_succ,List.setIfInBounds_toArray,List.set_cons_zero,List.set_cons_succ]
 refine tk 7 ?_;refine tk 8 ?_;refine tk 9 ?_;refine tk 10 ?_;refine tk 11 ?_;refine wpAnyH_done (by kernel_rfl) ?_ _;obtain ⟨A',c',rfl,k1,k2,k3⟩:=id row6;have HJ:=Lib.hid (HJN.out _ _ _ _ row6);have Z3:=Lib.hid (HX.out.trans z3);have HZ3:=Lib.hid (HZ.out.ext z3 (by omega));have hs3:w.heap.size+1+1 < w6.heap.size:=by have:=z3.size; omega
 obtain ⟨X,hX⟩:∃ X,jae l f g=X:=⟨_,rfl⟩;rw [hX] at HJ;have HXX:=Lib.hid hX;clear hX hHeld k3 row4 row5 row6 y4 y5 y6 HC0 HC1 HRED HJN z1 z2 z3 HSS HREM;go_wp2_with fail;refine HJ.out.mono ?_;rintro e w7 ⟨v8,rfl,m2,x2⟩;obtain ⟨D0,dn0,dc0,D1,dc1,rfl,-⟩:=id m2.open_;have hzn:=HZ3.out.ext x2 hs3;have HFI:=Lib.hid (yg (q':=fun b=>w.heap.size<=b) (Z3.out.trans x2) (by omega) hzn m2 (fun b _ hb=>⟨by omega,by omega⟩));obtain ⟨⟨z0,z1,z2,z3⟩,zf⟩:=hzn;clear m2 x2 HJ;unfold plV;go_wp2_with fail;obtain ⟨v9,e9,k3,k4⟩:=HFI.out;injection e9 with e9
 subst e9;exact bodyPost_ret (v:=.tuple #[plV X (.slice D0 dn0 dc0) (.slice D1 X.cs.length dc1),.int .i64 0]) (by simp [results,Tryz.results163,go_sem,z0,z1,z2,z3,plV]) rfl (by rw [HXX.out]; exact ⟨_,rfl,k3,k4⟩)
/- Plain: exact division, as pseudo.exact does it: it finds the quotient exactly if there is one. -/
theorem vbc (x a : Rat) : ∀ L : List Rat, hsum x (L ++ [a]) = hsum x L + x ^ L.length * a
 | []=>by simp only [List.nil_append,hsum,List.length_nil,Rat.pow_zero]; grind
 | b :: r=>by rw [List.cons_append,hsum,hsum,vbc x a r,List.length_cons,Rat.pow_succ]; grind
theorem xbv (ρ:Int->Rat) (l:Int) (L:List Pl) (m:Nat) (h:m < L.length):ve ρ l (L.take (m+1))=ve ρ l (L.take m)+ρ l ^ m * (L.getD m Pl.zero).val ρ:=by
 rw [uaa,uaa,List.take_succ_eq_append_getElem h,List.map_append,List.map_cons,List.map_nil,vbc,List.length_map,List.length_take,List.getD_eq_getElem?_getD,List.getElem?_eq_getElem h,Nat.min_eq_left (by omega)]
 rfl
/- Layer 41, plain: the reducta of a polynomial. -/
def uo (l : Int) : Nat -> Pl -> List Pl
 | 0,_=>[]
 | n+1,r=>if 0 < mdg l r then r :: (if (ul l r).lv=0 then [] else uo l n (jy l r)) else []
def xai (l : Int) : Nat -> Pl -> Bool
 | 0,_=>false
 | n+1,r=>if 0 < mdg l r then (if (ul l r).lv=0 then true else xai l n (jy l r)) else false
def xh (l:Int) (f:Pl):List Pl:=uo l (mdg l f).toNat f
def yag (l:Int) (f:Pl):Bool:=xai l (mdg l f).toNat f
theorem xae {l:Int} {n:Nat} {r:Pl} (h:¬ 0 < mdg l r):uo l n r=[]:=by cases n <;> simp [uo,h]
theorem ubn {l:Int} {n:Nat} {r:Pl} (h:¬ 0 < mdg l r):xai l n r=false:=by cases n <;> simp [xai,h]
theorem jac {l:Int} {n:Nat} {r:Pl} (h:0 < mdg l r):uo l (n+1) r=r :: (if (ul l r).lv=0 then [] else uo l n (jy l r)):=by rw [uo,if_pos h]
theorem ya0 {l:Int} {n:Nat} {r:Pl} (h:0 < mdg l r):xai l (n+1) r=if (ul l r).lv=0 then true else xai l n (jy l r):=by rw [xai,if_pos h]
theorem xbh {l:Int} (hl:1<=l) (hl4:l<=4) {r:Pl} (h:r.Can) (h0:0 < mdg l r):mdg l (jy l r) < mdg l r:=by
 have:=xbc (l:=l) hl hl4 (cs:=(r.cfL l).dropLast) (fun c hc=>jay h c (List.dropLast_subset _ hc)) (fun c hc=>qah hl hl4 h c (List.dropLast_subset _ hc));rw [List.length_dropLast] at this;unfold jy;unfold mdg at h0 ⊢;unfold mdg at this;omega
theorem qa5 {l : Int} {P : Nat -> Pl -> Prop} (hs : ∀ n r, P (n + 1) r -> 0 < mdg l r -> (ul l r).lv ≠ 0 -> P n (jy l r)) : ∀ (n : Nat) (r : Pl), P n r -> ∀ c ∈ uo l n r, ∃ m, m < n /\ P (m + 1) c /\ 0 < mdg l c
 | 0,_,_,_,hc=>by simp [uo] at hc
 | n+1,r,h,c,hc=>by
   by_cases h0:0 < mdg l r
   · rw [jac h0,List.mem_cons] at hc;rcases hc with rfl | hc
     · exact ⟨n,by omega,h,h0⟩
     · by_cases h1:(ul l r).lv=0
       · rw [if_pos h1] at hc; cases hc
       · rw [if_neg h1] at hc;obtain ⟨m,h2,h3,h4⟩:=qa5 hs n _ (hs n r h h0 h1) c hc;exact ⟨m,by omega,h3,h4⟩
   · rw [xae h0] at hc; cases hc
theorem xa5 {l:Int} {f:Pl} {E D n:Nat} (h:Fit f E D) (hE:E < B32):∀ c ∈ uo l n f,Fit c E (D+n)/\0 < mdg l c:=fun c hc=>by
 obtain ⟨m,hm,hf,h0⟩:=qa5 (P:=fun k r=>k<=n/\Fit r E (D+(n - k))) (fun k r ⟨h1,h2⟩ _ _=>⟨by omega,(kat h2 hE).mono (Nat.le_refl _) (by omega)⟩) n f ⟨Nat.le_refl _,h.mono (Nat.le_refl _) (by omega)⟩ c hc;exact ⟨hf.2.mono (Nat.le_refl _) (by omega),h0⟩
theorem ja5 {l : Int} : ∀ (n : Nat) (r : Pl) (i : Nat) (h : i + 1 < (uo l n r).length), (uo l n r)[i + 1] = jy l ((uo l n r)[i]'(by omega)) /\ (ul l ((uo l n r)[i]'(by omega))).lv ≠ 0
 | 0,_,i,h=>by simp [uo] at h
 | n+1,r,i,h=>by
   by_cases h0:0 < mdg l r
   · have e:=jac (n:=n) h0
     by_cases h1:(ul l r).lv=0
     · rw [if_pos h1] at e; simp [e] at h
     · rw [if_neg h1] at e;cases i with
       | zero =>
         have hn:0 < (uo l n (jy l r)).length:=by simp [e] at h; omega
         have:(uo l n (jy l r))[0]=jy l r:=by
          cases n with
          | zero=>simp [uo] at hn
          | succ n =>
            by_cases h2:0 < mdg l (jy l r)
            · simp [jac h2]
            · rw [xae h2] at hn; simp at hn
         simp only [e,List.getElem_cons_succ,List.getElem_cons_zero];exact ⟨this,h1⟩
       | succ i =>
         have hn:i+1 < (uo l n (jy l r)).length:=by simp [e] at h; omega
         have:=ja5 n (jy l r) i hn;simp only [e,List.getElem_cons_succ];exact this
   · rw [xae h0] at h; simp at h
theorem yai {l : Int} : ∀ (n : Nat) (r : Pl), (uo l n r).length <= n
 | 0,_=>by simp [uo]
 | n+1,r=>by
   rw [uo]
   split
   · rw [List.length_cons]
     split
     · simp
     · have:=yai (l:=l) n (jy l r); omega
   · simp
theorem yb0 {l:Int} {f:Pl}:(xh l f).length=0 ↔ mdg l f < 1:=by
 unfold xh
 constructor
 · intro h
   by_cases h0:0 < mdg l f
   · obtain ⟨n,hn⟩:∃ n,(mdg l f).toNat=n+1:=⟨(mdg l f).toNat - 1,by omega⟩;rw [hn,jac h0] at h; simp at h
   · omega
 · intro h;rw [xae (by omega)]; rfl
theorem Pl.var_val' (ρ:Int->Rat) {n:Int} (h1:1<=n) (h4:n<=4):(Pl.var n).val ρ=ρ n:=by
 rw [Pl.var,if_pos ⟨h1,h4⟩,Pl.val,if_neg (by omega)];simp only [ve,Pl.zero_val,Pl.const_val]
 grind
theorem yb9 {l:Int} (hl:1<=l) (hl4:l<=4) {r:Pl} (h:r.Can) (h0:0<=mdg l r):(jy l r).add ((ul l r).mul ((Pl.var l).pow (mdg l r).toNat))=r:=Pl.val_uniq (Pl.add_can _ _) h fun ρ=>by
 have hn:0 < (r.cfL l).length:=by unfold mdg at h0; omega
 have hm:(mdg l r).toNat=(r.cfL l).length - 1:=by unfold mdg; omega
 have ht:=xbv ρ l (r.cfL l) ((r.cfL l).length - 1) (by omega);rw [Nat.sub_add_cancel hn,List.take_length] at ht;rw [Pl.add_val,Pl.mul_val,Pl.pow_val,Pl.var_val' ρ hl hl4,hm];have hj:(jy l r).val ρ=ve ρ l ((r.cfL l).take ((r.cfL l).length - 1)):=by
  unfold jy; rw [gag hl hl4,List.dropLast_eq_take]
 rw [hj];have hc:=(Pl.cfL_coefs hl hl4 h).val ρ;unfold ul;rw [<- hc,ht]
 grind
/- Layer 25, plain: the principal subresultant coefficients of polynomials of degree 2 at most. -/
theorem Pl.opp_zero:Pl.zero.opp=Pl.zero:=Pl.val_uniq (Pl.opp_can _) Pl.zero_can fun ρ=>by rw [Pl.opp_val,Pl.zero_val]; grind
def zu (l:Int) (f g:Pl):Pl:=jae l f g.opp
def wcn (l:Int) (f g:Pl):Pl:=
 ((uq l 0 (zu l f g)).mul (uq l 0 (zu l f g))).sub ((uq l 1 (zu l f g)).mul (((uq l 1 f).mul (uq l 0 g)).sub ((uq l 0 f).mul (uq l 1 g))))
def xaa (l:Int) (f g:Pl):List Pl:=
 if mdg l f<=0\/mdg l g<=0 then [] else if mdg l g=1 then [uq l 0 (zu l f g)] else if mdg l f=1 then [uq l 0 (zu l g f)] else [wcn l f g,uq l 1 (zu l f g)]
theorem xat (l:Int) (f g:Pl):(zu l f g).Can:=zb9 _ _ _
theorem kbr {l:Int} (hl:1<=l) (hl4:l<=4) {g:Pl} (hg:g.Can):g.opp.cfL l=(g.cfL l).map Pl.opp:=by
 refine (Pl.cfL_coefs hl hl4 (Pl.opp_can g)).uniq ⟨fun c hc=>?_,fun c hc=>?_,fun ρ=>?_,?_⟩
 · obtain ⟨d,-,rfl⟩:=List.mem_map.1 hc; exact Pl.opp_can d
 · obtain ⟨d,hd,rfl⟩:=List.mem_map.1 hc; exact (qah hl hl4 hg d hd).opp
 · have h1:=(Pl.cfL_coefs hl hl4 hg).val ρ;have h2:∀ L:List Pl,ve ρ l (L.map Pl.opp)=-ve ρ l L:=by
    intro L
    induction L with
    | nil=>simp [ve]
    | cons c r ih=>simp only [List.map_cons,ve,ih,Pl.opp_val]; grind
   rw [h2,h1,Pl.opp_val]
 · intro h;rw [List.getLast?_map] at h;cases hL:(g.cfL l).getLast? with
   | none=>rw [hL] at h; cases h
   | some c =>
     rw [hL] at h;injection h with h
     have hc:c=Pl.zero:=by rw [<- Pl.opp_opp (jay hg c (List.mem_of_getLast? hL)),h,Pl.opp_zero]
     exact (Pl.cfL_coefs hl hl4 hg).last (by rw [hL,hc])
theorem jbr {l:Int} (hl:1<=l) (hl4:l<=4) {g:Pl} (hg:g.Can):mdg l g.opp=mdg l g:=by
 unfold mdg; rw [kbr hl hl4 hg,List.length_map]
theorem vbf {l:Int} (hl:1<=l) (hl4:l<=4) {f g:Pl} (hf:f.Can) (hg:g.Can) (hg0:g ≠ Pl.zero):mdg l (zu l f g) < mdg l g:=by
 have h1:g.opp ≠ Pl.zero:=fun e=>hg0 (by rw [<- Pl.opp_opp hg,e]; exact Pl.opp_zero)
 have:=wb8 hl hl4 hf (Pl.opp_can g) h1;rw [jbr hl hl4 hg] at this;exact this
theorem jar {l:Int} {p:Pl} (h:0<=mdg l p):p ≠ Pl.zero:=fun e=>by
 rw [e] at h;unfold mdg at h;rw [Pl.cfL_zero] at h;simp at h
theorem ua2 {l:Int} (hl:1<=l) (hl4:l<=4) {f g:Pl} {E D F G:Nat} (hf:Fit f E D) (hg:Fit g F G) (hF:F < B32):Fit (zu l f g) (E+(E+1) * F+F) (D+(E+1) * (G+3)+1):=
 (gbq hl hl4 (n:=4) hl4 (by omega) hf hg.opp hf.can.lv_nonneg.2 (Pl.opp_can g).lv_nonneg.2 hF).1
theorem ybx {l:Int} (hl:1<=l) (hl4:l<=4) {p:Pl} (h:p.Can) (h0:mdg l p<=0):uq l 0 p=p:=by
 unfold uq;rw [if_neg (by omega)];refine Pl.val_uniq (ycc (jay h) _) h fun ρ=>?_
 have hv:=(Pl.cfL_coefs hl hl4 h).val ρ;have hlen:(p.cfL l).length<=1:=by unfold mdg at h0; omega
 rcases hL:p.cfL l with _ | ⟨c,_ | ⟨d,r⟩⟩
 · rw [hL] at hv; simp only [ve] at hv; rw [<- hv]; simp [Pl.zero_val]
 · rw [hL] at hv; simp only [ve] at hv; rw [<- hv]; simp only [Int.toNat_zero,List.getD_cons_zero]; grind
 · rw [hL] at hlen; simp at hlen
end Go.Proofs.YtklnlgnnlmdibaaGreat
