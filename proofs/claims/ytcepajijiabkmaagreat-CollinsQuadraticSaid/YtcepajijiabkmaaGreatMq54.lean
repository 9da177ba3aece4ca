/- Law 41: List. -/
import Derived.Test.YtcepajijiabkmaaGreatMq52
import Derived.Test.YtcepajijiabkmaaGreatMq53
import Derived.Test.YtcepajijiabkmaaGreatFitW
set_option linter.unusedSimpArgs false
set_option linter.unusedVariables false
namespace Go.Proofs.YtcepajijiabkmaaGreat
open Lib (hid)
open Go.RowKit
set_option maxRecDepth 100000
set_option maxHeartbeats 8000000
theorem zbd {w:World} {a b c:List gag} (va vb vc:Value) (ha:kaj w va a) (hb:kaj w vb b) (hc:kaj w vc c):Calls Tryz.prog 3 #[va,vb,vc] w (wam true w):=by
 have HA:=hid ha;have HB:=hid hb;have HC:=hid hc;obtain ⟨DA,ca,rfl,-⟩:=ha;obtain ⟨DB,cb,rfl,-⟩:=hb;obtain ⟨DC,cc,rfl,-⟩:=hc;go_enter Tryz.func3,Tryz.ntmps3;go_wp2_with fail;refine (jcl w).mono ?_;rintro e w0 ⟨rfl,x0⟩;have X0:=hid x0;clear x0;go_wp2_with fail;refine (va5 4 3 (HA.out.ext X0.out)).mono ?_;rintro e w1 ⟨ba,rfl,ha,x1⟩;have X1:=hid (X0.out.trans x1);clear x1;cases ba with
 | false =>
   clear ha;go_wp2_with fail;go_ret;exact ⟨rfl,X1.out⟩
 | true =>
   obtain ⟨na,fa⟩:=ha rfl;have Fa:=hid (And.intro na fa);clear ha na fa;go_wp2_with fail;refine (va5 4 3 (HB.out.ext X1.out)).mono ?_;rintro e w2 ⟨bb,rfl,hb,x2⟩;have X2:=hid (X1.out.trans x2);clear x2;cases bb with
   | false =>
     clear hb;go_wp2_with fail;go_ret;exact ⟨rfl,X2.out⟩
   | true =>
     obtain ⟨nb,fb⟩:=hb rfl;have Fb:=hid (And.intro nb fb);clear hb nb fb;go_wp2_with fail;refine (va5 3 2 (HC.out.ext X2.out)).mono ?_;rintro e w3 ⟨bc,rfl,hc,x3⟩;have X3:=hid (X2.out.trans x3);clear x3;cases bc with
     | false =>
       clear hc;go_wp2_with fail;go_ret;exact ⟨rfl,X3.out⟩
     | true =>
       obtain ⟨nc,fc⟩:=hc rfl;have Fc:=hid (And.intro nc fc);clear hc nc fc;go_wp2_with fail;refine (ja5 (n:=4) (d:=4) (e:=3) (HA.out.ext X3.out) Fa.out.2 Fa.out.1 (by omega) (by omega) (by omega) (by omega)).mono ?_;rintro e w4 ⟨rfl,x4⟩;have X4:=hid (X3.out.trans x4);clear x4
       by_cases la:yaa (jf (yx a))=4
       · rw [la];go_wp2_with fail;go_ret;exact ⟨rfl,X4.out⟩
       have La:=hid (kbj la);generalize yaa (jf (yx a))=ya at la ⊢;have da:(ya == 4)=false:=by simpa using la
       clear la;go_wp2_with fail;refine (ja5 (n:=4) (d:=4) (e:=3) (HB.out.ext X4.out) Fb.out.2 Fb.out.1 (by omega) (by omega) (by omega) (by omega)).mono ?_;rintro e w5 ⟨rfl,x5⟩;have X5:=hid (X4.out.trans x5);clear x5
       by_cases lb:yaa (jf (yx b))=4
       · rw [lb];go_wp2_with fail;go_ret;exact ⟨rfl,X5.out⟩
       have Lb:=hid (kbj lb);generalize yaa (jf (yx b))=yb at lb ⊢;have db:(yb == 4)=false:=by simpa using lb
       clear lb;go_wp2_with fail;refine (ja5 (n:=3) (d:=4) (e:=2) (HC.out.ext X5.out) Fc.out.2 Fc.out.1 (by omega) (by omega) (by omega) (by omega)).mono ?_;rintro e w6 ⟨rfl,x6⟩;have X6:=hid (X5.out.trans x6);clear x6
       by_cases lc:yaa (jf (yx c))=4
       · rw [lc];go_wp2_with fail;go_ret;exact ⟨rfl,X6.out⟩
       have Lc:=hid (kbj lc);generalize yaa (jf (yx c))=yc at lc ⊢;have dc:(yc == 4)=false:=by simpa using lc
       clear lc;go_wp2_with fail;clear da db dc;refine (wa4 (n:=4) (d:=4) (E:=3) _ (HA.out.ext X6.out) Fa.out.2 Fa.out.1 (by omega) (by omega) (by omega)).mono ?_;rintro e w7 ⟨va,rfl,pa,x7⟩;have Ka:Hid (Fit (Pl.ofS (yx a)) 3 5):=hid ((vax (n:=4) (d:=4) (E:=3) HA.out.dig Fa.out.2 Fa.out.1 (by omega)).1.mono (by omega) (by omega));obtain ⟨P,hPa⟩:=n_m (Pl.ofS (yx a));rw [hPa] at pa Ka La;obtain ⟨Aa,ma,ea,Ba,ga,rfl,-⟩:=id pa.open_;have Pa:=hid pa;have x7':=hid x7;have X7:=hid (X6.out.trans x7);clear x7 pa Fa HA hPa;unfold plV;go_wp2_with fail;refine (wa4 (n:=4) (d:=4) (E:=3) _ (HB.out.ext X7.out) Fb.out.2 Fb.out.1 (by omega) (by omega) (by omega)).mono ?_;rintro e w8 ⟨vb,rfl,pb,x8⟩;have Kb:Hid (Fit (Pl.ofS (yx b)) 3 5):=hid ((vax (n:=4) (d:=4) (E:=3) HB.out.dig Fb.out.2 Fb.out.1 (by omega)).1.mono (by omega) (by omega));obtain ⟨Q,hPb⟩:=n_m (Pl.ofS (yx b));rw [hPb] at pb Kb Lb;obtain ⟨Ab,mb,eb,Bb,gb,rfl,-⟩:=id pb.open_;have Pb:=hid pb;have x8':=hid x8;have X8:=hid (X7.out.trans x8);clear x8 pb Fb HB hPb;unfold plV;go_wp2_with fail;refine (wa4 (n:=3) (d:=4) (E:=2) _ (HC.out.ext X8.out) Fc.out.2 Fc.out.1 (by omega) (by omega) (by omega)).mono ?_;rintro e w9 ⟨vc,rfl,pc,x9⟩;have Kc:Hid (Fit (Pl.ofS (yx c)) 3 5):=hid ((vax (n:=3) (d:=4) (E:=2) HC.out.dig Fc.out.2 Fc.out.1 (by omega)).1.mono (by omega) (by omega));obtain ⟨R,hPc⟩:=n_m (Pl.ofS (yx c));rw [hPc] at pc Kc Lc;obtain ⟨Ac,mc,ec,Bc,gc,rfl,-⟩:=id pc.open_;have Pc:=hid pc;have MZ:=hid x9;have X9:=hid (X8.out.trans x9);clear x9 pc Fc HC hPc;unfold plV;go_wp2_with fail;have sab:=x8'.out;have VD:=MZ.out;obtain ⟨o,ho⟩:=n_m (w9.heap.size);obtain ⟨V,hV⟩:=n_m ((((w9.alloc (.cells #[.int .i64 P.lv,.bool P.neg,.slice Aa ma ea,.slice Ba P.cs.length ga] 33)).alloc (.cells #[.int .i64 Q.lv,.bool Q.neg,.slice Ab mb eb,.slice Bb Q.cs.length gb] 33)).alloc (.cells #[.int .i64 R.lv,.bool R.neg,.slice Ac mc ec,.slice Bc R.cs.length gc] 33)));have di:Ext w9 V:=by rw [<- hV]; exact (((Ext.refl w9).alloc _).alloc _).alloc _
       have sV:V.heap.size=o+1+1+1:=by rw [<- hV]; simp [ho]
       have eY:Hid (∀ W',Ext V W'->jc W' o P (.slice Aa ma ea) (.slice Ba P.cs.length ga)/\jc W' (o+1) Q (.slice Ab mb eb) (.slice Bb Q.cs.length gb)/\jc W' (o+1+1) R (.slice Ac mc ec) (.slice Bc R.cs.length gc)):=hid (fun W' hx=>by
        have h1:=((jc.new w9 P (.slice Aa ma ea) (.slice Ba P.cs.length ga) 33).ext ((Ext.refl _).alloc (.cells #[.int .i64 Q.lv,.bool Q.neg,.slice Ab mb eb,.slice Bb Q.cs.length gb] 33)) (by simp)).ext ((Ext.refl _).alloc (.cells #[.int .i64 R.lv,.bool R.neg,.slice Ac mc ec,.slice Bc R.cs.length gc] 33)) (by simp; omega);have h2:=(jc.new (w9.alloc (.cells #[.int .i64 P.lv,.bool P.neg,.slice Aa ma ea,.slice Ba P.cs.length ga] 33)) Q (.slice Ab mb eb) (.slice Bb Q.cs.length gb) 33).ext ((Ext.refl _).alloc (.cells #[.int .i64 R.lv,.bool R.neg,.slice Ac mc ec,.slice Bc R.cs.length gc] 33)) (by simp);have h3:=jc.new ((w9.alloc (.cells #[.int .i64 P.lv,.bool P.neg,.slice Aa ma ea,.slice Ba P.cs.length ga] 33)).alloc (.cells #[.int .i64 Q.lv,.bool Q.neg,.slice Ab mb eb,.slice Bb Q.cs.length gb] 33)) R (.slice Ac mc ec) (.slice Bc R.cs.length gc) 33;rw [hV] at h1 h2 h3;simp only [World.size_alloc,ho] at h1 h2 h3
        exact ⟨h1.ext hx (by omega),h2.ext hx (by omega),h3.ext hx (by omega)⟩)
       have jP:Hid (PlV V (fun b=>b < o) P (plV P (.slice Aa ma ea) (.slice Ba P.cs.length ga))/\PlV V (fun b=>b < o) Q (plV Q (.slice Ab mb eb) (.slice Bb Q.cs.length gb))/\PlV V (fun b=>b < o) R (plV R (.slice Ac mc ec) (.slice Bc R.cs.length gc))):=
        hid ⟨((Pa.out.ext (sab.trans VD)).below_.ext di).mono (fun b hb=>by have:=hb.2; omega),((Pb.out.ext VD).below_.ext di).mono (fun b hb=>by have:=hb.2; omega),(Pc.out.below_.ext di).mono (fun b hb=>by have:=hb.2; omega)⟩
       have XV:=hid (X9.out.trans di);rw [hV]
       try rw [ho]
       have HO:=hid ho;clear hV ho di sab VD Pa Pb Pc X0 X1 X2 X3 X4 X5 X6 X7 X8 X9 x7' x8' MZ;refine (of_int 1 V (by omega) (by omega)).mono ?_;rintro e w10 ⟨v3,rfl,i3,x10⟩;have eP:=hid (waq (L:=1) v3 (by obtain ⟨y,rfl,hy⟩:=i3; exact gak hy (ve (by decide))) (by omega));obtain ⟨bi,Bi,ni,ci,rfl⟩:=i3.unpack;have qU:=hid x10;clear i3 x10;go_wp2_with fail;obtain ⟨O,hO⟩:=n_m (Pl.const 1);rw [hO] at eP;have Gw:=hid hO;clear hO;refine eP.out.mono ?_;rintro e TD ⟨v4,rfl,p4,x11⟩;obtain ⟨Ao,mo,eo,Bo,go,rfl,-⟩:=id p4.open_;obtain ⟨s,hs⟩:=n_m (TD.heap.size);obtain ⟨U,hU⟩:=n_m ((TD.alloc (.cells #[.int .i64 O.lv,.bool O.neg,.slice Ao mo eo,.slice Bo O.cs.length go] 33)));have hxU:Ext V U:=by rw [<- hU]; exact (qU.out.trans x11).alloc _
       have sU:U.heap.size=s+1:=by rw [<- hU]; simp [hs]
       have hsV:V.heap.size<=s:=by rw [<- hs]; exact (qU.out.trans x11).size
       have bO:jc U s O (.slice Ao mo eo) (.slice Bo O.cs.length go):=by rw [<- hU,<- hs]; exact jc.new TD O _ _ _
       have pO:PlV U (fun b=>b < s) O (plV O (.slice Ao mo eo) (.slice Bo O.cs.length go)):=(p4.below_.ext (by rw [<- hU]; exact (Ext.refl TD).alloc _)).mono (fun b hb=>by have:=hb.2; omega);obtain ⟨⟨a0,a1,a2,a3⟩,⟨b0,b1,b2,b3⟩,⟨c0,c1,c2,c3⟩⟩:=eY.out U hxU;obtain ⟨d0,d1,d2,d3⟩:=bO;have Gg:=hid hxU;have HPO:=hid pO;have KO:Hid (Fit O 3 5):=hid (by rw [<- Gw.out]; exact (Fit.const (by decide):Fit (Pl.const 1) 3 1).mono (by omega) (by omega));clear p4 x11 eP hxU pO qU;unfold plV;go_wp2_with fail;clear a0 a1 a2 a3 b0 b1 b2 b3 c0 c1 c2 c3 d0 d1 d2 d3 hU
       try rw [hs]
       have fH:=hid (And.intro Ka.out.can La.out);have JQ:=hid (And.intro Kb.out.can Lb.out);have xX:=hid (And.intro Kc.out.can Lc.out);have ZY:Hid ((O.Can/\O.lv < 4)/\O ≠ Pl.zero):=hid (by rw [<- Gw.out]; exact ⟨gat 1,fun h=>by have:=congrArg (fun p=>Pl.val (fun _=>0) p) h; simp only [Pl.const_val,Pl.zero_val] at this; revert this; decide⟩);have hj:=wb5 (h:=O) (f:=P) (g:=Q) ZY.out.1 fH.out JQ.out KO.out Ka.out Kb.out (gbl (jP.out.2.1.ext Gg.out) (jP.out.1.ext Gg.out) HPO.out 33) (c:=3) (by omega) (by omega);rw [sU] at hj;refine hj.mono ?_;clear hj;rintro e w12 ⟨v5,rfl,p5,x12⟩;obtain ⟨F,hF⟩:=n_m (qdF O P Q);rw [hF] at p5;obtain ⟨Af,mf,ef,Bf,gf,rfl,-⟩:=id p5.open_;have Jw:Hid (Ext U w12):=hid (((Ext.refl U).alloc _).trans x12);have P5:=hid p5;have Vq:=hid hF;have nV:=hid (wa8 (h:=O) (f:=P) (g:=Q) ZY.out.1 fH.out JQ.out KO.out Ka.out Kb.out ZY.out.2 (A:=some ⟨w12.heap.size,0,none⟩) (c:=1) (by rw [hF]; exact gax p5 33) (by omega) (by omega));rw [hF] at nV;clear x12 p5 hF;unfold plV;go_wp2_with fail;refine nV.out.mono ?_;rintro e iZ ⟨v6,rfl,⟨D6,c6,rfl,BU,yJ,hq⟩,x13⟩;have X13:Hid (Ext U iZ):=hid ((Jw.out.alloc _).trans x13);have HQ:=hid hq;clear x13 hq nV P5 Jw;have qR:=hid (Gg.out.trans X13.out);have yX:=hid (jP.out.1.ext qR.out);have JR:=hid (jP.out.2.1.ext qR.out);have Eo:=hid (fun (W':World) (hx:Ext iZ W')=>kak (E:=3) (D:=5) (F:=3) (G:=5) _ _ (yX.out.ext hx) (yX.out.ext hx) Ka.out Ka.out (by omega) (by omega));have qX:=hid (fun (W':World) (v:Value) (hx:Ext iZ W') (hv:vk W' v 4)=>zar (L:=1) (E:=3) (D:=5) _ v (JR.out.ext hx) (by obtain ⟨y,rfl,hy⟩:=hv; exact gak hy (ve (by decide))) (fun W2 aO=>by rw [Pl.nf_of_can Kb.out.can]; exact jo _ (JR.out.ext (hx.trans aO)) Kb.out.can) (by rw [Pl.nf_of_can Kb.out.can]; exact Kb.out) (by omega) (by omega));rw [Pl.nf_of_can Kb.out.can] at qX;have vT:=hid (fun (W':World) (u v:Value) (q q':Nat->Prop) (hu:PlV W' q (P.mul P) u) (hv:PlV W' q' (Q.mul (Pl.const 4)) v)=>kao (E:=6) (D:=12) u v hu hv ((Ka.out.mul Ka.out).mono (by omega) (by omega)) ((Kb.out.mul (Fit.const (by decide):Fit (Pl.const 4) 3 1)).mono (by omega) (by omega)) (by omega) (by omega));obtain ⟨d,hd⟩:=n_m ((P.mul P).add (Q.mul (Pl.const 4)).opp);rw [hd] at vT;have HDE:=hid hd;have U7:Hid (∀ W',Ext iZ W'->(jc W' o P (.slice Aa ma ea) (.slice Ba P.cs.length ga)/\jc W' (o+1) Q (.slice Ab mb eb) (.slice Bb Q.cs.length gb))):=hid (fun W' hx=>⟨(eY.out W' (qR.out.trans hx)).1,(eY.out W' (qR.out.trans hx)).2.1⟩);unfold plV at Eo qX;clear hd;go_upto_region 8 with fail
       go_cut [13] from 65 to 71 (fun s13 wc=>∃ wI,s13=.pointer (some ⟨wI,0,none⟩)/\Hid (Ext iZ wc/\iZ.heap.size<=wI/\PBx wc (fun b=>iZ.heap.size<=b) wI d))
       case first =>
        have y0:Ext iZ iZ.drew:=(Ext.refl iZ).drew;refine wp_region_held_drew (S:=fun W'=>Ext iZ W') (by kernel_rfl) y0 (fun hHeld=>?_);refine tk 0 ?_ (hy:=Or.inl ⟨by rfl,by intro w' aZ; obtain ⟨⟨k0,k1,k2,k3⟩,-⟩:=U7.out w' aZ; go_simp; (try (with_reducible rfl))⟩);refine tk 1 ?_ (hy:=Or.inl ⟨by rfl,by intro w' aZ; obtain ⟨⟨k0,k1,k2,k3⟩,-⟩:=U7.out w' aZ; go_simp; (try (with_reducible rfl))⟩);refine tk 3 ?_ (hy:=Or.inl ⟨by rfl,by intro w' aZ; obtain ⟨-,k0,k1,k2,k3⟩:=U7.out w' aZ; go_simp; (try (with_reducible rfl))⟩);refine r_2 2 7 (fun K hK=>?q20x2) fun K hK=>?q20x7
        case' q20x2 =>
         go_simp
         go_at_call 15
         refine (Eo.out _ y0).mono ?_;rintro e z2 ⟨v2,rfl,m2,x2⟩;have ya:=y0.trans x2;refine k_t hK ya fun hHeld=>?_
         clear hK K;refine r_2 4 7 (fun K hK=>?q40x4) fun K hK=>?q40x7
         case' q40x4 =>
          go_simp
          go_at_call 11
          refine (of_int 4 _ (by omega) (by omega)).mono ?_;rintro e z4 ⟨v4,rfl,i4,x4⟩;have yb:=ya.trans x4;have m2:=m2.ext x4;refine k_t hK yb fun hHeld=>?_
          clear hK K;refine r_2 5 7 (fun K hK=>?q50x5) fun K hK=>?q50x7
          case' q50x5 =>
           go_simp
           go_at_call 16
           refine (qX.out _ _ yb i4).mono ?_;rintro e z5 ⟨v5,rfl,m5,x5⟩;have yc:=yb.trans x5;have m2:=m2.ext x5;refine k_t hK yc fun hHeld=>?_
           clear hK K;refine r_2 6 7 (fun K hK=>?q60x6) fun K hK=>?q60x7
           case' q60x6 =>
            go_simp
            go_at_call 14
            refine (vT.out _ _ _ _ _ m2 m5).mono ?_;rintro e z6 ⟨v6,rfl,hp,x6⟩;have yd:=yc.trans x6;obtain ⟨F0,j4,k4,F1,k5,rfl,-⟩:=id hp.open_;unfold plV;refine k_t hK yd fun hHeld=>?_
            clear hK K;have hp:PlV z6 (fun b=>iZ.heap.size<=b) d _:=hp.mono fun b hb=>by have:=yc.size; omega
            refine r_1 7 fun K hK=>?_
            go_simp;obtain ⟨V,oz,hV,ho,hz,yA,mM,uI,pU,ry⟩:=z_b yd
            try rw [hV]
            try rw [ho]
            refine k_t hK yA fun hHeld=>?_
            clear hK K hV ho;have hp:PlV V (fun b=>iZ.heap.size<=b/\b ≠ oz) d _:=(hp.below_.ext ry).mono fun b hb=>by have:=hb.1; have:=hb.2; have:=pU.out; constructor <;> omega
            have yE:=yA;have rC:=hz;have oU:=hp
           case' q60x7 =>
            go_simp;obtain ⟨V,oz,hV,ho,hz,yA,mM,uI,pU,ry⟩:=z_b yc
            try rw [hV]
            try rw [ho]
            refine k_t hK yA fun hHeld=>?_
            clear hK K hV ho;have m2:=m2.ext ry;have m5:=m5.ext ry;refine r_1 6 fun K hK=>?_
            go_simp
            go_at_call 14
            refine (vT.out _ _ _ _ _ m2 m5).mono ?_;rintro e z6 ⟨v6,rfl,hp,x6⟩;have yd:=yA.trans x6;obtain ⟨F0,j4,k4,F1,k5,rfl,-⟩:=id hp.open_;unfold plV;refine k_t hK yd fun hHeld=>?_
            clear hK K;have hp:PlV z6 (fun b=>iZ.heap.size<=b/\b ≠ oz) d _:=hp.mono fun b hb=>by have:=yA.size; have:=hz.1; constructor <;> omega
            have hz:=hz.ext x6;have yE:=yd;have rC:=hz;have oU:=hp
          case' q50x7 =>
           go_simp;obtain ⟨V,oz,hV,ho,hz,yA,mM,uI,pU,ry⟩:=z_b yb
           try rw [hV]
           try rw [ho]
           refine k_t hK yA fun hHeld=>?_
           clear hK K hV ho;have m2:=m2.ext ry;have i4:=i4.ext ry;refine r_1 5 fun K hK=>?_
           go_simp
           go_at_call 16
           refine (qX.out _ _ yA i4).mono ?_;rintro e z5 ⟨v5,rfl,m5,x5⟩;have yc:=yA.trans x5;have m2:=m2.ext x5;refine k_t hK yc fun hHeld=>?_
           clear hK K;have hz:=hz.ext x5;refine r_1 6 fun K hK=>?_
           go_simp
           go_at_call 14
           refine (vT.out _ _ _ _ _ m2 m5).mono ?_;rintro e z6 ⟨v6,rfl,hp,x6⟩;have yd:=yc.trans x6;obtain ⟨F0,j4,k4,F1,k5,rfl,-⟩:=id hp.open_;unfold plV;refine k_t hK yd fun hHeld=>?_
           clear hK K;have hp:PlV z6 (fun b=>iZ.heap.size<=b/\b ≠ oz) d _:=hp.mono fun b hb=>by have:=yc.size; have:=hz.1; constructor <;> omega
           have hz:=hz.ext x6;have yE:=yd;have rC:=hz;have oU:=hp
         case' q40x7 =>
          go_simp;obtain ⟨V,oz,hV,ho,hz,yA,mM,uI,pU,ry⟩:=z_b ya
          try rw [hV]
          try rw [ho]
          refine k_t hK yA fun hHeld=>?_
          clear hK K hV ho;have m2:=m2.ext ry;refine r_1 4 fun K hK=>?_
          go_simp
          go_at_call 11
          refine (of_int 4 _ (by omega) (by omega)).mono ?_;rintro e z4 ⟨v4,rfl,i4,x4⟩;have yb:=yA.trans x4;have m2:=m2.ext x4;refine k_t hK yb fun hHeld=>?_
          clear hK K;have hz:=hz.ext x4;refine r_1 5 fun K hK=>?_
          go_simp
          go_at_call 16
          refine (qX.out _ _ yb i4).mono ?_;rintro e z5 ⟨v5,rfl,m5,x5⟩;have yc:=yb.trans x5;have m2:=m2.ext x5;refine k_t hK yc fun hHeld=>?_
          clear hK K;have hz:=hz.ext x5;refine r_1 6 fun K hK=>?_
          go_simp
          go_at_call 14
          refine (vT.out _ _ _ _ _ m2 m5).mono ?_;rintro e z6 ⟨v6,rfl,hp,x6⟩;have yd:=yc.trans x6;obtain ⟨F0,j4,k4,F1,k5,rfl,-⟩:=id hp.open_;unfold plV;refine k_t hK yd fun hHeld=>?_
          clear hK K;have hp:PlV z6 (fun b=>iZ.heap.size<=b/\b ≠ oz) d _:=hp.mono fun b hb=>by have:=yc.size; have:=hz.1; constructor <;> omega
          have hz:=hz.ext x6;have yE:=yd;have rC:=hz;have oU:=hp
        case' q20x7 =>
         go_simp;obtain ⟨V,oz,hV,ho,hz,yA,mM,uI,pU,ry⟩:=z_d (Ext.refl iZ)
         try rw [hV]
         try rw [ho]
         refine k_t hK yA fun hHeld=>?_
         clear hK K hV ho;refine r_1 2 fun K hK=>?_
         go_simp
         go_at_call 15
         refine (Eo.out _ yA).mono ?_;rintro e z2 ⟨v2,rfl,m2,x2⟩;have ya:=yA.trans x2;refine k_t hK ya fun hHeld=>?_
         clear hK K;have hz:=hz.ext x2;refine r_1 4 fun K hK=>?_
         go_simp
         go_at_call 11
         refine (of_int 4 _ (by omega) (by omega)).mono ?_;rintro e z4 ⟨v4,rfl,i4,x4⟩;have yb:=ya.trans x4;have m2:=m2.ext x4;refine k_t hK yb fun hHeld=>?_
         clear hK K;have hz:=hz.ext x4;refine r_1 5 fun K hK=>?_
         go_simp
         go_at_call 16
         refine (qX.out _ _ yb i4).mono ?_;rintro e z5 ⟨v5,rfl,m5,x5⟩;have yc:=yb.trans x5;have m2:=m2.ext x5;refine k_t hK yc fun hHeld=>?_
         clear hK K;have hz:=hz.ext x5;refine r_1 6 fun K hK=>?_
         go_simp
         go_at_call 14
         refine (vT.out _ _ _ _ _ m2 m5).mono ?_;rintro e z6 ⟨v6,rfl,hp,x6⟩;have yd:=yc.trans x6;obtain ⟨F0,j4,k4,F1,k5,rfl,-⟩:=id hp.open_;unfold plV;refine k_t hK yd fun hHeld=>?_
         clear hK K;have hp:PlV z6 (fun b=>iZ.heap.size<=b/\b ≠ oz) d _:=hp.mono fun b hb=>by have:=yc.size; have:=hz.1; constructor <;> omega
         have hz:=hz.ext x6;have yE:=yd;have rC:=hz;have oU:=hp
        all_goals
         have FC:=rC.2.1;obtain ⟨Z0,zn,zc,Z1,CV,⟨g0,g1,g2,g3⟩,-⟩:=rC.2.2;refine r_1 8 fun K hK=>?_
         go_simp;clear g0 g1 g2 g3 FC;refine xae (P:=fun V7=>Ext iZ V7/\PBx V7 (fun b=>iZ.heap.size<=b) oz d) ⟨(((yE.setCell mM _).setCell mM _).setCell mM _).setCell mM _,rC.store oU⟩ (fun V7 lU=>?_);obtain ⟨y9,b9⟩:=lU;refine k_t hK y9 fun hHeld=>?_
         clear hK K;refine w_d ?_;have HN:=hid (And.intro y9 (And.intro mM b9));clear y9 b9 rC oU yE hHeld;go_wp2_with fail
         go_meet
         exact ⟨_,rfl,HN⟩
       case rest =>
        obtain ⟨wI,rfl,H13⟩:=hcut;obtain ⟨xw,WU,hbs,hbf,Z0,zn,zc,Z1,CV,⟨g0,g1,g2,g3⟩,TY⟩:=H13.out;have Ky:=hid H13.out.2.2;have RY:=hid WU;have vN:=hid xw;have XW:=hid (qR.out.trans xw);have KD:Hid (Fit d 170 1099511627776):=hid (by
         rw [<- HDE.out]
         exact (((Ka.out.mul Ka.out).mono (F:=6) (G:=12) (by omega) (by omega)).add ((Kb.out.mul (Fit.const (by decide):Fit (Pl.const 4) 3 1)).mono (F:=6) (G:=12) (by omega) (by omega)).opp).mono (by omega) (by omega))
        have hdv:∀ ρ,d.val ρ=P.val ρ * P.val ρ - 4 * Q.val ρ:=fun ρ=>by
         rw [<- HDE.out,Pl.add_val,Pl.opp_val,Pl.mul_val,Pl.mul_val,Pl.const_val]
         push_cast
         grind
        have hEQ:df 4 [F]=xu [d]:=by rw [<- Vq.out,<- Gw.out]; exact vcr fH.out JQ.out KD.out.can hdv
        have yC:=hid (vam (ps:=[d]) (c0:=1) (gax TY 33) (by simp) (fun x hx=>by rw [List.mem_singleton.1 hx]; exact KD.out) (by omega) (by omega));have D7:(∀ x ∈ xu [d],Fit x 170 1099511627776)/\(xu [d]).length<=1:=by
         rw [gbw KD.out.can]
         split
         · simp
         · simp only [List.mem_singleton,List.length_singleton];exact ⟨fun x hx=>by rw [hx]; exact jai KD.out,Nat.le_refl _⟩
        have HLF:=hid D7;rw [hEQ] at BU HQ ⊢;have HQ2:=hid (HQ.out.ext xw);clear hEQ D7 hdv xw TY vT Eo qX U7 HQ H13;generalize xu [d]=L at *;go_wp2_with fail;clear g0 g1 g2 g3;refine yC.out.mono ?_;rintro e y1 ⟨v9,rfl,⟨D9,c9,rfl,uF,fA,hr⟩,x9⟩;have X9:Hid (Ext wc y1):=hid (((Ext.refl wc).alloc _).trans x9);have xW:=hid (ya0 (HQ2.out.ext X9.out) hr HLF.out.1 (by omega) (by omega) (by have:=HLF.out.2; omega) (c0:=c6) (c1:=c9));clear x9 hr yC;go_wp2_with fail;refine xW.out.mono ?_;rintro e y2 ⟨rfl,x10⟩;have qU:=hid (X9.out.trans x10);obtain ⟨-,-,c0,c1,c2,c3⟩:=eY.out y2 (XW.out.trans qU.out);have Vh:=hid (za1 (w:=y2) _ (jP.out.2.2.ext (XW.out.trans qU.out)) (Or.inr ⟨xX.out.1,Kc.out.copy_ (by omega),by have:=Kc.out.dm; omega⟩));rw [Pl.nf_of_can xX.out.1] at Vh;unfold plV at Vh;clear x10 xW X9;go_wp2_with fail;clear c0 c1 c2 c3;refine Vh.out.mono ?_;rintro e y3 ⟨rfl,x11⟩;have X11:=hid (XW.out.trans (qU.out.trans x11));have Y13:=hid (vN.out.trans (qU.out.trans x11));have Zu:=hid x11;clear x11 Vh
        by_cases qQ:R.lv=0
        · have Uz:(R.lv == 0)=true:=by simpa using qQ
          have lg:=hid (XV.out.trans X11.out);generalize R.lv=rl at *;subst qQ;go_wp2_with fail;go_ret;exact ⟨rfl,lg.out⟩
        have Uz:(R.lv == 0)=false:=by simpa using qQ
        have Uy:R ≠ Pl.zero:=fun e=>qQ (by rw [e]; rfl)
        have HRZ:=hid Uy;have Gt:=hid qQ;clear qQ Uy;have Gu:=hid (jP.out.2.2.ext qR.out);have HMP:=hid (fun (W':World) (hx:Ext iZ W')=>kak (E:=3) (D:=5) (F:=3) (G:=5) _ _ (yX.out.ext hx) (yX.out.ext hx) Ka.out Ka.out (by omega) (by omega));have Z9:=hid (fun (W':World) (hx:Ext iZ W')=>kak (E:=3) (D:=5) (F:=3) (G:=5) _ _ (Gu.out.ext hx) (JR.out.ext hx) Kc.out Kb.out (by omega) (by omega));have L8:Hid (Fit (R.mul Q) 6 10):=hid ((Kc.out.mul Kb.out).mono (by omega) (by omega));have qX:=hid (fun (W':World) (q:Nat->Prop) (u v:Value) (hu:PlV W' q (R.mul Q) u) (hv:vk W' v 4)=>zar (L:=1) (E:=6) (D:=10) u v hu (by obtain ⟨y,rfl,hy⟩:=hv; exact gak hy (ve (by decide))) (fun W2 aO=>by rw [Pl.nf_of_can L8.out.can]; exact jo _ (hu.ext aO) L8.out.can) (by rw [Pl.nf_of_can L8.out.can]; exact L8.out) (by omega) (by omega));rw [Pl.nf_of_can L8.out.can] at qX;have KP2:Hid (Fit (P.mul P) 9 12):=hid ((Ka.out.mul Ka.out).mono (by omega) (by omega));have KR4:Hid (Fit ((R.mul Q).mul (Pl.const 4)) 9 12):=hid ((L8.out.mul (Fit.const (by decide):Fit (Pl.const 4) 3 1)).mono (by omega) (by omega));have vT:=hid (fun (W':World) (u v:Value) (q q':Nat->Prop) (hu:PlV W' q (P.mul P) u) (hv:PlV W' q' ((R.mul Q).mul (Pl.const 4)) v)=>kao (E:=9) (D:=12) u v hu hv KP2.out KR4.out (by omega) (by omega));obtain ⟨d2,nR⟩:=n_m ((P.mul P).add ((R.mul Q).mul (Pl.const 4)).opp);rw [nR] at vT;have HD2:=hid nR;have KD2:Hid (Fit d2 9 14):=hid (by rw [<- nR]; exact (KP2.out.add KR4.out.opp).mono (by omega) (by omega));have CE:Hid (∀ W',Ext iZ W'->(jc W' o P (.slice Aa ma ea) (.slice Ba P.cs.length ga)/\jc W' (o+1) Q (.slice Ab mb eb) (.slice Bb Q.cs.length gb)/\jc W' (o+1+1) R (.slice Ac mc ec) (.slice Bc R.cs.length gc))):=hid (fun W' hx=>eY.out W' (qR.out.trans hx));unfold plV at HMP Z9;clear nR yX JR Gu;have y0:Ext iZ y3.drew:=Y13.out.drew;have mM:iZ.heap.size<=wI:=RY.out;go_upto_region 13 with fail;refine wp_region_held_drew (S:=fun W'=>Ext iZ W') (by kernel_rfl) y0 (fun hHeld=>?_);refine tk 0 ?_ (hy:=Or.inl ⟨by rfl,by intro w' aZ; obtain ⟨⟨k0,k1,k2,k3⟩,-,-⟩:=CE.out w' aZ; go_simp; (try (with_reducible rfl))⟩);refine tk 1 ?_ (hy:=Or.inl ⟨by rfl,by intro w' aZ; obtain ⟨⟨k0,k1,k2,k3⟩,-,-⟩:=CE.out w' aZ; go_simp; (try (with_reducible rfl))⟩);refine tk 3 ?_ (hy:=Or.inl ⟨by rfl,by intro w' aZ; obtain ⟨-,-,k0,k1,k2,k3⟩:=CE.out w' aZ; go_simp; (try (with_reducible rfl))⟩);refine tk 4 ?_ (hy:=Or.inl ⟨by rfl,by intro w' aZ; obtain ⟨-,⟨k0,k1,k2,k3⟩,-⟩:=CE.out w' aZ; go_simp; (try (with_reducible rfl))⟩);refine r_1 2 fun K hK=>?_
        go_simp
        go_at_call 15
        refine (HMP.out _ y0).mono ?_;rintro e z2 ⟨v2,rfl,m2,x2⟩;have ya:=y0.trans x2;refine k_t hK ya fun hHeld=>?_
        clear hK K;refine r_1 5 fun K hK=>?_
        go_simp
        go_at_call 15
        refine (Z9.out _ ya).mono ?_;rintro e z3 ⟨v3,rfl,m3,x3⟩;have yb:=ya.trans x3;have m2:=m2.ext x3;refine k_t hK yb fun hHeld=>?_
        clear hK K;refine r_1 6 fun K hK=>?_
        go_simp
        go_at_call 11
        refine (of_int 4 _ (by omega) (by omega)).mono ?_;rintro e z4 ⟨v4,rfl,i4,x4⟩;have yc:=yb.trans x4;have m2:=m2.ext x4;have m3:=m3.ext x4;refine k_t hK yc fun hHeld=>?_
        clear hK K;refine r_1 7 fun K hK=>?_
        go_simp
        go_at_call 16
        refine (qX.out _ _ _ _ m3 i4).mono ?_;rintro e z5 ⟨v5,rfl,m5,x5⟩;have yd:=yc.trans x5;have m2:=m2.ext x5;refine k_t hK yd fun hHeld=>?_
        clear hK K;refine r_1 8 fun K hK=>?_
        go_simp
        go_at_call 14
        refine (vT.out _ _ _ _ _ m2 m5).mono ?_;rintro e z6 ⟨v6,rfl,hp,x6⟩;have ye:=yd.trans x6;obtain ⟨F0,j4,k4,F1,k5,rfl,-⟩:=id hp.open_;unfold plV;refine k_t hK ye fun hHeld=>?_
        clear hK K;have hz:=(Ky.out.ext qU.out).ext (show Ext y2 y3 from Zu.out);have hz:=((((((hz.ext (Ext.refl y3).drew).ext x2).ext x3).ext x4).ext x5).ext x6);have OU:wI < z5.heap.size:=Nat.lt_of_lt_of_le (Ky.out.1) (Nat.le_trans qU.out.size (Nat.le_trans Zu.out.size (Nat.le_trans (Ext.refl y3).drew.size (Nat.le_trans x2.size (Nat.le_trans x3.size (Nat.le_trans x4.size x5.size))))));have oU:PlV z6 (fun b=>iZ.heap.size<=b/\b ≠ wI) d2 _:=hp.mono fun b hb=>by have:=yd.size; constructor <;> omega
        have FC:=hz.2.1;obtain ⟨Z0,zn,zc,Z1,CV,⟨g0,g1,g2,g3⟩,-⟩:=hz.2.2;refine r_1 9 fun K hK=>?_
        go_simp;clear g0 g1 g2 g3 FC;refine xae (P:=fun V7=>Ext iZ V7/\PBx V7 (fun b=>iZ.heap.size<=b) wI d2) ⟨(((ye.setCell mM _).setCell mM _).setCell mM _).setCell mM _,hz.store oU⟩ (fun V7 lU=>?_);obtain ⟨y9,b9⟩:=lU;refine k_t hK y9 fun hHeld=>?_
        clear hK K;refine w_d ?_;have Y9:=hid y9;have B9:=hid b9;clear y0 ya yb yc yd ye x2 x3 x4 x5 x6 m2 m3 i4 m5 hp oU hz OU y9 b9 hHeld HMP Z9 qX vT Ky Zu Y13 vN qU RY;have Hr:Ext V V7:=qR.out.trans Y9.out;have Ed:=hid Hr;obtain ⟨⟨a0,a1,a2,a3⟩,⟨b0,b1,b2,b3⟩,⟨c0,c1,c2,c3⟩⟩:=eY.out V7 Hr;clear Hr;go_wp2_with fail;clear a0 a1 a2 a3 b0 b1 b2 b3 c0 c1 c2 c3;have hj:=wb5 (h:=R) (f:=P) (g:=Q) xX.out fH.out JQ.out Kc.out Ka.out Kb.out (gbl (jP.out.2.1.ext Ed.out) (jP.out.1.ext Ed.out) (jP.out.2.2.ext Ed.out) 33) (c:=3) (by omega) (by omega);refine hj.mono ?_;clear hj;rintro e u1 ⟨v15,rfl,Nh,x15⟩;obtain ⟨F2,FY⟩:=n_m (qdF R P Q);rw [FY] at Nh;obtain ⟨Ah,mh,eh,Bh,gh,rfl,-⟩:=id Nh.open_;have X15:Hid (Ext V7 u1):=hid (((Ext.refl V7).alloc _).trans x15);have P15:=hid Nh;have MO:=hid FY;have JL:=hid (wa8 (h:=R) (f:=P) (g:=Q) xX.out fH.out JQ.out Kc.out Ka.out Kb.out HRZ.out (A:=some ⟨u1.heap.size,0,none⟩) (c:=1) (by rw [FY]; exact gax Nh 33) (by omega) (by omega));rw [FY] at JL;clear x15 Nh FY;unfold plV;go_wp2_with fail;refine JL.out.mono ?_;rintro e u2 ⟨v16,rfl,⟨D16,c16,rfl,bW,jT,hs⟩,x16⟩;have X16:Hid (Ext V7 u2):=hid ((X15.out.alloc _).trans x16);have HS:=hid hs;have B16:=hid (B9.out.ext X16.out);have kP:=hid (Ed.out.trans X16.out);clear x16 hs JL P15 X15 B9 CE;have JV:=hid (fun (W':World) (q:Nat->Prop) (u:Value) (hx:Ext V W') (hu:PlV W' q d2 u)=>kak (E:=3) (D:=5) (F:=9) (G:=14) _ _ (jP.out.2.2.ext hx) hu Kc.out KD2.out (by omega) (by omega));obtain ⟨Rd,yP⟩:=n_m (R.mul d2);rw [yP] at JV;have yT:=hid yP;obtain ⟨-,-,Y0,yn,yc,Y1,yc1,hYb,Us⟩:=B16.out;have Tf:Hid (∀ W',Ext u2 W'->jc W' wI d2 (.slice Y0 yn yc) (.slice Y1 d2.cs.length yc1)):=hid (fun W' hx=>hYb.ext hx B16.out.1);have HDP:=hid Us;unfold plV at JV;have y0:Ext u2 u2.drew:=(Ext.refl u2).drew;have Ef:Hid (∀ W',Ext u2 W'->(jc W' o P (.slice Aa ma ea) (.slice Ba P.cs.length ga)/\jc W' (o+1) Q (.slice Ab mb eb) (.slice Bb Q.cs.length gb)/\jc W' (o+1+1) R (.slice Ac mc ec) (.slice Bc R.cs.length gc))):=hid (fun W' hx=>eY.out W' (kP.out.trans hx));clear yP hYb Us;go_upto_region 15 with fail;refine wp_region_held_drew (S:=fun W'=>Ext u2 W') (by kernel_rfl) y0 (fun hHeld=>?_);refine tk 0 ?_ (hy:=Or.inl ⟨by rfl,by intro w' aZ; obtain ⟨-,-,k0,k1,k2,k3⟩:=Ef.out w' aZ; go_simp; (try (with_reducible rfl))⟩);refine tk 1 ?_ (hy:=Or.inl ⟨by rfl,by intro w' aZ; obtain ⟨-,-,k0,k1,k2,k3⟩:=Ef.out w' aZ; go_simp; (try (with_reducible rfl))⟩);refine tk 2 ?_ (hy:=Or.inl ⟨by rfl,by intro w' aZ; obtain ⟨k0,k1,k2,k3⟩:=Tf.out w' aZ; go_simp; (try (with_reducible rfl))⟩);refine tk 4 ?_ (hy:=Or.inl ⟨by rfl,by intro w' aZ; obtain ⟨⟨k0,k1,k2,k3⟩,-,-⟩:=Ef.out w' aZ; go_simp; (try (with_reducible rfl))⟩);refine r_1 3 fun K hK=>?_
        go_simp
        go_at_call 15
        refine (JV.out _ _ _ (kP.out.trans y0) (HDP.out.ext y0)).mono ?_;rintro e z7 ⟨v7,rfl,m7,x7⟩;have yf:=y0.trans x7;obtain ⟨G0,j6,k6,G1,k7,rfl,-⟩:=id m7.open_;unfold plV;refine k_t hK yf fun hHeld=>?_
        clear hK K;refine r_1 5 fun K hK=>?_
        go_simp;have Hg:=kP.out.trans yf;have ae:yh z7.heap.size (fun _=>True) (z7.alloc (.cells #[.int .i64 R.lv,.bool R.neg,.slice Ac mc ec,.slice Bc R.cs.length gc,.int .i64 Rd.lv,.bool Rd.neg,.slice G0 j6 k6,.slice G1 Rd.cs.length k7,.int .i64 P.lv,.bool P.neg,.slice Aa ma ea,.slice Ba P.cs.length ga] 33)) (.slice (some ⟨z7.heap.size,0,none⟩) 3 3) [R,Rd,P]:=yh.built (W:=z7) (q:=fun _=>True) [(R,.slice Ac mc ec,.slice Bc R.cs.length gc),(Rd,.slice G0 j6 k6,.slice G1 Rd.cs.length k7),(P,.slice Aa ma ea,.slice Ba P.cs.length ga)] (fun r hr=>by
         simp only [List.mem_cons,List.not_mem_nil,or_false] at hr;rcases hr with rfl | rfl | rfl
         · exact ⟨⟨_,_,_,_,_,_,rfl⟩,(jP.out.2.2.ext Hg).mono fun _ _=>trivial⟩
         · exact ⟨⟨_,_,_,_,_,_,rfl⟩,m7.mono fun _ _=>trivial⟩
         · exact ⟨⟨_,_,_,_,_,_,rfl⟩,(jP.out.1.ext Hg).mono fun _ _=>trivial⟩) (by simp)
        refine xae (P:=fun V8=>Ext u2 V8/\yh z7.heap.size (fun _=>True) V8 (.slice (some ⟨z7.heap.size,0,none⟩) 3 3) [R,Rd,P]) ⟨yf.alloc _,ae⟩ (fun V8 DZ=>?_);obtain ⟨y8,b8⟩:=DZ;refine k_t hK y8 fun hHeld=>?_
        clear hK K;refine tk 6 ?_;refine w_d ?_;have Y8:=hid y8;have B8:=hid b8;have HZ7:Hid (u2.heap.size<=z7.heap.size):=hid yf.size;clear y0 yf x7 m7 ae Hg y8 b8 hHeld JV Tf HDP Ef;generalize z7.heap.size=s7 at *;obtain ⟨a0,a1,a2,a3⟩:=(eY.out V8 (kP.out.trans Y8.out)).1;have hPn:=fH.out.1.lv_nonneg;have MJ:=hid (za1 (w:=V8) _ (jP.out.1.ext (kP.out.trans Y8.out)) (Or.inr ⟨fH.out.1,Ka.out.copy_ (by omega),by have:=Ka.out.dm; omega⟩));rw [Pl.nf_of_can fH.out.1] at MJ;have kD:=hid (fun (W':World) (hx:Ext V8 W')=>gai _ (jP.out.1.ext ((kP.out.trans Y8.out).trans hx)) fH.out.1);unfold plV at MJ kD;clear hPn;have Bq:Hid ((∀ p ∈ df 4 [F2],Fit p 18 60)/\(df 4 [F2]).length<=4):=hid (by
         have hq:=zbt xX.out fH.out JQ.out HRZ.out Kc.out Ka.out Kb.out;rw [<- MO.out]
         exact ⟨fun p hp=>by obtain ⟨e,he,-,rfl⟩:=ubb.1 hp; exact jai (hq.1 e he),Nat.le_trans wcq hq.2⟩)
        have Rn:Hid (xu (df 4 [F2])=xu ([R,Rd,P] ++ if 0 < P.lv\/P.isZ=true then [Q] else [])):=hid (by
         rw [<- MO.out];refine kci xX.out fH.out JQ.out Gt.out (by rw [<- yT.out]; exact Pl.mul_can _ _) fun ρ=>?_
         rw [<- yT.out,Pl.mul_val,<- HD2.out,Pl.add_val,Pl.opp_val,Pl.mul_val,Pl.mul_val,Pl.mul_val,Pl.const_val]
         push_cast
         grind)
        have Ep:Hid ((∀ p ∈ [R,Rd,P],Fit p 20 40)/\Fit Q 20 40):=hid ⟨fun p hp=>by
         simp only [List.mem_cons,List.not_mem_nil,or_false] at hp;rcases hp with rfl | rfl | rfl
         · exact Kc.out.mono (by omega) (by omega)
         · rw [<- yT.out]; exact (Kc.out.mul KD2.out).mono (by omega) (by omega)
         · exact Ka.out.mono (by omega) (by omega),Kb.out.mono (by omega) (by omega)⟩
        obtain ⟨RQ,YM⟩:=n_m (df 4 [F2]);rw [YM] at HS bW Bq Rn
        try rw [YM]
        clear YM B16;go_upto_region 16 with fail
        go_cut [116] from 110 to 115 (fun sb wc=>∃ B:Bool,sb=.bool B/\Hid ((B=true ↔ (0 < P.lv\/P.isZ=true))/\Ext V8 wc))
        case first =>
         go_wp2_with fail;refine MJ.out.mono ?_;rintro e z8 ⟨rfl,x8⟩
         by_cases yL:0 < P.lv
         · have UZ:Hid ((true=true ↔ (0 < P.lv\/P.isZ=true))/\Ext V8 z8):=hid ⟨by simp [yL],x8⟩;clear a0 a1 a2 a3 x8 MJ;go_wp2_with fail
           go_meet
           exact ⟨true,rfl,hid ⟨⟨fun _=>UZ.out.1.1 trivial,fun _=>rfl⟩,UZ.out.2⟩⟩
         · obtain ⟨b0,b1,b2,b3⟩:=(eY.out z8 ((kP.out.trans Y8.out).trans x8)).1;have HI8:=hid (kD.out z8 x8);have Zy:=hid x8;have pR:P.lv<=0:=by omega
           clear a0 a1 a2 a3 x8 MJ kD yL;go_wp2_with fail;refine HI8.out.mono ?_;rintro e z9 ⟨rfl,x9⟩;have UZ:Hid (((decide (0 < P.lv) || P.isZ)=true ↔ (0 < P.lv\/P.isZ=true))/\Ext V8 z9):=hid ⟨by simp,Zy.out.trans x9⟩;clear b0 b1 b2 b3 x9 HI8;go_wp2_with fail
           go_meet
           exact ⟨_,rfl,UZ⟩
        case rest =>
         obtain ⟨B,rfl,HM⟩:=hcut;have tu:=hid HM.out.2;clear a0 a1 a2 a3 MJ kD;cases B with
         | false =>
           have Mc:Hid (xu RQ=xu [R,Rd,P]):=hid (by rw [Rn.out,if_neg (fun h=>by have:=HM.out.1.2 h; cases this),List.append_nil]);clear Rn HM;have yC:=hid (vam (w:=wc) (c0:=c16) (HS.out.ext (Y8.out.trans tu.out)) (by have:=Bq.out.2; omega) Bq.out.1 (by omega) (by omega));have Sj:Hid ((∀ p ∈ xu [R,Rd,P],Fit p 20 40)/\(xu [R,Rd,P]).length<=1000000):=hid ⟨zbx Ep.out.1,Nat.le_trans (wbw _) (by simp)⟩;have SQ:=hid (fun (W':World) (hx:Ext wc W')=>vam (w:=W') (c0:=3) (((B8.out.ext tu.out).ext hx).at_) (by simp) Ep.out.1 (by omega) (by omega));rw [Mc.out] at yC;have xR:=hid (Y8.out.trans tu.out);clear Mc;generalize xu [R,Rd,P]=M at *;go_wp2_with fail;refine yC.out.mono ?_;rintro e y10 ⟨v10,rfl,⟨E1,e1,rfl,p1,p2,p3⟩,x10⟩;have P3:=hid p3;have qU:=hid x10;clear p3 x10 yC;go_wp2_with fail;refine (SQ.out _ qU.out).mono ?_;rintro e y11 ⟨v11,rfl,⟨E2,e2,rfl,q1,q2,q3⟩,x11⟩;have xW:=hid (ya0 (P3.out.ext x11) q3 Sj.out.1 (by omega) (by omega) Sj.out.2 (c0:=e1) (c1:=e2));have JD:=hid (xR.out.trans (qU.out.trans x11));clear q3 x11 SQ;go_wp2_with fail;refine xW.out.mono ?_;rintro e y12 ⟨rfl,x12⟩;have lg:=hid (XV.out.trans (kP.out.trans (JD.out.trans x12)));clear x12 xW;go_wp2_with fail;go_ret;exact ⟨rfl,lg.out⟩
         | true =>
           have Mc:Hid (xu RQ=xu ([R,Rd,P] ++ [Q])):=hid (by rw [Rn.out,if_pos (HM.out.1.1 rfl)]);obtain ⟨-,⟨b0,b1,b2,b3⟩,-⟩:=eY.out wc ((kP.out.trans Y8.out).trans tu.out);have DW:=B8.out.ext tu.out;have hs8:s7<=wc.heap.size:=Nat.le_of_lt (Nat.lt_of_lt_of_le (B8.out.own (R:=s7) rfl).2 tu.out.size);have AV:=kP.out.size;have hs7:=HZ7.out;obtain ⟨v4,w4,ax,nN,ik,bM,lL⟩:=DW.push (x:=Q) hs8 ((jP.out.2.1.ext ((kP.out.trans Y8.out).trans tu.out)).mono fun b hb=>⟨fun e=>by injection e with e; simp only at e; omega,trivial⟩) (by simp) 31;have pG:Ext u2 w4:=Below.grown (Y8.out.trans tu.out).below nN (Y8.out.trans tu.out).size (fun j e=>by injection e with e; simp only at e; omega);have LK:(∀ p ∈ [R,Rd,P] ++ [Q],Fit p 20 40)/\([R,Rd,P] ++ [Q]).length<=1000000:=⟨fun p hp=>by
            rcases List.mem_append.1 hp with hp | hp
            · exact Ep.out.1 p hp
            · rw [List.mem_singleton.1 hp]; exact Ep.out.2,by simp⟩
           obtain ⟨LL,hLE⟩:=n_m ([R,Rd,P] ++ [Q]);rw [hLE] at bM LK Mc;obtain ⟨FA,fc,rfl,AB,nO⟩:=bM.len;have GI:=hid LK;have aS:=hid bM;have Gh:=hid pG;clear DW hs8 AV hs7 nN ik bM lL pG LK hLE AB nO Rn HM
           go_wp2_with (at_builtin
                        refine wpList_append_run rfl (.tmp 117) (.tmp 119) _ _ rfl _ _ _ _ rfl rfl ax ?_)
           clear b0 b1 b2 b3 ax;have yC:=hid (vam (w:=w4) (c0:=c16) (HS.out.ext Gh.out) (by have:=Bq.out.2; omega) Bq.out.1 (by omega) (by omega));have Sj:Hid ((∀ p ∈ xu LL,Fit p 20 40)/\(xu LL).length<=1000000):=hid ⟨zbx GI.out.1,Nat.le_trans (wbw _) GI.out.2⟩;have SQ:=hid (fun (W':World) (hx:Ext w4 W')=>vam (w:=W') (c0:=fc) ((aS.out.ext hx).at_) GI.out.2 GI.out.1 (by omega) (by omega));rw [Mc.out] at yC;have xR:=hid Gh.out;clear Mc;generalize xu LL=M at *;go_wp2_with fail;refine yC.out.mono ?_;rintro e y10 ⟨v10,rfl,⟨E1,e1,rfl,p1,p2,p3⟩,x10⟩;have P3:=hid p3;have qU:=hid x10;clear p3 x10 yC;go_wp2_with fail;refine (SQ.out _ qU.out).mono ?_;rintro e y11 ⟨v11,rfl,⟨E2,e2,rfl,q1,q2,q3⟩,x11⟩;have xW:=hid (ya0 (P3.out.ext x11) q3 Sj.out.1 (by omega) (by omega) Sj.out.2 (c0:=e1) (c1:=e2));have JD:=hid (xR.out.trans (qU.out.trans x11));clear q3 x11 SQ;go_wp2_with fail;refine xW.out.mono ?_;rintro e y12 ⟨rfl,x12⟩;have lg:=hid (XV.out.trans (kP.out.trans (JD.out.trans x12)));clear x12 xW;go_wp2_with fail;go_ret;exact ⟨rfl,lg.out⟩
end Go.Proofs.YtcepajijiabkmaaGreat
