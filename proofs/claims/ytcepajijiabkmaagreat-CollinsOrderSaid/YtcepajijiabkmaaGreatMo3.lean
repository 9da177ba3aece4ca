/- Layer 1 (natural): the product, divided into three. -/
import Derived.Test.YtcepajijiabkmaaGreatMo2
set_option linter.all false
set_option maxRecDepth 100000
set_option maxHeartbeats 8000000
namespace Go.Proofs.YtcepajijiabkmaaGreat
open Lib (hid)
open Go.RowKit
def zdf (w:World) (m L K:Nat) (s0 s1:Value) (wx:World):Prop:=
 ∃ A c A' c' E F,s0=.slice A E.length c/\s1=.slice A' F.length c'/\F.length<=E.length/\E.length<=c/\c<=9223372036854775807/\F.length<=c'/\c'<=9223372036854775807 /\
   uj w A E/\uj w A' F/\val E * val F=m/\E.length+F.length=L/\E.length<=K/\wx=w
def ubi (K:Nat):Prop:=∀ (u v:Value) (ds es:List Nat) (w:World),jc w u ds->jc w v es->ds.length<=K->es.length<=K->ds.length+es.length<=35184372088000 ->
    Calls Tryz.prog 115 #[u,v] w (vav (ds.length+es.length) (val ds * val es) w)
theorem jbz (K:Nat) (ih:∀ K',K' < K->ubi K'):ubi K:=by
 intro u v ds es w h k eH uD hs;have IH:=hid ih;obtain ⟨A,c,rfl,h1,h2,h3⟩:=h;obtain ⟨A',c',rfl,jR,mD,kZ⟩:=k;have H3:=hid h3;have nC:=hid kZ;clear h3 kZ ih;go_enter Tryz.func115,Tryz.ntmps115
 go_upto_if 14 with (fail)
 go_cut [0,1] (fun s0 s1 wx=>zdf w (val ds * val es) (ds.length+es.length) K s0 s1 wx)
 case first =>
  by_cases af:ds.length < es.length
  · go_wp2
    go_meet
    exact ⟨_,_,_,_,_,_,rfl,rfl,by omega,jR,mD,h1,h2,nC.out,H3.out,sj _ _,by omega,by omega,rfl⟩
  · go_wp2
    go_meet
    exact ⟨_,_,_,_,_,_,rfl,rfl,by omega,h1,h2,jR,mD,H3.out,nC.out,rfl,rfl,eH,rfl⟩
 case rest =>
  obtain ⟨A,c,A',c',E,F,rfl,rfl,O0,g1,g2,g3,g4,g5,g6,g7,g8,g9,rfl⟩:=hcut;have G5:=hid g5;have G6:=hid g6;have G7:=hid g7;have G8:=hid g8;have yJ:E.length+F.length<=35184372088000:=by omega
  clear g5 g6 g7 g8 H3 nC h1 h2 jR mD eH uD hs
  by_cases hF:F.length < 48
  · go_wp2_with fail;refine (qbo _ _ F E _ ⟨A',c',rfl,g3,g4,G6.out⟩ ⟨A,c,rfl,g1,g2,G5.out⟩ (by omega)).mono ?_;rintro e w' ⟨v,zs,rfl,bD,uQ,GV,uP,WT⟩
    have HR:Hid (vav (ds.length+es.length) (val ds * val es) wc (.returned v) w'):=
     ⟨v,zs,rfl,bD,by rw [uQ]; have:=G8.out; omega,by rw [GV,sj]; exact G7.out,uP,WT⟩
    clear bD uQ GV uP WT;go_wp2_with fail;go_ret;exact HR.out
  · have dA:=fun W=>qab ((E.length:Int)+F.length) (by omega) (by omega) W
    have Pz:Hid (Row (wc.alloc (Obj.cells (yu (List.replicate (E.length+F.length) 0)).toArray 84)) wc.heap.size (List.replicate (E.length+F.length) 0)):=Row.new wc _;have ay:Hid (Ext wc (wc.alloc (Obj.cells (yu (List.replicate (E.length+F.length) 0)).toArray 84))):=(Ext.refl wc).alloc _;have HZ:Hid (val E=0\/val F=0->vav (ds.length+es.length) (val ds * val es) wc (.returned (.slice (some ⟨wc.heap.size,0,none⟩) (E.length+F.length) (E.length+F.length))) (wc.alloc (Obj.cells (yu (List.replicate (E.length+F.length) 0)).toArray 84))):=by
     intro hz;refine ⟨_,_,rfl,Pz.out.kO (ug.replicate _) _ _ (by simp) (pj _) (by omega),by rw [ra]; exact G8.out,?_,wab.mk _ _ _ _ (pj _),ay.out⟩;rw [uac,<- G7.out];rcases hz with hz | hz <;> rw [hz] <;> simp
    go_wp2_with fail;refine (ga4 _ E _ ⟨A,c,rfl,g1,g2,G5.out.ext ay.out⟩).mono ?_;rintro e w' ⟨rfl,rfl⟩
    by_cases hz:val E=0
    · have Zu:(val E == 0)=true:=by simp [hz]
      have lI:=hid hz;clear hz;go_wp2_with fail;go_ret;exact HZ.out (.inl lI.out)
    · have Zu:(val E == 0)=false:=by simp [hz]
      go_wp2_with fail;refine (ga4 _ F _ ⟨A',c',rfl,g3,g4,G6.out.ext ay.out⟩).mono ?_;rintro e w' ⟨rfl,rfl⟩
      by_cases iI:val F=0
      · have JH:(val F == 0)=true:=by simp [iI]
        have lI:=hid iI;clear iI;go_wp2_with fail;go_ret;exact HZ.out (.inr lI.out)
      · have JH:(val F == 0)=false:=by simp [iI]
        clear HZ;obtain ⟨half,hh⟩:∃ half:Nat,half=(E.length+1) / 2:=⟨_,rfl⟩;have Xr:E.length<=2 * half:=by omega
        have hh2:2 * half<=E.length+1:=by omega
        have wV:((E.length:Int)+1) / 2=(half:Int):=by omega
        clear hh;obtain ⟨ad,rfl,-,-⟩:=G5.out.2 (by omega);obtain ⟨ad',rfl,-,-⟩:=G6.out.2 (by omega);have b1:(0:Int)<=half:=by omega
        have b2:(half:Int)<=c:=by omega
        have b4:(half:Int)<=E.length:=by omega
        have b6:¬ (c=half):=by omega
        have hb:¬ (E.length+F.length=half):=by omega
        by_cases hFh:F.length<=half
        · have b5:(F.length:Int)<=half:=by omega
          go_wp2_with fail;rw [wV];clear wV Zu JH hz iI;generalize hW:wc.alloc (Obj.cells (yu (List.replicate (E.length+F.length) 0)).toArray 84)=W at *;have dG:W.heap.size=wc.heap.size+1:=by rw [<- hW]; simp
          have qG:=hid dG;clear hW dG;have hl:(E.take half).length=half:=by rw [pA,so (by omega)]
          have Hp:=IH.out half (by omega) _ _ _ _ W ((G5.out.ext ay.out).kp half c (by omega) g1 g2) ⟨_,_,rfl,g3,g4,G6.out.ext ay.out⟩ (by omega) (by omega) (by omega);rw [hl] at Hp;refine Hp.mono ?_;clear Hp hl;rintro e w7 ⟨v7,l7,rfl,p1,p2,p3,p4,p5⟩;obtain ⟨A7,c7,rfl,i1,i2,i3⟩:=p1;have R1':=hid (Pz.out.ext p5);have U9:=hid (ay.out.trans p5);have I3:=hid i3;have P2:=hid p2;have P3:=hid p3;have q1:l7.length<=E.length+F.length:=by omega
          have q2:0+l7.length<=(List.replicate (E.length+F.length) 0).length:=by rw [ra]; omega
          have P5:=hid p5;clear p2 p3 p4 p5 i3
          go_wp2_with (with_reducible refine kak rfl (.tmp 44) (.tmp 49) rfl wc.heap.size 0 (E.length + F.length) (E.length + F.length) A7 c7 l7 (List.replicate (E.length + F.length) 0) rfl rfl R1'.out I3.out q1 q2 ?_
                       intro wp R2 O2;have R2':=hid R2;have Ve:=hid O2
                       clear R2 O2)
          go_frame
          have hbA:∀ a,some ad=some a->a.block ≠ wc.heap.size:=fun a e=>by
           obtain ⟨ad2,e2,dE,-⟩:=G5.out.2 (by omega);injection e with e; injection e2 with e2; subst e; subst e2; omega
          have LD:∀ a,some ad'=some a->a.block ≠ wc.heap.size:=fun a e=>by
           obtain ⟨ad2,e2,dE,-⟩:=G6.out.2 (by omega);injection e with e; injection e2 with e2; subst e; subst e2; omega
          have HBA:=hid hbA;have YY:=hid LD;clear hbA LD
          have xJ : Hid (∀ W', Only wc.heap.size wp W' -> Calls Tryz.prog 115 #[.slice (some (ad.add half)) (E.length - half) (c - half), .slice (some ad') F.length c'] W'
           (fun e w'=>∃ v,e=.returned v/\uav W' w' v (E.length - half+F.length) (val (E.drop half) * val F)/\Only wc.heap.size wp w')):=by
           intro W' hx;have iY:=Ve.out.trans hx;refine (IH.out half (by omega) _ _ _ _ W' (((G5.out.ext U9.out).only iY HBA.out).kq half c (by omega) g1 g2) ⟨_,_,rfl,g3,g4,(G6.out.ext U9.out).only iY YY.out⟩ (by rw [re]; omega) (by omega) (by rw [re]; omega)).mono ?_;rintro e w' ⟨v,zs,rfl,p1,p2,p3,p4,p5⟩;exact ⟨v,rfl,⟨zs,p1,by rw [p2,re],p3,p4,p5⟩,hx.trans (Only.xi p5)⟩
          have b8:(half:Int)<=(E.length:Int)+F.length:=by omega
          have b9:(half:Int)<=((E.length+F.length:Nat):Int):=by omega
          have HZ:Hid (Row wp wc.heap.size (l7 ++ List.replicate (E.length+F.length - l7.length) 0)):=by
           have:=R2'.out;rw [td,tz,ri,List.drop_replicate] at this;exact this
          have UO:=jk E half (by omega);have HJ:Hid (val (l7 ++ List.replicate (E.length+F.length - l7.length) 0)+B32 ^ half * (val (E.drop half) * val F)=val E * val F):=by
           have:val (l7 ++ List.replicate (E.length+F.length - l7.length) 0)+B32 ^ half * (val (E.drop half) * val F)=val E * val F:=by
            rw [val_append,uac,P3.out,UO,wy,s9,r5,r9]
           exact this
          have HT:Hid (val E * val F < B32 ^ (E.length+F.length)):=by
           have:val E * val F < B32 ^ (E.length+F.length):=by
            rw [wT];exact Tr (wz G5.out.1) (Sq (wz G6.out.1)) (tp yj)
           exact this
          have tK:Hid ((l7 ++ List.replicate (E.length+F.length - l7.length) 0).length=E.length+F.length):=by
           have:(l7 ++ List.replicate (E.length+F.length - l7.length) 0).length=E.length+F.length:=by simp; omega
           exact this
          have HZD:Hid (ug (l7 ++ List.replicate (E.length+F.length - l7.length) 0)):=I3.out.1.append (ug.replicate _);clear UO R2';generalize l7 ++ List.replicate (E.length+F.length - l7.length) 0=Z at *;have hmo:wc.heap.size < wp.heap.size:=HZ.out.lt
          go_region_held3 (fun W' => Only wc.heap.size wp W') (first | exact (Only.refl _ wp).drewN 1 | assumption)
           (first
             | (go_at_call 115; refine (xJ.out _ ?_).mono ?_; assumption; rintro e w8 ⟨v8,rfl,P8,x8⟩; have Yk:=hid P8; clear P8)
             | (go_at_call 84; obtain ⟨l8,n8,len8,lG,IY,xx8⟩:=Yk.out; refine (wa6 _ _ _ _ n8 IY).mono ?_; rintro e w9 ⟨v9,rfl,n9,zQ,rfl⟩; obtain ⟨A9,c9,rfl,m1,m2,m3⟩:=n9; have M3:=hid m3; have FR9:=hid zQ; have MK:=hid lG; have XX8:=hid xx8; clear m3 zQ lG xx8 n8 IY len8)
             | (go_at_call 140
                refine (gbe wc.heap.size half (E.length + F.length - half) (E.length + F.length - half) Z _ A9 c9 _ (Row.ext (w := World.drew wp) HZ.out XX8.out) HZD.out (by have := tK.out; omega) (pj _) (by omega) M3.out
                 (fun a e=>by subst e; have h1:=FR9.out a _ _ rfl; have h2:wp.heap.size<=a.block:=h1; omega)
                 (by have:=xbh tK.out (show half<=E.length+F.length by omega) HJ.out HT.out; exact yf (by rw [MK.out]; omega)) m1 m2
                 (by rw [jg,MK.out]; exact xbh tK.out (by omega) HJ.out HT.out)).mono ?_
                rintro e w' ⟨ys,rfl,t1,t2,t3,t4,t5,t6⟩;rw [jg,MK.out] at t5;have t7:Only wc.heap.size wp w':=Only.trans x8 t6;have bT:Hid (vav (ds.length+es.length) (val ds * val es) wc (.returned (.slice (some ⟨wc.heap.size,0,none⟩) (E.length+F.length) (E.length+F.length))) w'):=by
                 refine ⟨_,ys,rfl,t1.kO t3 _ _ (by have:=tK.out; omega) (pj _) (by omega),by rw [t2,tK.out]; exact G8.out,?_,wab.mk _ _ _ _ (pj _),?_⟩
                 · rw [ub2 tK.out (by have:=tK.out; omega) (by omega) HJ.out t4 t5];exact G7.out
                 · exact (Ve.out.trans t7).ext U9.out (pj _)
                clear t1 t2 t3 t4 t5 t6))
          go_wp2_with fail;go_ret;exact bT.out
        · have b3:(half:Int)<=c':=by omega
          have b5:(half:Int)<=F.length:=by omega
          have b7:¬ (c'=half):=by omega
          go_wp2_with fail;rw [wV];clear wV Zu JH hz iI;generalize hW:wc.alloc (Obj.cells (yu (List.replicate (E.length+F.length) 0)).toArray 84)=W at *;have dG:W.heap.size=wc.heap.size+1:=by rw [<- hW]; simp
          have qG:=hid dG;clear hW dG;have Vf:Hid (∀ W',Ext W W'->Calls Tryz.prog 115 #[.slice (some ad) half c,.slice (some ad') half c'] W' (fun e w'=>∃ v,e=.returned v/\uav W w' v (half+half) (val (E.take half) * val (F.take half))/\Ext W' w')):=by
           intro W' hx;have iY:=ay.out.trans hx;have hl:(E.take half).length=half:=by rw [pA,so (by omega)]
           have mX:(F.take half).length=half:=by rw [pA,so (by omega)]
           refine (IH.out half (by omega) _ _ _ _ W' ((G5.out.ext iY).kp half c (by omega) g1 g2) ((G6.out.ext iY).kp half c' (by omega) g3 g4) (by omega) (by omega) (by omega)).mono ?_;rintro e w' ⟨v,zs,rfl,p1,p2,p3,p4,p5⟩;exact ⟨v,rfl,⟨zs,p1,by rw [p2,hl,mX],p3,p4.mono hx.size,hx.trans p5⟩,p5⟩
          have xJ : Hid (∀ W', Ext W W' -> Calls Tryz.prog 115 #[.slice (some (ad.add half)) (E.length - half) (c - half), .slice (some (ad'.add half)) (F.length - half) (c' - half)] W'
           (fun e w'=>∃ v,e=.returned v/\uav W w' v (E.length - half+(F.length - half)) (val (E.drop half) * val (F.drop half))/\Ext W' w')):=by
           intro W' hx;have iY:=ay.out.trans hx;refine (IH.out half (by omega) _ _ _ _ W' ((G5.out.ext iY).kq half c (by omega) g1 g2) ((G6.out.ext iY).kq half c' (by omega) g3 g4) (by rw [re]; omega) (by rw [re]; omega) (by rw [re,re]; omega)).mono ?_;rintro e w' ⟨v,zs,rfl,p1,p2,p3,p4,p5⟩;exact ⟨v,rfl,⟨zs,p1,by rw [p2,re,re],p3,p4.mono hx.size,hx.trans p5⟩,p5⟩
          have I7:Hid (∀ W',Ext W W'->Calls Tryz.prog 106 #[.slice (some ad) half c,.slice (some (ad.add half)) (E.length - half) (c - half)] W' (yat (val (E.take half)+val (E.drop half)) W')):=by
           intro W' hx;have iY:=ay.out.trans hx;exact qbb _ _ _ _ _ ((G5.out.ext iY).kp half c (by omega) g1 g2) ((G5.out.ext iY).kq half c (by omega) g1 g2) (by rw [pA,re]; omega)
          have I5:Hid (∀ W',Ext W W'->Calls Tryz.prog 106 #[.slice (some ad') half c',.slice (some (ad'.add half)) (F.length - half) (c' - half)] W' (yat (val (F.take half)+val (F.drop half)) W')):=by
           intro W' hx;have iY:=ay.out.trans hx;exact qbb _ _ _ _ _ ((G6.out.ext iY).kp half c' (by omega) g3 g4) ((G6.out.ext iY).kq half c' (by omega) g3 g4) (by rw [pA,re]; omega)
          have xI:Hid ((dg (val (E.take half)+val (E.drop half))).length<=half+1):=by
           refine py (ga6 _ _) ?_;have l1:=zi (G5.out.1.take half);have l2:=zi (G5.out.1.drop half);rw [pA] at l1;rw [re] at l2;omega
          have xH:Hid ((dg (val (F.take half)+val (F.drop half))).length<=half+1):=by
           refine py (ga6 _ _) ?_;have l1:=zi (G6.out.1.take half);have l2:=zi (G6.out.1.drop half);rw [pA] at l1;rw [re] at l2;omega
          go_region_held3 (fun W'=>Ext W W') (first | exact (Ext.refl W).drew | assumption) ((go_at_call 115; refine (Vf.out _ ?_).mono ?_; assumption; rintro e w7 ⟨v7,rfl,P7,x7⟩; have y7:Ext W w7:=Ext.trans (by assumption) x7))
          have P7':=hid P7;have Y7:=hid y7;clear P7 x7 y7;go_wp2_with fail
          go_region_held3 (fun W'=>Ext w7 W') (first | exact (Ext.refl w7).drew | assumption) ((go_at_call 115; refine (xJ.out _ ?_).mono ?_; (exact Ext.trans Y7.out (by assumption)); rintro e w8 ⟨v8,rfl,P8,x8⟩; have y8:Ext w7 w8:=Ext.trans (by assumption) x8))
          have Yk:=hid P8;have Vd:=hid (P7'.out.ext y8);have Y8:=hid (Y7.out.trans y8);clear P8 x8 y8 P7' Y7 Vf xJ;go_wp2_with fail
          go_region_held3 (fun W' => Ext w8 W') (first | exact (Ext.refl w8).drew | assumption)
           (first
             | (go_at_call_of 106 (Value.slice (some ad) half c); refine (I7.out _ ?_).mono ?_; (exact Ext.trans Y8.out (by assumption)); rintro e wa ⟨va,rfl,pa1,pa2⟩; have ya:Ext w8 wa:=Ext.trans (by assumption) pa2)
             | (go_at_call_of 106 (Value.slice (some ad') half c'); refine (I5.out _ ?_).mono ?_; (exact Ext.trans Y8.out (by assumption)); rintro e wb ⟨vb,rfl,pb1,Zn⟩; have yb:Ext w8 wb:=Ext.trans (by assumption) Zn)
             | (go_at_call 115; refine (IH.out (half+1) (by omega) _ _ _ _ _ (pa1.ext Zn) pb1 xI.out xH.out (by have:=xI.out; have:=xH.out; omega)).mono ?_; rintro e w9 ⟨v9,l9,rfl,p1,p2,p3,p4,p5⟩; have y9:Ext w8 w9:=Ext.trans yb p5))
          have N9:=hid p1;have V9:=hid p3;have L9:Hid (l9.length<=35184372088000):=hid (by rw [p2]; have:=xI.out; have:=xH.out; omega);have Q7:=hid (Vd.out.ext y9);have Q8:=hid (Yk.out.ext y9);have Y9:=hid (Y8.out.trans y9);clear p1 p2 p3 p4 p5 pa1 pa2 ya pb1 Zn yb y9 Vd Yk Y8 I7 I5 xI xH;rw [jg,jg] at V9;obtain ⟨l7,n7,rO,oU,UX,-⟩:=Q7.out;obtain ⟨l8,n8,len8,lG,IY,-⟩:=Q8.out;go_wp2_with fail;refine (qbb _ _ _ _ _ n7 n8 (by omega)).mono ?_;rintro e wa ⟨va,rfl,na,xa⟩;have Tt:val l7+val l8<=val l9:=by
           rw [oU,lG,V9.out,r5,rk,rk];omega
          have kS:val l9 - (val l7+val l8)=val (E.take half) * val (F.drop half)+val (E.drop half) * val (F.take half):=by
           rw [oU,lG,V9.out,r5,rk,rk];omega
          have ou:=hid Tt;have vW:=hid kS;have M7:=hid (n7.ext xa);have M8:=hid (n8.ext xa);have M9:=hid (N9.out.ext xa);have NA:=hid na;have XA:=hid xa;clear Q7 Q8 N9 n7 n8 na xa Tt kS;have K7:=hid (And.intro rO (And.intro oU UX));have K8:=hid (And.intro len8 (And.intro lG IY));clear rO oU UX len8 lG IY;go_wp2_with fail;refine (zbo _ _ _ _ _ M9.out NA.out L9.out (by rw [jg]; exact ou.out)).mono ?_;rintro e wm ⟨vm,rfl,nm,fm,xm⟩;rw [jg,vW.out] at nm;have R1:=Pz.out.ext (Y9.out.trans (XA.out.trans xm));have X1:=ay.out.trans (Y9.out.trans (XA.out.trans xm));have oH:=qG.out;have fm':wab (wc.heap.size+1) vm:=fm.mono (by have:=Y9.out.size; have:=XA.out.size; omega);obtain ⟨A7,c7,rfl,i1,i2,i3⟩:=M7.out.ext xm;obtain ⟨A8,c8,rfl,j1,j2,j3⟩:=M8.out.ext xm;obtain ⟨Am,cm,rfl,k1,k2,k3⟩:=nm;obtain ⟨rO,oU,UX⟩:=K7.out;obtain ⟨len8,lG,IY⟩:=K8.out;have ne7:∀ a,A7=some a->a.block ≠ wc.heap.size:=fun a e=>by subst e; have:=UX a _ _ rfl; omega
          have ne8:∀ a,A8=some a->a.block ≠ wc.heap.size:=fun a e=>by subst e; have:=IY a _ _ rfl; omega
          have nem:∀ a,Am=some a->a.block ≠ wc.heap.size:=fun a e=>by subst e; have:=fm' a _ _ rfl; omega
          have q1:l7.length<=E.length+F.length:=by omega
          have q2:0+l7.length<=(List.replicate (E.length+F.length) 0).length:=by rw [ra]; omega
          have q3:¬ (E.length+F.length=2 * half):=by omega
          have q4:l8.length<=E.length+F.length - 2 * half:=by omega
          have q5:2 * half+l8.length<=(List.take 0 (List.replicate (E.length+F.length) 0) ++ (l7 ++ List.drop (0+l7.length) (List.replicate (E.length+F.length) 0))).length:=by
           simp; omega
          have q6:(2:Int) * half<=E.length+F.length:=by omega
          have R1':=hid R1;have U9:=hid X1;have I3:=hid i3;have J3:=hid j3;have K3:=hid k3;have NE:=hid (And.intro ne7 (And.intro ne8 nem));have LV:=hid (And.intro (And.intro rO oU) (And.intro len8 lG));clear R1 X1 i3 j3 k3 ne7 ne8 nem rO oU len8 lG UX IY fm fm' xm oH K7 K8 M7 M8 M9 NA
          go_wp2_with (first
           | (with_reducible refine kak rfl (.tmp 99) (.tmp 100) rfl wc.heap.size 0 (E.length+F.length) (E.length+F.length) A7 c7 l7 (List.replicate (E.length+F.length) 0) rfl rfl R1'.out I3.out q1 q2 ?_
              intro wp R2 O2;have R2':=hid R2;have Ve:=hid O2
              clear R2 O2)
           | (with_reducible refine kak rfl (.tmp 105) (.tmp 106) rfl wc.heap.size (2 * half) (E.length+F.length - 2 * half) (E.length+F.length - 2 * half) A8 c8 l8 _ rfl rfl R2'.out (J3.out.only Ve.out NE.out.2.1) q4 q5 ?_
              intro wq R3 O3;have R3':=hid R3;have O3':=hid O3
              clear R3 O3))
          obtain ⟨⟨rO,oU⟩,len8,lG⟩:=LV.out
          have hZ : List.take (2 * half) (List.take 0 (List.replicate (E.length + F.length) 0) ++ (l7 ++ List.drop (0 + l7.length) (List.replicate (E.length + F.length) 0))) ++
           (l8 ++ List.drop (2 * half+l8.length) (List.take 0 (List.replicate (E.length+F.length) 0) ++ (l7 ++ List.drop (0+l7.length) (List.replicate (E.length+F.length) 0))))=l7 ++ l8:=by
           have e1:2 * half=l7.length:=by omega
           rw [td,tz,e1,List.take_left,ub (by simp; omega),sq]
          have R4:=R3'.out;rw [hZ] at R4;have Xx:(l7 ++ l8).length=E.length+F.length:=by rw [rh]; omega
          have UO:=jk E half (by omega);have hFs:=jk F half (by omega);have CB:val (l7 ++ l8)+B32 ^ half * (val (E.take half) * val (F.drop half)+val (E.drop half) * val (F.take half))=val E * val F:=by
           rw [val_append,rO,oU,lG,UO,hFs,wT];generalize val (E.take half)=a0;generalize val (E.drop half)=a1;generalize val (F.take half)=b0;generalize val (F.drop half)=b1;generalize B32 ^ half=P;rw [r5,rk,rk,rk];rw [show P * a1 * (P * b1)=P * P * (a1 * b1) from by rw [r9,Pc a1,<- r9],show a0 * (P * b1)=P * (a0 * b1) from Pc _ _ _,show P * a1 * b0=P * (a1 * b0) from r9 _ _ _];omega
          have QB:val E * val F < B32 ^ (E.length+F.length):=by
           rw [wT];exact Tr (wz G5.out.1) (Sq (wz G6.out.1)) (tp yj)
          have aF:=xbh Xx (by omega) CB QB;have TP:ug (l7 ++ l8):=I3.out.1.append J3.out.1;have lw:(dg (val (E.take half) * val (F.drop half)+val (E.drop half) * val (F.take half))).length<=E.length+F.length - half:=yf (by omega);have Zp:=Ve.out.trans O3'.out
          refine (gbe wc.heap.size half (E.length + F.length - half) (E.length + F.length - half) (l7 ++ l8) _ Am cm wq R4 TP (by omega) (pj _) (by omega)
           (K3.out.only Zp NE.out.2.2) NE.out.2.2 lw k1 k2 (by rw [jg]; exact aF)).mono ?_
          rintro e w' ⟨ys,rfl,t1,t2,t3,t4,t5,t6⟩;rw [jg] at t5;have bT:Hid (vav (ds.length+es.length) (val ds * val es) wc (.returned (.slice (some ⟨wc.heap.size,0,none⟩) (E.length+F.length) (E.length+F.length))) w'):=by
           refine ⟨_,ys,rfl,t1.kO t3 _ _ (by omega) (pj _) (by omega),by rw [t2,Xx]; exact G8.out,?_,wab.mk _ _ _ _ (pj _),?_⟩
           · rw [ub2 Xx (by omega) (by omega) CB t4 t5];exact G7.out
           · exact (Zp.trans t6).ext U9.out (pj _)
          clear t1 t2 t3 t4 t5 t6 Zp lw TP aF QB CB UO hFs Xx R4 hZ rO oU len8 lG;go_wp2_with fail;go_ret;exact bT.out
theorem qb9 (K:Nat):ubi K:=by
 induction K using Nat.strongRecOn with
 | _ K ih=>exact jbz K ih
theorem vdc (u v:Value) (ds es:List Nat) (w:World) (h:jc w u ds) (k:jc w v es) (hs:ds.length+es.length<=35184372088000) :
 Calls Tryz.prog 89 #[u,v] w (yat (val ds * val es) w):=by
 have l1:=zi h.kr;have l2:=zi k.kr;go_enter Tryz.func89,Tryz.ntmps89;go_wp2_with fail;refine (uw u ds _ h).mono ?_;rintro e w' ⟨u',rfl,hu,rfl⟩;go_wp2_with fail;refine (uw v es _ k).mono ?_;rintro e w' ⟨v',rfl,hv,rfl⟩;go_wp2_with fail;refine (qb9 (ds.length+es.length) _ _ _ _ _ hu hv (by omega) (by omega) (by omega)).mono ?_;rw [jg,jg];rintro e w' ⟨p,zs,rfl,p1,p2,p3,p4,p5⟩;have P3:=hid p3;have P5:=hid p5;clear p3 p5 p2 hu hv;go_wp2_with fail;refine (uw _ _ _ p1).mono ?_;rintro e w2 ⟨q,rfl,hq,rfl⟩;rw [P3.out] at hq;have HQ:=hid hq;clear hq;go_wp2_with fail;go_ret;exact ⟨_,rfl,HQ.out,P5.out⟩
end Go.Proofs.YtcepajijiabkmaaGreat
