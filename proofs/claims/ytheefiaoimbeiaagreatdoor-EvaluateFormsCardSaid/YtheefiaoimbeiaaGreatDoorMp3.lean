/- Layer 1 (natural): the product, divided into three. -/
import Derived.Test.YtheefiaoimbeiaaGreatDoorMp2
set_option linter.unusedSimpArgs false
set_option linter.unusedVariables false
set_option maxRecDepth 100000
set_option maxHeartbeats 8000000
namespace Go.Proofs.YtheefiaoimbeiaaGreatDoor
open Lib (hid)
open Go.RowKit
def vgi (w:World) (m L K:Nat) (s0 s1:Value) (wx:World):Prop:=
 ∃ A c A' c' E F,s0=.slice A E.length c/\s1=.slice A' F.length c'/\F.length<=E.length/\E.length<=c/\c<=9223372036854775807/\F.length<=c'/\c'<=9223372036854775807 /\
   ydm w A E/\ydm w A' F/\val E * val F=m/\E.length+F.length=L/\E.length<=K/\wx=w
def veq (K:Nat):Prop:=∀ (u v:Value) (ds es:List Nat) (w:World),zb1 w u ds->zb1 w v es->ds.length<=K->es.length<=K->ds.length+es.length<=35184372088000 ->
    Calls Tryz.prog 139 #[u,v] w (web (ds.length+es.length) (val ds * val es) w)
theorem ve4 (K:Nat) (ih:∀ K',K' < K->veq K'):veq K:=by
 intro u v ds es w h k hd1 hd2 hs;have IH:=hid ih;obtain ⟨A,c,rfl,h1,h2,h3⟩:=h;obtain ⟨A',c',rfl,h1',h2',h3'⟩:=k;have H3:=hid h3;have H3':=hid h3';clear h3 h3' ih;go_enter Tryz.func139,Tryz.ntmps139
 go_upto_if 14 with (fail)
 go_cut [0,1] (fun s0 s1 wx=>vgi w (val ds * val es) (ds.length+es.length) K s0 s1 wx)
 case first =>
  by_cases hlt:ds.length < es.length
  · go_wp2
    go_meet
    exact ⟨_,_,_,_,_,_,rfl,rfl,by omega,h1',h2',h1,h2,H3'.out,H3.out,re _ _,by omega,by omega,rfl⟩
  · go_wp2
    go_meet
    exact ⟨_,_,_,_,_,_,rfl,rfl,by omega,h1,h2,h1',h2',H3.out,H3'.out,rfl,rfl,hd1,rfl⟩
 case rest =>
  obtain ⟨A,c,A',c',E,F,rfl,rfl,hFE,g1,g2,g3,g4,g5,g6,g7,g8,g9,rfl⟩:=hcut;have G5:=hid g5;have G6:=hid g6;have G7:=hid g7;have G8:=hid g8;have hs':E.length+F.length<=35184372088000:=by omega
  clear g5 g6 g7 g8 H3 H3' h1 h2 h1' h2' hd1 hd2 hs
  by_cases hF:F.length < 48
  · go_wp2_with fail;refine (geu _ _ F E _ ⟨A',c',rfl,g3,g4,G6.out⟩ ⟨A,c,rfl,g1,g2,G5.out⟩ (by omega)).mono ?_;rintro e w' ⟨v,zs,rfl,hv1,hv2,hv3,hv4,hv5⟩
    have HR:Hid (web (ds.length+es.length) (val ds * val es) wc (.returned v) w'):=
     ⟨v,zs,rfl,hv1,by rw [hv2]; have:=G8.out; omega,by rw [hv3,re]; exact G7.out,hv4,hv5⟩
    clear hv1 hv2 hv3 hv4 hv5;go_wp2_with fail;go_ret;exact HR.out
  · have hmk:=fun W=>xdu ((E.length:Int)+F.length) (by omega) (by omega) W
    have HR0:Hid (Row (wc.alloc (Obj.cells (jdq (List.replicate (E.length+F.length) 0)).toArray 108)) wc.heap.size (List.replicate (E.length+F.length) 0)):=Row.new wc _;have HX0:Hid (Ext wc (wc.alloc (Obj.cells (jdq (List.replicate (E.length+F.length) 0)).toArray 108))):=(Ext.refl wc).alloc _;have HZ:Hid (val E=0\/val F=0->web (ds.length+es.length) (val ds * val es) wc (.returned (.slice (some ⟨wc.heap.size,0,none⟩) (E.length+F.length) (E.length+F.length))) (wc.alloc (Obj.cells (jdq (List.replicate (E.length+F.length) 0)).toArray 108))):=by
     intro hz;refine ⟨_,_,rfl,HR0.out.xO (kdk.replicate _) _ _ (by simp) (pf _) (by omega),by rw [rp]; exact G8.out,?_,zdo.mk _ _ _ _ (pf _),HX0.out⟩;rw [wdv,<- G7.out];rcases hz with hz | hz <;> rw [hz] <;> simp
    go_wp2_with fail;refine (ud0 _ E _ ⟨A,c,rfl,g1,g2,G5.out.ext HX0.out⟩).mono ?_;rintro e w' ⟨rfl,rfl⟩
    by_cases hz:val E=0
    · have hzb:(val E == 0)=true:=by simp [hz]
      have hz':=hid hz;clear hz;go_wp2_with fail;go_ret;exact HZ.out (.inl hz'.out)
    · have hzb:(val E == 0)=false:=by simp [hz]
      go_wp2_with fail;refine (ud0 _ F _ ⟨A',c',rfl,g3,g4,G6.out.ext HX0.out⟩).mono ?_;rintro e w' ⟨rfl,rfl⟩
      by_cases hz2:val F=0
      · have aos:(val F == 0)=true:=by simp [hz2]
        have hz':=hid hz2;clear hz2;go_wp2_with fail;go_ret;exact HZ.out (.inr hz'.out)
      · have aos:(val F == 0)=false:=by simp [hz2]
        clear HZ;obtain ⟨half,hh⟩:∃ half:Nat,half=(E.length+1) / 2:=⟨_,rfl⟩;have hh1:E.length<=2 * half:=by omega
        have hh2:2 * half<=E.length+1:=by omega
        have akm:((E.length:Int)+1) / 2=(half:Int):=by omega
        clear hh;obtain ⟨ad,rfl,-,-⟩:=G5.out.2 (by omega);obtain ⟨ad',rfl,-,-⟩:=G6.out.2 (by omega);have b1:(0:Int)<=half:=by omega
        have b2:(half:Int)<=c:=by omega
        have b4:(half:Int)<=E.length:=by omega
        have b6:¬ (c=half):=by omega
        have hb:¬ (E.length+F.length=half):=by omega
        by_cases hFh:F.length<=half
        · have b5:(F.length:Int)<=half:=by omega
          go_wp2_with fail;rw [akm];clear akm hzb aos hz hz2;generalize hW:wc.alloc (Obj.cells (jdq (List.replicate (E.length+F.length) 0)).toArray 108)=W at *;have hWs:W.heap.size=wc.heap.size+1:=by rw [<- hW]; simp
          have HWS:=hid hWs;clear hW hWs;have hl:(E.take half).length=half:=by rw [px,rh (by omega)]
          have Hp:=IH.out half (by omega) _ _ _ _ W ((G5.out.ext HX0.out).xC half c (by omega) g1 g2) ⟨_,_,rfl,g3,g4,G6.out.ext HX0.out⟩ (by omega) (by omega) (by omega);rw [hl] at Hp;refine Hp.mono ?_;clear Hp hl;rintro e w7 ⟨v7,l7,rfl,p1,p2,p3,p4,p5⟩;obtain ⟨A7,c7,rfl,i1,i2,i3⟩:=p1;have R1':=hid (HR0.out.ext p5);have X1':=hid (HX0.out.trans p5);have I3:=hid i3;have P2:=hid p2;have P3:=hid p3;have q1:l7.length<=E.length+F.length:=by omega
          have q2:0+l7.length<=(List.replicate (E.length+F.length) 0).length:=by rw [rp]; omega
          have P5:=hid p5;clear p2 p3 p4 p5 i3
          go_wp2_with (with_reducible refine ud3 rfl (.tmp 44) (.tmp 49) rfl wc.heap.size 0 (E.length + F.length) (E.length + F.length) A7 c7 l7 (List.replicate (E.length + F.length) 0) rfl rfl R1'.out I3.out q1 q2 ?_
                       intro wp R2 O2;have R2':=hid R2;have O2':=hid O2
                       clear R2 O2)
          go_frame
          have hbA:∀ a,some ad=some a->a.block ≠ wc.heap.size:=fun a e=>by
           obtain ⟨ad2,e2,hb2,-⟩:=G5.out.2 (by omega);injection e with e; injection e2 with e2; subst e; subst e2; omega
          have hbB:∀ a,some ad'=some a->a.block ≠ wc.heap.size:=fun a e=>by
           obtain ⟨ad2,e2,hb2,-⟩:=G6.out.2 (by omega);injection e with e; injection e2 with e2; subst e; subst e2; omega
          have HBA:=hid hbA;have HBB:=hid hbB;clear hbA hbB
          have aky : Hid (∀ W', Only wc.heap.size wp W' -> Calls Tryz.prog 139 #[.slice (some (ad.add half)) (E.length - half) (c - half), .slice (some ad') F.length c'] W'
           (fun e w'=>∃ v,e=.returned v/\zec W' w' v (E.length - half+F.length) (val (E.drop half) * val F)/\Only wc.heap.size wp w')):=by
           intro W' hx;have hx':=O2'.out.trans hx;refine (IH.out half (by omega) _ _ _ _ W' (((G5.out.ext X1'.out).only hx' HBA.out).xD half c (by omega) g1 g2) ⟨_,_,rfl,g3,g4,(G6.out.ext X1'.out).only hx' HBB.out⟩ (by rw [pL]; omega) (by omega) (by rw [pL]; omega)).mono ?_;rintro e w' ⟨v,zs,rfl,p1,p2,p3,p4,p5⟩;exact ⟨v,rfl,⟨zs,p1,by rw [p2,pL],p3,p4,p5⟩,hx.trans (Only.qo p5)⟩
          have b8:(half:Int)<=(E.length:Int)+F.length:=by omega
          have b9:(half:Int)<=((E.length+F.length:Nat):Int):=by omega
          have HZ:Hid (Row wp wc.heap.size (l7 ++ List.replicate (E.length+F.length - l7.length) 0)):=by
           have:=R2'.out;rw [sR,uj,pH,List.drop_replicate] at this;exact this
          have hEs:=ydn E half (by omega);have HJ:Hid (val (l7 ++ List.replicate (E.length+F.length - l7.length) 0)+B32 ^ half * (val (E.drop half) * val F)=val E * val F):=by
           have:val (l7 ++ List.replicate (E.length+F.length - l7.length) 0)+B32 ^ half * (val (E.drop half) * val F)=val E * val F:=by
            rw [val_append,wdv,P3.out,hEs,sQ,sx,pT,pS]
           exact this
          have HT:Hid (val E * val F < B32 ^ (E.length+F.length)):=by
           have:val E * val F < B32 ^ (E.length+F.length):=by
            rw [su];exact tH (qdu G5.out.1) (tq (qdu G6.out.1)) (rF kdm)
           exact this
          have HZL:Hid ((l7 ++ List.replicate (E.length+F.length - l7.length) 0).length=E.length+F.length):=by
           have:(l7 ++ List.replicate (E.length+F.length - l7.length) 0).length=E.length+F.length:=by simp; omega
           exact this
          have HZD:Hid (kdk (l7 ++ List.replicate (E.length+F.length - l7.length) 0)):=I3.out.1.append (kdk.replicate _);clear hEs R2';generalize l7 ++ List.replicate (E.length+F.length - l7.length) 0=Z at *;have hmo:wc.heap.size < wp.heap.size:=HZ.out.lt
          go_region_held3 (fun W' => Only wc.heap.size wp W') (first | exact (Only.refl _ wp).drewN 1 | assumption)
           (first
             | (go_at_call 139; refine (aky.out _ ?_).mono ?_; assumption; rintro e w8 ⟨v8,rfl,P8,x8⟩; have P8':=hid P8; clear P8)
             | (go_at_call 114; obtain ⟨l8,n8,len8,af4,fr8,xx8⟩:=P8'.out; refine (kej _ _ _ _ n8 fr8).mono ?_; rintro e w9 ⟨v9,rfl,n9,fr9,rfl⟩; obtain ⟨A9,c9,rfl,m1,m2,m3⟩:=n9; have M3:=hid m3; have FR9:=hid fr9; have apl:=hid af4; have XX8:=hid xx8; clear m3 fr9 af4 xx8 n8 fr8 len8)
             | (go_at_call 157
                refine (keo wc.heap.size half (E.length + F.length - half) (E.length + F.length - half) Z _ A9 c9 _ (Row.ext (w := World.drew wp) HZ.out XX8.out) HZD.out (by have := HZL.out; omega) (pf _) (by omega) M3.out
                 (fun a e=>by subst e; have h1:=FR9.out a _ _ rfl; have h2:wp.heap.size<=a.block:=h1; omega)
                 (by have:=wep HZL.out (show half<=E.length+F.length by omega) HJ.out HT.out; exact gdk (by rw [apl.out]; omega)) m1 m2
                 (by rw [zdk,apl.out]; exact wep HZL.out (by omega) HJ.out HT.out)).mono ?_
                rintro e w' ⟨ys,rfl,t1,t2,t3,t4,t5,t6⟩;rw [zdk,apl.out] at t5;have t7:Only wc.heap.size wp w':=Only.trans x8 t6;have ach:Hid (web (ds.length+es.length) (val ds * val es) wc (.returned (.slice (some ⟨wc.heap.size,0,none⟩) (E.length+F.length) (E.length+F.length))) w'):=by
                 refine ⟨_,ys,rfl,t1.xO t3 _ _ (by have:=HZL.out; omega) (pf _) (by omega),by rw [t2,HZL.out]; exact G8.out,?_,zdo.mk _ _ _ _ (pf _),?_⟩
                 · rw [ze6 HZL.out (by have:=HZL.out; omega) (by omega) HJ.out t4 t5];exact G7.out
                 · exact (O2'.out.trans t7).ext X1'.out (pf _)
                clear t1 t2 t3 t4 t5 t6))
          go_wp2_with fail;go_ret;exact ach.out
        · have b3:(half:Int)<=c':=by omega
          have b5:(half:Int)<=F.length:=by omega
          have b7:¬ (c'=half):=by omega
          go_wp2_with fail;rw [akm];clear akm hzb aos hz hz2;generalize hW:wc.alloc (Obj.cells (jdq (List.replicate (E.length+F.length) 0)).toArray 108)=W at *;have hWs:W.heap.size=wc.heap.size+1:=by rw [<- hW]; simp
          have HWS:=hid hWs;clear hW hWs;have asL:Hid (∀ W',Ext W W'->Calls Tryz.prog 139 #[.slice (some ad) half c,.slice (some ad') half c'] W' (fun e w'=>∃ v,e=.returned v/\zec W w' v (half+half) (val (E.take half) * val (F.take half))/\Ext W' w')):=by
           intro W' hx;have hx':=HX0.out.trans hx;have hl:(E.take half).length=half:=by rw [px,rh (by omega)]
           have hl':(F.take half).length=half:=by rw [px,rh (by omega)]
           refine (IH.out half (by omega) _ _ _ _ W' ((G5.out.ext hx').xC half c (by omega) g1 g2) ((G6.out.ext hx').xC half c' (by omega) g3 g4) (by omega) (by omega) (by omega)).mono ?_;rintro e w' ⟨v,zs,rfl,p1,p2,p3,p4,p5⟩;exact ⟨v,rfl,⟨zs,p1,by rw [p2,hl,hl'],p3,p4.mono hx.size,hx.trans p5⟩,p5⟩
          have aky : Hid (∀ W', Ext W W' -> Calls Tryz.prog 139 #[.slice (some (ad.add half)) (E.length - half) (c - half), .slice (some (ad'.add half)) (F.length - half) (c' - half)] W'
           (fun e w'=>∃ v,e=.returned v/\zec W w' v (E.length - half+(F.length - half)) (val (E.drop half) * val (F.drop half))/\Ext W' w')):=by
           intro W' hx;have hx':=HX0.out.trans hx;refine (IH.out half (by omega) _ _ _ _ W' ((G5.out.ext hx').xD half c (by omega) g1 g2) ((G6.out.ext hx').xD half c' (by omega) g3 g4) (by rw [pL]; omega) (by rw [pL]; omega) (by rw [pL,pL]; omega)).mono ?_;rintro e w' ⟨v,zs,rfl,p1,p2,p3,p4,p5⟩;exact ⟨v,rfl,⟨zs,p1,by rw [p2,pL,pL],p3,p4.mono hx.size,hx.trans p5⟩,p5⟩
          have an8:Hid (∀ W',Ext W W'->Calls Tryz.prog 117 #[.slice (some ad) half c,.slice (some (ad.add half)) (E.length - half) (c - half)] W' (jea (val (E.take half)+val (E.drop half)) W')):=by
           intro W' hx;have hx':=HX0.out.trans hx;exact yem _ _ _ _ _ ((G5.out.ext hx').xC half c (by omega) g1 g2) ((G5.out.ext hx').xD half c (by omega) g1 g2) (by rw [px,pL]; omega)
          have an7:Hid (∀ W',Ext W W'->Calls Tryz.prog 117 #[.slice (some ad') half c',.slice (some (ad'.add half)) (F.length - half) (c' - half)] W' (jea (val (F.take half)+val (F.drop half)) W')):=by
           intro W' hx;have hx':=HX0.out.trans hx;exact yem _ _ _ _ _ ((G6.out.ext hx').xC half c' (by omega) g3 g4) ((G6.out.ext hx').xD half c' (by omega) g3 g4) (by rw [px,pL]; omega)
          have akx:Hid ((dg (val (E.take half)+val (E.drop half))).length<=half+1):=by
           refine po (kd5 _ _) ?_;have l1:=xdk (G5.out.1.take half);have l2:=xdk (G5.out.1.drop half);rw [px] at l1;rw [pL] at l2;omega
          have akw:Hid ((dg (val (F.take half)+val (F.drop half))).length<=half+1):=by
           refine po (kd5 _ _) ?_;have l1:=xdk (G6.out.1.take half);have l2:=xdk (G6.out.1.drop half);rw [px] at l1;rw [pL] at l2;omega
          go_region_held3 (fun W'=>Ext W W') (first | exact (Ext.refl W).drew | assumption) ((go_at_call 139; refine (asL.out _ ?_).mono ?_; assumption; rintro e w7 ⟨v7,rfl,P7,x7⟩; have y7:Ext W w7:=Ext.trans (by assumption) x7))
          have P7':=hid P7;have Y7:=hid y7;clear P7 x7 y7;go_wp2_with fail
          go_region_held3 (fun W'=>Ext w7 W') (first | exact (Ext.refl w7).drew | assumption) ((go_at_call 139; refine (aky.out _ ?_).mono ?_; (exact Ext.trans Y7.out (by assumption)); rintro e w8 ⟨v8,rfl,P8,x8⟩; have y8:Ext w7 w8:=Ext.trans (by assumption) x8))
          have P8':=hid P8;have asJ:=hid (P7'.out.ext y8);have Y8:=hid (Y7.out.trans y8);clear P8 x8 y8 P7' Y7 asL aky;go_wp2_with fail
          go_region_held3 (fun W' => Ext w8 W') (first | exact (Ext.refl w8).drew | assumption)
           (first
             | (go_at_call_of 117 (Value.slice (some ad) half c); refine (an8.out _ ?_).mono ?_; (exact Ext.trans Y8.out (by assumption)); rintro e wa ⟨va,rfl,pa1,pa2⟩; have ya:Ext w8 wa:=Ext.trans (by assumption) pa2)
             | (go_at_call_of 117 (Value.slice (some ad') half c'); refine (an7.out _ ?_).mono ?_; (exact Ext.trans Y8.out (by assumption)); rintro e wb ⟨vb,rfl,pb1,pb2⟩; have yb:Ext w8 wb:=Ext.trans (by assumption) pb2)
             | (go_at_call 139; refine (IH.out (half+1) (by omega) _ _ _ _ _ (pa1.ext pb2) pb1 akx.out akw.out (by have:=akx.out; have:=akw.out; omega)).mono ?_; rintro e w9 ⟨v9,l9,rfl,p1,p2,p3,p4,p5⟩; have y9:Ext w8 w9:=Ext.trans yb p5))
          have N9:=hid p1;have V9:=hid p3;have L9:Hid (l9.length<=35184372088000):=hid (by rw [p2]; have:=akx.out; have:=akw.out; omega);have Q7:=hid (asJ.out.ext y9);have Q8:=hid (P8'.out.ext y9);have Y9:=hid (Y8.out.trans y9);clear p1 p2 p3 p4 p5 pa1 pa2 ya pb1 pb2 yb y9 asJ P8' Y8 an8 an7 akx akw;rw [zdk,zdk] at V9;obtain ⟨l7,n7,veh,agW,fr7,-⟩:=Q7.out;obtain ⟨l8,n8,len8,af4,fr8,-⟩:=Q8.out;go_wp2_with fail;refine (yem _ _ _ _ _ n7 n8 (by omega)).mono ?_;rintro e wa ⟨va,rfl,na,xa⟩;have arO:val l7+val l8<=val l9:=by
           rw [agW,af4,V9.out,pT,pD,pD];omega
          have aro:val l9 - (val l7+val l8)=val (E.take half) * val (F.drop half)+val (E.drop half) * val (F.take half):=by
           rw [agW,af4,V9.out,pT,pD,pD];omega
          have HGE:=hid arO;have awY:=hid aro;have M7:=hid (n7.ext xa);have M8:=hid (n8.ext xa);have M9:=hid (N9.out.ext xa);have NA:=hid na;have XA:=hid xa;clear Q7 Q8 N9 n7 n8 na xa arO aro;have K7:=hid (And.intro veh (And.intro agW fr7));have K8:=hid (And.intro len8 (And.intro af4 fr8));clear veh agW fr7 len8 af4 fr8;go_wp2_with fail;refine (ueu _ _ _ _ _ M9.out NA.out L9.out (by rw [zdk]; exact HGE.out)).mono ?_;rintro e wm ⟨vm,rfl,nm,fm,xm⟩;rw [zdk,awY.out] at nm;have R1:=HR0.out.ext (Y9.out.trans (XA.out.trans xm));have X1:=HX0.out.trans (Y9.out.trans (XA.out.trans xm));have hws:=HWS.out;have fm':zdo (wc.heap.size+1) vm:=fm.mono (by have:=Y9.out.size; have:=XA.out.size; omega);obtain ⟨A7,c7,rfl,i1,i2,i3⟩:=M7.out.ext xm;obtain ⟨A8,c8,rfl,j1,j2,j3⟩:=M8.out.ext xm;obtain ⟨Am,cm,rfl,k1,k2,k3⟩:=nm;obtain ⟨veh,agW,fr7⟩:=K7.out;obtain ⟨len8,af4,fr8⟩:=K8.out;have ne7:∀ a,A7=some a->a.block ≠ wc.heap.size:=fun a e=>by subst e; have:=fr7 a _ _ rfl; omega
          have ne8:∀ a,A8=some a->a.block ≠ wc.heap.size:=fun a e=>by subst e; have:=fr8 a _ _ rfl; omega
          have nem:∀ a,Am=some a->a.block ≠ wc.heap.size:=fun a e=>by subst e; have:=fm' a _ _ rfl; omega
          have q1:l7.length<=E.length+F.length:=by omega
          have q2:0+l7.length<=(List.replicate (E.length+F.length) 0).length:=by rw [rp]; omega
          have q3:¬ (E.length+F.length=2 * half):=by omega
          have q4:l8.length<=E.length+F.length - 2 * half:=by omega
          have q5:2 * half+l8.length<=(List.take 0 (List.replicate (E.length+F.length) 0) ++ (l7 ++ List.drop (0+l7.length) (List.replicate (E.length+F.length) 0))).length:=by
           simp; omega
          have q6:(2:Int) * half<=E.length+F.length:=by omega
          have R1':=hid R1;have X1':=hid X1;have I3:=hid i3;have J3:=hid j3;have K3:=hid k3;have NE:=hid (And.intro ne7 (And.intro ne8 nem));have LV:=hid (And.intro (And.intro veh agW) (And.intro len8 af4));clear R1 X1 i3 j3 k3 ne7 ne8 nem veh agW len8 af4 fr7 fr8 fm fm' xm hws K7 K8 M7 M8 M9 NA
          go_wp2_with (first
           | (with_reducible refine ud3 rfl (.tmp 99) (.tmp 100) rfl wc.heap.size 0 (E.length+F.length) (E.length+F.length) A7 c7 l7 (List.replicate (E.length+F.length) 0) rfl rfl R1'.out I3.out q1 q2 ?_
              intro wp R2 O2;have R2':=hid R2;have O2':=hid O2
              clear R2 O2)
           | (with_reducible refine ud3 rfl (.tmp 105) (.tmp 106) rfl wc.heap.size (2 * half) (E.length+F.length - 2 * half) (E.length+F.length - 2 * half) A8 c8 l8 _ rfl rfl R2'.out (J3.out.only O2'.out NE.out.2.1) q4 q5 ?_
              intro wq R3 O3;have R3':=hid R3;have O3':=hid O3
              clear R3 O3))
          obtain ⟨⟨veh,agW⟩,len8,af4⟩:=LV.out
          have hZ : List.take (2 * half) (List.take 0 (List.replicate (E.length + F.length) 0) ++ (l7 ++ List.drop (0 + l7.length) (List.replicate (E.length + F.length) 0))) ++
           (l8 ++ List.drop (2 * half+l8.length) (List.take 0 (List.replicate (E.length+F.length) 0) ++ (l7 ++ List.drop (0+l7.length) (List.replicate (E.length+F.length) 0))))=l7 ++ l8:=by
           have e1:2 * half=l7.length:=by omega
           rw [sR,uj,e1,List.take_left,ux (by simp; omega),tm]
          have R4:=R3'.out;rw [hZ] at R4;have hZl:(l7 ++ l8).length=E.length+F.length:=by rw [pz]; omega
          have hEs:=ydn E half (by omega);have hFs:=ydn F half (by omega);have alG:val (l7 ++ l8)+B32 ^ half * (val (E.take half) * val (F.drop half)+val (E.drop half) * val (F.take half))=val E * val F:=by
           rw [val_append,veh,agW,af4,hEs,hFs,su];generalize val (E.take half)=a0;generalize val (E.drop half)=a1;generalize val (F.take half)=b0;generalize val (F.drop half)=b1;generalize B32 ^ half=P;rw [pT,pD,pD,pD];rw [show P * a1 * (P * b1)=P * P * (a1 * b1) from by rw [pS,sT a1,<- pS],show a0 * (P * b1)=P * (a0 * b1) from sT _ _ _,show P * a1 * b0=P * (a1 * b0) from pS _ _ _];omega
          have aqN:val E * val F < B32 ^ (E.length+F.length):=by
           rw [su];exact tH (qdu G5.out.1) (tq (qdu G6.out.1)) (rF kdm)
          have agk:=wep hZl (by omega) alG aqN;have arY:kdk (l7 ++ l8):=I3.out.1.append J3.out.1;have hml:(dg (val (E.take half) * val (F.drop half)+val (E.drop half) * val (F.take half))).length<=E.length+F.length - half:=gdk (by omega);have o13:=O2'.out.trans O3'.out
          refine (keo wc.heap.size half (E.length + F.length - half) (E.length + F.length - half) (l7 ++ l8) _ Am cm wq R4 arY (by omega) (pf _) (by omega)
           (K3.out.only o13 NE.out.2.2) NE.out.2.2 hml k1 k2 (by rw [zdk]; exact agk)).mono ?_
          rintro e w' ⟨ys,rfl,t1,t2,t3,t4,t5,t6⟩;rw [zdk] at t5;have ach:Hid (web (ds.length+es.length) (val ds * val es) wc (.returned (.slice (some ⟨wc.heap.size,0,none⟩) (E.length+F.length) (E.length+F.length))) w'):=by
           refine ⟨_,ys,rfl,t1.xO t3 _ _ (by omega) (pf _) (by omega),by rw [t2,hZl]; exact G8.out,?_,zdo.mk _ _ _ _ (pf _),?_⟩
           · rw [ze6 hZl (by omega) (by omega) alG t4 t5];exact G7.out
           · exact (o13.trans t6).ext X1'.out (pf _)
          clear t1 t2 t3 t4 t5 t6 o13 hml arY agk aqN alG hEs hFs hZl R4 hZ veh agW len8 af4;go_wp2_with fail;go_ret;exact ach.out
theorem yfa (K:Nat):veq K:=by
 induction K using Nat.strongRecOn with
 | _ K ih=>exact ve4 K ih
theorem xgd (u v:Value) (ds es:List Nat) (w:World) (h:zb1 w u ds) (k:zb1 w v es) (hs:ds.length+es.length<=35184372088000) :
 Calls Tryz.prog 116 #[u,v] w (jea (val ds * val es) w):=by
 have l1:=xdk h.xi;have l2:=xdk k.xi;go_enter Tryz.func116,Tryz.ntmps116;go_wp2_with fail;refine (vdr u ds _ h).mono ?_;rintro e w' ⟨u',rfl,hu,rfl⟩;go_wp2_with fail;refine (vdr v es _ k).mono ?_;rintro e w' ⟨v',rfl,hv,rfl⟩;go_wp2_with fail;refine (yfa (ds.length+es.length) _ _ _ _ _ hu hv (by omega) (by omega) (by omega)).mono ?_;rw [zdk,zdk];rintro e w' ⟨p,zs,rfl,p1,p2,p3,p4,p5⟩;have P3:=hid p3;have P5:=hid p5;clear p3 p5 p2 hu hv;go_wp2_with fail;refine (vdr _ _ _ p1).mono ?_;rintro e w2 ⟨q,rfl,hq,rfl⟩;rw [P3.out] at hq;have HQ:=hid hq;clear hq;go_wp2_with fail;go_ret;exact ⟨_,rfl,HQ.out,P5.out⟩
def sgn (neg:Bool) (n:Nat):Int:=if neg then -(n:Int) else n
theorem gdo (neg:Bool) (n:Nat):(sgn neg n).natAbs=n:=by cases neg <;> simp [sgn]
def wdl (w:World) (x:Value) (z:Int) (L:Nat):Prop:=∃ neg v ds,x=.agg #[.bool neg,v]/\zb1 w v ds/\z=sgn neg (val ds)/\ds.length<=L
def udy (w:World) (x:Value) (z:Int):Prop:=∃ v,x=.agg #[.bool (decide (z < 0)),v]/\zb1 w v (dg z.natAbs)
theorem gd2 (z:Int):sgn (decide (z < 0)) z.natAbs=z:=by
 unfold sgn
 by_cases h:z < 0
 · simp [h]; omega
 · simp [h]; omega
theorem udy.raw {w:World} {x:Value} {z:Int} (h:udy w x z):wdl w x z (dg z.natAbs).length:=by
 obtain ⟨v,e,hv⟩:=h;exact ⟨_,v,_,e,hv,by rw [zdk,gd2],pf _⟩
theorem wdl.mono {w:World} {x:Value} {z:Int} {L L':Nat} (h:wdl w x z L) (hl:L<=L'):wdl w x z L':=by
 obtain ⟨neg,v,ds,e,hv,hz,hl'⟩:=h;exact ⟨neg,v,ds,e,hv,hz,po hl' hl⟩
theorem wdl.ext {w w':World} {x:Value} {z:Int} {L:Nat} (h:wdl w x z L) (hx:Ext w w'):wdl w' x z L:=by
 obtain ⟨neg,v,ds,e,hv,hz,hl'⟩:=h;exact ⟨neg,v,ds,e,hv.ext hx,hz,hl'⟩
theorem udy.ext {w w':World} {x:Value} {z:Int} (h:udy w x z) (hx:Ext w w'):udy w' x z:=by
 obtain ⟨v,e,hv⟩:=h;exact ⟨v,e,hv.ext hx⟩
theorem wdl.len {w:World} {x:Value} {z:Int} {L:Nat} (h:wdl w x z L):(dg z.natAbs).length<=L:=by
 obtain ⟨neg,v,ds,e,hv,rfl,hl'⟩:=h;rw [gdo];exact po (xdk hv.xi) hl'
def wdo : Value -> Bool
 | .int .u32 _=>true
 | _=>false
theorem ydm.box {w:World} {A:Option Addr} {ds:List Nat} {p:Addr} {u:Value} (h:ydm w A ds) (hp:w.cell? p=some u) (hu:wdo u=false) (v:Value):ydm (w.setCell p v) A ds:=
 ⟨h.1,fun hl=>by
   obtain ⟨ad,e,hb,hc⟩:=h.2 hl;refine ⟨ad,e,by simpa [World.setCell] using hb,fun j hj=>?_⟩;rw [pe w p _ v (fun e=>by rw [e,hc j hj] at hp; injection hp with hp; rw [<- hp] at hu; cases hu)]
   exact hc j hj⟩
theorem zb1.box {w:World} {x:Value} {ds:List Nat} {p:Addr} {u:Value} (h:zb1 w x ds) (hp:w.cell? p=some u) (hu:wdo u=false) (v:Value):zb1 (w.setCell p v) x ds:=by
 obtain ⟨A,c,e,h1,h2,h3⟩:=h;exact ⟨A,c,e,h1,h2,h3.box hp hu v⟩
theorem udy.box {w:World} {x:Value} {z:Int} {p:Addr} {u:Value} (h:udy w x z) (hp:w.cell? p=some u) (hu:wdo u=false) (v:Value):udy (w.setCell p v) x z:=by
 obtain ⟨y,e,hy⟩:=h;exact ⟨y,e,hy.box hp hu v⟩
theorem wdl.box {w:World} {x:Value} {z:Int} {L:Nat} {p:Addr} {u:Value} (h:wdl w x z L) (hp:w.cell? p=some u) (hu:wdo u=false) (v:Value):wdl (w.setCell p v) x z L:=by
 obtain ⟨neg,y,ds,e,hv,hz,hl'⟩:=h;exact ⟨neg,y,ds,e,hv.box hp hu v,hz,hl'⟩
def vdz (z:Int) (w:World) (e:Ending) (w':World):Prop:=∃ x,e=.returned x/\udy w' x z/\Ext w w'
theorem jds {w W : World} {g : Nat} {z : Int} {b s u0 u1 : Value} (hx : Ext w W) (hg : w.heap.size <= g) (h0 : W.cell? ⟨g, 0, none⟩ = some u0) (h1 : W.cell? ⟨g, 1, none⟩ = some u1)
 (d0:wdo u0=false) (d1:wdo u1=false) (hN:udy W (.agg #[b,s]) z):vdz z w (.returned (.agg #[b,s])) ((W.setCell ⟨g,0,none⟩ b).setCell ⟨g,1,none⟩ s):=by
 refine ⟨_,rfl,(hN.box h0 d0 b).box (u:=u1) ?_ d1 s,(hx.setCell (by simpa using hg) _).setCell (by simpa using hg) _⟩;rw [pe _ _ _ _ (by simp),h1]
theorem wem (neg:Bool) (n:Nat):decide (sgn neg n < 0)=(neg && decide (0 < (dg n).length)):=by
 have h:0 < (dg n).length ↔ 0 < n:=by
  constructor
  · intro h; rcases rO n with e | e
    · subst e; rw [jdn] at h; simp at h
    · exact e
  · intro h; exact qd5 (by omega)
 cases neg
 · simp [sgn]
 · simp only [sgn,if_true,Bool.true_and];rw [sX,decide_eq_true_eq,decide_eq_true_eq,h]; omega
theorem vd6 (neg:Bool) (v:Value) (n:Nat) (w:World) (h:zb1 w v (dg n)):Calls Tryz.prog 115 #[.bool neg,v] w (vdz (sgn neg n) w):=by
 obtain ⟨A,c,rfl,h1,h2,h3⟩:=h;have H3:=hid h3;clear h3;have HS:=hid (wem neg n);generalize hE:dg n=E at *;have HE:=hid hE;clear hE;have HF:Hid (∀ b,b=(neg && decide (0 < E.length))->vdz (sgn neg n) w (.returned (.agg #[.bool b,.slice A E.length c])) (w.alloc (Obj.cells #[.bool b,.slice A E.length c] 25))):=by
  intro b hb;refine ⟨_,rfl,⟨.slice A E.length c,?_,A,c,?_,?_,h2,?_⟩,(Ext.refl w).alloc _⟩
  · rw [hb,HS.out]
  · rw [gdo,HE.out]
  · rw [gdo,HE.out]; exact h1
  · rw [gdo,HE.out]; exact H3.out.ext ((Ext.refl w).alloc _)
 cases neg
 · go_enter Tryz.func115,Tryz.ntmps115
   go_wp2
   exact bodyPost_ret (v:=.agg #[.bool false,.slice A E.length c]) (by simp [results,Tryz.results115,go_sem]) rfl (HF.out _ rfl)
 · by_cases hl:0 < E.length
   · have hlb:decide ((E.length:Int) > 0)=true:=by simp; omega
     go_enter Tryz.func115,Tryz.ntmps115
     go_wp2
     exact bodyPost_ret (v:=.agg #[.bool true,.slice A E.length c]) (by simp [results,Tryz.results115,go_sem]) rfl (HF.out _ (by simp [hl]))
   · go_enter Tryz.func115,Tryz.ntmps115
     go_wp2
     exact bodyPost_ret (v:=.agg #[.bool false,.slice A E.length c]) (by simp [results,Tryz.results115,go_sem]) rfl (HF.out _ (by simp [hl]))
theorem ud5 (neg:Bool) (v:Value) (ds:List Nat) (w:World) (h:zb1 w v ds) (hs:ds.length<=35184372088832):Calls Tryz.prog 110 #[.bool neg,v] w (vdz (sgn neg (val ds)) w):=by
 go_enter Tryz.func110,Tryz.ntmps110;go_wp2_with fail;refine (vdv _ _ _ (h.ext ((Ext.refl w).alloc _)) hs).mono ?_;rintro e w1 ⟨v1,rfl,hv,hx⟩;go_wp2_with fail;refine (vd6 _ _ _ _ hv).mono ?_;rintro e w2 ⟨x,rfl,⟨v2,rfl,hv2⟩,hx2⟩;obtain ⟨A2,c2,rfl,q1,q2,q3⟩:=hv2;have hx3:=hx.trans hx2;obtain ⟨hc,hf⟩:=hx3.cells;have hz:=hx3.size;have HF:=hid (jds (g:=w.heap.size) (z:=sgn neg (val ds)) (u0:=.bool false) (u1:=.slice none 0 0) (((Ext.refl w).alloc (Obj.cells #[.bool false,.slice none 0 0] 25)).trans hx3) (pf _) (by rw [hc _ _ (by simp)]; simp [rQ]) (by rw [hc _ _ (by simp)]; simp [rQ]) rfl rfl ⟨_,rfl,A2,c2,rfl,q1,q2,q3⟩);clear hv hx hx2 hx3 q3;rw [pU] at hz;go_wp2_with fail;exact bodyPost_ret (v:=.agg #[.bool (decide (sgn neg (val ds) < 0)),.slice A2 (dg (sgn neg (val ds)).natAbs).length c2]) (by simp [results,Tryz.results110,go_sem,hc]) rfl HF.out
theorem qd7 (x:Value) (z:Int) (L:Nat) (w:World) (h:wdl w x z L) (hs:L<=35184372088832):Calls Tryz.prog 76 #[x] w (vdz (z) w):=by
 obtain ⟨neg,v,ds,rfl,⟨A,c,rfl,h1,h2,h3⟩,hz,hl⟩:=h;have hzz:z=sgn (neg) (val ds):=by rw [hz]
 rw [hzz];clear hz hzz;have hx0:Ext w ((w.alloc (Obj.cells #[.bool neg,.slice A ds.length c] 25)).alloc (Obj.cells #[.bool false,.slice none 0 0] 25)):=((Ext.refl w).alloc _).alloc _;have HX0:=hid hx0;have H3:=hid h3;clear hx0 h3;go_enter Tryz.func76,Tryz.ntmps76;go_wp2_with fail;refine (ud5 _ _ _ _ ⟨A,c,rfl,h1,h2,H3.out.ext HX0.out⟩ (by omega)).mono ?_;rintro e w2 ⟨x,rfl,⟨v2,rfl,A2,c2,rfl,q1,q2,q3⟩,hx2⟩;obtain ⟨hc,hf⟩:=hx2.cells;have hz:=hx2.size;have HF:=hid (jds (g:=w.heap.size+1) (z:=sgn (neg) (val ds)) (u0:=.bool false) (u1:=.slice none 0 0) (HX0.out.trans hx2) (by omega) (by rw [hc _ _ (by simp)]; simp [go_sem]) (by rw [hc _ _ (by simp)]; simp [go_sem]) rfl rfl ⟨_,rfl,A2,c2,rfl,q1,q2,q3⟩);clear hx2 q3;rw [pU,pU] at hz;go_wp2_with fail;exact bodyPost_ret (v:=.agg #[.bool (decide (sgn (neg) (val ds) < 0)),.slice A2 (dg (sgn (neg) (val ds)).natAbs).length c2]) (by simp [results,Tryz.results76,go_sem,hc]) rfl HF.out
theorem ygd (x:Value) (z:Int) (L:Nat) (w:World) (h:wdl w x z L) (hs:L<=35184372088832):Calls Tryz.prog 83 #[x] w (vdz (-z) w):=by
 obtain ⟨neg,v,ds,rfl,⟨A,c,rfl,h1,h2,h3⟩,hz,hl⟩:=h;have hzz:-z=sgn (!neg) (val ds):=by rw [hz]; cases neg <;> simp [sgn]
 rw [hzz];clear hz hzz;have hx0:Ext w ((w.alloc (Obj.cells #[.bool neg,.slice A ds.length c] 25)).alloc (Obj.cells #[.bool false,.slice none 0 0] 25)):=((Ext.refl w).alloc _).alloc _;have HX0:=hid hx0;have H3:=hid h3;clear hx0 h3;go_enter Tryz.func83,Tryz.ntmps83;go_wp2_with fail;refine (ud5 _ _ _ _ ⟨A,c,rfl,h1,h2,H3.out.ext HX0.out⟩ (by omega)).mono ?_;rintro e w2 ⟨x,rfl,⟨v2,rfl,A2,c2,rfl,q1,q2,q3⟩,hx2⟩;obtain ⟨hc,hf⟩:=hx2.cells;have hz:=hx2.size;have HF:=hid (jds (g:=w.heap.size+1) (z:=sgn (!neg) (val ds)) (u0:=.bool false) (u1:=.slice none 0 0) (HX0.out.trans hx2) (by omega) (by rw [hc _ _ (by simp)]; simp [go_sem]) (by rw [hc _ _ (by simp)]; simp [go_sem]) rfl rfl ⟨_,rfl,A2,c2,rfl,q1,q2,q3⟩);clear hx2 q3;rw [pU,pU] at hz;go_wp2_with fail;exact bodyPost_ret (v:=.agg #[.bool (decide (sgn (!neg) (val ds) < 0)),.slice A2 (dg (sgn (!neg) (val ds)).natAbs).length c2]) (by simp [results,Tryz.results83,go_sem,hc]) rfl HF.out
theorem jgi (x:Value) (z:Int) (L:Nat) (w:World) (h:wdl w x z L) (hs:L<=35184372088832):Calls Tryz.prog 136 #[x] w (vdz ((z.natAbs:Int)) w):=by
 obtain ⟨neg,v,ds,rfl,⟨A,c,rfl,h1,h2,h3⟩,hz,hl⟩:=h;have hzz:(z.natAbs:Int)=sgn (false) (val ds):=by rw [hz]; rw [gdo]; rfl
 rw [hzz];clear hz hzz;have hx0:Ext w ((w.alloc (Obj.cells #[.bool neg,.slice A ds.length c] 25)).alloc (Obj.cells #[.bool false,.slice none 0 0] 25)):=((Ext.refl w).alloc _).alloc _;have HX0:=hid hx0;have H3:=hid h3;clear hx0 h3;go_enter Tryz.func136,Tryz.ntmps136;go_wp2_with fail;refine (ud5 _ _ _ _ ⟨A,c,rfl,h1,h2,H3.out.ext HX0.out⟩ (by omega)).mono ?_;rintro e w2 ⟨x,rfl,⟨v2,rfl,A2,c2,rfl,q1,q2,q3⟩,hx2⟩;obtain ⟨hc,hf⟩:=hx2.cells;have hz:=hx2.size;have HF:=hid (jds (g:=w.heap.size+1) (z:=sgn (false) (val ds)) (u0:=.bool false) (u1:=.slice none 0 0) (HX0.out.trans hx2) (by omega) (by rw [hc _ _ (by simp)]; simp [go_sem]) (by rw [hc _ _ (by simp)]; simp [go_sem]) rfl rfl ⟨_,rfl,A2,c2,rfl,q1,q2,q3⟩);clear hx2 q3;rw [pU,pU] at hz;go_wp2_with fail;exact bodyPost_ret (v:=.agg #[.bool (decide (sgn (false) (val ds) < 0)),.slice A2 (dg (sgn (false) (val ds)).natAbs).length c2]) (by simp [results,Tryz.results136,go_sem,hc]) rfl HF.out
end Go.Proofs.YtheefiaoimbeiaaGreatDoor
