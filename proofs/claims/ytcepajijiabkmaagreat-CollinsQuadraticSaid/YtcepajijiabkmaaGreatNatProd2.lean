/- Layer 1 (natural): the product, divided into three. -/
import Derived.Test.YtcepajijiabkmaaGreatMq2
set_option linter.unusedSimpArgs false
set_option linter.unusedVariables false

set_option maxRecDepth 100000
set_option maxHeartbeats 8000000
namespace Go.Proofs.YtcepajijiabkmaaGreat
open Lib (hid)
open Go.RowKit
def zc4 (w:World) (m L K:Nat) (s0 s1:Value) (wx:World):Prop:=
 ∃ A c A' c' E F,s0=.slice A E.length c/\s1=.slice A' F.length c'/\F.length<=E.length/\E.length<=c/\c<=9223372036854775807/\F.length<=c'/\c'<=9223372036854775807 /\
   yj w A E/\yj w A' F/\val E * val F=m/\E.length+F.length=L/\E.length<=K/\wx=w
def qbe (K:Nat):Prop:=∀ (u v:Value) (ds es:List Nat) (w:World),jb w u ds->jb w v es->ds.length<=K->es.length<=K->ds.length+es.length<=35184372088000 ->
    Calls Tryz.prog 115 #[u,v] w (jas (ds.length+es.length) (val ds * val es) w)
theorem qbt (K:Nat) (ih:∀ K',K' < K->qbe K'):qbe K:=by
 intro u v ds es w h k dO nR hs;have IH:=hid ih;obtain ⟨A,c,rfl,h1,h2,h3⟩:=h;obtain ⟨A',c',rfl,iI,kC,jG⟩:=k;have H3:=hid h3;have kS:=hid jG;clear h3 jG ih;go_enter Tryz.func115,Tryz.ntmps115
 go_upto_if 14 with (fail)
 go_cut [0,1] (fun s0 s1 wx=>zc4 w (val ds * val es) (ds.length+es.length) K s0 s1 wx)
 case first =>
  by_cases af:ds.length < es.length
  · go_wp2
    go_meet
    exact ⟨_,_,_,_,_,_,rfl,rfl,by omega,iI,kC,h1,h2,kS.out,H3.out,Nat.mul_comm _ _,by omega,by omega,rfl⟩
  · go_wp2
    go_meet
    exact ⟨_,_,_,_,_,_,rfl,rfl,by omega,h1,h2,iI,kC,H3.out,kS.out,rfl,rfl,dO,rfl⟩
 case rest =>
  obtain ⟨A,c,A',c',E,F,rfl,rfl,LQ,g1,g2,g3,g4,g5,g6,g7,g8,g9,rfl⟩:=hcut;have G5:=hid g5;have G6:=hid g6;have G7:=hid g7;have G8:=hid g8;have zQ:E.length+F.length<=35184372088000:=by omega
  clear g5 g6 g7 g8 H3 kS h1 h2 iI kC dO nR hs
  by_cases hF:F.length < 48
  · go_wp2_with fail;refine (ubi _ _ F E _ ⟨A',c',rfl,g3,g4,G6.out⟩ ⟨A,c,rfl,g1,g2,G5.out⟩ (by omega)).mono ?_;rintro e w' ⟨v,zs,rfl,aU,rW,EI,rV,TK⟩
    have HR:Hid (jas (ds.length+es.length) (val ds * val es) wc (.returned v) w'):=
     ⟨v,zs,rfl,aU,by rw [rW]; have:=G8.out; omega,by rw [EI,Nat.mul_comm]; exact G7.out,rV,TK⟩
    clear aU rW EI rV TK;go_wp2_with fail;go_ret;exact HR.out
  · have dB:=fun W=>qaa ((E.length:Int)+F.length) (by omega) (by omega) W
    have Gt:Hid (Row (wc.alloc (Obj.cells (zt (List.replicate (E.length+F.length) 0)).toArray 84)) wc.heap.size (List.replicate (E.length+F.length) 0)):=Row.new wc _;have ay:Hid (Ext wc (wc.alloc (Obj.cells (zt (List.replicate (E.length+F.length) 0)).toArray 84))):=(Ext.refl wc).alloc _;have HZ:Hid (val E=0\/val F=0->jas (ds.length+es.length) (val ds * val es) wc (.returned (.slice (some ⟨wc.heap.size,0,none⟩) (E.length+F.length) (E.length+F.length))) (wc.alloc (Obj.cells (zt (List.replicate (E.length+F.length) 0)).toArray 84))):=by
     intro hz;refine ⟨_,_,rfl,Gt.out.natVn (vg.replicate _) _ _ (by simp) (Nat.le_refl _) (by omega),by rw [List.length_replicate]; exact G8.out,?_,waa.mk _ _ _ _ (Nat.le_refl _),ay.out⟩;rw [kab,<- G7.out];rcases hz with hz | hz <;> rw [hz] <;> simp
    go_wp2_with fail;refine (xa1 _ E _ ⟨A,c,rfl,g1,g2,G5.out.ext ay.out⟩).mono ?_;rintro e w' ⟨rfl,rfl⟩
    by_cases hz:val E=0
    · have VJ:(val E == 0)=true:=by simp [hz]
      have jL:=hid hz;clear hz;go_wp2_with fail;go_ret;exact HZ.out (.inl jL.out)
    · have VJ:(val E == 0)=false:=by simp [hz]
      go_wp2_with fail;refine (xa1 _ F _ ⟨A',c',rfl,g3,g4,G6.out.ext ay.out⟩).mono ?_;rintro e w' ⟨rfl,rfl⟩
      by_cases iU:val F=0
      · have He:(val F == 0)=true:=by simp [iU]
        have jL:=hid iU;clear iU;go_wp2_with fail;go_ret;exact HZ.out (.inr jL.out)
      · have He:(val F == 0)=false:=by simp [iU]
        clear HZ;obtain ⟨half,hh⟩:∃ half:Nat,half=(E.length+1) / 2:=⟨_,rfl⟩;have Ui:E.length<=2 * half:=by omega
        have hh2:2 * half<=E.length+1:=by omega
        have uP:((E.length:Int)+1) / 2=(half:Int):=by omega
        clear hh;obtain ⟨ad,rfl,-,-⟩:=G5.out.2 (by omega);obtain ⟨ad',rfl,-,-⟩:=G6.out.2 (by omega);have b1:(0:Int)<=half:=by omega
        have b2:(half:Int)<=c:=by omega
        have b4:(half:Int)<=E.length:=by omega
        have b6:¬ (c=half):=by omega
        have hb:¬ (E.length+F.length=half):=by omega
        by_cases hFh:F.length<=half
        · have b5:(F.length:Int)<=half:=by omega
          go_wp2_with fail;rw [uP];clear uP VJ He hz iU;generalize hW:wc.alloc (Obj.cells (zt (List.replicate (E.length+F.length) 0)).toArray 84)=W at *;have bY:W.heap.size=wc.heap.size+1:=by rw [<- hW]; simp
          have nU:=hid bY;clear hW bY;have hl:(E.take half).length=half:=by rw [List.length_take,Nat.min_eq_left (by omega)]
          have Hp:=IH.out half (by omega) _ _ _ _ W ((G5.out.ext ay.out).natTake half c (by omega) g1 g2) ⟨_,_,rfl,g3,g4,G6.out.ext ay.out⟩ (by omega) (by omega) (by omega);rw [hl] at Hp;refine Hp.mono ?_;clear Hp hl;rintro e w7 ⟨v7,l7,rfl,p1,p2,p3,p4,p5⟩;obtain ⟨A7,c7,rfl,i1,i2,i3⟩:=p1;have Zv:=hid (Gt.out.ext p5);have Q9:=hid (ay.out.trans p5);have I3:=hid i3;have P2:=hid p2;have P3:=hid p3;have q1:l7.length<=E.length+F.length:=by omega
          have q2:0+l7.length<=(List.replicate (E.length+F.length) 0).length:=by rw [List.length_replicate]; omega
          have P5:=hid p5;clear p2 p3 p4 p5 i3
          go_wp2_with (with_reducible refine xai rfl (.tmp 44) (.tmp 49) rfl wc.heap.size 0 (E.length + F.length) (E.length + F.length) A7 c7 l7 (List.replicate (E.length + F.length) 0) rfl rfl Zv.out I3.out q1 q2 ?_
                       intro wp R2 O2;have R2':=hid R2;have Rh:=hid O2
                       clear R2 O2)
          go_frame
          have hbA:∀ a,some ad=some a->a.block ≠ wc.heap.size:=fun a e=>by
           obtain ⟨Zt,e2,bT,-⟩:=G5.out.2 (by omega);injection e with e; injection e2 with e2; subst e; subst e2; omega
          have Je:∀ a,some ad'=some a->a.block ≠ wc.heap.size:=fun a e=>by
           obtain ⟨Zt,e2,bT,-⟩:=G6.out.2 (by omega);injection e with e; injection e2 with e2; subst e; subst e2; omega
          have HBA:=hid hbA;have Vw:=hid Je;clear hbA Je
          have vM : Hid (∀ W', Only wc.heap.size wp W' -> Calls Tryz.prog 115 #[.slice (some (ad.add half)) (E.length - half) (c - half), .slice (some ad') F.length c'] W'
           (fun e w'=>∃ v,e=.returned v/\kas W' w' v (E.length - half+F.length) (val (E.drop half) * val F)/\Only wc.heap.size wp w')):=by
           intro W' hx;have ed:=Rh.out.trans hx;refine (IH.out half (by omega) _ _ _ _ W' (((G5.out.ext Q9.out).only ed HBA.out).natDrop half c (by omega) g1 g2) ⟨_,_,rfl,g3,g4,(G6.out.ext Q9.out).only ed Vw.out⟩ (by rw [List.length_drop]; omega) (by omega) (by rw [List.length_drop]; omega)).mono ?_;rintro e w' ⟨v,zs,rfl,p1,p2,p3,p4,p5⟩;exact ⟨v,rfl,⟨zs,p1,by rw [p2,List.length_drop],p3,p4,p5⟩,hx.trans (Only.of_ext p5)⟩
          have b8:(half:Int)<=(E.length:Int)+F.length:=by omega
          have b9:(half:Int)<=((E.length+F.length:Nat):Int):=by omega
          have HZ:Hid (Row wp wc.heap.size (l7 ++ List.replicate (E.length+F.length - l7.length) 0)):=by
           have:=R2'.out;rw [List.take_zero,List.nil_append,Nat.zero_add,List.drop_replicate] at this;exact this
          have QO:=zk E half (by omega);have HJ:Hid (val (l7 ++ List.replicate (E.length+F.length - l7.length) 0)+B32 ^ half * (val (E.drop half) * val F)=val E * val F):=by
           have:val (l7 ++ List.replicate (E.length+F.length - l7.length) 0)+B32 ^ half * (val (E.drop half) * val F)=val E * val F:=by
            rw [val_append,kab,P3.out,QO,Nat.mul_zero,Nat.add_zero,Nat.add_mul,Nat.mul_assoc]
           exact this
          have HT:Hid (val E * val F < B32 ^ (E.length+F.length)):=by
           have:val E * val F < B32 ^ (E.length+F.length):=by
            rw [Nat.pow_add];exact Nat.mul_lt_mul_of_lt_of_le (zy G5.out.1) (Nat.le_of_lt (zy G6.out.1)) (Nat.pow_pos ui)
           exact this
          have qV:Hid ((l7 ++ List.replicate (E.length+F.length - l7.length) 0).length=E.length+F.length):=by
           have:(l7 ++ List.replicate (E.length+F.length - l7.length) 0).length=E.length+F.length:=by simp; omega
           exact this
          have HZD:Hid (vg (l7 ++ List.replicate (E.length+F.length - l7.length) 0)):=I3.out.1.append (vg.replicate _);clear QO R2';generalize l7 ++ List.replicate (E.length+F.length - l7.length) 0=Z at *;have hmo:wc.heap.size < wp.heap.size:=HZ.out.lt
          go_region_held3 (fun W' => Only wc.heap.size wp W') (first | exact (Only.refl _ wp).drewN 1 | assumption)
           (first
             | (go_at_call 115; refine (vM.out _ ?_).mono ?_; assumption; rintro e w8 ⟨v8,rfl,P8,x8⟩; have UW:=hid P8; clear P8)
             | (go_at_call 84; obtain ⟨l8,n8,len8,jJ,F5,xx8⟩:=UW.out; refine (wa3 _ _ _ _ n8 F5).mono ?_; rintro e w9 ⟨v9,rfl,n9,fr9,rfl⟩; obtain ⟨A9,c9,rfl,m1,m2,m3⟩:=n9; have M3:=hid m3; have FR9:=hid fr9; have Jz:=hid jJ; have XX8:=hid xx8; clear m3 fr9 jJ xx8 n8 F5 len8)
             | (go_at_call 140
                refine (uba wc.heap.size half (E.length + F.length - half) (E.length + F.length - half) Z _ A9 c9 _ (Row.ext (w := World.drew wp) HZ.out XX8.out) HZD.out (by have := qV.out; omega) (Nat.le_refl _) (by omega) M3.out
                 (fun a e=>by subst e; have h1:=FR9.out a _ _ rfl; have h2:wp.heap.size<=a.block:=h1; omega)
                 (by have:=ybd qV.out (show half<=E.length+F.length by omega) HJ.out HT.out; exact ve (by rw [Jz.out]; omega)) m1 m2
                 (by rw [qg,Jz.out]; exact ybd qV.out (by omega) HJ.out HT.out)).mono ?_
                rintro e w' ⟨ys,rfl,t1,t2,t3,t4,t5,t6⟩;rw [qg,Jz.out] at t5;have t7:Only wc.heap.size wp w':=Only.trans x8 t6;have bD:Hid (jas (ds.length+es.length) (val ds * val es) wc (.returned (.slice (some ⟨wc.heap.size,0,none⟩) (E.length+F.length) (E.length+F.length))) w'):=by
                 refine ⟨_,ys,rfl,t1.natVn t3 _ _ (by have:=qV.out; omega) (Nat.le_refl _) (by omega),by rw [t2,qV.out]; exact G8.out,?_,waa.mk _ _ _ _ (Nat.le_refl _),?_⟩
                 · rw [xbv qV.out (by have:=qV.out; omega) (by omega) HJ.out t4 t5];exact G7.out
                 · exact (Rh.out.trans t7).ext Q9.out (Nat.le_refl _)
                clear t1 t2 t3 t4 t5 t6))
          go_wp2_with fail;go_ret;exact bD.out
        · have b3:(half:Int)<=c':=by omega
          have b5:(half:Int)<=F.length:=by omega
          have b7:¬ (c'=half):=by omega
          go_wp2_with fail;rw [uP];clear uP VJ He hz iU;generalize hW:wc.alloc (Obj.cells (zt (List.replicate (E.length+F.length) 0)).toArray 84)=W at *;have bY:W.heap.size=wc.heap.size+1:=by rw [<- hW]; simp
          have nU:=hid bY;clear hW bY;have Ri:Hid (∀ W',Ext W W'->Calls Tryz.prog 115 #[.slice (some ad) half c,.slice (some ad') half c'] W' (fun e w'=>∃ v,e=.returned v/\kas W w' v (half+half) (val (E.take half) * val (F.take half))/\Ext W' w')):=by
           intro W' hx;have ed:=ay.out.trans hx;have hl:(E.take half).length=half:=by rw [List.length_take,Nat.min_eq_left (by omega)]
           have kL:(F.take half).length=half:=by rw [List.length_take,Nat.min_eq_left (by omega)]
           refine (IH.out half (by omega) _ _ _ _ W' ((G5.out.ext ed).natTake half c (by omega) g1 g2) ((G6.out.ext ed).natTake half c' (by omega) g3 g4) (by omega) (by omega) (by omega)).mono ?_;rintro e w' ⟨v,zs,rfl,p1,p2,p3,p4,p5⟩;exact ⟨v,rfl,⟨zs,p1,by rw [p2,hl,kL],p3,p4.mono hx.size,hx.trans p5⟩,p5⟩
          have vM : Hid (∀ W', Ext W W' -> Calls Tryz.prog 115 #[.slice (some (ad.add half)) (E.length - half) (c - half), .slice (some (ad'.add half)) (F.length - half) (c' - half)] W'
           (fun e w'=>∃ v,e=.returned v/\kas W w' v (E.length - half+(F.length - half)) (val (E.drop half) * val (F.drop half))/\Ext W' w')):=by
           intro W' hx;have ed:=ay.out.trans hx;refine (IH.out half (by omega) _ _ _ _ W' ((G5.out.ext ed).natDrop half c (by omega) g1 g2) ((G6.out.ext ed).natDrop half c' (by omega) g3 g4) (by rw [List.length_drop]; omega) (by rw [List.length_drop]; omega) (by rw [List.length_drop,List.length_drop]; omega)).mono ?_;rintro e w' ⟨v,zs,rfl,p1,p2,p3,p4,p5⟩;exact ⟨v,rfl,⟨zs,p1,by rw [p2,List.length_drop,List.length_drop],p3,p4.mono hx.size,hx.trans p5⟩,p5⟩
          have F8:Hid (∀ W',Ext W W'->Calls Tryz.prog 106 #[.slice (some ad) half c,.slice (some (ad.add half)) (E.length - half) (c - half)] W' (vap (val (E.take half)+val (E.drop half)) W')):=by
           intro W' hx;have ed:=ay.out.trans hx;exact xa7 _ _ _ _ _ ((G5.out.ext ed).natTake half c (by omega) g1 g2) ((G5.out.ext ed).natDrop half c (by omega) g1 g2) (by rw [List.length_take,List.length_drop]; omega)
          have F7:Hid (∀ W',Ext W W'->Calls Tryz.prog 106 #[.slice (some ad') half c',.slice (some (ad'.add half)) (F.length - half) (c' - half)] W' (vap (val (F.take half)+val (F.drop half)) W')):=by
           intro W' hx;have ed:=ay.out.trans hx;exact xa7 _ _ _ _ _ ((G6.out.ext ed).natTake half c' (by omega) g3 g4) ((G6.out.ext ed).natDrop half c' (by omega) g3 g4) (by rw [List.length_take,List.length_drop]; omega)
          have vK:Hid ((dg (val (E.take half)+val (E.drop half))).length<=half+1):=by
           refine Nat.le_trans (ua3 _ _) ?_;have l1:=uh (G5.out.1.take half);have l2:=uh (G5.out.1.drop half);rw [List.length_take] at l1;rw [List.length_drop] at l2;omega
          have vJ:Hid ((dg (val (F.take half)+val (F.drop half))).length<=half+1):=by
           refine Nat.le_trans (ua3 _ _) ?_;have l1:=uh (G6.out.1.take half);have l2:=uh (G6.out.1.drop half);rw [List.length_take] at l1;rw [List.length_drop] at l2;omega
          go_region_held3 (fun W'=>Ext W W') (first | exact (Ext.refl W).drew | assumption) ((go_at_call 115; refine (Ri.out _ ?_).mono ?_; assumption; rintro e w7 ⟨v7,rfl,P7,x7⟩; have y7:Ext W w7:=Ext.trans (by assumption) x7))
          have P7':=hid P7;have Y7:=hid y7;clear P7 x7 y7;go_wp2_with fail
          go_region_held3 (fun W'=>Ext w7 W') (first | exact (Ext.refl w7).drew | assumption) ((go_at_call 115; refine (vM.out _ ?_).mono ?_; (exact Ext.trans Y7.out (by assumption)); rintro e w8 ⟨v8,rfl,P8,x8⟩; have y8:Ext w7 w8:=Ext.trans (by assumption) x8))
          have UW:=hid P8;have Rf:=hid (P7'.out.ext y8);have Y8:=hid (Y7.out.trans y8);clear P8 x8 y8 P7' Y7 Ri vM;go_wp2_with fail
          go_region_held3 (fun W' => Ext w8 W') (first | exact (Ext.refl w8).drew | assumption)
           (first
             | (go_at_call_of 106 (Value.slice (some ad) half c); refine (F8.out _ ?_).mono ?_; (exact Ext.trans Y8.out (by assumption)); rintro e wa ⟨va,rfl,pa1,pa2⟩; have ya:Ext w8 wa:=Ext.trans (by assumption) pa2)
             | (go_at_call_of 106 (Value.slice (some ad') half c'); refine (F7.out _ ?_).mono ?_; (exact Ext.trans Y8.out (by assumption)); rintro e wb ⟨vb,rfl,pb1,VH⟩; have yb:Ext w8 wb:=Ext.trans (by assumption) VH)
             | (go_at_call 115; refine (IH.out (half+1) (by omega) _ _ _ _ _ (pa1.ext VH) pb1 vK.out vJ.out (by have:=vK.out; have:=vJ.out; omega)).mono ?_; rintro e w9 ⟨v9,l9,rfl,p1,p2,p3,p4,p5⟩; have y9:Ext w8 w9:=Ext.trans yb p5))
          have N9:=hid p1;have V9:=hid p3;have L9:Hid (l9.length<=35184372088000):=hid (by rw [p2]; have:=vK.out; have:=vJ.out; omega);have Q7:=hid (Rf.out.ext y9);have Q8:=hid (UW.out.ext y9);have Y9:=hid (Y8.out.trans y9);clear p1 p2 p3 p4 p5 pa1 pa2 ya pb1 VH yb y9 Rf UW Y8 F8 F7 vK vJ;rw [qg,qg] at V9;obtain ⟨l7,n7,pz,lW,QV,-⟩:=Q7.out;obtain ⟨l8,n8,len8,jJ,F5,-⟩:=Q8.out;go_wp2_with fail;refine (xa7 _ _ _ _ _ n7 n8 (by omega)).mono ?_;rintro e wa ⟨va,rfl,na,xa⟩;have PH:val l7+val l8<=val l9:=by
           rw [lW,jJ,V9.out,Nat.add_mul,Nat.mul_add,Nat.mul_add];omega
          have jC:val l9 - (val l7+val l8)=val (E.take half) * val (F.drop half)+val (E.drop half) * val (F.take half):=by
           rw [lW,jJ,V9.out,Nat.add_mul,Nat.mul_add,Nat.mul_add];omega
          have nX:=hid PH;have tN:=hid jC;have M7:=hid (n7.ext xa);have M8:=hid (n8.ext xa);have M9:=hid (N9.out.ext xa);have NA:=hid na;have XA:=hid xa;clear Q7 Q8 N9 n7 n8 na xa PH jC;have K7:=hid (And.intro pz (And.intro lW QV));have K8:=hid (And.intro len8 (And.intro jJ F5));clear pz lW QV len8 jJ F5;go_wp2_with fail;refine (jbi _ _ _ _ _ M9.out NA.out L9.out (by rw [qg]; exact nX.out)).mono ?_;rintro e wm ⟨vm,rfl,nm,fm,xm⟩;rw [qg,tN.out] at nm;have R1:=Gt.out.ext (Y9.out.trans (XA.out.trans xm));have X1:=ay.out.trans (Y9.out.trans (XA.out.trans xm));have lK:=nU.out;have fm':waa (wc.heap.size+1) vm:=fm.mono (by have:=Y9.out.size; have:=XA.out.size; omega);obtain ⟨A7,c7,rfl,i1,i2,i3⟩:=M7.out.ext xm;obtain ⟨A8,c8,rfl,j1,j2,j3⟩:=M8.out.ext xm;obtain ⟨Am,cm,rfl,k1,k2,k3⟩:=nm;obtain ⟨pz,lW,QV⟩:=K7.out;obtain ⟨len8,jJ,F5⟩:=K8.out;have ne7:∀ a,A7=some a->a.block ≠ wc.heap.size:=fun a e=>by subst e; have:=QV a _ _ rfl; omega
          have ne8:∀ a,A8=some a->a.block ≠ wc.heap.size:=fun a e=>by subst e; have:=F5 a _ _ rfl; omega
          have nem:∀ a,Am=some a->a.block ≠ wc.heap.size:=fun a e=>by subst e; have:=fm' a _ _ rfl; omega
          have q1:l7.length<=E.length+F.length:=by omega
          have q2:0+l7.length<=(List.replicate (E.length+F.length) 0).length:=by rw [List.length_replicate]; omega
          have q3:¬ (E.length+F.length=2 * half):=by omega
          have q4:l8.length<=E.length+F.length - 2 * half:=by omega
          have q5:2 * half+l8.length<=(List.take 0 (List.replicate (E.length+F.length) 0) ++ (l7 ++ List.drop (0+l7.length) (List.replicate (E.length+F.length) 0))).length:=by
           simp; omega
          have q6:(2:Int) * half<=E.length+F.length:=by omega
          have Zv:=hid R1;have Q9:=hid X1;have I3:=hid i3;have J3:=hid j3;have K3:=hid k3;have NE:=hid (And.intro ne7 (And.intro ne8 nem));have LV:=hid (And.intro (And.intro pz lW) (And.intro len8 jJ));clear R1 X1 i3 j3 k3 ne7 ne8 nem pz lW len8 jJ QV F5 fm fm' xm lK K7 K8 M7 M8 M9 NA
          go_wp2_with (first
           | (with_reducible refine xai rfl (.tmp 99) (.tmp 100) rfl wc.heap.size 0 (E.length+F.length) (E.length+F.length) A7 c7 l7 (List.replicate (E.length+F.length) 0) rfl rfl Zv.out I3.out q1 q2 ?_
              intro wp R2 O2;have R2':=hid R2;have Rh:=hid O2
              clear R2 O2)
           | (with_reducible refine xai rfl (.tmp 105) (.tmp 106) rfl wc.heap.size (2 * half) (E.length+F.length - 2 * half) (E.length+F.length - 2 * half) A8 c8 l8 _ rfl rfl R2'.out (J3.out.only Rh.out NE.out.2.1) q4 q5 ?_
              intro wq R3 O3;have R3':=hid R3;have O3':=hid O3
              clear R3 O3))
          obtain ⟨⟨pz,lW⟩,len8,jJ⟩:=LV.out
          have hZ : List.take (2 * half) (List.take 0 (List.replicate (E.length + F.length) 0) ++ (l7 ++ List.drop (0 + l7.length) (List.replicate (E.length + F.length) 0))) ++
           (l8 ++ List.drop (2 * half+l8.length) (List.take 0 (List.replicate (E.length+F.length) 0) ++ (l7 ++ List.drop (0+l7.length) (List.replicate (E.length+F.length) 0))))=l7 ++ l8:=by
           have e1:2 * half=l7.length:=by omega
           rw [List.take_zero,List.nil_append,e1,List.take_left,List.drop_eq_nil_of_le (by simp; omega),List.append_nil]
          have R4:=R3'.out;rw [hZ] at R4;have Um:(l7 ++ l8).length=E.length+F.length:=by rw [List.length_append]; omega
          have QO:=zk E half (by omega);have hFs:=zk F half (by omega);have Aj:val (l7 ++ l8)+B32 ^ half * (val (E.take half) * val (F.drop half)+val (E.drop half) * val (F.take half))=val E * val F:=by
           rw [val_append,pz,lW,jJ,QO,hFs,Nat.pow_add];generalize val (E.take half)=a0;generalize val (E.drop half)=a1;generalize val (F.take half)=b0;generalize val (F.drop half)=b1;generalize B32 ^ half=P;rw [Nat.add_mul,Nat.mul_add,Nat.mul_add,Nat.mul_add];rw [show P * a1 * (P * b1)=P * P * (a1 * b1) from by rw [Nat.mul_assoc,Nat.mul_left_comm a1,<- Nat.mul_assoc],show a0 * (P * b1)=P * (a0 * b1) from Nat.mul_left_comm _ _ _,show P * a1 * b0=P * (a1 * b0) from Nat.mul_assoc _ _ _];omega
          have NK:val E * val F < B32 ^ (E.length+F.length):=by
           rw [Nat.pow_add];exact Nat.mul_lt_mul_of_lt_of_le (zy G5.out.1) (Nat.le_of_lt (zy G6.out.1)) (Nat.pow_pos ui)
          have aI:=ybd Um (by omega) Aj NK;have P9:vg (l7 ++ l8):=I3.out.1.append J3.out.1;have jY:(dg (val (E.take half) * val (F.drop half)+val (E.drop half) * val (F.take half))).length<=E.length+F.length - half:=ve (by omega);have wI:=Rh.out.trans O3'.out
          refine (uba wc.heap.size half (E.length + F.length - half) (E.length + F.length - half) (l7 ++ l8) _ Am cm wq R4 P9 (by omega) (Nat.le_refl _) (by omega)
           (K3.out.only wI NE.out.2.2) NE.out.2.2 jY k1 k2 (by rw [qg]; exact aI)).mono ?_
          rintro e w' ⟨ys,rfl,t1,t2,t3,t4,t5,t6⟩;rw [qg] at t5;have bD:Hid (jas (ds.length+es.length) (val ds * val es) wc (.returned (.slice (some ⟨wc.heap.size,0,none⟩) (E.length+F.length) (E.length+F.length))) w'):=by
           refine ⟨_,ys,rfl,t1.natVn t3 _ _ (by omega) (Nat.le_refl _) (by omega),by rw [t2,Um]; exact G8.out,?_,waa.mk _ _ _ _ (Nat.le_refl _),?_⟩
           · rw [xbv Um (by omega) (by omega) Aj t4 t5];exact G7.out
           · exact (wI.trans t6).ext Q9.out (Nat.le_refl _)
          clear t1 t2 t3 t4 t5 t6 wI jY P9 aI NK Aj QO hFs Um R4 hZ pz lW len8 jJ;go_wp2_with fail;go_ret;exact bD.out
theorem wb1 (K:Nat):qbe K:=by
 induction K using Nat.strongRecOn with
 | _ K ih=>exact qbt K ih
theorem jc1 (u v:Value) (ds es:List Nat) (w:World) (h:jb w u ds) (k:jb w v es) (hs:ds.length+es.length<=35184372088000) :
 Calls Tryz.prog 89 #[u,v] w (vap (val ds * val es) w):=by
 have l1:=uh h.digs;have l2:=uh k.digs;go_enter Tryz.func89,Tryz.ntmps89;go_wp2_with fail;refine (qw u ds _ h).mono ?_;rintro e w' ⟨u',rfl,hu,rfl⟩;go_wp2_with fail;refine (qw v es _ k).mono ?_;rintro e w' ⟨v',rfl,hv,rfl⟩;go_wp2_with fail;refine (wb1 (ds.length+es.length) _ _ _ _ _ hu hv (by omega) (by omega) (by omega)).mono ?_;rw [qg,qg];rintro e w' ⟨p,zs,rfl,p1,p2,p3,p4,p5⟩;have P3:=hid p3;have P5:=hid p5;clear p3 p5 p2 hu hv;go_wp2_with fail;refine (qw _ _ _ p1).mono ?_;rintro e w2 ⟨q,rfl,hq,rfl⟩;rw [P3.out] at hq;have HQ:=hid hq;clear hq;go_wp2_with fail;go_ret;exact ⟨_,rfl,HQ.out,P5.out⟩
end Go.Proofs.YtcepajijiabkmaaGreat
