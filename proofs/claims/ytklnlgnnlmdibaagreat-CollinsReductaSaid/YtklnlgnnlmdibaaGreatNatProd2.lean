/- Layer 1 (natural): the product, divided into three. -/
import Derived.Test.YtklnlgnnlmdibaaGreatMr2
set_option linter.unusedSimpArgs false
set_option linter.unusedVariables false

set_option maxRecDepth 100000
set_option maxHeartbeats 8000000
namespace Go.Proofs.YtklnlgnnlmdibaaGreat
open Go.RowKit
def yck (w:World) (m L K:Nat) (s0 s1:Value) (wx:World):Prop:=
 ∃ A c A' c' E F,s0=.slice A E.length c/\s1=.slice A' F.length c'/\F.length<=E.length/\E.length<=c/\c<=9223372036854775807/\F.length<=c'/\c'<=9223372036854775807 /\
   qi w A E/\qi w A' F/\val E * val F=m/\E.length+F.length=L/\E.length<=K/\wx=w
def va4 (K:Nat):Prop:=∀ (u v:Value) (ds es:List Nat) (w:World),jc w u ds->jc w v es->ds.length<=K->es.length<=K->ds.length+es.length<=35184372088000 ->
    Calls Tryz.prog 130 #[u,v] w (qan (ds.length+es.length) (val ds * val es) w)
theorem gbh (K:Nat) (ih:∀ K',K' < K->va4 K'):va4 K:=by
 intro u v ds es w h k hd1 hd2 hs;have IH:=Lib.hid ih;obtain ⟨A,c,rfl,h1,h2,h3⟩:=h;obtain ⟨A',c',rfl,h1',h2',h3'⟩:=k;have H3:=Lib.hid h3;have H3':=Lib.hid h3';clear h3 h3' ih;go_enter Tryz.func130,Tryz.ntmps130
 go_upto_if 14 with (fail)
 go_cut [0,1] (fun s0 s1 wx=>yck w (val ds * val es) (ds.length+es.length) K s0 s1 wx)
 case first =>
  by_cases hlt:ds.length < es.length
  · go_wp2
    go_meet
    exact ⟨_,_,_,_,_,_,rfl,rfl,by omega,h1',h2',h1,h2,H3'.out,H3.out,Nat.mul_comm _ _,by omega,by omega,rfl⟩
  · go_wp2
    go_meet
    exact ⟨_,_,_,_,_,_,rfl,rfl,by omega,h1,h2,h1',h2',H3.out,H3'.out,rfl,rfl,hd1,rfl⟩
 case rest =>
  obtain ⟨A,c,A',c',E,F,rfl,rfl,hFE,g1,g2,g3,g4,g5,g6,g7,g8,g9,rfl⟩:=hcut;have G5:=Lib.hid g5;have G6:=Lib.hid g6;have G7:=Lib.hid g7;have G8:=Lib.hid g8;have hs':E.length+F.length<=35184372088000:=by omega
  clear g5 g6 g7 g8 H3 H3' h1 h2 h1' h2' hd1 hd2 hs
  by_cases hF:F.length < 48
  · go_wp2_with fail;refine (qa9 _ _ F E _ ⟨A',c',rfl,g3,g4,G6.out⟩ ⟨A,c,rfl,g1,g2,G5.out⟩ (by omega)).mono ?_;rintro e w' ⟨v,zs,rfl,hv1,hv2,hv3,hv4,hv5⟩
    have HR:Hid (qan (ds.length+es.length) (val ds * val es) wc (.returned v) w'):=
     ⟨v,zs,rfl,hv1,by rw [hv2]; have:=G8.out; omega,by rw [hv3,Nat.mul_comm]; exact G7.out,hv4,hv5⟩
    clear hv1 hv2 hv3 hv4 hv5;go_wp2_with fail;go_ret;exact HR.out
  · have hmk:=fun W=>zy ((E.length:Int)+F.length) (by omega) (by omega) W
    have HR0:Hid (Row (wc.alloc (Obj.cells (qo (List.replicate (E.length+F.length) 0)).toArray 90)) wc.heap.size (List.replicate (E.length+F.length) 0)):=Row.new wc _;have HX0:Hid (Ext wc (wc.alloc (Obj.cells (qo (List.replicate (E.length+F.length) 0)).toArray 90))):=(Ext.refl wc).alloc _;have HZ:Hid (val E=0\/val F=0->qan (ds.length+es.length) (val ds * val es) wc (.returned (.slice (some ⟨wc.heap.size,0,none⟩) (E.length+F.length) (E.length+F.length))) (wc.alloc (Obj.cells (qo (List.replicate (E.length+F.length) 0)).toArray 90))):=by
     intro hz;refine ⟨_,_,rfl,HR0.out.natVn (qg.replicate _) _ _ (by simp) (Nat.le_refl _) (by omega),by rw [List.length_replicate]; exact G8.out,?_,yz.mk _ _ _ _ (Nat.le_refl _),HX0.out⟩;rw [yaa,<- G7.out];rcases hz with hz | hz <;> rw [hz] <;> simp
    go_wp2_with fail;refine (xau _ E _ ⟨A,c,rfl,g1,g2,G5.out.ext HX0.out⟩).mono ?_;rintro e w' ⟨rfl,rfl⟩
    by_cases hz:val E=0
    · have hzb:(val E == 0)=true:=by simp [hz]
      have hz':=Lib.hid hz;clear hz;go_wp2_with fail;go_ret;exact HZ.out (.inl hz'.out)
    · have hzb:(val E == 0)=false:=by simp [hz]
      go_wp2_with fail;refine (xau _ F _ ⟨A',c',rfl,g3,g4,G6.out.ext HX0.out⟩).mono ?_;rintro e w' ⟨rfl,rfl⟩
      by_cases hz2:val F=0
      · have hzb2:(val F == 0)=true:=by simp [hz2]
        have hz':=Lib.hid hz2;clear hz2;go_wp2_with fail;go_ret;exact HZ.out (.inr hz'.out)
      · have hzb2:(val F == 0)=false:=by simp [hz2]
        clear HZ;obtain ⟨half,hh⟩:∃ half:Nat,half=(E.length+1) / 2:=⟨_,rfl⟩;have hh1:E.length<=2 * half:=by omega
        have hh2:2 * half<=E.length+1:=by omega
        have hhalf:((E.length:Int)+1) / 2=(half:Int):=by omega
        clear hh;obtain ⟨ad,rfl,-,-⟩:=G5.out.2 (by omega);obtain ⟨ad',rfl,-,-⟩:=G6.out.2 (by omega);have b1:(0:Int)<=half:=by omega
        have b2:(half:Int)<=c:=by omega
        have b4:(half:Int)<=E.length:=by omega
        have b6:¬ (c=half):=by omega
        have hb:¬ (E.length+F.length=half):=by omega
        by_cases hFh:F.length<=half
        · have b5:(F.length:Int)<=half:=by omega
          go_wp2_with fail;rw [hhalf];clear hhalf hzb hzb2 hz hz2;generalize hW:wc.alloc (Obj.cells (qo (List.replicate (E.length+F.length) 0)).toArray 90)=W at *;have hWs:W.heap.size=wc.heap.size+1:=by rw [<- hW]; simp
          have HWS:=Lib.hid hWs;clear hW hWs;have hl:(E.take half).length=half:=by rw [List.length_take,Nat.min_eq_left (by omega)]
          have Hp:=IH.out half (by omega) _ _ _ _ W ((G5.out.ext HX0.out).natTake half c (by omega) g1 g2) ⟨_,_,rfl,g3,g4,G6.out.ext HX0.out⟩ (by omega) (by omega) (by omega);rw [hl] at Hp;refine Hp.mono ?_;clear Hp hl;rintro e w7 ⟨v7,l7,rfl,p1,p2,p3,p4,p5⟩;obtain ⟨A7,c7,rfl,i1,i2,i3⟩:=p1;have R1':=Lib.hid (HR0.out.ext p5);have X1':=Lib.hid (HX0.out.trans p5);have I3:=Lib.hid i3;have P2:=Lib.hid p2;have P3:=Lib.hid p3;have q1:l7.length<=E.length+F.length:=by omega
          have q2:0+l7.length<=(List.replicate (E.length+F.length) 0).length:=by rw [List.length_replicate]; omega
          have P5:=Lib.hid p5;clear p2 p3 p4 p5 i3
          go_wp2_with (with_reducible refine jaf rfl (.tmp 44) (.tmp 49) rfl wc.heap.size 0 (E.length + F.length) (E.length + F.length) A7 c7 l7 (List.replicate (E.length + F.length) 0) rfl rfl R1'.out I3.out q1 q2 ?_
                       intro wp R2 O2;have R2':=Lib.hid R2;have O2':=Lib.hid O2
                       clear R2 O2)
          go_frame
          have hbA:∀ a,some ad=some a->a.block ≠ wc.heap.size:=fun a e=>by
           obtain ⟨ad2,e2,hb2,-⟩:=G5.out.2 (by omega);injection e with e; injection e2 with e2; subst e; subst e2; omega
          have hbB:∀ a,some ad'=some a->a.block ≠ wc.heap.size:=fun a e=>by
           obtain ⟨ad2,e2,hb2,-⟩:=G6.out.2 (by omega);injection e with e; injection e2 with e2; subst e; subst e2; omega
          have HBA:=Lib.hid hbA;have HBB:=Lib.hid hbB;clear hbA hbB
          have Hhigh : Hid (∀ W', Only wc.heap.size wp W' -> Calls Tryz.prog 130 #[.slice (some (ad.add half)) (E.length - half) (c - half), .slice (some ad') F.length c'] W'
           (fun e w'=>∃ v,e=.returned v/\jan W' w' v (E.length - half+F.length) (val (E.drop half) * val F)/\Only wc.heap.size wp w')):=by
           intro W' hx;have hx':=O2'.out.trans hx;refine (IH.out half (by omega) _ _ _ _ W' (((G5.out.ext X1'.out).only hx' HBA.out).natDrop half c (by omega) g1 g2) ⟨_,_,rfl,g3,g4,(G6.out.ext X1'.out).only hx' HBB.out⟩ (by rw [List.length_drop]; omega) (by omega) (by rw [List.length_drop]; omega)).mono ?_;rintro e w' ⟨v,zs,rfl,p1,p2,p3,p4,p5⟩;exact ⟨v,rfl,⟨zs,p1,by rw [p2,List.length_drop],p3,p4,p5⟩,hx.trans (Only.of_ext p5)⟩
          have b8:(half:Int)<=(E.length:Int)+F.length:=by omega
          have b9:(half:Int)<=((E.length+F.length:Nat):Int):=by omega
          have HZ:Hid (Row wp wc.heap.size (l7 ++ List.replicate (E.length+F.length - l7.length) 0)):=by
           have:=R2'.out;rw [List.take_zero,List.nil_append,Nat.zero_add,List.drop_replicate] at this;exact this
          have hEs:=ui E half (by omega);have HJ:Hid (val (l7 ++ List.replicate (E.length+F.length - l7.length) 0)+B32 ^ half * (val (E.drop half) * val F)=val E * val F):=by
           have:val (l7 ++ List.replicate (E.length+F.length - l7.length) 0)+B32 ^ half * (val (E.drop half) * val F)=val E * val F:=by
            rw [val_append,yaa,P3.out,hEs,Nat.mul_zero,Nat.add_zero,Nat.add_mul,Nat.mul_assoc]
           exact this
          have HT:Hid (val E * val F < B32 ^ (E.length+F.length)):=by
           have:val E * val F < B32 ^ (E.length+F.length):=by
            rw [Nat.pow_add];exact Nat.mul_lt_mul_of_lt_of_le (wu G5.out.1) (Nat.le_of_lt (wu G6.out.1)) (Nat.pow_pos zi)
           exact this
          have HZL:Hid ((l7 ++ List.replicate (E.length+F.length - l7.length) 0).length=E.length+F.length):=by
           have:(l7 ++ List.replicate (E.length+F.length - l7.length) 0).length=E.length+F.length:=by simp; omega
           exact this
          have HZD:Hid (qg (l7 ++ List.replicate (E.length+F.length - l7.length) 0)):=I3.out.1.append (qg.replicate _);clear hEs R2';generalize l7 ++ List.replicate (E.length+F.length - l7.length) 0=Z at *;have hmo:wc.heap.size < wp.heap.size:=HZ.out.lt
          go_region_held3 (fun W' => Only wc.heap.size wp W') (first | exact (Only.refl _ wp).drewN 1 | assumption)
           (first
             | (go_at_call 130; refine (Hhigh.out _ ?_).mono ?_; assumption; rintro e w8 ⟨v8,rfl,P8,x8⟩; have P8':=Lib.hid P8; clear P8)
             | (go_at_call 106; obtain ⟨l8,n8,len8,val8,fr8,xx8⟩:=P8'.out; refine (kaw _ _ _ _ n8 fr8).mono ?_; rintro e w9 ⟨v9,rfl,n9,fr9,rfl⟩; obtain ⟨A9,c9,rfl,m1,m2,m3⟩:=n9; have M3:=Lib.hid m3; have FR9:=Lib.hid fr9; have VAL8:=Lib.hid val8; have XX8:=Lib.hid xx8; clear m3 fr9 val8 xx8 n8 fr8 len8)
             | (go_at_call 154
                refine (ya2 wc.heap.size half (E.length + F.length - half) (E.length + F.length - half) Z _ A9 c9 _ (Row.ext (w := World.drew wp) HZ.out XX8.out) HZD.out (by have := HZL.out; omega) (Nat.le_refl _) (by omega) M3.out
                 (fun a e=>by subst e; have h1:=FR9.out a _ _ rfl; have h2:wp.heap.size<=a.block:=h1; omega)
                 (by have:=ya4 HZL.out (show half<=E.length+F.length by omega) HJ.out HT.out; exact qf (by rw [VAL8.out]; omega)) m1 m2
                 (by rw [zg,VAL8.out]; exact ya4 HZL.out (by omega) HJ.out HT.out)).mono ?_
                rintro e w' ⟨ys,rfl,t1,t2,t3,t4,t5,t6⟩;rw [zg,VAL8.out] at t5;have t7:Only wc.heap.size wp w':=Only.trans x8 t6;have HFIN:Hid (qan (ds.length+es.length) (val ds * val es) wc (.returned (.slice (some ⟨wc.heap.size,0,none⟩) (E.length+F.length) (E.length+F.length))) w'):=by
                 refine ⟨_,ys,rfl,t1.natVn t3 _ _ (by have:=HZL.out; omega) (Nat.le_refl _) (by omega),by rw [t2,HZL.out]; exact G8.out,?_,yz.mk _ _ _ _ (Nat.le_refl _),?_⟩
                 · rw [qbj HZL.out (by have:=HZL.out; omega) (by omega) HJ.out t4 t5];exact G7.out
                 · exact (O2'.out.trans t7).ext X1'.out (Nat.le_refl _)
                clear t1 t2 t3 t4 t5 t6))
          go_wp2_with fail;go_ret;exact HFIN.out
        · have b3:(half:Int)<=c':=by omega
          have b5:(half:Int)<=F.length:=by omega
          have b7:¬ (c'=half):=by omega
          go_wp2_with fail;rw [hhalf];clear hhalf hzb hzb2 hz hz2;generalize hW:wc.alloc (Obj.cells (qo (List.replicate (E.length+F.length) 0)).toArray 90)=W at *;have hWs:W.heap.size=wc.heap.size+1:=by rw [<- hW]; simp
          have HWS:=Lib.hid hWs;clear hW hWs;have Hlow:Hid (∀ W',Ext W W'->Calls Tryz.prog 130 #[.slice (some ad) half c,.slice (some ad') half c'] W' (fun e w'=>∃ v,e=.returned v/\jan W w' v (half+half) (val (E.take half) * val (F.take half))/\Ext W' w')):=by
           intro W' hx;have hx':=HX0.out.trans hx;have hl:(E.take half).length=half:=by rw [List.length_take,Nat.min_eq_left (by omega)]
           have hl':(F.take half).length=half:=by rw [List.length_take,Nat.min_eq_left (by omega)]
           refine (IH.out half (by omega) _ _ _ _ W' ((G5.out.ext hx').natTake half c (by omega) g1 g2) ((G6.out.ext hx').natTake half c' (by omega) g3 g4) (by omega) (by omega) (by omega)).mono ?_;rintro e w' ⟨v,zs,rfl,p1,p2,p3,p4,p5⟩;exact ⟨v,rfl,⟨zs,p1,by rw [p2,hl,hl'],p3,p4.mono hx.size,hx.trans p5⟩,p5⟩
          have Hhigh : Hid (∀ W', Ext W W' -> Calls Tryz.prog 130 #[.slice (some (ad.add half)) (E.length - half) (c - half), .slice (some (ad'.add half)) (F.length - half) (c' - half)] W'
           (fun e w'=>∃ v,e=.returned v/\jan W w' v (E.length - half+(F.length - half)) (val (E.drop half) * val (F.drop half))/\Ext W' w')):=by
           intro W' hx;have hx':=HX0.out.trans hx;refine (IH.out half (by omega) _ _ _ _ W' ((G5.out.ext hx').natDrop half c (by omega) g1 g2) ((G6.out.ext hx').natDrop half c' (by omega) g3 g4) (by rw [List.length_drop]; omega) (by rw [List.length_drop]; omega) (by rw [List.length_drop,List.length_drop]; omega)).mono ?_;rintro e w' ⟨v,zs,rfl,p1,p2,p3,p4,p5⟩;exact ⟨v,rfl,⟨zs,p1,by rw [p2,List.length_drop,List.length_drop],p3,p4.mono hx.size,hx.trans p5⟩,p5⟩
          have HsumA:Hid (∀ W',Ext W W'->Calls Tryz.prog 127 #[.slice (some ad) half c,.slice (some (ad.add half)) (E.length - half) (c - half)] W' (gal (val (E.take half)+val (E.drop half)) W')):=by
           intro W' hx;have hx':=HX0.out.trans hx;exact kay _ _ _ _ _ ((G5.out.ext hx').natTake half c (by omega) g1 g2) ((G5.out.ext hx').natDrop half c (by omega) g1 g2) (by rw [List.length_take,List.length_drop]; omega)
          have HsumB:Hid (∀ W',Ext W W'->Calls Tryz.prog 127 #[.slice (some ad') half c',.slice (some (ad'.add half)) (F.length - half) (c' - half)] W' (gal (val (F.take half)+val (F.drop half)) W')):=by
           intro W' hx;have hx':=HX0.out.trans hx;exact kay _ _ _ _ _ ((G6.out.ext hx').natTake half c' (by omega) g3 g4) ((G6.out.ext hx').natDrop half c' (by omega) g3 g4) (by rw [List.length_take,List.length_drop]; omega)
          have HlenA:Hid ((dg (val (E.take half)+val (E.drop half))).length<=half+1):=by
           refine Nat.le_trans (jaw _ _) ?_;have l1:=ug (G5.out.1.take half);have l2:=ug (G5.out.1.drop half);rw [List.length_take] at l1;rw [List.length_drop] at l2;omega
          have HlenB:Hid ((dg (val (F.take half)+val (F.drop half))).length<=half+1):=by
           refine Nat.le_trans (jaw _ _) ?_;have l1:=ug (G6.out.1.take half);have l2:=ug (G6.out.1.drop half);rw [List.length_take] at l1;rw [List.length_drop] at l2;omega
          go_region_held3 (fun W'=>Ext W W') (first | exact (Ext.refl W).drew | assumption) ((go_at_call 130; refine (Hlow.out _ ?_).mono ?_; assumption; rintro e w7 ⟨v7,rfl,P7,x7⟩; have y7:Ext W w7:=Ext.trans (by assumption) x7))
          have P7':=Lib.hid P7;have Y7:=Lib.hid y7;clear P7 x7 y7;go_wp2_with fail
          go_region_held3 (fun W'=>Ext w7 W') (first | exact (Ext.refl w7).drew | assumption) ((go_at_call 130; refine (Hhigh.out _ ?_).mono ?_; (exact Ext.trans Y7.out (by assumption)); rintro e w8 ⟨v8,rfl,P8,x8⟩; have y8:Ext w7 w8:=Ext.trans (by assumption) x8))
          have P8':=Lib.hid P8;have P7'':=Lib.hid (P7'.out.ext y8);have Y8:=Lib.hid (Y7.out.trans y8);clear P8 x8 y8 P7' Y7 Hlow Hhigh;go_wp2_with fail
          go_region_held3 (fun W' => Ext w8 W') (first | exact (Ext.refl w8).drew | assumption)
           (first
             | (go_at_call_of 127 (Value.slice (some ad) half c); refine (HsumA.out _ ?_).mono ?_; (exact Ext.trans Y8.out (by assumption)); rintro e wa ⟨va,rfl,pa1,pa2⟩; have ya:Ext w8 wa:=Ext.trans (by assumption) pa2)
             | (go_at_call_of 127 (Value.slice (some ad') half c'); refine (HsumB.out _ ?_).mono ?_; (exact Ext.trans Y8.out (by assumption)); rintro e wb ⟨vb,rfl,pb1,pb2⟩; have yb:Ext w8 wb:=Ext.trans (by assumption) pb2)
             | (go_at_call 130; refine (IH.out (half+1) (by omega) _ _ _ _ _ (pa1.ext pb2) pb1 HlenA.out HlenB.out (by have:=HlenA.out; have:=HlenB.out; omega)).mono ?_; rintro e w9 ⟨v9,l9,rfl,p1,p2,p3,p4,p5⟩; have y9:Ext w8 w9:=Ext.trans yb p5))
          have N9:=Lib.hid p1;have V9:=Lib.hid p3;have L9:Hid (l9.length<=35184372088000):=Lib.hid (by rw [p2]; have:=HlenA.out; have:=HlenB.out; omega);have Q7:=Lib.hid (P7''.out.ext y9);have Q8:=Lib.hid (P8'.out.ext y9);have Y9:=Lib.hid (Y8.out.trans y9);clear p1 p2 p3 p4 p5 pa1 pa2 ya pb1 pb2 yb y9 P7'' P8' Y8 HsumA HsumB HlenA HlenB;rw [zg,zg] at V9;obtain ⟨l7,n7,len7,val7,fr7,-⟩:=Q7.out;obtain ⟨l8,n8,len8,val8,fr8,-⟩:=Q8.out;go_wp2_with fail;refine (kay _ _ _ _ _ n7 n8 (by omega)).mono ?_;rintro e wa ⟨va,rfl,na,xa⟩;have hgeq:val l7+val l8<=val l9:=by
           rw [val7,val8,V9.out,Nat.add_mul,Nat.mul_add,Nat.mul_add];omega
          have hmid:val l9 - (val l7+val l8)=val (E.take half) * val (F.drop half)+val (E.drop half) * val (F.take half):=by
           rw [val7,val8,V9.out,Nat.add_mul,Nat.mul_add,Nat.mul_add];omega
          have HGE:=Lib.hid hgeq;have HMID:=Lib.hid hmid;have M7:=Lib.hid (n7.ext xa);have M8:=Lib.hid (n8.ext xa);have M9:=Lib.hid (N9.out.ext xa);have NA:=Lib.hid na;have XA:=Lib.hid xa;clear Q7 Q8 N9 n7 n8 na xa hgeq hmid;have K7:=Lib.hid (And.intro len7 (And.intro val7 fr7));have K8:=Lib.hid (And.intro len8 (And.intro val8 fr8));clear len7 val7 fr7 len8 val8 fr8;go_wp2_with fail;refine (ga8 _ _ _ _ _ M9.out NA.out L9.out (by rw [zg]; exact HGE.out)).mono ?_;rintro e wm ⟨vm,rfl,nm,fm,xm⟩;rw [zg,HMID.out] at nm;have R1:=HR0.out.ext (Y9.out.trans (XA.out.trans xm));have X1:=HX0.out.trans (Y9.out.trans (XA.out.trans xm));have hws:=HWS.out;have fm':yz (wc.heap.size+1) vm:=fm.mono (by have:=Y9.out.size; have:=XA.out.size; omega);obtain ⟨A7,c7,rfl,i1,i2,i3⟩:=M7.out.ext xm;obtain ⟨A8,c8,rfl,j1,j2,j3⟩:=M8.out.ext xm;obtain ⟨Am,cm,rfl,k1,k2,k3⟩:=nm;obtain ⟨len7,val7,fr7⟩:=K7.out;obtain ⟨len8,val8,fr8⟩:=K8.out;have ne7:∀ a,A7=some a->a.block ≠ wc.heap.size:=fun a e=>by subst e; have:=fr7 a _ _ rfl; omega
          have ne8:∀ a,A8=some a->a.block ≠ wc.heap.size:=fun a e=>by subst e; have:=fr8 a _ _ rfl; omega
          have nem:∀ a,Am=some a->a.block ≠ wc.heap.size:=fun a e=>by subst e; have:=fm' a _ _ rfl; omega
          have q1:l7.length<=E.length+F.length:=by omega
          have q2:0+l7.length<=(List.replicate (E.length+F.length) 0).length:=by rw [List.length_replicate]; omega
          have q3:¬ (E.length+F.length=2 * half):=by omega
          have q4:l8.length<=E.length+F.length - 2 * half:=by omega
          have q5:2 * half+l8.length<=(List.take 0 (List.replicate (E.length+F.length) 0) ++ (l7 ++ List.drop (0+l7.length) (List.replicate (E.length+F.length) 0))).length:=by
           simp; omega
          have q6:(2:Int) * half<=E.length+F.length:=by omega
          have R1':=Lib.hid R1;have X1':=Lib.hid X1;have I3:=Lib.hid i3;have J3:=Lib.hid j3;have K3:=Lib.hid k3;have NE:=Lib.hid (And.intro ne7 (And.intro ne8 nem));have LV:=Lib.hid (And.intro (And.intro len7 val7) (And.intro len8 val8));clear R1 X1 i3 j3 k3 ne7 ne8 nem len7 val7 len8 val8 fr7 fr8 fm fm' xm hws K7 K8 M7 M8 M9 NA
          go_wp2_with (first
           | (with_reducible refine jaf rfl (.tmp 99) (.tmp 100) rfl wc.heap.size 0 (E.length+F.length) (E.length+F.length) A7 c7 l7 (List.replicate (E.length+F.length) 0) rfl rfl R1'.out I3.out q1 q2 ?_
              intro wp R2 O2;have R2':=Lib.hid R2;have O2':=Lib.hid O2
              clear R2 O2)
           | (with_reducible refine jaf rfl (.tmp 105) (.tmp 106) rfl wc.heap.size (2 * half) (E.length+F.length - 2 * half) (E.length+F.length - 2 * half) A8 c8 l8 _ rfl rfl R2'.out (J3.out.only O2'.out NE.out.2.1) q4 q5 ?_
              intro wq R3 O3;have R3':=Lib.hid R3;have O3':=Lib.hid O3
              clear R3 O3))
          obtain ⟨⟨len7,val7⟩,len8,val8⟩:=LV.out
          have hZ : List.take (2 * half) (List.take 0 (List.replicate (E.length + F.length) 0) ++ (l7 ++ List.drop (0 + l7.length) (List.replicate (E.length + F.length) 0))) ++
           (l8 ++ List.drop (2 * half+l8.length) (List.take 0 (List.replicate (E.length+F.length) 0) ++ (l7 ++ List.drop (0+l7.length) (List.replicate (E.length+F.length) 0))))=l7 ++ l8:=by
           have e1:2 * half=l7.length:=by omega
           rw [List.take_zero,List.nil_append,e1,List.take_left,List.drop_eq_nil_of_le (by simp; omega),List.append_nil]
          have R4:=R3'.out;rw [hZ] at R4;have hZl:(l7 ++ l8).length=E.length+F.length:=by rw [List.length_append]; omega
          have hEs:=ui E half (by omega);have hFs:=ui F half (by omega);have hjoin:val (l7 ++ l8)+B32 ^ half * (val (E.take half) * val (F.drop half)+val (E.drop half) * val (F.take half))=val E * val F:=by
           rw [val_append,len7,val7,val8,hEs,hFs,Nat.pow_add];generalize val (E.take half)=a0;generalize val (E.drop half)=a1;generalize val (F.take half)=b0;generalize val (F.drop half)=b1;generalize B32 ^ half=P;rw [Nat.add_mul,Nat.mul_add,Nat.mul_add,Nat.mul_add];rw [show P * a1 * (P * b1)=P * P * (a1 * b1) from by rw [Nat.mul_assoc,Nat.mul_left_comm a1,<- Nat.mul_assoc],show a0 * (P * b1)=P * (a0 * b1) from Nat.mul_left_comm _ _ _,show P * a1 * b0=P * (a1 * b0) from Nat.mul_assoc _ _ _];omega
          have htot:val E * val F < B32 ^ (E.length+F.length):=by
           rw [Nat.pow_add];exact Nat.mul_lt_mul_of_lt_of_le (wu G5.out.1) (Nat.le_of_lt (wu G6.out.1)) (Nat.pow_pos zi)
          have hfit:=ya4 hZl (by omega) hjoin htot;have hd78:qg (l7 ++ l8):=I3.out.1.append J3.out.1;have hml:(dg (val (E.take half) * val (F.drop half)+val (E.drop half) * val (F.take half))).length<=E.length+F.length - half:=qf (by omega);have o13:=O2'.out.trans O3'.out
          refine (ya2 wc.heap.size half (E.length + F.length - half) (E.length + F.length - half) (l7 ++ l8) _ Am cm wq R4 hd78 (by omega) (Nat.le_refl _) (by omega)
           (K3.out.only o13 NE.out.2.2) NE.out.2.2 hml k1 k2 (by rw [zg]; exact hfit)).mono ?_
          rintro e w' ⟨ys,rfl,t1,t2,t3,t4,t5,t6⟩;rw [zg] at t5;have HFIN:Hid (qan (ds.length+es.length) (val ds * val es) wc (.returned (.slice (some ⟨wc.heap.size,0,none⟩) (E.length+F.length) (E.length+F.length))) w'):=by
           refine ⟨_,ys,rfl,t1.natVn t3 _ _ (by omega) (Nat.le_refl _) (by omega),by rw [t2,hZl]; exact G8.out,?_,yz.mk _ _ _ _ (Nat.le_refl _),?_⟩
           · rw [qbj hZl (by omega) (by omega) hjoin t4 t5];exact G7.out
           · exact (o13.trans t6).ext X1'.out (Nat.le_refl _)
          clear t1 t2 t3 t4 t5 t6 o13 hml hd78 hfit htot hjoin hEs hFs hZl R4 hZ len7 val7 len8 val8;go_wp2_with fail;go_ret;exact HFIN.out
theorem zbo (K:Nat):va4 K:=by
 induction K using Nat.strongRecOn with
 | _ K ih=>exact gbh K ih
theorem zci (u v:Value) (ds es:List Nat) (w:World) (h:jc w u ds) (k:jc w v es) (hs:ds.length+es.length<=35184372088000) :
 Calls Tryz.prog 105 #[u,v] w (gal (val ds * val es) w):=by
 have l1:=ug h.digs;have l2:=ug k.digs;go_enter Tryz.func105,Tryz.ntmps105;go_wp2_with fail;refine (jr u ds _ h).mono ?_;rintro e w' ⟨u',rfl,hu,rfl⟩;go_wp2_with fail;refine (jr v es _ k).mono ?_;rintro e w' ⟨v',rfl,hv,rfl⟩;go_wp2_with fail;refine (zbo (ds.length+es.length) _ _ _ _ _ hu hv (by omega) (by omega) (by omega)).mono ?_;rw [zg,zg];rintro e w' ⟨p,zs,rfl,p1,p2,p3,p4,p5⟩;have P3:=Lib.hid p3;have P5:=Lib.hid p5;clear p3 p5 p2 hu hv;go_wp2_with fail;refine (jr _ _ _ p1).mono ?_;rintro e w2 ⟨q,rfl,hq,rfl⟩;rw [P3.out] at hq;have HQ:=Lib.hid hq;clear hq;go_wp2_with fail;go_ret;exact ⟨_,rfl,HQ.out,P5.out⟩
end Go.Proofs.YtklnlgnnlmdibaaGreat
