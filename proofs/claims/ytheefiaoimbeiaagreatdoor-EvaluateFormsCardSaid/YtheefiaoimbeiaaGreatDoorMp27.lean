/- Layer 27: prenex.kind, Level. -/
import Derived.Test.YtheefiaoimbeiaaGreatDoorMp17
set_option linter.unusedSimpArgs false
set_option linter.unusedVariables false
set_option maxRecDepth 100000
set_option maxHeartbeats 8000000
namespace Go.Proofs.YtheefiaoimbeiaaGreatDoor
open Lib (hid)
open Go.RowKit
def xee (k:Int):Int:=if k < 0\/4 < k then 0 else k
theorem qek (k j:Int) (h1:1<=j) (h2:j<=4):(xee k == j)=(k == j):=by
 have:(xee k=j) ↔ (k=j):=by unfold xee; split <;> omega
 rw [sX]; simpa using this
theorem xf3 {w:World} (t:Mx) (s A K:Value):Calls Tryz.prog 93 #[mxV t s A K] w (zdn (xee t.kind) w):=by
 unfold mxV;generalize t.kind=k;generalize t.rel=r;generalize t.p.lv=l;generalize t.p.neg=n
 by_cases h1:k < 0
 · rw [show xee k=0 from if_pos (.inl h1)];go_enter Tryz.func93,Tryz.ntmps93;go_wp2_with fail;go_ret;exact ⟨rfl,(Ext.refl w).alloc _⟩
 by_cases h2:4 < k
 · rw [show xee k=0 from if_pos (.inr h2)];go_enter Tryz.func93,Tryz.ntmps93;go_wp2_with fail;go_ret;exact ⟨rfl,(Ext.refl w).alloc _⟩
 · rw [show xee k=k from if_neg (by omega)];go_enter Tryz.func93,Tryz.ntmps93;go_wp2_with fail;go_ret;exact ⟨rfl,(Ext.refl w).alloc _⟩
mutual
def Mx.za : Mx -> Int
 | .mk k _ p ks=>if k=2 then p.nf.lv else if k=3\/k=4 then zdu 0 ks else 0
def zdu : Int -> List Mx -> Int
 | a,[]=>a
 | a,t :: r=>zdu (max a t.za) r
end
theorem gfa (a:Int) (l r:List Mx):zdu a (l ++ r)=zdu (zdu a l) r:=by
 induction l generalizing a with
 | nil=>rfl
 | cons t l ih=>simp only [rj,zdu]; exact ih _
theorem gey (a:Int) (l:List Mx) (k:Nat) (hk:k < l.length):zdu a (l.take (k+1))=max (zdu a (l.take k)) l[k].za:=by
 rw [pg hk,gfa]; rfl
theorem Mx.yu (t:Mx):t.za=if t.kind=2 then t.p.nf.lv else if t.kind=3\/t.kind=4 then zdu 0 t.ks else 0:=by
 cases t; rw [Mx.za]; rfl
def zgq (n:Nat):Prop:=∀ (q:Nat->Prop) (t:Mx) (v:Value) (w:World),t.sz < n->t.sz<=1000000->t.each weq->MxV w q t v->Calls Tryz.prog 54 #[v] w (zdn t.za w)
theorem kgd (n:Nat):zgq n:=by
 induction n with
 | zero=>intro q t v w h; omega
 | succ n ih =>
 intro q t v w hn agD hsm h;have hkl:t.ks.length<=1000000:=by have:=t.yx; omega
 have IH:=hid ih;have HSZ:=hid (fun k hk=>t.zD k hk);have HSM:=hid (Mx.zT hsm);have hps:=Mx.yz hsm;obtain ⟨A0,n0,c0,A,n1,c1,K,c,rfl,hp,hl1,hl2,h4⟩:=h.open_;have HP:=hid hp;have H4:=hid h4;have HLV:=hid t.yu;obtain ⟨W,hW⟩:=n_m (w.alloc (.cells #[.int .i64 t.kind,.int .i64 t.rel,.int .i64 t.p.lv,.bool t.p.neg,.slice A0 n0 c0,.slice A n1 c1,.slice K t.ks.length c] 47));have hWx:Ext w W:=by rw [<- hW]; exact (Ext.refl w).alloc _
 have hWs:W.heap.size=w.heap.size+1:=by rw [<- hW]; simp
 have hbx:udu W w.heap.size t (.slice A0 n0 c0) (.slice A n1 c1) (.slice K t.ks.length c):=by rw [<- hW]; exact udu.new w t _ _ _ _
 have HWX:=hid hWx;have HBX:=hid hbx;have aok:=hid (xf3 (w:=W) t (.slice A0 n0 c0) (.slice A n1 c1) (.slice K t.ks.length c));obtain ⟨b0,b1,b2,b3,b4,b5,b6⟩:=hbx;have hk2:=qek t.kind 2 (by omega) (by omega);have hk3:=qek t.kind 3 (by omega) (by omega);have hk4:=qek t.kind 4 (by omega) (by omega);clear h ih h4 hWx hp hsm;unfold mxV at *;go_enter Tryz.func54,Tryz.ntmps54;go_wp2_with fail;clear hW b0 b1 b2 b3 b4 b5 b6;refine aok.out.mono ?_;rintro e w1 ⟨rfl,x1⟩;generalize xee t.kind=kd at *;have X1:=hid (HWX.out.trans x1);obtain ⟨b0,b1,b2,b3,b4,b5,b6⟩:=HBX.out.ext x1 (by omega);have hs1:=x1.size;clear x1 aok HWX HBX
 by_cases k2:t.kind=2
 · have hlv:=HLV.out;rw [if_pos k2] at hlv;have q2:(kd == 2)=true:=by rw [hk2]; simpa using k2
   have HC:=hid (yfj _ (HP.out.ext X1.out) hps);unfold plV at HC;have HL:=hid hlv;generalize t.p.nf.lv=lv at *;clear k2 hk2 hk3 hk4 hlv HLV;go_wp2_with fail;refine HC.out.mono ?_;rintro e w2 ⟨rfl,x2⟩;have X2:=hid (X1.out.trans x2);clear x2 HC b0 b1 b2 b3 b4 b5 b6;go_wp2_with fail;go_ret;exact ⟨by rw [HL.out]; rfl,X2.out⟩
 by_cases k34:t.kind=3\/t.kind=4
 · have hlv:=HLV.out;rw [if_neg k2,if_pos k34] at hlv;have HL:=hid hlv;have q2:(kd == 2)=false:=by rw [hk2]; simpa using k2
   have D6:=hid b6;clear hlv HLV hk2 k2 HP;rcases k34 with k3 | k4
   · have q3:(kd == 3)=true:=by rw [hk3]; simpa using k3
     clear k3 hk3 hk4;go_wp2_with fail;clear b0 b1 b2 b3 b4 b5 b6
     go_loopw [3,19] (fun mv iv wr=>∃ (k:Nat),k<=t.ks.length/\iv=.int .i64 k/\Hid (mv=.int .i64 (zdu 0 (t.ks.take k))/\Ext w1 wr)) (fun _ iv _=>t.ks.length - (intOf iv).toNat)
     case atStart=>exact ⟨0,pM _,rfl,⟨by simp [zdu],Ext.refl w1⟩⟩
     case round =>
      obtain ⟨k,hk,rfl,⟨rfl,hxw⟩⟩:=hrel;have HXW:=hid hxw
      by_cases hlt:k < t.ks.length
      · obtain ⟨ad,B0,m0,d0,B1,m1,d1,K2,n2,c2,rfl,abW,⟨e0,e1,e2,e3,e4,e5,e6⟩,hkt⟩:=zdr.kid (zdr.ext H4.out (X1.out.trans hxw)) k hlt;have HKT:=hid hkt;have hsz:t.ks[k].sz < n/\t.ks[k].sz<=1000000:=by have:=HSZ.out k hlt; omega
        have afT:Hid (zdu 0 (t.ks.take (k+1))=max (zdu 0 (t.ks.take k)) t.ks[k].za):=by
         have:zdu 0 (t.ks.take (k+1))=max (zdu 0 (t.ks.take k)) t.ks[k].za:=gey _ _ _ hlt;exact this
        clear hkt hxw;generalize zdu 0 (t.ks.take k)=mm at *;have agC:=IH.out q t.ks[k] _ (wr.alloc (.cells #[.int .i64 t.ks[k].kind,.int .i64 t.ks[k].rel,.int .i64 t.ks[k].p.lv,.bool t.ks[k].p.neg,.slice B0 m0 d0,.slice B1 m1 d1,.slice K2 n2 c2] 47)) hsz.1 hsz.2 (jee HSM.out (pt hlt)) (HKT.out.ext ((Ext.refl wr).alloc _));have af9:=hid agC;clear agC HKT;generalize t.ks[k].za=lk at *;go_wp2_with fail;refine af9.out.mono ?_;rintro e w2 ⟨rfl,x2⟩;have X2:=hid ((HXW.out.alloc _).trans x2);clear x2 af9 e0 e1 e2 e3 e4 e5 e6;go_wp2_with fail
        go_roundw
        case rel=>exact ⟨k+1,by omega,by go_num,⟨by rw [afT.out],X2.out⟩⟩
        case measure=>simp [intOf]; omega
      · have hke:k=t.ks.length:=by omega
        have HF:Hid (t.za=zdu 0 (t.ks.take k)):=by
         rw [hke,pw];exact HL.out
        clear hxw hke;generalize zdu 0 (t.ks.take k)=mm at *;go_wp2_with fail;go_ret;exact ⟨by rw [HF.out]; rfl,X1.out.trans HXW.out⟩
   · have q3:(kd == 3)=false:=by rw [hk3]; simp; omega
     have q4:(kd == 4)=true:=by rw [hk4]; simpa using k4
     clear k4 hk3 hk4;go_wp2_with fail;clear b0 b1 b2 b3 b4 b5 b6
     go_loopw [3,19] (fun mv iv wr=>∃ (k:Nat),k<=t.ks.length/\iv=.int .i64 k/\Hid (mv=.int .i64 (zdu 0 (t.ks.take k))/\Ext w1 wr)) (fun _ iv _=>t.ks.length - (intOf iv).toNat)
     case atStart=>exact ⟨0,pM _,rfl,⟨by simp [zdu],Ext.refl w1⟩⟩
     case round =>
      obtain ⟨k,hk,rfl,⟨rfl,hxw⟩⟩:=hrel;have HXW:=hid hxw
      by_cases hlt:k < t.ks.length
      · obtain ⟨ad,B0,m0,d0,B1,m1,d1,K2,n2,c2,rfl,abW,⟨e0,e1,e2,e3,e4,e5,e6⟩,hkt⟩:=zdr.kid (zdr.ext H4.out (X1.out.trans hxw)) k hlt;have HKT:=hid hkt;have hsz:t.ks[k].sz < n/\t.ks[k].sz<=1000000:=by have:=HSZ.out k hlt; omega
        have afT:Hid (zdu 0 (t.ks.take (k+1))=max (zdu 0 (t.ks.take k)) t.ks[k].za):=by
         have:zdu 0 (t.ks.take (k+1))=max (zdu 0 (t.ks.take k)) t.ks[k].za:=gey _ _ _ hlt;exact this
        clear hkt hxw;generalize zdu 0 (t.ks.take k)=mm at *;have agC:=IH.out q t.ks[k] _ (wr.alloc (.cells #[.int .i64 t.ks[k].kind,.int .i64 t.ks[k].rel,.int .i64 t.ks[k].p.lv,.bool t.ks[k].p.neg,.slice B0 m0 d0,.slice B1 m1 d1,.slice K2 n2 c2] 47)) hsz.1 hsz.2 (jee HSM.out (pt hlt)) (HKT.out.ext ((Ext.refl wr).alloc _));have af9:=hid agC;clear agC HKT;generalize t.ks[k].za=lk at *;go_wp2_with fail;refine af9.out.mono ?_;rintro e w2 ⟨rfl,x2⟩;have X2:=hid ((HXW.out.alloc _).trans x2);clear x2 af9 e0 e1 e2 e3 e4 e5 e6;go_wp2_with fail
        go_roundw
        case rel=>exact ⟨k+1,by omega,by go_num,⟨by rw [afT.out],X2.out⟩⟩
        case measure=>simp [intOf]; omega
      · have hke:k=t.ks.length:=by omega
        have HF:Hid (t.za=zdu 0 (t.ks.take k)):=by
         rw [hke,pw];exact HL.out
        clear hxw hke;generalize zdu 0 (t.ks.take k)=mm at *;go_wp2_with fail;go_ret;exact ⟨by rw [HF.out]; rfl,X1.out.trans HXW.out⟩
 · have hlv:=HLV.out;rw [if_neg k2,if_neg k34] at hlv;have HL:=hid hlv;have q2:(kd == 2)=false:=by rw [hk2]; simpa using k2
   have q3:(kd == 3)=false:=by rw [hk3]; simp; omega
   have q4:(kd == 4)=false:=by rw [hk4]; simp; omega
   clear hlv HLV hk2 hk3 hk4 k2 k34;go_wp2_with fail;go_ret;exact ⟨by rw [HL.out]; rfl,X1.out⟩
theorem zf2 {q:Nat->Prop} (t:Mx) (v:Value) (w:World) (agD:t.sz<=1000000) (hsm:t.each weq) (h:MxV w q t v):Calls Tryz.prog 54 #[v] w (zdn t.za w):=
 kgd (t.sz+1) q t v w (pO _) agD hsm h
def qe8 (w0:World) (g words s:Nat) (E:List Nat) (k:Nat) (wr:World):Prop:=
 ∃ (ys:List Nat) (cy:Nat),Row wr g (List.replicate words 0 ++ ys)/\ys.length=E.length+1/\kdk ys/\Hid (ys[k]?=some cy)/\cy < 2 ^ s/\val (ys.take k)+B32 ^ k * cy=val (E.take k) * 2 ^ s/\Ext w0 wr
theorem vfc (u:Value) (ds:List Nat) (n:Nat) (w:World) (h:zb1 w u ds) (hs:ds.length<=35184371500000) (hn:n<=16777216) :
 Calls Tryz.prog 167 #[u,.int .i64 (n:Nat)] w (jea (val ds * 2 ^ n) w):=by
 have hmn:min (n:Int) 16777216=n:=by omega
 have hls:(dg (val ds)).length<=ds.length:=xdk h.xi;go_enter Tryz.func167,Tryz.ntmps167;go_wp2_with fail;refine (vdr u ds _ h).mono ?_;rintro e w' ⟨u',rfl,hu,rfl⟩;obtain ⟨A,c,rfl,h1,h2,h3⟩:=hu;have G5:=hid h3;have HVD:=hid (zdk (val ds));clear h3 h;generalize hE:dg (val ds)=E at *;have HE:=hid hE;clear hE;obtain ⟨words,s,hs1,hnw⟩:∃ words s:Nat,s < 32/\n=32 * words+s:=⟨n / 32,n % 32,by omega,by omega⟩;have HNW:=hid hnw;have e1:(n:Int) / 32=words:=by omega
 have e2:(n:Int) % 32=s:=by omega
 have hw1:32 * words+s<=16777216:=by omega
 have hmk:=fun W=>xdu ((words:Int)+E.length+1) (by omega) (by omega) W
 clear hnw
 by_cases h0:E.length=0
 · have h0b:((E.length:Int) == 0)=true:=beq_iff_eq.2 (by omega);have HV:Hid (val ds=0):=by
    have:=HVD.out;rw [pV h0] at this;exact this.symm
   clear h0 hmk e1 e2;go_wp2_with fail;go_ret;exact ⟨_,rfl,by rw [HV.out,tc,jdn]; exact zb1.nil w,Ext.refl w⟩
 · have h0b:((E.length:Int) == 0)=false:=beq_eq_false_iff_ne.2 (by omega);go_wp2_with fail;have ace:Hid (qe8 w w.heap.size words s E 0 (w.alloc (Obj.cells (jdq (List.replicate (words+E.length+1) 0)).toArray 108))):=by
    refine ⟨List.replicate (E.length+1) 0,0,?_,by simp,kdk.replicate _,hid (by simp),rF (by omega),by simp,(Ext.refl _).alloc _⟩;have:=Row.new w (List.replicate (words+E.length+1) 0);rw [ts,<- List.replicate_append_replicate] at this;rw [ts,<- List.replicate_append_replicate];exact this
   have hbl:words+E.length+1 - words=E.length+1:=by omega
   rw [hbl];clear hbl e1 e2 hmk
   go_loopw [36] (fun iv wr=>∃ k:Nat,k<=E.length/\iv=.int .i64 k/\Hid (qe8 w w.heap.size words s E k wr)) (fun iv _=>E.length - (intOf iv).toNat)
   case atStart=>exact ⟨0,by omega,rfl,ace⟩
   case round =>
    clear ace;obtain ⟨k,hk,rfl,HI⟩:=hrel;obtain ⟨ys,cy,aaC,hyl,hyd,HCY,hcy,ab2,ab1⟩:=HI.out
    by_cases hlt:k < E.length
    · obtain ⟨ad,x,rfl,hb,abZ,hx1,HX⟩:=(G5.out.ext ab1).qt k hlt;have hc1:wr.cell? ⟨w.heap.size,words+k,none⟩=some (.int .u32 (cy:Nat)):=by
       rw [aaC.cell (words+k) (by simp; omega)];have:=HCY.out;rw [List.getElem_append_right (by simp)];simp at this ⊢;obtain ⟨_,h⟩:=ti.1 this;rw [h]
      have hc2:wr.frozen? ⟨w.heap.size,words+k,none⟩=false:=aaC.frozen _;obtain ⟨z,hz1,hz2,_⟩:=aaC.qt (words+(k+1)) (by simp; omega);have hxe:=udk HX;have ave:2 ^ s<=2147483648:=pK (n:=2) (by omega) (show s<=31 by omega);have hpd:∃ q,4294967296=2 ^ s * q:=⟨2 ^ (32 - s),by rw [<- su,show s+(32 - s)=32 from by omega]⟩;have hp0:x * 2 ^ s<=4294967295 * 2147483648:=tN (by omega) ave;have hi0:(0:Int)<=(x:Int) * 2 ^ s:=by (have:(x:Int) * 2 ^ s=((x * 2 ^ s:Nat):Int):=by simp); omega
      have hi1:(x:Int) * 2 ^ s<=4294967295 * 2147483648:=by (have:(x:Int) * 2 ^ s=((x * 2 ^ s:Nat):Int):=by simp); omega
      obtain ⟨q,hq⟩:=hpd;have agB:x * 2 ^ s % 4294967296 % 2 ^ s=0:=by
       rw [hq,Nat.mod_mul_right_mod,Nat.mul_mod_left]
      have arx:x * 2 ^ s % 4294967296+cy < 4294967296:=by
       have h1:x * 2 ^ s % 4294967296 < 2 ^ s * q:=by rw [<- hq]; exact rN _ (by omega)
       obtain ⟨m,hm⟩:=Nat.dvd_of_mod_eq_zero agB;rw [hm] at h1 ⊢;have h2:=Nat.lt_of_mul_lt_mul_left h1;have h3:2 ^ s * (m+1)<=2 ^ s * q:=pX _ h2;rw [pD,th] at h3;omega
      have hor:bits .or .u32 (cy:Int) ((x:Int) * 2 ^ s % 4294967296)=((x * 2 ^ s % B32+cy:Nat):Int):=by
       have e:(x:Int) * 2 ^ s % 4294967296=((x * 2 ^ s % 4294967296:Nat):Int):=by simp
       rw [e,u32_or_nat _ _ (by omega) (by omega),Nat.or_comm,nat_join s _ _ agB hcy,vdk]
      have HS:Hid (qe8 w w.heap.size words s E (k+1) ((wr.setCell ⟨w.heap.size,words+k,none⟩ (.int .u32 ((x * 2 ^ s % B32+cy:Nat):Int))).setCell ⟨w.heap.size,words+(k+1),none⟩ (.int .u32 ((x * 2 ^ s / B32:Nat):Int)))):=by
       have r1:=(aaC.qG (words+k) (x * 2 ^ s % B32+cy)).qG (words+(k+1)) (x * 2 ^ s / B32);rw [sK _ _ (by simp),sK _ _ (by simp),rp,ug,ug] at r1;refine ⟨_,x * 2 ^ s / B32,r1,by rw [pN,pN,hyl],(hyd.set _ _ (by rw [vdk]; exact arx)).set _ _ (by rw [vdk]; omega),hid (by rw [List.getElem?_set_self (by rw [pN]; omega)]),?_,?_,(ab1.setCell (by simp) _).setCell (by simp) _⟩
       · rw [vdk];exact sO (sV hx1 (rF (by omega)))
       · rw [tU (pf _),kdt ys k _ (by omega),xdy,px,rh (by omega),hxe,pT,pP,<- ab2];have e:=rT (x * 2 ^ s) B32;have e2:B32 ^ k * (x * 2 ^ s)=B32 ^ k * (x * 2 ^ s % B32)+B32 ^ k * B32 * (x * 2 ^ s / B32):=by
          rw [pS (B32 ^ k) B32,<- pD,e]
         rw [pS (B32 ^ k) x,e2,pD];omega
      have he:(x:Int) * 2 ^ s / 4294967296=((x * 2 ^ s / B32:Nat):Int):=by rw [vdk]; simp
      have HEE:=hid he;have hbd:(x:Int) * 2 ^ s / 4294967296 < 4294967296:=by omega
      clear HI aaC hyl hyd HCY ab2 ab1 hxe hq agB he;go_wp2_with fail
      go_roundw
      case rel =>
       refine ⟨k+1,by omega,by go_num,?_⟩;rw [HEE.out,show ((x:Int) * 2 ^ s % B32+cy)=((x * 2 ^ s % B32+cy:Nat):Int) from by simp];exact HS
      case measure=>simp [intOf]; omega
    · obtain rfl:k=E.length:=by omega
      have hyt:ys=ys.take E.length ++ [cy]:=by
       obtain ⟨h,e⟩:=ti.1 HCY.out;have:=wei ys E.length h;rw [pA (by omega),e] at this;exact this
      have hvy:val ys=val ds * 2 ^ s:=by
       rw [hyt,xdy,px,rh (by omega),ab2,pA (pf _),HVD.out]
      have HV:Hid (val (List.replicate words 0 ++ ys)=val ds * 2 ^ n):=by
       have:val (List.replicate words 0 ++ ys)=val ds * 2 ^ n:=by
        rw [val_append,wdv,rp,pH,hvy,HNW.out,show B32=2 ^ 32 from rfl,<- Nat.pow_mul,su,sT]
       exact this
      have HN:Hid (zb1 wr (.slice (some ⟨w.heap.size,0,none⟩) (words+E.length+1) (words+E.length+1)) (List.replicate words 0 ++ ys)):=
       aaC.xO ((kdk.replicate _).append hyd) _ _ (by simp; omega) (pf _) (by omega)
      have HX:=hid ab1;clear HI aaC hyl hyd HCY ab2 ab1 hyt hvy;go_wp2_with fail;refine (vdr _ _ _ HN.out).mono ?_;rintro e w' ⟨v',rfl,hv,rfl⟩;rw [HV.out] at hv;have HV2:=hid hv;clear hv;go_wp2_with fail;go_ret;exact ⟨v',rfl,HV2.out,HX.out⟩
def yec (s : Nat) : List Nat -> List Nat
 | []=>[]
 | d :: r=>((d+B32 * r.headD 0) / 2 ^ s) % B32 :: yec s r
theorem ve9 (s:Nat) (T:List Nat):(yec s T).length=T.length:=by
 induction T with
 | nil=>rfl
 | cons d r ih=>simp [yec,ih]
theorem wfw (s:Nat) (T:List Nat) (k:Nat) (hk:k < T.length):(yec s T)[k]?=some (((T.getD k 0+B32 * T.getD (k+1) 0) / 2 ^ s) % B32):=by
 induction T generalizing k with
 | nil=>simp at hk
 | cons d r ih =>
   rcases k with _ | k
   · simp only [yec,sD,List.getD_cons_zero,List.getD_cons_succ];cases r <;> rfl
   · simp only [yec,sP,List.getD_cons_succ];exact ih k (by simpa using hk)
theorem zfo (d h P Q:Nat) (hP:0 < P) (hd:d < P * Q):((d+P * Q * h) / P) % (P * Q)=d / P+Q * (h % P):=by
 have e1:(d+P * Q * h) / P=d / P+Q * h:=by rw [pS,tK _ _ hP]
 have hdq:d / P < Q:=sO hd;have hm:=rN h hP;have e2:d / P+Q * h=(d / P+Q * (h % P))+P * Q * (h / P):=by
  have e3:Q * h=Q * (h % P)+P * Q * (h / P):=by
   have:Q * (h % P+P * (h / P))=Q * h:=by rw [rT]
   rw [pD,<- pS,re Q P] at this;omega
  omega
 rw [e1,e2,tO,tS];have:Q * (h % P+1)<=Q * P:=pX _ hm;rw [pD,th,re Q P] at this;omega
theorem gfw (s:Nat) (hs:s < 32) (T:List Nat) (hT:kdk T):val (yec s T)=val T / 2 ^ s:=by
 have hB:B32=2 ^ s * 2 ^ (32 - s):=by rw [<- su,show s+(32 - s)=32 from by omega]; rfl
 have hP:0 < 2 ^ s:=rF (by omega)
 induction T with
 | nil=>simp [yec]
 | cons d r ih =>
   have alA:r.headD 0 % 2 ^ s=val r % 2 ^ s:=by
    cases r with
    | nil=>rfl
    | cons h t=>rw [List.headD_cons,val_cons,hB,pS,tO]
   have hd:=hT.head;rw [yec,val_cons,val_cons,ih hT.tail];generalize hq:2 ^ (32 - s)=Q at *;generalize hp:2 ^ s=P at *;rw [hB] at hd ⊢;rw [zfo d _ P Q hP hd,alA,pS P Q (val r),tK _ _ hP,pS P Q,sT P Q,ts,<- pD,rT]
theorem we7 (a:Addr) (k:Nat):a.add (k+1)=⟨a.block,a.off+(k+1),none⟩:=by simp [Addr.add]
def qeg (w0:World) (g s:Nat) (T:List Nat) (k:Nat) (wr:World):Prop:=
 ∃ zs:List Nat,Row wr g zs/\zs.length=T.length/\kdk zs/\zs.take k=(yec s T).take k/\Ext w0 wr
theorem qeg.step {w0 wr : World} {g s : Nat} {T zs : List Nat} {k z : Nat} (hr : Row wr g zs) (hl : zs.length = T.length) (hd : kdk zs) (ht : zs.take k = (yec s T).take k) (hx : Ext w0 wr) (hg : w0.heap.size <= g)
 (hk:k < T.length) (hz:z=((T.getD k 0+B32 * T.getD (k+1) 0) / 2 ^ s) % B32):qeg w0 g s T (k+1) (wr.setCell ⟨g,k,none⟩ (.int .u32 (z:Int))):=by
 refine ⟨zs.set k z,hr.qG _ _,by rw [pN,hl],hd.set _ _ (by rw [hz]; exact rN _ kdm),?_,hx.setCell (by simpa using hg) _⟩;rw [kdt zs k z (by omega),ht,List.take_add_one,wfw s T k hk,<- hz]
 rfl
theorem gf9 (u:Value) (ds:List Nat) (n:Nat) (w:World) (h:zb1 w u ds) (hs:ds.length<=35184372088832) (hn:n<=9223372036854775807) :
 Calls Tryz.prog 171 #[u,.int .i64 (n:Nat)] w (jea (val ds / 2 ^ n) w):=by
 have hls:(dg (val ds)).length<=ds.length:=xdk h.xi;go_enter Tryz.func171,Tryz.ntmps171;go_wp2_with fail;refine (vdr u ds _ h).mono ?_;rintro e w' ⟨u',rfl,hu,rfl⟩;obtain ⟨A,c,rfl,h1,h2,h3⟩:=hu;have G5:=hid h3;have HVD:=hid (zdk (val ds));clear h3 h;generalize hE:dg (val ds)=E at *;have HE:=hid hE;clear hE;obtain ⟨words,s,hs1,hnw⟩:∃ words s:Nat,s < 32/\n=32 * words+s:=⟨n / 32,n % 32,by omega,by omega⟩;have HNW:=hid hnw;have e1:(n:Int) / 32=words:=by omega
 have e2:(n:Int) % 32=s:=by omega
 have hB:B32 ^ words=2 ^ (32 * words):=by rw [show B32=2 ^ 32 from rfl,<- Nat.pow_mul]
 have HB:=hid hB;clear hnw hB
 by_cases h0:E.length<=words
 · have HV:Hid (val ds / 2 ^ n=0):=by
    have:val ds / 2 ^ n=0:=by
     apply sE;have h4:=qdu G5.out.1;rw [HVD.out] at h4;refine pr h4 (po (pK kdm h0) ?_);rw [HB.out,HNW.out];exact pK (by omega) (by omega)
    exact this
   go_wp2_with fail;go_ret;exact ⟨_,rfl,by rw [HV.out,jdn]; exact zb1.nil w,Ext.refl w⟩
 · obtain ⟨ad,rfl,-,-⟩:=G5.out.2 (by omega);have hcw:¬ (c=words):=by omega
   have GT:=hid (G5.out.drop words c (by omega) h1);rw [if_neg hcw] at GT;have HTL:Hid ((E.drop words).length=E.length - words):=by
    have:(E.drop words).length=E.length - words:=pL;exact this
   have HTV:Hid (val (E.drop words) / 2 ^ s=val ds / 2 ^ n):=by
    have:val (E.drop words) / 2 ^ s=val ds / 2 ^ n:=by
     have e:=ydn E words (by omega);have h4:=qdu (G5.out.1.take words);rw [px,rh (by omega)] at h4;rw [HVD.out] at e;rw [HNW.out,su,<- Nat.div_div_eq_div_mul,<- HB.out,e,tK _ _ (rF kdm),sE h4,pH]
    exact this
   obtain ⟨m,hm⟩:∃ m,m=E.length - words:=⟨_,rfl⟩;have hm1:m<=35184372088832:=by omega
   have hm2:0 < m:=by omega
   rw [<- hm] at HTL;have hmk:=fun W=>xdu (m:Int) (by omega) (by omega) W
   generalize E.drop words=T at *;rw [hm] at hmk;go_wp2_with fail;rw [<- hm];have hcm:m<=c - words:=by omega
   have amW:c - words<=9223372036854775807:=by omega
   generalize c - words=c2 at *;clear hm hmk e1 e2 h0 hcw
   have ace:Hid (qeg w w.heap.size s T 0 (w.alloc (Obj.cells (jdq (List.replicate m 0)).toArray 108))):=
    ⟨List.replicate m 0,Row.new w _,by simp; exact HTL.out.symm,kdk.replicate _,by simp,(Ext.refl _).alloc _⟩
   change Hid (ydm w (some (ad.add words)) T) at GT
   generalize ad.add words=bd at *;have hP:0 < 2 ^ s:=rF (by omega)
   go_loopw [33] (fun iv wr=>∃ k:Nat,k<=m/\iv=.int .i64 k/\Hid (qeg w w.heap.size s T k wr)) (fun iv _=>m - (intOf iv).toNat)
   case atStart=>exact ⟨0,by omega,rfl,ace⟩
   case round =>
    clear ace;obtain ⟨k,hk,rfl,HI⟩:=hrel;obtain ⟨zs,aaC,hzl,hzd,htk,ab1⟩:=HI.out;have hTm:=HTL.out
    by_cases hlt:k < m
    · obtain ⟨_,x,e0,hb,abZ,hx1,HX⟩:=(GT.out.ext ab1).qt k (by omega);injection e0 with e0
      subst e0;obtain ⟨z,hz1,hz2,_⟩:=aaC.qt k (by omega);have hxD:T.getD k 0=x:=by rw [pB,HX.out]; rfl
      by_cases ahz:k+1 < m
      · obtain ⟨_,y,e0,hb',aej,hy1,HY⟩:=(GT.out.ext ab1).qt (k+1) (by omega);injection e0 with e0
        subst e0;rw [we7] at aej;have hyD:T.getD (k+1) 0=y:=by rw [pB,HY.out]; rfl
        have HS:=hid (qeg.step (z:=((x+B32 * y) / 2 ^ s) % B32) aaC hzl hzd htk ab1 (pf _) (by omega) (by rw [hxD,hyD]));have hor:bits .or .u64 (x:Int) ((y:Int) * 4294967296)=(x:Int)+y * 4294967296:=by
         have:=u64_or_nat x (y * 4294967296) (by omega) (by omega);rw [Nat.or_comm,nat_join 32 (y * 4294967296) x (by omega) (by omega)] at this;simp at this;omega
        have he:((x:Int)+y * 4294967296) / 2 ^ s % 4294967296=((((x+B32 * y) / 2 ^ s) % B32:Nat):Int):=by
         rw [re B32 y,vdk]; simp
        have HEE:=hid he;clear HI aaC hzl hzd htk ab1 hTm hxD hyD he;go_wp2_with fail
        go_roundw
        case rel =>
         refine ⟨k+1,by omega,by go_num,?_⟩;rw [HEE.out];exact HS
        case measure=>simp [intOf]; omega
      · have hyD:T.getD (k+1) 0=0:=by rw [pB,sA (by omega)]; rfl
        have HS:=hid (qeg.step (z:=((x+B32 * 0) / 2 ^ s) % B32) aaC hzl hzd htk ab1 (pf _) (by omega) (by rw [hxD,hyD]));have he:(x:Int) / 2 ^ s % 4294967296=((((x+B32 * 0) / 2 ^ s) % B32:Nat):Int):=by
         rw [sQ,sx,vdk]; simp
        have HEE:=hid he;clear HI aaC hzl hzd htk ab1 hTm hxD hyD he;go_wp2_with fail
        go_roundw
        case rel =>
         refine ⟨k+1,by omega,by go_num,?_⟩;rw [HEE.out];exact HS
        case measure=>simp [intOf]; omega
    · obtain rfl:k=m:=by omega
      have HV:Hid (val zs=val ds / 2 ^ n):=by
       have:val zs=val ds / 2 ^ n:=by
        rw [pA (by omega),pA (by rw [ve9]; omega)] at htk;rw [htk,gfw s hs1 T GT.out.1];exact HTV.out
       exact this
      have HN:Hid (zb1 wr (.slice (some ⟨w.heap.size,0,none⟩) k k) zs):=aaC.xO hzd _ _ (by omega) (pf _) (by omega);have HX:=hid ab1;clear HI aaC hzl hzd htk ab1 hTm;go_wp2_with fail;refine (vdr _ _ _ HN.out).mono ?_;rintro e w' ⟨v',rfl,hv,rfl⟩;rw [HV.out] at hv;have HV2:=hid hv;clear hv;go_wp2_with fail;go_ret;exact ⟨v',rfl,HV2.out,HX.out⟩
def yd2 (B U V:Nat):Nat:=min (B - 1) (U / V)
theorem wgg {B:Nat} (hB:0 < B) (U V:Nat):yd2 B U V < B:=by
 unfold yd2; omega
theorem gfk {B:Nat} (hB:0 < B) {u v U V K r r':Nat} (hK:0 < K) (hu:u=U * K+r) (hr:r < K) (hv:v=V * K+r') (hr':r' < K) (hV:B<=V) (hq:u < v * B) :
 u / v<=yd2 B U V/\yd2 B U V<=u / v+1:=by
 have hV0:0 < V:=pr hB hV;have hv0:0 < v:=by rw [hv]; have:=tg hV0 hK; omega
 have hqB:u / v < B:=sO hq
 constructor
 · have h1:u / v * v<=u:=Nat.div_mul_le_self u v;have h2:u / v * V * K<=u / v * v:=by rw [hv,pS]; exact pX _ (by omega)
   have h3:u / v * V * K < (U+1) * K:=by rw [pT,sw]; omega
   have h4:u / v * V < U+1:=tI h3;have h5:u / v<=U / V:=(td hV0).2 (by omega);unfold yd2; omega
 · rcases rz (u / v+1) (U / V) with h | h
   · exfalso
     generalize hQ:u / v=Q at *;have h1:(Q+2) * V<=U:=(td hV0).1 h;have h2:(Q+2) * V * K<=u:=by
      have:=pE K h1;omega
     have h3:u < (Q+1) * v:=by
      rw [pT,sw,re,<- hQ];have h7:=rN u hv0;have h8:=Nat.div_add_mod u v;omega
     have h4:(Q+1) * v < (Q+1) * ((V+1) * K):=Nat.mul_lt_mul_of_pos_left (by rw [hv,pT,sw]; omega) (by omega);have h5:(Q+2) * V * K < (Q+1) * (V+1) * K:=by rw [pS (Q+1)]; omega
     have h6:=tI h5;rw [pT,pT,sw,pD,th] at h6;omega
   · unfold yd2; omega
def jeg (B U2 U V v1 q r o:Nat):Prop:=q < B/\r < B/\o<=1/\r+B * o+q * v1=U2/\yd2 B U V<=q
theorem xe7 {B:Nat} (hB:0 < B) {u2 u1 u0 v1 v2:Nat} (h1:u1 < B) (hv1:v1 < B) (he:u2=v1):jeg B (u2 * B+u1) (u2 * B * B+u1 * B+u0) (v1 * B+v2) v1 (B - 1) ((u1+v1) % B) ((u1+v1) / B):=by
 refine ⟨by omega,rN _ hB,by have:=(uN hB).2 (show u1+v1 < 2 * B by omega); omega,?_,by unfold yd2; omega⟩;rw [rT,he,Nat.sub_mul,sw,re B v1];have:v1<=v1 * B:=Nat.le_mul_of_pos_right _ hB;omega
theorem yf5 {B:Nat} (hB:0 < B) {u2 u1 u0 v1 v2:Nat} (h1:u1 < B) (h0:u0 < B) (hv1:v1 < B) (hlt:u2 < v1) :
 jeg B (u2 * B+u1) (u2 * B * B+u1 * B+u0) (v1 * B+v2) v1 ((u2 * B+u1) / v1) ((u2 * B+u1) % v1) 0:=by
 have hv0:0 < v1:=by omega
 have hm:=rN (u2 * B+u1) hv0;have hq:u2 * B+u1 < v1 * B:=by
  have:(u2+1) * B<=v1 * B:=pE _ hlt;rw [pT,sw] at this; omega
 refine ⟨sO hq,by omega,by omega,?_,?_⟩
 · rw [sQ,sx,re _ v1,Nat.add_comm]; exact Nat.div_add_mod _ _
 · have hV0:0 < v1 * B+v2:=by have:=tg hv0 hB; omega
   have h2:(u2 * B * B+u1 * B+u0) / (v1 * B+v2)<=(u2 * B+u1) / v1:=by
    rw [td hv0];have h3:=Nat.div_mul_le_self (u2 * B * B+u1 * B+u0) (v1 * B+v2);generalize (u2 * B * B+u1 * B+u0) / (v1 * B+v2)=t at *;have h4:t * v1 * B<=t * (v1 * B+v2):=by rw [pS]; exact pX _ (by omega)
    have h5:t * v1 * B < (u2 * B+u1+1) * B:=by rw [pT,pT,sw]; omega
    have:=tI h5;omega
   unfold yd2; omega
theorem qe7 {B:Nat} (hB:0 < B) {u2 u1 u0 v1 v2 q r o:Nat} (h:jeg B (u2 * B+u1) (u2 * B * B+u1 * B+u0) (v1 * B+v2) v1 q r o) (hv1:0 < v1) (aqS:o=1\/q * v2<=r * B+u0) (hv2:v2 < B) :
 q=yd2 B (u2 * B * B+u1 * B+u0) (v1 * B+v2):=by
 obtain ⟨hq,hr,ho,he,hle⟩:=h;have hV0:0 < v1 * B+v2:=by have:=tg hv1 hB; omega
 have hU:u2 * B * B+u1 * B+u0=(r+B * o) * B+q * v1 * B+u0:=by
  rw [<- pT,<- he,pT]
 have hqv:q * v2<=(r+B * o) * B+u0:=by
  rcases aqS with ho1 | h1
  · subst ho1;have h2:q * v2<=B * B:=tN (by omega) (by omega);rw [pT,th]; omega
  · rw [pT]; omega
 have h3:q<=(u2 * B * B+u1 * B+u0) / (v1 * B+v2):=by
  rw [td hV0,hU,pD,<- pS];omega
 unfold yd2 at *; omega
theorem ye7 {B:Nat} (hB:0 < B) {u2 u1 u0 v1 v2 q r:Nat} (h:jeg B (u2 * B+u1) (u2 * B * B+u1 * B+u0) (v1 * B+v2) v1 q r 0) (hv1:0 < v1) (aAn:v1 < B) (hgo:r * B+u0 < q * v2) :
 0 < q/\jeg B (u2 * B+u1) (u2 * B * B+u1 * B+u0) (v1 * B+v2) v1 (q - 1) ((r+v1) % B) ((r+v1) / B):=by
 obtain ⟨hq,hr,ho,he,hle⟩:=h;have hV0:0 < v1 * B+v2:=by have:=tg hv1 hB; omega
 have hq0:0 < q:=by
  rcases rO q with e | e
  · rw [e,tc] at hgo; omega
  · exact e
 have hU:u2 * B * B+u1 * B+u0=r * B+q * v1 * B+u0:=by
  rw [<- pT,<- he,sQ,sx,pT]
 have h3:(u2 * B * B+u1 * B+u0) / (v1 * B+v2) < q:=by
  rw [uN hV0,hU,pD,<- pS];omega
 refine ⟨hq0,by omega,rN _ hB,by have:=(uN hB).2 (show r+v1 < 2 * B by omega); omega,?_,by unfold yd2; omega⟩;rw [rT,Nat.sub_mul,sw];have:v1<=q * v1:=sG _ hq0;omega
end Go.Proofs.YtheefiaoimbeiaaGreatDoor
