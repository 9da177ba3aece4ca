/- Layer 3 (division): the parts of long division. -/
import Derived.Test.YtcfcjabgkfehlaaGreatMf5
import Derived.Test.YtcfcjabgkfehlaaGreatKnuth
set_option linter.unusedSimpArgs false
set_option linter.unusedVariables false
set_option maxRecDepth 100000
set_option maxHeartbeats 8000000
namespace Go.Proofs.YtcfcjabgkfehlaaGreat
open Go.RowKit
def qca (B U2 U V v1:Nat) (w:World) (s11 s12 s13:Value) (wx:World):Prop:=
 ∃ q r o:Nat,s11=.int .u32 (q:Nat)/\s12=.int .u32 (r:Nat)/\s13=.int .u32 (o:Nat)/\zaw B U2 U V v1 q r o/\∃ n,wx=w.drewN n
theorem gbm (u2 u1 u0 v1 v2:Nat) (w:World) (hu2:u2<=v1) (hu1:u1 < 4294967296) (hu0:u0 < 4294967296) (hv1:v1 < 4294967296) (hv2:v2 < 4294967296) (hv10:2147483648<=v1) :
 Calls Tryz.prog 219 #[.int .u32 (u2:Nat),.int .u32 (u1:Nat),.int .u32 (u0:Nat),.int .u32 (v1:Nat),.int .u32 (v2:Nat)] w fun e w' =>
  e=.returned (.int .u32 (zai B32 (u2 * B32 * B32+u1 * B32+u0) (v1 * B32+v2):Nat))/\∃ n,w'=w.drewN n:=by
 go_enter Tryz.func219,Tryz.ntmps219
 go_upto_if 18 with (fail)
 go_cut [11,12,13] (fun s11 s12 s13 wx=>qca B32 (u2 * B32+u1) (u2 * B32 * B32+u1 * B32+u0) (v1 * B32+v2) v1 w s11 s12 s13 wx)
 case first =>
  by_cases h:u2 < v1
  · have hi:=Lib.hid (qci (u0:=u0) (v2:=v2) ui (show u1 < B32 from hu1) (show u0 < B32 from hu0) (show v1 < B32 from hv1) h);go_wp2_with fail;refine (xck _ _ _ _ (by omega) (by omega) (by omega) (by omega) (by omega)).mono ?_;rintro e w2 ⟨rfl,n2,rfl⟩;go_wp2_with fail
    go_meet
    refine ⟨_,_,0,?_,?_,rfl,hi.out,n2,rfl⟩
    · rw [zg]; simp
    · rw [zg]; simp
  · have he:u2=v1:=by omega
    have hi:=Lib.hid (zbn (u0:=u0) (v2:=v2) ui (show u1 < B32 from hu1) (show v1 < B32 from hv1) he);clear he;go_wp2_with fail;refine (add32 _ _ 0 _ (by omega) (by omega) (by omega) (by omega) (by omega) (by omega)).mono ?_;rintro e w2 ⟨rfl,rfl⟩;go_wp2_with fail
    go_meet
    refine ⟨_,_,_,?_,?_,?_,hi.out,0,rfl⟩
    · rfl
    · rw [zg]; simp
    · rw [zg]; simp
 case rest =>
  obtain ⟨q,r,o,rfl,rfl,rfl,hinv,n,rfl⟩:=hcut;have HI0:=Lib.hid hinv;clear hinv;go_wp2_with fail
  go_loopw [11,12,13] (fun s11 s12 s13 wx=>qca B32 (u2 * B32+u1) (u2 * B32 * B32+u1 * B32+u0) (v1 * B32+v2) v1 w s11 s12 s13 wx) (fun s11 _ _ _=>(intOf s11).toNat)
  case atStart=>exact ⟨q,r,o,rfl,rfl,rfl,HI0.out,n,rfl⟩
  case round =>
   clear HI0;obtain ⟨q,r,o,rfl,rfl,rfl,hinv,n,rfl⟩:=hrel;have hq:=hinv.1;have hr:=hinv.2.1;have ho:=hinv.2.2.1;have HI:=Lib.hid hinv;rw [zg] at hq hr;clear hinv
   by_cases ho0:o=0
   · subst ho0;go_wp2_with fail;refine (ubx _ _ _ (by omega) (by omega) (by omega) (by omega)).mono ?_;rintro e w2 ⟨rfl,rfl⟩;obtain ⟨H,hH⟩:∃ H:Nat,H=q * v2 / 4294967296:=⟨_,rfl⟩;obtain ⟨Lo,hLo⟩:∃ Lo:Nat,Lo=q * v2 % 4294967296:=⟨_,rfl⟩;have e1:(q:Int) * v2 / 4294967296=H:=by rw [hH]; simp
     have e2:(q:Int) * v2 % 4294967296=Lo:=by rw [hLo]; simp
     have hdec:q * v2=H * 4294967296+Lo:=by omega
     have hLo1:Lo < 4294967296:=by omega
     have HDEC:=Lib.hid hdec;rw [e1,e2];clear e1 e2 hH hLo hdec;have hdone:q * v2<=r * B32+u0->q=zai B32 (u2 * B32 * B32+u1 * B32+u0) (v1 * B32+v2):=fun h=>ybn ui HI.out (by omega) (.inr h) hv2
     have HDONE:=Lib.hid hdone;clear hdone;rcases Nat.lt_trichotomy H r with hlt | heq | hgt
     · have b1:decide (H < r)=true:=by simp [hlt]
       go_wp2_with fail;go_ret;refine ⟨?_,_,rfl⟩;have:=HDONE.out (by rw [zg]; have:=HDEC.out; omega);rw [<- this]
       rfl
     · subst heq;have b1:decide (H < H)=false:=by simp
       have b2:((H:Int) == (H:Int))=true:=by simp
       by_cases hl:Lo<=u0
       · have b3:decide (Lo<=u0)=true:=by simp [hl]
         go_wp2_with fail;go_ret;refine ⟨?_,_,rfl⟩;have:=HDONE.out (by rw [zg]; have:=HDEC.out; omega);rw [<- this]
         rfl
       · have b3:decide (Lo<=u0)=false:=by simp [hl]
         obtain ⟨hq0,hst⟩:=wbm ui HI.out (by omega) (show v1 < B32 from hv1) (by rw [zg]; have:=HDEC.out; omega);have HST:=Lib.hid hst;clear hst;go_wp2_with fail;refine (add32 _ _ 0 _ (by omega) (by omega) (by omega) (by omega) (by omega) (by omega)).mono ?_;rintro e w2 ⟨rfl,rfl⟩;go_wp2_with fail
         go_roundw
         case rel=>exact ⟨q - 1,_,_,by congr 1; omega,by rw [zg]; simp,by rw [zg]; simp,HST.out,_,rfl⟩
         case measure=>simp [intOf]; omega
     · have b1:decide (H < r)=false:=by simp; omega
       have b2:((H:Int) == (r:Int))=false:=beq_eq_false_iff_ne.2 (by omega);obtain ⟨hq0,hst⟩:=wbm ui HI.out (by omega) (show v1 < B32 from hv1) (by rw [zg]; have:=HDEC.out; omega);have HST:=Lib.hid hst;clear hst;go_wp2_with fail;refine (add32 _ _ 0 _ (by omega) (by omega) (by omega) (by omega) (by omega) (by omega)).mono ?_;rintro e w2 ⟨rfl,rfl⟩;go_wp2_with fail
       go_roundw
       case rel=>exact ⟨q - 1,_,_,by congr 1; omega,by rw [zg]; simp,by rw [zg]; simp,HST.out,_,rfl⟩
       case measure=>simp [intOf]; omega
   · obtain rfl:o=1:=by omega
     have hd:=ybn ui HI.out (by omega) (.inl rfl) hv2;have HD:=Lib.hid hd;clear hd;go_wp2_with fail;go_ret;refine ⟨?_,_,rfl⟩;rw [<- HD.out]
     rfl
/- Layer 3 (division): subtracting a multiple, adding back, in place. -/
set_option maxRecDepth 100000
set_option maxHeartbeats 8000000
def seg (zs:List Nat) (off k:Nat):List Nat:=(zs.drop off).take k
theorem jaw {zs:List Nat} {off k r:Nat} (h:Hid (zs[off+k]?=some r)):val (seg zs off (k+1))=val (seg zs off k)+B32 ^ k * r:=by
 have h1:Hid ((zs.drop off)[k]?=some r):=by
  have:=h.out;rw [<- List.getElem?_drop] at this;exact this
 exact yg h1
theorem qcm {zs:List Nat} {off k d:Nat} (h:off+k < zs.length):val (seg (zs.set (off+k) d) off (k+1))=val (seg zs off k)+B32 ^ k * d:=by
 unfold seg;have hlk:k < (zs.drop off).length:=by rw [List.length_drop]; omega
 rw [List.drop_set,if_neg (by omega),Nat.add_sub_cancel_left,gy _ _ _ hlk,zaf,List.length_take,Nat.min_eq_left (by omega)]
theorem kbf {zs:List Nat} {i d:Nat}:(zs.set i d).drop (i+1)=zs.drop (i+1):=by
 rw [List.drop_set,if_pos (by omega)]
def waj (g off:Nat) (zs:List Nat) (k:Nat) (w0 wr:World) (ys:List Nat):Prop:=
 Row wr g ys/\ys.length=zs.length/\jf ys/\ys.take off=zs.take off/\ys.drop (off+k)=zs.drop (off+k)/\Only g w0 wr
theorem waj.get {g off k:Nat} {zs ys:List Nat} {w0 wr:World} (h:waj g off zs k w0 wr ys) (hk:off+k < zs.length) :
 ∃ r:Nat,wr.cell? ⟨g,off+k,none⟩=some (.int .u32 (r:Nat))/\wr.frozen? ⟨g,off+k,none⟩=false/\r < 4294967296/\Hid (zs[off+k]?=some r):=by
 obtain ⟨h1,h2,h3,h4,h5,h6⟩:=h;obtain ⟨r,c1,c2,c3⟩:=h1.get_ (off+k) (by omega);refine ⟨r,c1,c2,h3 _ (List.mem_of_getElem? c3.out),?_⟩;have e1:ys[off+k]?=(ys.drop (off+k))[0]?:=by rw [List.getElem?_drop]; simp
 have e2:zs[off+k]?=(zs.drop (off+k))[0]?:=by rw [List.getElem?_drop]; simp
 have:=c3.out;rw [e1,h5,<- e2] at this;exact this
theorem waj.set {g off k d:Nat} {zs ys:List Nat} {w0 wr:World} (h:waj g off zs k w0 wr ys) (hk:off+k < zs.length) (hd:d < B32) :
 waj g off zs (k+1) w0 (wr.setCell ⟨g,off+k,none⟩ (.int .u32 (d:Nat))) (ys.set (off+k) d)/\val (seg (ys.set (off+k) d) off (k+1))=val (seg ys off k)+B32 ^ k * d:=by
 obtain ⟨h1,h2,h3,h4,h5,h6⟩:=h;refine ⟨⟨h1.set_ _ _,by rw [List.length_set,h2],h3.set _ _ hd,by rw [List.take_set_of_le (by omega),h4],?_,h6.setCell _ _⟩,qcm (by omega)⟩;rw [show off+(k+1)=(off+k)+1 from by omega,kbf,<- List.drop_drop (i:=1) (j:=off+k),h5,List.drop_drop]
theorem zb3 (Sy Sz P c b d low c' b' p z D X:Nat) (h:Sy+D * X=Sz+P * (c+b)) (y:Nat) (hp:p=D * y) (h1:p+c=low+B32 * c') (h2:d+low+b=z+B32 * b') :
 (Sy+P * d)+D * (X+P * y)=(Sz+P * z)+P * B32 * (c'+b'):=by
 have e1:D * (X+P * y)=D * X+P * p:=by rw [Nat.mul_add,hp,Nat.mul_left_comm]
 have e2:P * (d+p+c+b)=P * (z+B32 * (c'+b')):=by congr 1; rw [Nat.mul_add]; omega
 rw [Nat.mul_add,Nat.mul_add,Nat.mul_add,Nat.mul_add,<- Nat.mul_assoc] at e2;rw [Nat.mul_add] at h;omega
def jbc (g off:Nat) (zs xs:List Nat) (D k c b:Nat) (w0 wr:World):Prop:=
 ∃ ys,waj g off zs k w0 wr ys/\val (seg ys off k)+D * val (xs.take k)=val (seg zs off k)+B32 ^ k * (c+b)
def vbu (g off n:Nat) (zs xs:List Nat) (D:Nat) (w:World) (e:Ending) (w':World):Prop:=
 ∃ (ys:List Nat) (b:Nat),b<=1/\e=.returned (.bool ((b:Int) != 0))/\waj g off zs (n+1) w w' ys/\val (seg ys off (n+1))+D * val xs=val (seg zs off (n+1))+B32 ^ (n+1) * b
theorem kcb (g off zc n xc D : Nat) (zs xs : List Nat) (X : Option Addr) (w : World) (hrow : Row w g zs) (hzd : jf zs) (hzl : off + n + 1 <= zs.length) (hzc : n + 1 <= zc) (hzc' : zc <= 35184372088832)
 (hx:ji w X xs) (hxn:xs.length=n) (hxa:∀ ad,X=some ad->ad.block ≠ g) (hxc:n<=xc) (_hxc':xc<=9223372036854775807) (hD:D < 4294967296) :
 Calls Tryz.prog 220 #[.slice (some ⟨g,off,none⟩) (n+1) zc,.slice X n xc,.int .u32 (D:Nat)] w (vbu g off n zs xs D w):=by
 have HINV:Hid (jbc g off zs xs D 0 0 0 w w):=⟨zs,⟨hrow,rfl,hzd,rfl,rfl,Only.refl _ _⟩,by simp [seg]⟩;have HX:=Lib.hid hx;have HXN:=Lib.hid hxn;have HXA:=Lib.hid hxa;clear hx hxa hrow hzd hxn;go_enter Tryz.func220,Tryz.ntmps220;go_wp2_with fail
 go_loopw [7,8,17] (fun cv bv iv wr=>∃ k c b:Nat,k<=n/\iv=.int .i64 k/\cv=.int .u32 c/\bv=.int .u32 b/\c < 4294967296/\b<=1/\Hid (jbc g off zs xs D k c b w wr)) (fun _ _ iv _=>n - (intOf iv).toNat)
 case atStart=>exact ⟨0,0,0,by omega,rfl,rfl,rfl,by omega,by omega,HINV⟩
 case round =>
  clear HINV;obtain ⟨k,c,b,hk,rfl,rfl,rfl,hc,hb,HI⟩:=hrel;obtain ⟨ys,hseg,hval⟩:=HI.out;obtain ⟨r,hrc,hrf,hr1,HR⟩:=hseg.get (by omega)
  by_cases hlt:k < n
  · obtain ⟨ad,y,rfl,hbk,hcell,hy1,HY⟩:=(HX.out.only hseg.2.2.2.2.2 HXA.out).get_ k (by have:=HXN.out; omega);have hp0:(0:Int)<=(y:Int) * D:=Int.mul_nonneg (by omega) (by omega);have hp1:(y:Int) * D<=4294967295 * 4294967295:=Int.mul_le_mul (by omega) (by omega) (by omega) (by omega);have HSEG:=Lib.hid hseg;have HVAL:=Lib.hid hval;clear HI hseg hval;go_wp2_with fail;refine (ubx _ _ _ (by omega) (by omega) (by omega) (by omega)).mono ?_;rintro e w2 ⟨rfl,rfl⟩;go_wp2_with fail;refine (add32 _ _ 0 _ (by omega) (by omega) (by omega) (by omega) (by omega) (by omega)).mono ?_;rintro e w2 ⟨rfl,rfl⟩;go_wp2_with fail;obtain ⟨p,hp⟩:∃ p:Nat,p=D * y:=⟨_,rfl⟩;have hpI:(y:Int) * D=(p:Int):=by rw [hp]; simp [Int.mul_comm]
    rw [hpI] at hp1 ⊢;obtain ⟨low,hlow⟩:∃ low:Nat,low=(p+c) % 4294967296:=⟨_,rfl⟩;obtain ⟨cc,hcc⟩:∃ cc:Nat,cc=(p+c) / 4294967296:=⟨_,rfl⟩;have e1:((p:Int)+c) % 4294967296=low:=by omega
    have e2:(p:Int) / 4294967296+((p:Int) % 4294967296+c) / 4294967296=cc:=by omega
    have hcc1:cc < 4294967296:=by omega
    have hl1:low < 4294967296:=by omega
    rw [e1,e2];have HPC:Hid (p+c=low+B32 * cc):=by
     have:p+c=low+B32 * cc:=by rw [zg]; omega
     exact this
    have HP:=Lib.hid hp;clear hlow hcc e1 e2 hpI hp0 hp1 hp;refine (vbv _ _ _ _ (by omega) (by omega) (by omega) (by omega) (by omega) (by omega)).mono ?_;rintro e w2 ⟨rfl,rfl⟩;obtain ⟨d,hd1⟩:=Int.eq_ofNat_of_zero_le (show 0<=((r:Int) - low - b) % 4294967296 by omega);obtain ⟨b',hb'⟩:=Int.eq_ofNat_of_zero_le (gav r low b).1;have hb2:=(gav r low b).2;rw [hb'] at hb2;have hdc:d+low+b=r+B32 * b':=by
     rw [zg];unfold bor at hb'
     split at hb' <;> omega
    have hdlt:d < B32:=by rw [zg]; omega
    rw [hd1,hb'];have HS:Hid (jbc g off zs xs D (k+1) cc b' w (wr.setCell ⟨g,off+k,none⟩ (.int .u32 (d:Nat)))):=by
     obtain ⟨s1,s2⟩:=HSEG.out.set (d:=d) (by omega) hdlt;refine ⟨_,s1,?_⟩;rw [s2,yg HY,jaw HR,Nat.pow_succ];exact zb3 _ _ _ _ _ _ _ _ _ _ _ _ _ HVAL.out y HP.out HPC.out hdc
    clear hd1 hb' hdc HSEG HVAL HR;go_wp2_with fail
    go_roundw
    case rel=>exact ⟨k+1,cc,b',by omega,by go_num,rfl,rfl,hcc1,by omega,HS⟩
    case measure=>simp [intOf]; omega
  · obtain rfl:k=n:=by omega
    have HSEG:=Lib.hid hseg;have HVAL:=Lib.hid hval;clear HI hseg hval;go_wp2_with fail;refine (vbv _ _ _ _ (by omega) (by omega) (by omega) (by omega) (by omega) (by omega)).mono ?_;rintro e w2 ⟨rfl,rfl⟩;obtain ⟨d,hd1⟩:=Int.eq_ofNat_of_zero_le (show 0<=((r:Int) - c - b) % 4294967296 by omega);obtain ⟨b',hb'⟩:=Int.eq_ofNat_of_zero_le (gav r c b).1;have hb2:=(gav r c b).2;rw [hb'] at hb2;have hdc:d+c+b=r+B32 * b':=by
     rw [zg];unfold bor at hb'
     split at hb' <;> omega
    have hdlt:d < B32:=by rw [zg]; omega
    rw [hd1,hb'];have hbb:b'<=1:=by omega
    have HF:Hid (vbu g off k zs xs D w (.returned (.bool ((b':Int) != 0))) (wr.setCell ⟨g,off+k,none⟩ (.int .u32 (d:Nat)))):=by
     obtain ⟨s1,s2⟩:=HSEG.out.set (d:=d) (by omega) hdlt;refine ⟨_,b',hbb,rfl,s1,?_⟩;rw [s2,jaw HR,Nat.pow_succ];have h3:=HVAL.out;rw [List.take_of_length_le (by have:=HXN.out; omega)] at h3;have e2:B32 ^ k * (d+c+b)=B32 ^ k * (r+B32 * b'):=by rw [hdc]
     rw [Nat.mul_add,Nat.mul_add,Nat.mul_add,<- Nat.mul_assoc] at e2;rw [Nat.mul_add] at h3;omega
    clear hd1 hb' hdc HSEG HVAL HR;go_wp2_with fail;go_ret;exact HF.out
theorem ybf (Sy Sz P c d r y c' X:Nat) (h:Sy+P * c=Sz+X) (h1:r+y+c=d+B32 * c'):(Sy+P * d)+P * B32 * c'=(Sz+P * r)+(X+P * y):=by
 have e2:P * (r+y+c)=P * (d+B32 * c'):=by rw [h1]
 rw [Nat.mul_add,Nat.mul_add,Nat.mul_add,<- Nat.mul_assoc] at e2;omega
def vbc (g off:Nat) (zs xs:List Nat) (k c:Nat) (w0 wr:World):Prop:=
 ∃ ys,waj g off zs k w0 wr ys/\val (seg ys off k)+B32 ^ k * c=val (seg zs off k)+val (xs.take k)
def wbu (g off n:Nat) (zs xs:List Nat) (w:World) (e:Ending) (w':World):Prop:=
 ∃ (ys:List Nat) (c:Nat),e=.returned (.tuple #[])/\waj g off zs (n+1) w w' ys/\val (seg ys off (n+1))+B32 ^ (n+1) * c=val (seg zs off (n+1))+val xs
theorem vcj (g off zc n xc : Nat) (zs xs : List Nat) (X : Option Addr) (w : World) (hrow : Row w g zs) (hzd : jf zs) (hzl : off + n + 1 <= zs.length) (hzc : n + 1 <= zc) (hzc' : zc <= 35184372088832)
 (hx:ji w X xs) (hxn:xs.length=n) (hxa:∀ ad,X=some ad->ad.block ≠ g) (hxc:n<=xc) (_hxc':xc<=9223372036854775807) :
 Calls Tryz.prog 221 #[.slice (some ⟨g,off,none⟩) (n+1) zc,.slice X n xc] w (wbu g off n zs xs w):=by
 have HINV:Hid (vbc g off zs xs 0 0 w w):=⟨zs,⟨hrow,rfl,hzd,rfl,rfl,Only.refl _ _⟩,by simp [seg]⟩;have HX:=Lib.hid hx;have HXN:=Lib.hid hxn;have HXA:=Lib.hid hxa;clear hx hxa hrow hzd hxn;go_enter Tryz.func221,Tryz.ntmps221;go_wp2_with fail
 go_loopw [4,9] (fun cv iv wr=>∃ k c:Nat,k<=n/\iv=.int .i64 k/\cv=.int .u32 c/\c<=1/\Hid (vbc g off zs xs k c w wr)) (fun _ iv _=>n - (intOf iv).toNat)
 case atStart=>exact ⟨0,0,by omega,rfl,rfl,by omega,HINV⟩
 case round =>
  clear HINV;obtain ⟨k,c,hk,rfl,rfl,hc,HI⟩:=hrel;obtain ⟨ys,hseg,hval⟩:=HI.out;obtain ⟨r,hrc,hrf,hr1,HR⟩:=hseg.get (by omega)
  by_cases hlt:k < n
  · obtain ⟨ad,y,rfl,hbk,hcell,hy1,HY⟩:=(HX.out.only hseg.2.2.2.2.2 HXA.out).get_ k (by have:=HXN.out; omega);have HS:Hid (vbc g off zs xs (k+1) ((r+y+c) / B32) w (wr.setCell ⟨g,off+k,none⟩ (.int .u32 (((r+y+c) % B32:Nat):Int)))):=by
     obtain ⟨s1,s2⟩:=hseg.set (d:=(r+y+c) % B32) (by omega) (Nat.mod_lt _ ui);refine ⟨_,s1,?_⟩;rw [s2,yg HY,jaw HR,Nat.pow_succ];exact ybf _ _ _ _ _ _ _ _ _ hval (Nat.mod_add_div _ _).symm
    clear HI hseg hval;go_wp2_with fail;refine (add32 _ _ _ _ (by omega) (by omega) (by omega) (by omega) (by omega) (by omega)).mono ?_;rintro e w2 ⟨rfl,rfl⟩;go_wp2_with fail
    go_roundw
    case rel =>
     refine ⟨k+1,(r+y+c) / B32,by omega,by go_num,by rw [zg]; congr 1,by rw [zg]; omega,?_⟩;rw [show (((r:Int)+y+c) % 4294967296)=(((r+y+c) % B32:Nat):Int) from by rw [zg]; omega];exact HS
    case measure=>simp [intOf]; omega
  · obtain rfl:k=n:=by omega
    have HF:Hid (wbu g off k zs xs w (.returned (.tuple #[])) (wr.setCell ⟨g,off+k,none⟩ (.int .u32 (((r+c) % B32:Nat):Int)))):=by
     obtain ⟨s1,s2⟩:=hseg.set (d:=(r+c) % B32) (by omega) (Nat.mod_lt _ ui);refine ⟨_,(r+c) / B32,rfl,s1,?_⟩;rw [s2,jaw HR,Nat.pow_succ];have h3:=hval;rw [List.take_of_length_le (by have:=HXN.out; omega)] at h3;have:=ybf _ _ _ _ _ _ 0 _ _ h3 (Nat.mod_add_div (r+0+c) _).symm;simpa using this
    clear HI hseg hval;go_wp2_with fail
    go_end0
    rw [show (((r:Int)+c) % 4294967296)=(((r+c) % B32:Nat):Int) from by rw [zg]; omega];exact HF.out
end Go.Proofs.YtcfcjabgkfehlaaGreat
