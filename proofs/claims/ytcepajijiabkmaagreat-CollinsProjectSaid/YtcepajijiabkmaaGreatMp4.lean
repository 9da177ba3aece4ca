/- Layer 1 (natural): division by one digit, shifts. -/
import Derived.Test.YtcepajijiabkmaaGreatMp3
set_option linter.unusedSimpArgs false
set_option linter.unusedVariables false
set_option maxRecDepth 100000
set_option maxHeartbeats 8000000
namespace Go.Proofs.YtcepajijiabkmaaGreat
open Lib (hid)
open Go.RowKit
theorem kcz (d r x q:Nat) (hq:q=(r * B32+x) / d) (V Z X:Nat) (h:V=d * Z+r) (hX:X=x+B32 * V):X=d * (q+B32 * Z)+(r * B32+x) % d:=by
 have e:=Nat.div_add_mod (r * B32+x) d;rw [<- hq] at e;have e2:B32 * V=d * (B32 * Z)+r * B32:=by rw [h,ri,Pa,sj B32 r]
 rw [hX,ri];omega
def jb3 (w0:World) (g:Nat) (E:List Nat) (d k r:Nat) (wr:World):Prop:=
 ∃ zs:List Nat,Row wr g zs/\zs.length=E.length/\vg zs/\val (E.drop k)=d * val (zs.drop k)+r/\Ext w0 wr
def jdc (q r:Nat) (w:World) (e:Ending) (w':World):Prop:=∃ v,e=.returned (.tuple #[v,.int .u32 (r:Nat),.bool true])/\jc w' v (dg q)/\waa w.heap.size v/\Ext w w'
theorem xb0 (u:Value) (ds:List Nat) (d:Nat) (w:World) (h:jc w u ds) (hs:ds.length<=35184372088832) (hd:0 < d) (eH:d < 4294967296) :
 Calls Tryz.prog 141 #[u,.int .u32 (d:Nat)] w (jdc (val ds / d) (val ds % d) w):=by
 have sH:(dg (val ds)).length<=ds.length:=zi h.kq;have hdb:((d:Int) == 0)=false:=by simp; omega
 go_enter Tryz.func141,Tryz.ntmps141;go_wp2_with fail;refine (xw u ds _ h).mono ?_;rintro e w' ⟨u',rfl,hu,rfl⟩;obtain ⟨A,c,rfl,h1,h2,h3⟩:=hu;have G5:=hid h3;have Bf:=hid (qg (val ds));clear h3 h;generalize hE:dg (val ds)=E at *;have HE:=hid hE;clear hE;have dw:=fun W=>qaa (E.length:Int) (by omega) (by omega) W
 go_wp2_with fail
 have hinv:jb3 w w.heap.size E d E.length 0 (w.alloc (Obj.cells (jr (List.replicate E.length 0)).toArray 84)):=
  ⟨List.replicate E.length 0,Row.new w _,by simp,vg.replicate _,by simp,(Ext.refl _).alloc _⟩
 have cZ:=hid hinv;clear hinv
 go_loopw [8,9] (fun rv iv wr=>∃ k r:Nat,k<=E.length/\iv=.int .i64 ((k:Int) - 1)/\rv=.int .u32 r/\r < d/\Hid (jb3 w w.heap.size E d k r wr)) (fun _ iv _=>(intOf iv+1).toNat)
 case atStart=>exact ⟨E.length,0,pj _,rfl,rfl,hd,cZ⟩
 case round =>
  clear cZ;obtain ⟨k,r,hk,rfl,rfl,hr,HI⟩:=hrel;obtain ⟨zs,ae,eG,eY,aJ,aA⟩:=HI.out;rcases k with _ | k
  · have HN:Hid (jc wr (.slice (some ⟨w.heap.size,0,none⟩) E.length E.length) zs):=ae.kO eY _ _ eG (pj _) (by omega);have hq:val zs=val ds / d/\r=val ds % d:=by
     rw [Pw,Pw,Bf.out] at aJ;rw [aJ];exact ⟨by rw [Nat.mul_add_div hd,Pk hr,s8],by rw [Nat.mul_add_mod,Sa hr]⟩
    have HQ:=hid hq;have HX:=hid aA;clear HI ae eG eY aJ aA hq;go_wp2_with fail;refine (xa5 w.heap.size _ _ _ HN.out (waa.mk _ _ _ _ (pj _))).mono ?_;rintro e w' ⟨v',rfl,hv,bG,rfl⟩;have uJ:=hid hv;have rq:=hid bG;clear hv bG;go_wp2_with fail
    go_ret3
    refine ⟨v',by rw [<- HQ.out.2]; rfl,?_,rq.out,HX.out⟩;rw [<- HQ.out.1];exact uJ.out
  · obtain ⟨ad,x,rfl,hb,aj,hx1,HX⟩:=(G5.out.ext aA).xS k (by omega);obtain ⟨z,Gx,EF,_⟩:=ae.xS k (by omega);have aa8:r * B32+x < d * B32:=by
     have:(r+1) * B32<=d * B32:=pE _ hr;rw [rN,tr] at this;rw [zh] at *; omega
    have ZV:(r * B32+x) / d < B32:=tQ aa8;have HS:Hid (∀ wq,Ext wr wq->jb3 w w.heap.size E d k ((r * B32+x) % d) (wq.setCell ⟨w.heap.size,k,none⟩ (.int .u32 (((r * B32+x) / d:Nat):Int)))):=by
     intro wq hx;refine ⟨zs.set k ((r * B32+x) / d),(ae.ext hx).xD _ _,by rw [pH]; exact eG,eY.set _ _ ZV,?_,(aA.trans hx).setCell (by simp) _⟩;obtain ⟨hkl,EH⟩:=wh.1 HX.out;rw [r9 hkl,val_cons,EH,RL,if_neg (by omega),Ps];have hkz:k < zs.length:=by omega
     rw [r9 hkz,uv,val_cons];exact kcz d r x _ rfl _ _ _ aJ rfl
    clear HI ae eG eY aJ aA;go_wp2_with fail;refine (wc2 _ _ _ _ (by omega) (by omega) (by omega) (by omega) (by omega)).mono ?_;rintro e w2 ⟨rfl,n2,rfl⟩;have aN:Ext wr (wr.drewN n2):=(Ext.refl wr).drewN n2;have aY:=hid (HS.out _ aN);clear aN HS;go_wp2_with fail
    go_roundw
    case rel =>
     have e1:((r:Int) * 4294967296+x) % d=(((r * B32+x) % d:Nat):Int):=by rw [zh]; simp
     have e2:((r:Int) * 4294967296+x) / d=(((r * B32+x) / d:Nat):Int):=by rw [zh]; simp
     rw [e1,e2];exact ⟨k,_,by omega,by go_num,rfl,te _ hd,aY⟩
    case measure=>simp [intOf]
def vb2 (w0:World) (g words s:Nat) (E:List Nat) (k:Nat) (wr:World):Prop:=
 ∃ (ys:List Nat) (cy:Nat),Row wr g (List.replicate words 0 ++ ys)/\ys.length=E.length+1/\vg ys/\Hid (ys[k]?=some cy)/\cy < 2 ^ s/\val (ys.take k)+B32 ^ k * cy=val (E.take k) * 2 ^ s/\Ext w0 wr
theorem vb8 (u:Value) (ds:List Nat) (n:Nat) (w:World) (h:jc w u ds) (hs:ds.length<=35184371500000) (hn:n<=16777216) :
 Calls Tryz.prog 143 #[u,.int .i64 (n:Nat)] w (gar (val ds * 2 ^ n) w):=by
 have sH:(dg (val ds)).length<=ds.length:=zi h.kq;go_enter Tryz.func143,Tryz.ntmps143;go_wp2_with fail;refine (xw u ds _ h).mono ?_;rintro e w' ⟨u',rfl,hu,rfl⟩;obtain ⟨A,c,rfl,h1,h2,h3⟩:=hu;have G5:=hid h3;have Bf:=hid (qg (val ds));clear h3 h;generalize hE:dg (val ds)=E at *;have HE:=hid hE;clear hE;obtain ⟨words,s,bW,Q9⟩:∃ words s:Nat,s < 32/\n=32 * words+s:=⟨n / 32,n % 32,by omega,by omega⟩;have Yz:=hid Q9;have e1:(n:Int) / 32=words:=by omega
 have e2:(n:Int) % 32=s:=by omega
 have uN:32 * words+s<=16777216:=by omega
 have dw:=fun W=>qaa ((words:Int)+E.length+1) (by omega) (by omega) W
 clear Q9
 by_cases h0:E.length=0
 · have h0b:((E.length:Int) == 0)=true:=beq_iff_eq.2 (by omega);have HV:Hid (val ds=0):=by
    have:=Bf.out;rw [rL h0] at this;exact this.symm
   clear h0 dw e1 e2;go_wp2_with fail;go_ret;exact ⟨_,rfl,by rw [HV.out,sY,qm]; exact jc.nil w,Ext.refl w⟩
 · have h0b:((E.length:Int) == 0)=false:=beq_eq_false_iff_ne.2 (by omega);go_wp2_with fail;have cZ:Hid (vb2 w w.heap.size words s E 0 (w.alloc (Obj.cells (jr (List.replicate (words+E.length+1) 0)).toArray 84))):=by
    refine ⟨List.replicate (E.length+1) 0,0,?_,by simp,vg.replicate _,hid (by simp),tp (by omega),by simp,(Ext.refl _).alloc _⟩;have:=Row.new w (List.replicate (words+E.length+1) 0);rw [tO,<- SF] at this;rw [tO,<- SF];exact this
   have xA:words+E.length+1 - words=E.length+1:=by omega
   rw [xA];clear xA e1 e2 dw
   go_loopw [36] (fun iv wr=>∃ k:Nat,k<=E.length/\iv=.int .i64 k/\Hid (vb2 w w.heap.size words s E k wr)) (fun iv _=>E.length - (intOf iv).toNat)
   case atStart=>exact ⟨0,by omega,rfl,cZ⟩
   case round =>
    clear cZ;obtain ⟨k,hk,rfl,HI⟩:=hrel;obtain ⟨ys,cy,ae,oV,pR,YR,nI,aJ,aA⟩:=HI.out
    by_cases af:k < E.length
    · obtain ⟨ad,x,rfl,hb,aj,hx1,HX⟩:=(G5.out.ext aA).xS k af;have bZ:wr.cell? ⟨w.heap.size,words+k,none⟩=some (.int .u32 (cy:Nat)):=by
       rw [ae.cell (words+k) (by simp; omega)];have:=YR.out;rw [tB (by simp)];simp at this ⊢;obtain ⟨_,h⟩:=wh.1 this;rw [h]
      have dO:wr.frozen? ⟨w.heap.size,words+k,none⟩=false:=ae.frozen _;obtain ⟨z,iI,iH,_⟩:=ae.xS (words+(k+1)) (by simp; omega);have EH:=yh HX;have aab:2 ^ s<=2147483648:=rS (n:=2) (by omega) (show s<=31 by omega);have hpd:∃ q,4294967296=2 ^ s * q:=⟨2 ^ (32 - s),by rw [<- wk,show s+(32 - s)=32 from by omega]⟩;have EW:x * 2 ^ s<=4294967295 * 2147483648:=Re (by omega) aab;have S9:(0:Int)<=(x:Int) * 2 ^ s:=by (have:(x:Int) * 2 ^ s=((x * 2 ^ s:Nat):Int):=by simp); omega
      have hi1:(x:Int) * 2 ^ s<=4294967295 * 2147483648:=by (have:(x:Int) * 2 ^ s=((x * 2 ^ s:Nat):Int):=by simp); omega
      obtain ⟨q,hq⟩:=hpd;have kV:x * 2 ^ s % 4294967296 % 2 ^ s=0:=by
       rw [hq,Nat.mod_mul_right_mod,Nat.mul_mod_left]
      have RX:x * 2 ^ s % 4294967296+cy < 4294967296:=by
       have h1:x * 2 ^ s % 4294967296 < 2 ^ s * q:=by rw [<- hq]; exact te _ (by omega)
       obtain ⟨m,hm⟩:=Nat.dvd_of_mod_eq_zero kV;rw [hm] at h1 ⊢;have h2:=Nat.lt_of_mul_lt_mul_left h1;have h3:2 ^ s * (m+1)<=2 ^ s * q:=sE _ h2;rw [ri,ua] at h3;omega
      have hor:bits .or .u32 (cy:Int) ((x:Int) * 2 ^ s % 4294967296)=((x * 2 ^ s % B32+cy:Nat):Int):=by
       have e:(x:Int) * 2 ^ s % 4294967296=((x * 2 ^ s % 4294967296:Nat):Int):=by simp
       rw [e,u32_or_nat _ _ (by omega) (by omega),Nat.or_comm,nat_join s _ _ kV nI,zh]
      have HS:Hid (vb2 w w.heap.size words s E (k+1) ((wr.setCell ⟨w.heap.size,words+k,none⟩ (.int .u32 ((x * 2 ^ s % B32+cy:Nat):Int))).setCell ⟨w.heap.size,words+(k+1),none⟩ (.int .u32 ((x * 2 ^ s / B32:Nat):Int)))):=by
       have r1:=(ae.xD (words+k) (x * 2 ^ s % B32+cy)).xD (words+(k+1)) (x * 2 ^ s / B32);rw [ti _ _ (by simp),ti _ _ (by simp),p8,P4,P4] at r1;refine ⟨_,x * 2 ^ s / B32,r1,by rw [pH,pH,oV],(pR.set _ _ (by rw [zh]; exact RX)).set _ _ (by rw [zh]; omega),hid (by rw [Sx (by rw [pH]; omega)]),?_,?_,(aA.setCell (by simp) _).setCell (by simp) _⟩
       · rw [zh];exact tQ (Pd hx1 (tp (by omega)))
       · rw [Sd (pj _),gy ys k _ (by omega),wae,pA,sh (by omega),EH,rN,se,<- aJ];have e:=tw (x * 2 ^ s) B32;have e2:B32 ^ k * (x * 2 ^ s)=B32 ^ k * (x * 2 ^ s % B32)+B32 ^ k * B32 * (x * 2 ^ s / B32):=by
          rw [rT (B32 ^ k) B32,<- ri,e]
         rw [rT (B32 ^ k) x,e2,ri];omega
      have he:(x:Int) * 2 ^ s / 4294967296=((x * 2 ^ s / B32:Nat):Int):=by rw [zh]; simp
      have Wq:=hid he;have hbd:(x:Int) * 2 ^ s / 4294967296 < 4294967296:=by omega
      clear HI ae oV pR YR aJ aA EH hq kV he;go_wp2_with fail
      go_roundw
      case rel =>
       refine ⟨k+1,by omega,by go_num,?_⟩;rw [Wq.out,show ((x:Int) * 2 ^ s % B32+cy)=((x * 2 ^ s % B32+cy:Nat):Int) from by simp];exact HS
      case measure=>simp [intOf]; omega
    · obtain rfl:k=E.length:=by omega
      have hyt:ys=ys.take E.length ++ [cy]:=by
       obtain ⟨h,e⟩:=wh.1 YR.out;have:=qa4 ys E.length h;rw [pT (by omega),e] at this;exact this
      have hvy:val ys=val ds * 2 ^ s:=by
       rw [hyt,wae,pA,sh (by omega),aJ,pT (pj _),Bf.out]
      have HV:Hid (val (List.replicate words 0 ++ ys)=val ds * 2 ^ n):=by
       have:val (List.replicate words 0 ++ ys)=val ds * 2 ^ n:=by
        rw [val_append,uab,p8,rh,hvy,Yz.out,show B32=2 ^ 32 from rfl,<- Nat.pow_mul,wk,Pa]
       exact this
      have HN:Hid (jc wr (.slice (some ⟨w.heap.size,0,none⟩) (words+E.length+1) (words+E.length+1)) (List.replicate words 0 ++ ys)):=
       ae.kO ((vg.replicate _).append pR) _ _ (by simp; omega) (pj _) (by omega)
      have HX:=hid aA;clear HI ae oV pR YR aJ aA hyt hvy;go_wp2_with fail;refine (xw _ _ _ HN.out).mono ?_;rintro e w' ⟨v',rfl,hv,rfl⟩;rw [HV.out] at hv;have uJ:=hid hv;clear hv;go_wp2_with fail;go_ret;exact ⟨v',rfl,uJ.out,HX.out⟩
def uau (s : Nat) : List Nat -> List Nat
 | []=>[]
 | d :: r=>((d+B32 * r.headD 0) / 2 ^ s) % B32 :: uau s r
theorem qb4 (s:Nat) (T:List Nat):(uau s T).length=T.length:=by
 induction T with
 | nil=>rfl
 | cons d r ih=>simp [uau,ih]
theorem vct (s:Nat) (T:List Nat) (k:Nat) (hk:k < T.length):(uau s T)[k]?=some (((T.getD k 0+B32 * T.getD (k+1) 0) / 2 ^ s) % B32):=by
 induction T generalizing k with
 | nil=>simp at hk
 | cons d r ih =>
   rcases k with _ | k
   · simp only [uau,Ra,sP,ss];cases r <;> rfl
   · simp only [uau,Sk,ss];exact ih k (by simpa using hk)
theorem kck (d h P Q:Nat) (hP:0 < P) (hd:d < P * Q):((d+P * Q * h) / P) % (P * Q)=d / P+Q * (h % P):=by
 have e1:(d+P * Q * h) / P=d / P+Q * h:=by rw [rT,RR _ _ hP]
 have hdq:d / P < Q:=tQ hd;have hm:=te h hP;have e2:d / P+Q * h=(d / P+Q * (h % P))+P * Q * (h / P):=by
  have e3:Q * h=Q * (h % P)+P * Q * (h / P):=by
   have:Q * (h % P+P * (h / P))=Q * h:=by rw [tw]
   rw [ri,<- rT,sj Q P] at this;omega
  omega
 rw [e1,e2,R8,Sa];have:Q * (h % P+1)<=Q * P:=sE _ hm;rw [ri,ua,sj Q P] at this;omega
theorem kct (s:Nat) (hs:s < 32) (T:List Nat) (hT:vg T):val (uau s T)=val T / 2 ^ s:=by
 have hB:B32=2 ^ s * 2 ^ (32 - s):=by rw [<- wk,show s+(32 - s)=32 from by omega]; rfl
 have hP:0 < 2 ^ s:=tp (by omega)
 induction T with
 | nil=>simp [uau]
 | cons d r ih =>
   have Ci:r.headD 0 % 2 ^ s=val r % 2 ^ s:=by
    cases r with
    | nil=>rfl
    | cons h t=>rw [List.headD_cons,val_cons,hB,rT,R8]
   have hd:=hT.head;rw [uau,val_cons,val_cons,ih hT.tail];generalize hq:2 ^ (32 - s)=Q at *;generalize hp:2 ^ s=P at *;rw [hB] at hd ⊢;rw [kck d _ P Q hP hd,Ci,rT P Q (val r),RR _ _ hP,rT P Q,Pa P Q,tO,<- ri,tw]
theorem yb2 (a:Addr) (k:Nat):a.add (k+1)=⟨a.block,a.off+(k+1),none⟩:=by simp [Addr.add]
def ya1 (w0:World) (g s:Nat) (T:List Nat) (k:Nat) (wr:World):Prop:=
 ∃ zs:List Nat,Row wr g zs/\zs.length=T.length/\vg zs/\zs.take k=(uau s T).take k/\Ext w0 wr
theorem ya1.step {w0 wr : World} {g s : Nat} {T zs : List Nat} {k z : Nat} (hr : Row wr g zs) (hl : zs.length = T.length) (hd : vg zs) (ht : zs.take k = (uau s T).take k) (hx : Ext w0 wr) (hg : w0.heap.size <= g)
 (hk:k < T.length) (hz:z=((T.getD k 0+B32 * T.getD (k+1) 0) / 2 ^ s) % B32):ya1 w0 g s T (k+1) (wr.setCell ⟨g,k,none⟩ (.int .u32 (z:Int))):=by
 refine ⟨zs.set k z,hr.xD _ _,by rw [pH,hl],hd.set _ _ (by rw [hz]; exact te _ yj),?_,hx.setCell (by simpa using hg) _⟩;rw [gy zs k z (by omega),ht,List.take_add_one,vct s T k hk,<- hz]
 rfl
theorem vc5 (u:Value) (ds:List Nat) (n:Nat) (w:World) (h:jc w u ds) (hs:ds.length<=35184372088832) (hn:n<=9223372036854775807) :
 Calls Tryz.prog 147 #[u,.int .i64 (n:Nat)] w (gar (val ds / 2 ^ n) w):=by
 have sH:(dg (val ds)).length<=ds.length:=zi h.kq;go_enter Tryz.func147,Tryz.ntmps147;go_wp2_with fail;refine (xw u ds _ h).mono ?_;rintro e w' ⟨u',rfl,hu,rfl⟩;obtain ⟨A,c,rfl,h1,h2,h3⟩:=hu;have G5:=hid h3;have Bf:=hid (qg (val ds));clear h3 h;generalize hE:dg (val ds)=E at *;have HE:=hid hE;clear hE;obtain ⟨words,s,bW,Q9⟩:∃ words s:Nat,s < 32/\n=32 * words+s:=⟨n / 32,n % 32,by omega,by omega⟩;have Yz:=hid Q9;have e1:(n:Int) / 32=words:=by omega
 have e2:(n:Int) % 32=s:=by omega
 have hB:B32 ^ words=2 ^ (32 * words):=by rw [show B32=2 ^ 32 from rfl,<- Nat.pow_mul]
 have HB:=hid hB;clear Q9 hB
 by_cases h0:E.length<=words
 · have HV:Hid (val ds / 2 ^ n=0):=by
    have:val ds / 2 ^ n=0:=by
     apply Pk;have h4:=jy G5.out.1;rw [Bf.out] at h4;refine pw h4 (py (rS yj h0) ?_);rw [HB.out,Yz.out];exact rS (by omega) (by omega)
    exact this
   go_wp2_with fail;go_ret;exact ⟨_,rfl,by rw [HV.out,qm]; exact jc.nil w,Ext.refl w⟩
 · obtain ⟨ad,rfl,-,-⟩:=G5.out.2 (by omega);have hcw:¬ (c=words):=by omega
   have GT:=hid (G5.out.drop words c (by omega) h1);rw [if_neg hcw] at GT;have Vo:Hid ((E.drop words).length=E.length - words):=by
    have:(E.drop words).length=E.length - words:=re;exact this
   have zX:Hid (val (E.drop words) / 2 ^ s=val ds / 2 ^ n):=by
    have:val (E.drop words) / 2 ^ s=val ds / 2 ^ n:=by
     have e:=jk E words (by omega);have h4:=jy (G5.out.1.take words);rw [pA,sh (by omega)] at h4;rw [Bf.out] at e;rw [Yz.out,wk,<- Nat.div_div_eq_div_mul,<- HB.out,e,RR _ _ (tp yj),Pk h4,rh]
    exact this
   obtain ⟨m,hm⟩:∃ m,m=E.length - words:=⟨_,rfl⟩;have hm1:m<=35184372088832:=by omega
   have Ot:0 < m:=by omega
   rw [<- hm] at Vo;have dw:=fun W=>qaa (m:Int) (by omega) (by omega) W
   generalize E.drop words=T at *;rw [hm] at dw;go_wp2_with fail;rw [<- hm];have gU:m<=c - words:=by omega
   have FI:c - words<=9223372036854775807:=by omega
   generalize c - words=c2 at *;clear hm dw e1 e2 h0 hcw
   have cZ:Hid (ya1 w w.heap.size s T 0 (w.alloc (Obj.cells (jr (List.replicate m 0)).toArray 84))):=
    ⟨List.replicate m 0,Row.new w _,by simp; exact Vo.out.symm,vg.replicate _,by simp,(Ext.refl _).alloc _⟩
   change Hid (uj w (some (ad.add words)) T) at GT
   generalize ad.add words=bd at *;have hP:0 < 2 ^ s:=tp (by omega)
   go_loopw [33] (fun iv wr=>∃ k:Nat,k<=m/\iv=.int .i64 k/\Hid (ya1 w w.heap.size s T k wr)) (fun iv _=>m - (intOf iv).toNat)
   case atStart=>exact ⟨0,by omega,rfl,cZ⟩
   case round =>
    clear cZ;obtain ⟨k,hk,rfl,HI⟩:=hrel;obtain ⟨zs,ae,eG,eY,eu,aA⟩:=HI.out;have hTm:=Vo.out
    by_cases af:k < m
    · obtain ⟨_,x,e0,hb,aj,hx1,HX⟩:=(GT.out.ext aA).xS k (by omega);injection e0 with e0
      subst e0;obtain ⟨z,iI,iH,_⟩:=ae.xS k (by omega);have AP:T.getD k 0=x:=by rw [pr,HX.out]; rfl
      by_cases lI:k+1 < m
      · obtain ⟨_,y,e0,eP,iC,DW,HY⟩:=(GT.out.ext aA).xS (k+1) (by omega);injection e0 with e0
        subst e0;rw [yb2] at iC;have Ql:T.getD (k+1) 0=y:=by rw [pr,HY.out]; rfl
        have HS:=hid (ya1.step (z:=((x+B32 * y) / 2 ^ s) % B32) ae eG eY eu aA (pj _) (by omega) (by rw [AP,Ql]));have hor:bits .or .u64 (x:Int) ((y:Int) * 4294967296)=(x:Int)+y * 4294967296:=by
         have:=u64_or_nat x (y * 4294967296) (by omega) (by omega);rw [Nat.or_comm,nat_join 32 (y * 4294967296) x (by omega) (by omega)] at this;simp at this;omega
        have he:((x:Int)+y * 4294967296) / 2 ^ s % 4294967296=((((x+B32 * y) / 2 ^ s) % B32:Nat):Int):=by
         rw [sj B32 y,zh]; simp
        have Wq:=hid he;clear HI ae eG eY eu aA hTm AP Ql he;go_wp2_with fail
        go_roundw
        case rel =>
         refine ⟨k+1,by omega,by go_num,?_⟩;rw [Wq.out];exact HS
        case measure=>simp [intOf]; omega
      · have Ql:T.getD (k+1) 0=0:=by rw [pr,sA (by omega)]; rfl
        have HS:=hid (ya1.step (z:=((x+B32 * 0) / 2 ^ s) % B32) ae eG eY eu aA (pj _) (by omega) (by rw [AP,Ql]));have he:(x:Int) / 2 ^ s % 4294967296=((((x+B32 * 0) / 2 ^ s) % B32:Nat):Int):=by
         rw [wy,s8,zh]; simp
        have Wq:=hid he;clear HI ae eG eY eu aA hTm AP Ql he;go_wp2_with fail
        go_roundw
        case rel =>
         refine ⟨k+1,by omega,by go_num,?_⟩;rw [Wq.out];exact HS
        case measure=>simp [intOf]; omega
    · obtain rfl:k=m:=by omega
      have HV:Hid (val zs=val ds / 2 ^ n):=by
       have:val zs=val ds / 2 ^ n:=by
        rw [pT (by omega),pT (by rw [qb4]; omega)] at eu;rw [eu,kct s bW T GT.out.1];exact zX.out
       exact this
      have HN:Hid (jc wr (.slice (some ⟨w.heap.size,0,none⟩) k k) zs):=ae.kO eY _ _ (by omega) (pj _) (by omega);have HX:=hid aA;clear HI ae eG eY eu aA hTm;go_wp2_with fail;refine (xw _ _ _ HN.out).mono ?_;rintro e w' ⟨v',rfl,hv,rfl⟩;rw [HV.out] at hv;have uJ:=hid hv;clear hv;go_wp2_with fail;go_ret;exact ⟨v',rfl,uJ.out,HX.out⟩
end Go.Proofs.YtcepajijiabkmaaGreat
