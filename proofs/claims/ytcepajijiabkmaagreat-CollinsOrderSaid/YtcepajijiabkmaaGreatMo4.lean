/- Layer 1 (natural): division by one digit, shifts. -/
import Derived.Test.YtcepajijiabkmaaGreatMo3
set_option linter.all false
set_option maxRecDepth 100000
set_option maxHeartbeats 8000000
namespace Go.Proofs.YtcepajijiabkmaaGreat
open Lib (hid)
open Go.RowKit
theorem uc6 (d r x q:Nat) (hq:q=(r * B32+x) / d) (V Z X:Nat) (h:V=d * Z+r) (hX:X=x+B32 * V):X=d * (q+B32 * Z)+(r * B32+x) % d:=by
 have e:=Wz (r * B32+x) d;rw [<- hq] at e;have e2:B32 * V=d * (B32 * Z)+r * B32:=by rw [h,rk,Pc,sj B32 r]
 rw [hX,rk];omega
def qb7 (w0:World) (g:Nat) (E:List Nat) (d k r:Nat) (wr:World):Prop:=
 ∃ zs:List Nat,Row wr g zs/\zs.length=E.length/\ug zs/\val (E.drop k)=d * val (zs.drop k)+r/\Ext w0 wr
def gdh (q r:Nat) (w:World) (e:Ending) (w':World):Prop:=∃ v,e=.returned (.tuple #[v,.int .u32 (r:Nat),.bool true])/\jc w' v (dg q)/\wab w.heap.size v/\Ext w w'
theorem kb5 (u:Value) (ds:List Nat) (d:Nat) (w:World) (h:jc w u ds) (hs:ds.length<=35184372088832) (hd:0 < d) (eH:d < 4294967296) :
 Calls Tryz.prog 141 #[u,.int .u32 (d:Nat)] w (gdh (val ds / d) (val ds % d) w):=by
 have sJ:(dg (val ds)).length<=ds.length:=zi h.kr;have hdb:((d:Int) == 0)=false:=by simp; omega
 go_enter Tryz.func141,Tryz.ntmps141;go_wp2_with fail;refine (uw u ds _ h).mono ?_;rintro e w' ⟨u',rfl,hu,rfl⟩;obtain ⟨A,c,rfl,h1,h2,h3⟩:=hu;have G5:=hid h3;have Ba:=hid (jg (val ds));clear h3 h;generalize hE:dg (val ds)=E at *;have HE:=hid hE;clear hE;have dA:=fun W=>qab (E.length:Int) (by omega) (by omega) W
 go_wp2_with fail
 have hinv:qb7 w w.heap.size E d E.length 0 (w.alloc (Obj.cells (yu (List.replicate E.length 0)).toArray 84)):=
  ⟨List.replicate E.length 0,Row.new w _,by simp,ug.replicate _,by simp,(Ext.refl _).alloc _⟩
 have cZ:=hid hinv;clear hinv
 go_loopw [8,9] (fun rv iv wr=>∃ k r:Nat,k<=E.length/\iv=.int .i64 ((k:Int) - 1)/\rv=.int .u32 r/\r < d/\Hid (qb7 w w.heap.size E d k r wr)) (fun _ iv _=>(intOf iv+1).toNat)
 case atStart=>exact ⟨E.length,0,pj _,rfl,rfl,hd,cZ⟩
 case round =>
  clear cZ;obtain ⟨k,r,hk,rfl,rfl,hr,HI⟩:=hrel;obtain ⟨zs,ae,eF,fA,aJ,aA⟩:=HI.out;rcases k with _ | k
  · have HN:Hid (jc wr (.slice (some ⟨w.heap.size,0,none⟩) E.length E.length) zs):=ae.kO fA _ _ eF (pj _) (by omega);have hq:val zs=val ds / d/\r=val ds % d:=by
     rw [PJ,PJ,Ba.out] at aJ;rw [aJ];exact ⟨by rw [Nat.mul_add_div hd,Ps hr,s9],by rw [Nat.mul_add_mod,Sf hr]⟩
    have HQ:=hid hq;have HX:=hid aA;clear HI ae eF fA aJ aA hq;go_wp2_with fail;refine (wa6 w.heap.size _ _ _ HN.out (wab.mk _ _ _ _ (pj _))).mono ?_;rintro e w' ⟨v',rfl,hv,bG,rfl⟩;have uJ:=hid hv;have qZ:=hid bG;clear hv bG;go_wp2_with fail
    go_ret3
    refine ⟨v',by rw [<- HQ.out.2]; rfl,?_,qZ.out,HX.out⟩;rw [<- HQ.out.1];exact uJ.out
  · obtain ⟨ad,x,rfl,hb,aj,hx1,HX⟩:=(G5.out.ext aA).xS k (by omega);obtain ⟨z,GK,EK,_⟩:=ae.xS k (by omega);have abb:r * B32+x < d * B32:=by
     have:(r+1) * B32<=d * B32:=pE _ hr;rw [r5,tr] at this;rw [yh] at *; omega
    have Z4:(r * B32+x) / d < B32:=tT abb;have HS:Hid (∀ wq,Ext wr wq->qb7 w w.heap.size E d k ((r * B32+x) % d) (wq.setCell ⟨w.heap.size,k,none⟩ (.int .u32 (((r * B32+x) / d:Nat):Int)))):=by
     intro wq hx;refine ⟨zs.set k ((r * B32+x) / d),(ae.ext hx).xD _ _,by rw [pL]; exact eF,fA.set _ _ Z4,?_,(aA.trans hx).setCell (by simp) _⟩;obtain ⟨hkl,EN⟩:=wk.1 HX.out;rw [sh hkl,val_cons,EN,RW,if_neg (by omega),Pw];have hkz:k < zs.length:=by omega
     rw [sh hkz,uW,val_cons];exact uc6 d r x _ rfl _ _ _ aJ rfl
    clear HI ae eF fA aJ aA;go_wp2_with fail;refine (zc9 _ _ _ _ (by omega) (by omega) (by omega) (by omega) (by omega)).mono ?_;rintro e w2 ⟨rfl,n2,rfl⟩;have aN:Ext wr (wr.drewN n2):=(Ext.refl wr).drewN n2;have bC:=hid (HS.out _ aN);clear aN HS;go_wp2_with fail
    go_roundw
    case rel =>
     have e1:((r:Int) * 4294967296+x) % d=(((r * B32+x) % d:Nat):Int):=by rw [yh]; simp
     have e2:((r:Int) * 4294967296+x) / d=(((r * B32+x) / d:Nat):Int):=by rw [yh]; simp
     rw [e1,e2];exact ⟨k,_,by omega,by go_num,rfl,tg _ hd,bC⟩
    case measure=>simp [intOf]
def vb6 (w0:World) (g words s:Nat) (E:List Nat) (k:Nat) (wr:World):Prop:=
 ∃ (ys:List Nat) (cy:Nat),Row wr g (List.replicate words 0 ++ ys)/\ys.length=E.length+1/\ug ys/\Hid (ys[k]?=some cy)/\cy < 2 ^ s/\val (ys.take k)+B32 ^ k * cy=val (E.take k) * 2 ^ s/\Ext w0 wr
theorem gcc (u:Value) (ds:List Nat) (n:Nat) (w:World) (h:jc w u ds) (hs:ds.length<=35184371500000) (hn:n<=16777216) :
 Calls Tryz.prog 143 #[u,.int .i64 (n:Nat)] w (yat (val ds * 2 ^ n) w):=by
 have sJ:(dg (val ds)).length<=ds.length:=zi h.kr;go_enter Tryz.func143,Tryz.ntmps143;go_wp2_with fail;refine (uw u ds _ h).mono ?_;rintro e w' ⟨u',rfl,hu,rfl⟩;obtain ⟨A,c,rfl,h1,h2,h3⟩:=hu;have G5:=hid h3;have Ba:=hid (jg (val ds));clear h3 h;generalize hE:dg (val ds)=E at *;have HE:=hid hE;clear hE;obtain ⟨words,s,bW,Rf⟩:∃ words s:Nat,s < 32/\n=32 * words+s:=⟨n / 32,n % 32,by omega,by omega⟩;have YD:=hid Rf;have e1:(n:Int) / 32=words:=by omega
 have e2:(n:Int) % 32=s:=by omega
 have uN:32 * words+s<=16777216:=by omega
 have dA:=fun W=>qab ((words:Int)+E.length+1) (by omega) (by omega) W
 clear Rf
 by_cases h0:E.length=0
 · have h0b:((E.length:Int) == 0)=true:=beq_iff_eq.2 (by omega);have HV:Hid (val ds=0):=by
    have:=Ba.out;rw [rT h0] at this;exact this.symm
   clear h0 dA e1 e2;go_wp2_with fail;go_ret;exact ⟨_,rfl,by rw [HV.out,s8,zo]; exact jc.nil w,Ext.refl w⟩
 · have h0b:((E.length:Int) == 0)=false:=beq_eq_false_iff_ne.2 (by omega);go_wp2_with fail;have cZ:Hid (vb6 w w.heap.size words s E 0 (w.alloc (Obj.cells (yu (List.replicate (words+E.length+1) 0)).toArray 84))):=by
    refine ⟨List.replicate (E.length+1) 0,0,?_,by simp,ug.replicate _,hid (by simp),tp (by omega),by simp,(Ext.refl _).alloc _⟩;have:=Row.new w (List.replicate (words+E.length+1) 0);rw [tR,<- SU] at this;rw [tR,<- SU];exact this
   have wY:words+E.length+1 - words=E.length+1:=by omega
   rw [wY];clear wY e1 e2 dA
   go_loopw [36] (fun iv wr=>∃ k:Nat,k<=E.length/\iv=.int .i64 k/\Hid (vb6 w w.heap.size words s E k wr)) (fun iv _=>E.length - (intOf iv).toNat)
   case atStart=>exact ⟨0,by omega,rfl,cZ⟩
   case round =>
    clear cZ;obtain ⟨k,hk,rfl,HI⟩:=hrel;obtain ⟨ys,cy,ae,oV,pU,YV,nK,aJ,aA⟩:=HI.out
    by_cases af:k < E.length
    · obtain ⟨ad,x,rfl,hb,aj,hx1,HX⟩:=(G5.out.ext aA).xS k af;have bY:wr.cell? ⟨w.heap.size,words+k,none⟩=some (.int .u32 (cy:Nat)):=by
       rw [ae.cell (words+k) (by simp; omega)];have:=YV.out;rw [tE (by simp)];simp at this ⊢;obtain ⟨_,h⟩:=wk.1 this;rw [h]
      have dP:wr.frozen? ⟨w.heap.size,words+k,none⟩=false:=ae.frozen _;obtain ⟨z,iJ,iI,_⟩:=ae.xS (words+(k+1)) (by simp; omega);have EN:=xh HX;have aag:2 ^ s<=2147483648:=r8 (n:=2) (by omega) (show s<=31 by omega);have hpd:∃ q,4294967296=2 ^ s * q:=⟨2 ^ (32 - s),by rw [<- wT,show s+(32 - s)=32 from by omega]⟩;have Fa:x * 2 ^ s<=4294967295 * 2147483648:=RB (by omega) aag;have S9:(0:Int)<=(x:Int) * 2 ^ s:=by (have:(x:Int) * 2 ^ s=((x * 2 ^ s:Nat):Int):=by simp); omega
      have hi1:(x:Int) * 2 ^ s<=4294967295 * 2147483648:=by (have:(x:Int) * 2 ^ s=((x * 2 ^ s:Nat):Int):=by simp); omega
      obtain ⟨q,hq⟩:=hpd;have kT:x * 2 ^ s % 4294967296 % 2 ^ s=0:=by
       rw [hq,Nat.mod_mul_right_mod,Nat.mul_mod_left]
      have RX:x * 2 ^ s % 4294967296+cy < 4294967296:=by
       have h1:x * 2 ^ s % 4294967296 < 2 ^ s * q:=by rw [<- hq]; exact tg _ (by omega)
       obtain ⟨m,hm⟩:=Nat.dvd_of_mod_eq_zero kT;rw [hm] at h1 ⊢;have h2:=TX h1;have h3:2 ^ s * (m+1)<=2 ^ s * q:=sL _ h2;rw [rk,ur] at h3;omega
      have hor:bits .or .u32 (cy:Int) ((x:Int) * 2 ^ s % 4294967296)=((x * 2 ^ s % B32+cy:Nat):Int):=by
       have e:(x:Int) * 2 ^ s % 4294967296=((x * 2 ^ s % 4294967296:Nat):Int):=by simp
       rw [e,u32_or_nat _ _ (by omega) (by omega),Nat.or_comm,nat_join s _ _ kT nK,yh]
      have HS:Hid (vb6 w w.heap.size words s E (k+1) ((wr.setCell ⟨w.heap.size,words+k,none⟩ (.int .u32 ((x * 2 ^ s % B32+cy:Nat):Int))).setCell ⟨w.heap.size,words+(k+1),none⟩ (.int .u32 ((x * 2 ^ s / B32:Nat):Int)))):=by
       have r1:=(ae.xD (words+k) (x * 2 ^ s % B32+cy)).xD (words+(k+1)) (x * 2 ^ s / B32);rw [ti _ _ (by simp),ti _ _ (by simp),ra,Rm,Rm] at r1;refine ⟨_,x * 2 ^ s / B32,r1,by rw [pL,pL,oV],(pU.set _ _ (by rw [yh]; exact RX)).set _ _ (by rw [yh]; omega),hid (by rw [SP (by rw [pL]; omega)]),?_,?_,(aA.setCell (by simp) _).setCell (by simp) _⟩
       · rw [yh];exact tT (Pk hx1 (tp (by omega)))
       · rw [Sk (pj _),yaa ys k _ (by omega),uaf,pA,so (by omega),EN,r5,si,<- aJ];have e:=tw (x * 2 ^ s) B32;have e2:B32 ^ k * (x * 2 ^ s)=B32 ^ k * (x * 2 ^ s % B32)+B32 ^ k * B32 * (x * 2 ^ s / B32):=by
          rw [r9 (B32 ^ k) B32,<- rk,e]
         rw [r9 (B32 ^ k) x,e2,rk];omega
      have he:(x:Int) * 2 ^ s / 4294967296=((x * 2 ^ s / B32:Nat):Int):=by rw [yh]; simp
      have Wq:=hid he;have hbd:(x:Int) * 2 ^ s / 4294967296 < 4294967296:=by omega
      clear HI ae oV pU YV aJ aA EN hq kT he;go_wp2_with fail
      go_roundw
      case rel =>
       refine ⟨k+1,by omega,by go_num,?_⟩;rw [Wq.out,show ((x:Int) * 2 ^ s % B32+cy)=((x * 2 ^ s % B32+cy:Nat):Int) from by simp];exact HS
      case measure=>simp [intOf]; omega
    · obtain rfl:k=E.length:=by omega
      have hyt:ys=ys.take E.length ++ [cy]:=by
       obtain ⟨h,e⟩:=wk.1 YV.out;have:=ya6 ys E.length h;rw [p8 (by omega),e] at this;exact this
      have hvy:val ys=val ds * 2 ^ s:=by
       rw [hyt,uaf,pA,so (by omega),aJ,p8 (pj _),Ba.out]
      have HV:Hid (val (List.replicate words 0 ++ ys)=val ds * 2 ^ n):=by
       have:val (List.replicate words 0 ++ ys)=val ds * 2 ^ n:=by
        rw [val_append,uac,ra,ri,hvy,YD.out,show B32=2 ^ 32 from rfl,<- Nat.pow_mul,wT,Pc]
       exact this
      have HN:Hid (jc wr (.slice (some ⟨w.heap.size,0,none⟩) (words+E.length+1) (words+E.length+1)) (List.replicate words 0 ++ ys)):=
       ae.kO ((ug.replicate _).append pU) _ _ (by simp; omega) (pj _) (by omega)
      have HX:=hid aA;clear HI ae oV pU YV aJ aA hyt hvy;go_wp2_with fail;refine (uw _ _ _ HN.out).mono ?_;rintro e w' ⟨v',rfl,hv,rfl⟩;rw [HV.out] at hv;have uJ:=hid hv;clear hv;go_wp2_with fail;go_ret;exact ⟨v',rfl,uJ.out,HX.out⟩
def wav (s : Nat) : List Nat -> List Nat
 | []=>[]
 | d :: r=>((d+B32 * r.headD 0) / 2 ^ s) % B32 :: wav s r
theorem yb8 (s:Nat) (T:List Nat):(wav s T).length=T.length:=by
 induction T with
 | nil=>rfl
 | cons d r ih=>simp [wav,ih]
theorem zcz (s:Nat) (T:List Nat) (k:Nat) (hk:k < T.length):(wav s T)[k]?=some (((T.getD k 0+B32 * T.getD (k+1) 0) / 2 ^ s) % B32):=by
 induction T generalizing k with
 | nil=>simp at hk
 | cons d r ih =>
   rcases k with _ | k
   · simp only [wav,Rp,sR,sA];cases r <;> rfl
   · simp only [wav,Sx,sA];exact ih k (by simpa using hk)
theorem qcp (d h P Q:Nat) (hP:0 < P) (hd:d < P * Q):((d+P * Q * h) / P) % (P * Q)=d / P+Q * (h % P):=by
 have e1:(d+P * Q * h) / P=d / P+Q * h:=by rw [r9,Sa _ _ hP]
 have hdq:d / P < Q:=tT hd;have hm:=tg h hP;have e2:d / P+Q * h=(d / P+Q * (h % P))+P * Q * (h / P):=by
  have e3:Q * h=Q * (h % P)+P * Q * (h / P):=by
   have:Q * (h % P+P * (h / P))=Q * h:=by rw [tw]
   rw [rk,<- r9,sj Q P] at this;omega
  omega
 rw [e1,e2,Sd,Sf];have:Q * (h % P+1)<=Q * P:=sL _ hm;rw [rk,ur,sj Q P] at this;omega
theorem wcy (s:Nat) (hs:s < 32) (T:List Nat) (hT:ug T):val (wav s T)=val T / 2 ^ s:=by
 have hB:B32=2 ^ s * 2 ^ (32 - s):=by rw [<- wT,show s+(32 - s)=32 from by omega]; rfl
 have hP:0 < 2 ^ s:=tp (by omega)
 induction T with
 | nil=>simp [wav]
 | cons d r ih =>
   have Ci:r.headD 0 % 2 ^ s=val r % 2 ^ s:=by
    cases r with
    | nil=>rfl
    | cons h t=>rw [List.headD_cons,val_cons,hB,r9,Sd]
   have hd:=hT.head;rw [wav,val_cons,val_cons,ih hT.tail];generalize hq:2 ^ (32 - s)=Q at *;generalize hp:2 ^ s=P at *;rw [hB] at hd ⊢;rw [qcp d _ P Q hP hd,Ci,r9 P Q (val r),Sa _ _ hP,r9 P Q,Pc P Q,tR,<- rk,tw]
theorem jb6 (a:Addr) (k:Nat):a.add (k+1)=⟨a.block,a.off+(k+1),none⟩:=by simp [Addr.add]
def za3 (w0:World) (g s:Nat) (T:List Nat) (k:Nat) (wr:World):Prop:=
 ∃ zs:List Nat,Row wr g zs/\zs.length=T.length/\ug zs/\zs.take k=(wav s T).take k/\Ext w0 wr
theorem za3.step {w0 wr : World} {g s : Nat} {T zs : List Nat} {k z : Nat} (hr : Row wr g zs) (hl : zs.length = T.length) (hd : ug zs) (ht : zs.take k = (wav s T).take k) (hx : Ext w0 wr) (hg : w0.heap.size <= g)
 (hk:k < T.length) (hz:z=((T.getD k 0+B32 * T.getD (k+1) 0) / 2 ^ s) % B32):za3 w0 g s T (k+1) (wr.setCell ⟨g,k,none⟩ (.int .u32 (z:Int))):=by
 refine ⟨zs.set k z,hr.xD _ _,by rw [pL,hl],hd.set _ _ (by rw [hz]; exact tg _ yj),?_,hx.setCell (by simpa using hg) _⟩;rw [yaa zs k z (by omega),ht,pay,zcz s T k hk,<- hz]
 rfl
theorem ydb (u:Value) (ds:List Nat) (n:Nat) (w:World) (h:jc w u ds) (hs:ds.length<=35184372088832) (hn:n<=9223372036854775807) :
 Calls Tryz.prog 147 #[u,.int .i64 (n:Nat)] w (yat (val ds / 2 ^ n) w):=by
 have sJ:(dg (val ds)).length<=ds.length:=zi h.kr;go_enter Tryz.func147,Tryz.ntmps147;go_wp2_with fail;refine (uw u ds _ h).mono ?_;rintro e w' ⟨u',rfl,hu,rfl⟩;obtain ⟨A,c,rfl,h1,h2,h3⟩:=hu;have G5:=hid h3;have Ba:=hid (jg (val ds));clear h3 h;generalize hE:dg (val ds)=E at *;have HE:=hid hE;clear hE;obtain ⟨words,s,bW,Rf⟩:∃ words s:Nat,s < 32/\n=32 * words+s:=⟨n / 32,n % 32,by omega,by omega⟩;have YD:=hid Rf;have e1:(n:Int) / 32=words:=by omega
 have e2:(n:Int) % 32=s:=by omega
 have hB:B32 ^ words=2 ^ (32 * words):=by rw [show B32=2 ^ 32 from rfl,<- Nat.pow_mul]
 have HB:=hid hB;clear Rf hB
 by_cases h0:E.length<=words
 · have HV:Hid (val ds / 2 ^ n=0):=by
    have:val ds / 2 ^ n=0:=by
     apply Ps;have h4:=wz G5.out.1;rw [Ba.out] at h4;refine px h4 (py (r8 yj h0) ?_);rw [HB.out,YD.out];exact r8 (by omega) (by omega)
    exact this
   go_wp2_with fail;go_ret;exact ⟨_,rfl,by rw [HV.out,zo]; exact jc.nil w,Ext.refl w⟩
 · obtain ⟨ad,rfl,-,-⟩:=G5.out.2 (by omega);have hcw:¬ (c=words):=by omega
   have GT:=hid (G5.out.drop words c (by omega) h1);rw [if_neg hcw] at GT;have Vq:Hid ((E.drop words).length=E.length - words):=by
    have:(E.drop words).length=E.length - words:=re;exact this
   have zU:Hid (val (E.drop words) / 2 ^ s=val ds / 2 ^ n):=by
    have:val (E.drop words) / 2 ^ s=val ds / 2 ^ n:=by
     have e:=jk E words (by omega);have h4:=wz (G5.out.1.take words);rw [pA,so (by omega)] at h4;rw [Ba.out] at e;rw [YD.out,wT,<- Nat.div_div_eq_div_mul,<- HB.out,e,Sa _ _ (tp yj),Ps h4,ri]
    exact this
   obtain ⟨m,hm⟩:∃ m,m=E.length - words:=⟨_,rfl⟩;have hm1:m<=35184372088832:=by omega
   have Oy:0 < m:=by omega
   rw [<- hm] at Vq;have dA:=fun W=>qab (m:Int) (by omega) (by omega) W
   generalize E.drop words=T at *;rw [hm] at dA;go_wp2_with fail;rw [<- hm];have gY:m<=c - words:=by omega
   have FP:c - words<=9223372036854775807:=by omega
   generalize c - words=c2 at *;clear hm dA e1 e2 h0 hcw
   have cZ:Hid (za3 w w.heap.size s T 0 (w.alloc (Obj.cells (yu (List.replicate m 0)).toArray 84))):=
    ⟨List.replicate m 0,Row.new w _,by simp; exact Vq.out.symm,ug.replicate _,by simp,(Ext.refl _).alloc _⟩
   change Hid (uj w (some (ad.add words)) T) at GT
   generalize ad.add words=bd at *;have hP:0 < 2 ^ s:=tp (by omega)
   go_loopw [33] (fun iv wr=>∃ k:Nat,k<=m/\iv=.int .i64 k/\Hid (za3 w w.heap.size s T k wr)) (fun iv _=>m - (intOf iv).toNat)
   case atStart=>exact ⟨0,by omega,rfl,cZ⟩
   case round =>
    clear cZ;obtain ⟨k,hk,rfl,HI⟩:=hrel;obtain ⟨zs,ae,eF,fA,ed,aA⟩:=HI.out;have hTm:=Vq.out
    by_cases af:k < m
    · obtain ⟨_,x,e0,hb,aj,hx1,HX⟩:=(GT.out.ext aA).xS k (by omega);injection e0 with e0
      subst e0;obtain ⟨z,iJ,iI,_⟩:=ae.xS k (by omega);have AB:T.getD k 0=x:=by rw [po,HX.out]; rfl
      by_cases lJ:k+1 < m
      · obtain ⟨_,y,e0,eP,iF,DZ,HY⟩:=(GT.out.ext aA).xS (k+1) (by omega);injection e0 with e0
        subst e0;rw [jb6] at iF;have Qm:T.getD (k+1) 0=y:=by rw [po,HY.out]; rfl
        have HS:=hid (za3.step (z:=((x+B32 * y) / 2 ^ s) % B32) ae eF fA ed aA (pj _) (by omega) (by rw [AB,Qm]));have hor:bits .or .u64 (x:Int) ((y:Int) * 4294967296)=(x:Int)+y * 4294967296:=by
         have:=u64_or_nat x (y * 4294967296) (by omega) (by omega);rw [Nat.or_comm,nat_join 32 (y * 4294967296) x (by omega) (by omega)] at this;simp at this;omega
        have he:((x:Int)+y * 4294967296) / 2 ^ s % 4294967296=((((x+B32 * y) / 2 ^ s) % B32:Nat):Int):=by
         rw [sj B32 y,yh]; simp
        have Wq:=hid he;clear HI ae eF fA ed aA hTm AB Qm he;go_wp2_with fail
        go_roundw
        case rel =>
         refine ⟨k+1,by omega,by go_num,?_⟩;rw [Wq.out];exact HS
        case measure=>simp [intOf]; omega
      · have Qm:T.getD (k+1) 0=0:=by rw [po,sE (by omega)]; rfl
        have HS:=hid (za3.step (z:=((x+B32 * 0) / 2 ^ s) % B32) ae eF fA ed aA (pj _) (by omega) (by rw [AB,Qm]));have he:(x:Int) / 2 ^ s % 4294967296=((((x+B32 * 0) / 2 ^ s) % B32:Nat):Int):=by
         rw [wy,s9,yh]; simp
        have Wq:=hid he;clear HI ae eF fA ed aA hTm AB Qm he;go_wp2_with fail
        go_roundw
        case rel =>
         refine ⟨k+1,by omega,by go_num,?_⟩;rw [Wq.out];exact HS
        case measure=>simp [intOf]; omega
    · obtain rfl:k=m:=by omega
      have HV:Hid (val zs=val ds / 2 ^ n):=by
       have:val zs=val ds / 2 ^ n:=by
        rw [p8 (by omega),p8 (by rw [yb8]; omega)] at ed;rw [ed,wcy s bW T GT.out.1];exact zU.out
       exact this
      have HN:Hid (jc wr (.slice (some ⟨w.heap.size,0,none⟩) k k) zs):=ae.kO fA _ _ (by omega) (pj _) (by omega);have HX:=hid aA;clear HI ae eF fA ed aA hTm;go_wp2_with fail;refine (uw _ _ _ HN.out).mono ?_;rintro e w' ⟨v',rfl,hv,rfl⟩;rw [HV.out] at hv;have uJ:=hid hv;clear hv;go_wp2_with fail;go_ret;exact ⟨v',rfl,uJ.out,HX.out⟩
end Go.Proofs.YtcepajijiabkmaaGreat
