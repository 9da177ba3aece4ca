/- Layer 1 (natural): division by one digit, shifts. -/
import Derived.Test.YtklnlgnnlmdibaaGreatNatProd2
set_option linter.unusedSimpArgs false
set_option linter.unusedVariables false
set_option maxRecDepth 100000
set_option maxHeartbeats 8000000
namespace Go.Proofs.YtklnlgnnlmdibaaGreat
open Lib (hid)
open Go.RowKit
theorem xco (d r x q:Nat) (hq:q=(r * B32+x) / d) (V Z X:Nat) (h:V=d * Z+r) (hX:X=x+B32 * V):X=d * (q+B32 * Z)+(r * B32+x) % d:=by
 have e:=Nat.div_add_mod (r * B32+x) d;rw [<- hq] at e;have e2:B32 * V=d * (B32 * Z)+r * B32:=by rw [h,Nat.mul_add,Nat.mul_left_comm,Nat.mul_comm B32 r]
 rw [hX,Nat.mul_add];omega
def zbu (w0:World) (g:Nat) (E:List Nat) (d k r:Nat) (wr:World):Prop:=
 ∃ zs:List Nat,Row wr g zs/\zs.length=E.length/\jg zs/\val (E.drop k)=d * val (zs.drop k)+r/\Ext w0 wr
def kcz (q r:Nat) (w:World) (e:Ending) (w':World):Prop:=∃ v,e=.returned (.tuple #[v,.int .u32 (r:Nat),.bool true])/\jd w' v (dg q)/\waa w.heap.size v/\Ext w w'
theorem kbs (u:Value) (ds:List Nat) (d:Nat) (w:World) (h:jd w u ds) (hs:ds.length<=35184372088832) (hd:0 < d) (eG:d < 4294967296) :
 Calls Tryz.prog 155 #[u,.int .u32 (d:Nat)] w (kcz (val ds / d) (val ds % d) w):=by
 have sS:(dg (val ds)).length<=ds.length:=jh h.digs;have hdb:((d:Int) == 0)=false:=by simp; omega
 go_enter Tryz.func155,Tryz.ntmps155;go_wp2_with fail;refine (yw u ds _ h).mono ?_;rintro e w' ⟨u',rfl,hu,rfl⟩;obtain ⟨A,c,rfl,h1,h2,h3⟩:=hu;have G5:=hid h3;have BG:=hid (xg (val ds));clear h3 h;generalize hE:dg (val ds)=E at *;have HE:=hid hE;clear hE;have cu:=fun W=>xaa (E.length:Int) (by omega) (by omega) W
 go_wp2_with fail
 have hinv:zbu w w.heap.size E d E.length 0 (w.alloc (Obj.cells (yt (List.replicate E.length 0)).toArray 90)):=
  ⟨List.replicate E.length 0,Row.new w _,by simp,jg.replicate _,by simp,(Ext.refl _).alloc _⟩
 have df:=hid hinv;clear hinv
 go_loopw [8,9] (fun rv iv wr=>∃ k r:Nat,k<=E.length/\iv=.int .i64 ((k:Int) - 1)/\rv=.int .u32 r/\r < d/\Hid (zbu w w.heap.size E d k r wr)) (fun _ iv _=>(intOf iv+1).toNat)
 case atStart=>exact ⟨E.length,0,Nat.le_refl _,rfl,rfl,hd,df⟩
 case round =>
  clear df;obtain ⟨k,r,hk,rfl,rfl,hr,HI⟩:=hrel;obtain ⟨zs,ae,eu,fA,aJ,ay⟩:=HI.out;rcases k with _ | k
  · have HN:Hid (jd wr (.slice (some ⟨w.heap.size,0,none⟩) E.length E.length) zs):=ae.natVn fA _ _ eu (Nat.le_refl _) (by omega);have hq:val zs=val ds / d/\r=val ds % d:=by
     rw [List.drop_zero,List.drop_zero,BG.out] at aJ;rw [aJ];exact ⟨by rw [Nat.mul_add_div hd,Nat.div_eq_of_lt hr,Nat.add_zero],by rw [Nat.mul_add_mod,Nat.mod_eq_of_lt hr]⟩
    have HQ:=hid hq;have HX:=hid ay;clear HI ae eu fA aJ ay hq;go_wp2_with fail;refine (ya2 w.heap.size _ _ _ HN.out (waa.mk _ _ _ _ (Nat.le_refl _))).mono ?_;rintro e w' ⟨v',rfl,hv,bF,rfl⟩;have uP:=hid hv;have o7:=hid bF;clear hv bF;go_wp2_with fail
    go_ret3
    refine ⟨v',by rw [<- HQ.out.2]; rfl,?_,o7.out,HX.out⟩;rw [<- HQ.out.1];exact uP.out
  · obtain ⟨ad,x,rfl,hb,aj,hx1,HX⟩:=(G5.out.ext ay).get_ k (by omega);obtain ⟨z,Hr,ES,_⟩:=ae.get_ k (by omega);have abU:r * B32+x < d * B32:=by
     have:(r+1) * B32<=d * B32:=Nat.mul_le_mul_right _ hr;rw [Nat.add_mul,Nat.one_mul] at this;rw [zh] at *; omega
    have aaK:(r * B32+x) / d < B32:=Nat.div_lt_of_lt_mul abU;have HS:Hid (∀ wq,Ext wr wq->zbu w w.heap.size E d k ((r * B32+x) % d) (wq.setCell ⟨w.heap.size,k,none⟩ (.int .u32 (((r * B32+x) / d:Nat):Int)))):=by
     intro wq hx;refine ⟨zs.set k ((r * B32+x) / d),(ae.ext hx).set_ _ _,by rw [List.length_set]; exact eu,fA.set _ _ aaK,?_,(ay.trans hx).setCell (by simp) _⟩;obtain ⟨hkl,EU⟩:=List.getElem?_eq_some_iff.1 HX.out;rw [List.drop_eq_getElem_cons hkl,val_cons,EU,List.drop_set,if_neg (by omega),Nat.sub_self];have hkz:k < zs.length:=by omega
     rw [List.drop_eq_getElem_cons hkz,List.set_cons_zero,val_cons];exact xco d r x _ rfl _ _ _ aJ rfl
    clear HI ae eu fA aJ ay;go_wp2_with fail;refine (ycq _ _ _ _ (by omega) (by omega) (by omega) (by omega) (by omega)).mono ?_;rintro e w2 ⟨rfl,n2,rfl⟩;have aN:Ext wr (wr.drewN n2):=(Ext.refl wr).drewN n2;have bK:=hid (HS.out _ aN);clear aN HS;go_wp2_with fail
    go_roundw
    case rel =>
     have e1:((r:Int) * 4294967296+x) % d=(((r * B32+x) % d:Nat):Int):=by rw [zh]; simp
     have e2:((r:Int) * 4294967296+x) / d=(((r * B32+x) / d:Nat):Int):=by rw [zh]; simp
     rw [e1,e2];exact ⟨k,_,by omega,by go_num,rfl,Nat.mod_lt _ hd,bK⟩
    case measure=>simp [intOf]
def jbt (w0:World) (g words s:Nat) (E:List Nat) (k:Nat) (wr:World):Prop:=
 ∃ (ys:List Nat) (cy:Nat),Row wr g (List.replicate words 0 ++ ys)/\ys.length=E.length+1/\jg ys/\Hid (ys[k]?=some cy)/\cy < 2 ^ s/\val (ys.take k)+B32 ^ k * cy=val (E.take k) * 2 ^ s/\Ext w0 wr
theorem yby (u:Value) (ds:List Nat) (n:Nat) (w:World) (h:jd w u ds) (hs:ds.length<=35184371500000) (hn:n<=16777216) :
 Calls Tryz.prog 157 #[u,.int .i64 (n:Nat)] w (qap (val ds * 2 ^ n) w):=by
 have sS:(dg (val ds)).length<=ds.length:=jh h.digs;go_enter Tryz.func157,Tryz.ntmps157;go_wp2_with fail;refine (yw u ds _ h).mono ?_;rintro e w' ⟨u',rfl,hu,rfl⟩;obtain ⟨A,c,rfl,h1,h2,h3⟩:=hu;have G5:=hid h3;have BG:=hid (xg (val ds));clear h3 h;generalize hE:dg (val ds)=E at *;have HE:=hid hE;clear hE;obtain ⟨words,s,bU,RI⟩:∃ words s:Nat,s < 32/\n=32 * words+s:=⟨n / 32,n % 32,by omega,by omega⟩;have Zq:=hid RI;have e1:(n:Int) / 32=words:=by omega
 have e2:(n:Int) % 32=s:=by omega
 have uX:32 * words+s<=16777216:=by omega
 have cu:=fun W=>xaa ((words:Int)+E.length+1) (by omega) (by omega) W
 clear RI
 by_cases h0:E.length=0
 · have h0b:((E.length:Int) == 0)=true:=beq_iff_eq.2 (by omega);have HV:Hid (val ds=0):=by
    have:=BG.out;rw [List.eq_nil_of_length_eq_zero h0] at this;exact this.symm
   clear h0 cu e1 e2;go_wp2_with fail;go_ret;exact ⟨_,rfl,by rw [HV.out,Nat.zero_mul,jm]; exact jd.nil w,Ext.refl w⟩
 · have h0b:((E.length:Int) == 0)=false:=beq_eq_false_iff_ne.2 (by omega);go_wp2_with fail;have df:Hid (jbt w w.heap.size words s E 0 (w.alloc (Obj.cells (yt (List.replicate (words+E.length+1) 0)).toArray 90))):=by
    refine ⟨List.replicate (E.length+1) 0,0,?_,by simp,jg.replicate _,hid (by simp),Nat.pow_pos (by omega),by simp,(Ext.refl _).alloc _⟩;have:=Row.new w (List.replicate (words+E.length+1) 0);rw [Nat.add_assoc,<- List.replicate_append_replicate] at this;rw [Nat.add_assoc,<- List.replicate_append_replicate];exact this
   have xQ:words+E.length+1 - words=E.length+1:=by omega
   rw [xQ];clear xQ e1 e2 cu
   go_loopw [36] (fun iv wr=>∃ k:Nat,k<=E.length/\iv=.int .i64 k/\Hid (jbt w w.heap.size words s E k wr)) (fun iv _=>E.length - (intOf iv).toNat)
   case atStart=>exact ⟨0,by omega,rfl,df⟩
   case round =>
    clear df;obtain ⟨k,hk,rfl,HI⟩:=hrel;obtain ⟨ys,cy,ae,pg,pV,ZO,nR,aJ,ay⟩:=HI.out
    by_cases af:k < E.length
    · obtain ⟨ad,x,rfl,hb,aj,hx1,HX⟩:=(G5.out.ext ay).get_ k af;have dh:wr.cell? ⟨w.heap.size,words+k,none⟩=some (.int .u32 (cy:Nat)):=by
       rw [ae.cell (words+k) (by simp; omega)];have:=ZO.out;rw [List.getElem_append_right (by simp)];simp at this ⊢;obtain ⟨_,h⟩:=List.getElem?_eq_some_iff.1 this;rw [h]
      have eX:wr.frozen? ⟨w.heap.size,words+k,none⟩=false:=ae.frozen _;obtain ⟨z,kZ,jT,_⟩:=ae.get_ (words+(k+1)) (by simp; omega);have EU:=yh HX;have aaT:2 ^ s<=2147483648:=Nat.pow_le_pow_right (n:=2) (by omega) (show s<=31 by omega);have hpd:∃ q,4294967296=2 ^ s * q:=⟨2 ^ (32 - s),by rw [<- Nat.pow_add,show s+(32 - s)=32 from by omega]⟩;have Fv:x * 2 ^ s<=4294967295 * 2147483648:=Nat.mul_le_mul (by omega) aaT;have TP:(0:Int)<=(x:Int) * 2 ^ s:=by (have:(x:Int) * 2 ^ s=((x * 2 ^ s:Nat):Int):=by simp); omega
      have hi1:(x:Int) * 2 ^ s<=4294967295 * 2147483648:=by (have:(x:Int) * 2 ^ s=((x * 2 ^ s:Nat):Int):=by simp); omega
      obtain ⟨q,hq⟩:=hpd;have nV:x * 2 ^ s % 4294967296 % 2 ^ s=0:=by
       rw [hq,Nat.mod_mul_right_mod,Nat.mul_mod_left]
      have SV:x * 2 ^ s % 4294967296+cy < 4294967296:=by
       have h1:x * 2 ^ s % 4294967296 < 2 ^ s * q:=by rw [<- hq]; exact Nat.mod_lt _ (by omega)
       obtain ⟨m,hm⟩:=Nat.dvd_of_mod_eq_zero nV;rw [hm] at h1 ⊢;have h2:=Nat.lt_of_mul_lt_mul_left h1;have h3:2 ^ s * (m+1)<=2 ^ s * q:=Nat.mul_le_mul_left _ h2;rw [Nat.mul_add,Nat.mul_one] at h3;omega
      have hor:bits .or .u32 (cy:Int) ((x:Int) * 2 ^ s % 4294967296)=((x * 2 ^ s % B32+cy:Nat):Int):=by
       have e:(x:Int) * 2 ^ s % 4294967296=((x * 2 ^ s % 4294967296:Nat):Int):=by simp
       rw [e,u32_or_nat _ _ (by omega) (by omega),Nat.or_comm,nat_join s _ _ nV nR,zh]
      have HS:Hid (jbt w w.heap.size words s E (k+1) ((wr.setCell ⟨w.heap.size,words+k,none⟩ (.int .u32 ((x * 2 ^ s % B32+cy:Nat):Int))).setCell ⟨w.heap.size,words+(k+1),none⟩ (.int .u32 ((x * 2 ^ s / B32:Nat):Int)))):=by
       have r1:=(ae.set_ (words+k) (x * 2 ^ s % B32+cy)).set_ (words+(k+1)) (x * 2 ^ s / B32);rw [List.set_append_right _ _ (by simp),List.set_append_right _ _ (by simp),List.length_replicate,Nat.add_sub_cancel_left,Nat.add_sub_cancel_left] at r1;refine ⟨_,x * 2 ^ s / B32,r1,by rw [List.length_set,List.length_set,pg],(pV.set _ _ (by rw [zh]; exact SV)).set _ _ (by rw [zh]; omega),hid (by rw [List.getElem?_set_self (by rw [List.length_set]; omega)]),?_,?_,(ay.setCell (by simp) _).setCell (by simp) _⟩
       · rw [zh];exact Nat.div_lt_of_lt_mul (Nat.mul_lt_mul_of_pos_right hx1 (Nat.pow_pos (by omega)))
       · rw [List.take_set_of_le (Nat.le_refl _),gy ys k _ (by omega),kae,List.length_take,Nat.min_eq_left (by omega),EU,Nat.add_mul,Nat.pow_succ,<- aJ];have e:=Nat.mod_add_div (x * 2 ^ s) B32;have e2:B32 ^ k * (x * 2 ^ s)=B32 ^ k * (x * 2 ^ s % B32)+B32 ^ k * B32 * (x * 2 ^ s / B32):=by
          rw [Nat.mul_assoc (B32 ^ k) B32,<- Nat.mul_add,e]
         rw [Nat.mul_assoc (B32 ^ k) x,e2,Nat.mul_add];omega
      have he:(x:Int) * 2 ^ s / 4294967296=((x * 2 ^ s / B32:Nat):Int):=by rw [zh]; simp
      have WY:=hid he;have Yi:(x:Int) * 2 ^ s / 4294967296 < 4294967296:=by omega
      clear HI ae pg pV ZO aJ ay EU hq nV he;go_wp2_with fail
      go_roundw
      case rel =>
       refine ⟨k+1,by omega,by go_num,?_⟩;rw [WY.out,show ((x:Int) * 2 ^ s % B32+cy)=((x * 2 ^ s % B32+cy:Nat):Int) from by simp];exact HS
      case measure=>simp [intOf]; omega
    · obtain rfl:k=E.length:=by omega
      have hyt:ys=ys.take E.length ++ [cy]:=by
       obtain ⟨h,e⟩:=List.getElem?_eq_some_iff.1 ZO.out;have:=ya1 ys E.length h;rw [List.take_of_length_le (by omega),e] at this;exact this
      have hvy:val ys=val ds * 2 ^ s:=by
       rw [hyt,kae,List.length_take,Nat.min_eq_left (by omega),aJ,List.take_of_length_le (Nat.le_refl _),BG.out]
      have HV:Hid (val (List.replicate words 0 ++ ys)=val ds * 2 ^ n):=by
       have:val (List.replicate words 0 ++ ys)=val ds * 2 ^ n:=by
        rw [val_append,wab,List.length_replicate,Nat.zero_add,hvy,Zq.out,show B32=2 ^ 32 from rfl,<- Nat.pow_mul,Nat.pow_add,Nat.mul_left_comm]
       exact this
      have HN:Hid (jd wr (.slice (some ⟨w.heap.size,0,none⟩) (words+E.length+1) (words+E.length+1)) (List.replicate words 0 ++ ys)):=
       ae.natVn ((jg.replicate _).append pV) _ _ (by simp; omega) (Nat.le_refl _) (by omega)
      have HX:=hid ay;clear HI ae pg pV ZO aJ ay hyt hvy;go_wp2_with fail;refine (yw _ _ _ HN.out).mono ?_;rintro e w' ⟨v',rfl,hv,rfl⟩;rw [HV.out] at hv;have uP:=hid hv;clear hv;go_wp2_with fail;go_ret;exact ⟨v',rfl,uP.out,HX.out⟩
def gar (s : Nat) : List Nat -> List Nat
 | []=>[]
 | d :: r=>((d+B32 * r.headD 0) / 2 ^ s) % B32 :: gar s r
theorem vbu (s:Nat) (T:List Nat):(gar s T).length=T.length:=by
 induction T with
 | nil=>rfl
 | cons d r ih=>simp [gar,ih]
theorem jci (s:Nat) (T:List Nat) (k:Nat) (hk:k < T.length):(gar s T)[k]?=some (((T.getD k 0+B32 * T.getD (k+1) 0) / 2 ^ s) % B32):=by
 induction T generalizing k with
 | nil=>simp at hk
 | cons d r ih =>
   rcases k with _ | k
   · simp only [gar,List.getElem?_cons_zero,List.getD_cons_zero,List.getD_cons_succ];cases r <;> rfl
   · simp only [gar,List.getElem?_cons_succ,List.getD_cons_succ];exact ih k (by simpa using hk)
theorem yb9 (d h P Q:Nat) (hP:0 < P) (hd:d < P * Q):((d+P * Q * h) / P) % (P * Q)=d / P+Q * (h % P):=by
 have e1:(d+P * Q * h) / P=d / P+Q * h:=by rw [Nat.mul_assoc,Nat.add_mul_div_left _ _ hP]
 have hdq:d / P < Q:=Nat.div_lt_of_lt_mul hd;have hm:=Nat.mod_lt h hP;have e2:d / P+Q * h=(d / P+Q * (h % P))+P * Q * (h / P):=by
  have e3:Q * h=Q * (h % P)+P * Q * (h / P):=by
   have:Q * (h % P+P * (h / P))=Q * h:=by rw [Nat.mod_add_div]
   rw [Nat.mul_add,<- Nat.mul_assoc,Nat.mul_comm Q P] at this;omega
  omega
 rw [e1,e2,Nat.add_mul_mod_self_left,Nat.mod_eq_of_lt];have:Q * (h % P+1)<=Q * P:=Nat.mul_le_mul_left _ hm;rw [Nat.mul_add,Nat.mul_one,Nat.mul_comm Q P] at this;omega
theorem qci (s:Nat) (hs:s < 32) (T:List Nat) (hT:jg T):val (gar s T)=val T / 2 ^ s:=by
 have hB:B32=2 ^ s * 2 ^ (32 - s):=by rw [<- Nat.pow_add,show s+(32 - s)=32 from by omega]; rfl
 have hP:0 < 2 ^ s:=Nat.pow_pos (by omega)
 induction T with
 | nil=>simp [gar]
 | cons d r ih =>
   have CX:r.headD 0 % 2 ^ s=val r % 2 ^ s:=by
    cases r with
    | nil=>rfl
    | cons h t=>rw [List.headD_cons,val_cons,hB,Nat.mul_assoc,Nat.add_mul_mod_self_left]
   have hd:=hT.head;rw [gar,val_cons,val_cons,ih hT.tail];generalize hq:2 ^ (32 - s)=Q at *;generalize hp:2 ^ s=P at *;rw [hB] at hd ⊢;rw [yb9 d _ P Q hP hd,CX,Nat.mul_assoc P Q (val r),Nat.add_mul_div_left _ _ hP,Nat.mul_assoc P Q,Nat.mul_left_comm P Q,Nat.add_assoc,<- Nat.mul_add,Nat.mod_add_div]
theorem xbt (a:Addr) (k:Nat):a.add (k+1)=⟨a.block,a.off+(k+1),none⟩:=by simp [Addr.add]
def vax (w0:World) (g s:Nat) (T:List Nat) (k:Nat) (wr:World):Prop:=
 ∃ zs:List Nat,Row wr g zs/\zs.length=T.length/\jg zs/\zs.take k=(gar s T).take k/\Ext w0 wr
theorem vax.step {w0 wr : World} {g s : Nat} {T zs : List Nat} {k z : Nat} (hr : Row wr g zs) (hl : zs.length = T.length) (hd : jg zs) (ht : zs.take k = (gar s T).take k) (hx : Ext w0 wr) (hg : w0.heap.size <= g)
 (hk:k < T.length) (hz:z=((T.getD k 0+B32 * T.getD (k+1) 0) / 2 ^ s) % B32):vax w0 g s T (k+1) (wr.setCell ⟨g,k,none⟩ (.int .u32 (z:Int))):=by
 refine ⟨zs.set k z,hr.set_ _ _,by rw [List.length_set,hl],hd.set _ _ (by rw [hz]; exact Nat.mod_lt _ yj),?_,hx.setCell (by simpa using hg) _⟩;rw [gy zs k z (by omega),ht,List.take_add_one,jci s T k hk,<- hz]
 rfl
theorem xcs (u:Value) (ds:List Nat) (n:Nat) (w:World) (h:jd w u ds) (hs:ds.length<=35184372088832) (hn:n<=9223372036854775807) :
 Calls Tryz.prog 161 #[u,.int .i64 (n:Nat)] w (qap (val ds / 2 ^ n) w):=by
 have sS:(dg (val ds)).length<=ds.length:=jh h.digs;go_enter Tryz.func161,Tryz.ntmps161;go_wp2_with fail;refine (yw u ds _ h).mono ?_;rintro e w' ⟨u',rfl,hu,rfl⟩;obtain ⟨A,c,rfl,h1,h2,h3⟩:=hu;have G5:=hid h3;have BG:=hid (xg (val ds));clear h3 h;generalize hE:dg (val ds)=E at *;have HE:=hid hE;clear hE;obtain ⟨words,s,bU,RI⟩:∃ words s:Nat,s < 32/\n=32 * words+s:=⟨n / 32,n % 32,by omega,by omega⟩;have Zq:=hid RI;have e1:(n:Int) / 32=words:=by omega
 have e2:(n:Int) % 32=s:=by omega
 have hB:B32 ^ words=2 ^ (32 * words):=by rw [show B32=2 ^ 32 from rfl,<- Nat.pow_mul]
 have HB:=hid hB;clear RI hB
 by_cases h0:E.length<=words
 · have HV:Hid (val ds / 2 ^ n=0):=by
    have:val ds / 2 ^ n=0:=by
     apply Nat.div_eq_of_lt;have h4:=jy G5.out.1;rw [BG.out] at h4;refine Nat.lt_of_lt_of_le h4 (Nat.le_trans (Nat.pow_le_pow_right yj h0) ?_);rw [HB.out,Zq.out];exact Nat.pow_le_pow_right (by omega) (by omega)
    exact this
   go_wp2_with fail;go_ret;exact ⟨_,rfl,by rw [HV.out,jm]; exact jd.nil w,Ext.refl w⟩
 · obtain ⟨ad,rfl,-,-⟩:=G5.out.2 (by omega);have hcw:¬ (c=words):=by omega
   have GT:=hid (G5.out.drop words c (by omega) h1);rw [if_neg hcw] at GT;have VQ:Hid ((E.drop words).length=E.length - words):=by
    have:(E.drop words).length=E.length - words:=List.length_drop;exact this
   have Ag:Hid (val (E.drop words) / 2 ^ s=val ds / 2 ^ n):=by
    have:val (E.drop words) / 2 ^ s=val ds / 2 ^ n:=by
     have e:=vk E words (by omega);have h4:=jy (G5.out.1.take words);rw [List.length_take,Nat.min_eq_left (by omega)] at h4;rw [BG.out] at e;rw [Zq.out,Nat.pow_add,<- Nat.div_div_eq_div_mul,<- HB.out,e,Nat.add_mul_div_left _ _ (Nat.pow_pos yj),Nat.div_eq_of_lt h4,Nat.zero_add]
    exact this
   obtain ⟨m,hm⟩:∃ m,m=E.length - words:=⟨_,rfl⟩;have hm1:m<=35184372088832:=by omega
   have OM:0 < m:=by omega
   rw [<- hm] at VQ;have cu:=fun W=>xaa (m:Int) (by omega) (by omega) W
   generalize E.drop words=T at *;rw [hm] at cu;go_wp2_with fail;rw [<- hm];have iT:m<=c - words:=by omega
   have Gf:c - words<=9223372036854775807:=by omega
   generalize c - words=c2 at *;clear hm cu e1 e2 h0 hcw
   have df:Hid (vax w w.heap.size s T 0 (w.alloc (Obj.cells (yt (List.replicate m 0)).toArray 90))):=
    ⟨List.replicate m 0,Row.new w _,by simp; exact VQ.out.symm,jg.replicate _,by simp,(Ext.refl _).alloc _⟩
   change Hid (zk w (some (ad.add words)) T) at GT
   generalize ad.add words=bd at *;have hP:0 < 2 ^ s:=Nat.pow_pos (by omega)
   go_loopw [33] (fun iv wr=>∃ k:Nat,k<=m/\iv=.int .i64 k/\Hid (vax w w.heap.size s T k wr)) (fun iv _=>m - (intOf iv).toNat)
   case atStart=>exact ⟨0,by omega,rfl,df⟩
   case round =>
    clear df;obtain ⟨k,hk,rfl,HI⟩:=hrel;obtain ⟨zs,ae,eu,fA,eP,ay⟩:=HI.out;have hTm:=VQ.out
    by_cases af:k < m
    · obtain ⟨_,x,e0,hb,aj,hx1,HX⟩:=(GT.out.ext ay).get_ k (by omega);injection e0 with e0
      subst e0;obtain ⟨z,kZ,jT,_⟩:=ae.get_ k (by omega);have AV:T.getD k 0=x:=by rw [List.getD_eq_getElem?_getD,HX.out]; rfl
      by_cases lI:k+1 < m
      · obtain ⟨_,y,e0,dL,iC,Ej,HY⟩:=(GT.out.ext ay).get_ (k+1) (by omega);injection e0 with e0
        subst e0;rw [xbt] at iC;have QF:T.getD (k+1) 0=y:=by rw [List.getD_eq_getElem?_getD,HY.out]; rfl
        have HS:=hid (vax.step (z:=((x+B32 * y) / 2 ^ s) % B32) ae eu fA eP ay (Nat.le_refl _) (by omega) (by rw [AV,QF]));have hor:bits .or .u64 (x:Int) ((y:Int) * 4294967296)=(x:Int)+y * 4294967296:=by
         have:=u64_or_nat x (y * 4294967296) (by omega) (by omega);rw [Nat.or_comm,nat_join 32 (y * 4294967296) x (by omega) (by omega)] at this;simp at this;omega
        have he:((x:Int)+y * 4294967296) / 2 ^ s % 4294967296=((((x+B32 * y) / 2 ^ s) % B32:Nat):Int):=by
         rw [Nat.mul_comm B32 y,zh]; simp
        have WY:=hid he;clear HI ae eu fA eP ay hTm AV QF he;go_wp2_with fail
        go_roundw
        case rel =>
         refine ⟨k+1,by omega,by go_num,?_⟩;rw [WY.out];exact HS
        case measure=>simp [intOf]; omega
      · have QF:T.getD (k+1) 0=0:=by rw [List.getD_eq_getElem?_getD,List.getElem?_eq_none (by omega)]; rfl
        have HS:=hid (vax.step (z:=((x+B32 * 0) / 2 ^ s) % B32) ae eu fA eP ay (Nat.le_refl _) (by omega) (by rw [AV,QF]));have he:(x:Int) / 2 ^ s % 4294967296=((((x+B32 * 0) / 2 ^ s) % B32:Nat):Int):=by
         rw [Nat.mul_zero,Nat.add_zero,zh]; simp
        have WY:=hid he;clear HI ae eu fA eP ay hTm AV QF he;go_wp2_with fail
        go_roundw
        case rel =>
         refine ⟨k+1,by omega,by go_num,?_⟩;rw [WY.out];exact HS
        case measure=>simp [intOf]; omega
    · obtain rfl:k=m:=by omega
      have HV:Hid (val zs=val ds / 2 ^ n):=by
       have:val zs=val ds / 2 ^ n:=by
        rw [List.take_of_length_le (by omega),List.take_of_length_le (by rw [vbu]; omega)] at eP;rw [eP,qci s bU T GT.out.1];exact Ag.out
       exact this
      have HN:Hid (jd wr (.slice (some ⟨w.heap.size,0,none⟩) k k) zs):=ae.natVn fA _ _ (by omega) (Nat.le_refl _) (by omega);have HX:=hid ay;clear HI ae eu fA eP ay hTm;go_wp2_with fail;refine (yw _ _ _ HN.out).mono ?_;rintro e w' ⟨v',rfl,hv,rfl⟩;rw [HV.out] at hv;have uP:=hid hv;clear hv;go_wp2_with fail;go_ret;exact ⟨v',rfl,uP.out,HX.out⟩
end Go.Proofs.YtklnlgnnlmdibaaGreat
