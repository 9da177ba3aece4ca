/- Layer 1 (natural): division by one digit, shifts. -/
import Derived.Test.YtcepajijiabkmaaGreatNatProd2
set_option linter.unusedSimpArgs false
set_option linter.unusedVariables false
set_option maxRecDepth 100000
set_option maxHeartbeats 8000000
namespace Go.Proofs.YtcepajijiabkmaaGreat
open Lib (hid)
open Go.RowKit
theorem wcv (d r x q:Nat) (hq:q=(r * B32+x) / d) (V Z X:Nat) (h:V=d * Z+r) (hX:X=x+B32 * V):X=d * (q+B32 * Z)+(r * B32+x) % d:=by
 have e:=Nat.div_add_mod (r * B32+x) d;rw [<- hq] at e;have e2:B32 * V=d * (B32 * Z)+r * B32:=by rw [h,Nat.mul_add,Nat.mul_left_comm,Nat.mul_comm B32 r]
 rw [hX,Nat.mul_add];omega
def vbz (w0:World) (g:Nat) (E:List Nat) (d k r:Nat) (wr:World):Prop:=
 ∃ zs:List Nat,Row wr g zs/\zs.length=E.length/\vg zs/\val (E.drop k)=d * val (zs.drop k)+r/\Ext w0 wr
def xc7 (q r:Nat) (w:World) (e:Ending) (w':World):Prop:=∃ v,e=.returned (.tuple #[v,.int .u32 (r:Nat),.bool true])/\jb w' v (dg q)/\waa w.heap.size v/\Ext w w'
theorem gbx (u:Value) (ds:List Nat) (d:Nat) (w:World) (h:jb w u ds) (hs:ds.length<=35184372088832) (hd:0 < d) (dO:d < 4294967296) :
 Calls Tryz.prog 141 #[u,.int .u32 (d:Nat)] w (xc7 (val ds / d) (val ds % d) w):=by
 have qE:(dg (val ds)).length<=ds.length:=uh h.digs;have hdb:((d:Int) == 0)=false:=by simp; omega
 go_enter Tryz.func141,Tryz.ntmps141;go_wp2_with fail;refine (qw u ds _ h).mono ?_;rintro e w' ⟨u',rfl,hu,rfl⟩;obtain ⟨A,c,rfl,h1,h2,h3⟩:=hu;have G5:=hid h3;have yS:=hid (qg (val ds));clear h3 h;generalize hE:dg (val ds)=E at *;have HE:=hid hE;clear hE;have dB:=fun W=>qaa (E.length:Int) (by omega) (by omega) W
 go_wp2_with fail
 have hinv:vbz w w.heap.size E d E.length 0 (w.alloc (Obj.cells (zt (List.replicate E.length 0)).toArray 84)):=
  ⟨List.replicate E.length 0,Row.new w _,by simp,vg.replicate _,by simp,(Ext.refl _).alloc _⟩
 have bI:=hid hinv;clear hinv
 go_loopw [8,9] (fun rv iv wr=>∃ k r:Nat,k<=E.length/\iv=.int .i64 ((k:Int) - 1)/\rv=.int .u32 r/\r < d/\Hid (vbz w w.heap.size E d k r wr)) (fun _ iv _=>(intOf iv+1).toNat)
 case atStart=>exact ⟨E.length,0,Nat.le_refl _,rfl,rfl,hd,bI⟩
 case round =>
  clear bI;obtain ⟨k,r,hk,rfl,rfl,hr,HI⟩:=hrel;obtain ⟨zs,ae,dR,dM,aH,aA⟩:=HI.out;rcases k with _ | k
  · have HN:Hid (jb wr (.slice (some ⟨w.heap.size,0,none⟩) E.length E.length) zs):=ae.natVn dM _ _ dR (Nat.le_refl _) (by omega);have hq:val zs=val ds / d/\r=val ds % d:=by
     rw [List.drop_zero,List.drop_zero,yS.out] at aH;rw [aH];exact ⟨by rw [Nat.mul_add_div hd,Nat.div_eq_of_lt hr,Nat.add_zero],by rw [Nat.mul_add_mod,Nat.mod_eq_of_lt hr]⟩
    have HQ:=hid hq;have HX:=hid aA;clear HI ae dR dM aH aA hq;go_wp2_with fail;refine (wa3 w.heap.size _ _ _ HN.out (waa.mk _ _ _ _ (Nat.le_refl _))).mono ?_;rintro e w' ⟨v',rfl,hv,bu,rfl⟩;have rH:=hid hv;have oP:=hid bu;clear hv bu;go_wp2_with fail
    go_ret3
    refine ⟨v',by rw [<- HQ.out.2]; rfl,?_,oP.out,HX.out⟩;rw [<- HQ.out.1];exact rH.out
  · obtain ⟨ad,x,rfl,hb,ai,hx1,HX⟩:=(G5.out.ext aA).get_ k (by omega);obtain ⟨z,EF,Nl,_⟩:=ae.get_ k (by omega);have Yd:r * B32+x < d * B32:=by
     have:(r+1) * B32<=d * B32:=Nat.mul_le_mul_right _ hr;rw [Nat.add_mul,Nat.one_mul] at this;rw [ug] at *; omega
    have WB:(r * B32+x) / d < B32:=Nat.div_lt_of_lt_mul Yd;have HS:Hid (∀ wq,Ext wr wq->vbz w w.heap.size E d k ((r * B32+x) % d) (wq.setCell ⟨w.heap.size,k,none⟩ (.int .u32 (((r * B32+x) / d:Nat):Int)))):=by
     intro wq hx;refine ⟨zs.set k ((r * B32+x) / d),(ae.ext hx).set_ _ _,by rw [List.length_set]; exact dR,dM.set _ _ WB,?_,(aA.trans hx).setCell (by simp) _⟩;obtain ⟨hkl,CZ⟩:=List.getElem?_eq_some_iff.1 HX.out;rw [List.drop_eq_getElem_cons hkl,val_cons,CZ,List.drop_set,if_neg (by omega),Nat.sub_self];have hkz:k < zs.length:=by omega
     rw [List.drop_eq_getElem_cons hkz,List.set_cons_zero,val_cons];exact wcv d r x _ rfl _ _ _ aH rfl
    clear HI ae dR dM aH aA;go_wp2_with fail;refine (wcx _ _ _ _ (by omega) (by omega) (by omega) (by omega) (by omega)).mono ?_;rintro e w2 ⟨rfl,n2,rfl⟩;have aO:Ext wr (wr.drewN n2):=(Ext.refl wr).drewN n2;have aW:=hid (HS.out _ aO);clear aO HS;go_wp2_with fail
    go_roundw
    case rel =>
     have e1:((r:Int) * 4294967296+x) % d=(((r * B32+x) % d:Nat):Int):=by rw [ug]; simp
     have e2:((r:Int) * 4294967296+x) / d=(((r * B32+x) / d:Nat):Int):=by rw [ug]; simp
     rw [e1,e2];exact ⟨k,_,by omega,by go_num,rfl,Nat.mod_lt _ hd,aW⟩
    case measure=>simp [intOf]
def wby (w0:World) (g words s:Nat) (E:List Nat) (k:Nat) (wr:World):Prop:=
 ∃ (ys:List Nat) (cy:Nat),Row wr g (List.replicate words 0 ++ ys)/\ys.length=E.length+1/\vg ys/\Hid (ys[k]?=some cy)/\cy < 2 ^ s/\val (ys.take k)+B32 ^ k * cy=val (E.take k) * 2 ^ s/\Ext w0 wr
theorem kb5 (u:Value) (ds:List Nat) (n:Nat) (w:World) (h:jb w u ds) (hs:ds.length<=35184371500000) (hn:n<=16777216) :
 Calls Tryz.prog 143 #[u,.int .i64 (n:Nat)] w (vap (val ds * 2 ^ n) w):=by
 have qE:(dg (val ds)).length<=ds.length:=uh h.digs;go_enter Tryz.func143,Tryz.ntmps143;go_wp2_with fail;refine (qw u ds _ h).mono ?_;rintro e w' ⟨u',rfl,hu,rfl⟩;obtain ⟨A,c,rfl,h1,h2,h3⟩:=hu;have G5:=hid h3;have yS:=hid (qg (val ds));clear h3 h;generalize hE:dg (val ds)=E at *;have HE:=hid hE;clear hE;obtain ⟨words,s,bW,Ov⟩:∃ words s:Nat,s < 32/\n=32 * words+s:=⟨n / 32,n % 32,by omega,by omega⟩;have Vd:=hid Ov;have e1:(n:Int) / 32=words:=by omega
 have e2:(n:Int) % 32=s:=by omega
 have rQ:32 * words+s<=16777216:=by omega
 have dB:=fun W=>qaa ((words:Int)+E.length+1) (by omega) (by omega) W
 clear Ov
 by_cases h0:E.length=0
 · have h0b:((E.length:Int) == 0)=true:=beq_iff_eq.2 (by omega);have HV:Hid (val ds=0):=by
    have:=yS.out;rw [List.eq_nil_of_length_eq_zero h0] at this;exact this.symm
   clear h0 dB e1 e2;go_wp2_with fail;go_ret;exact ⟨_,rfl,by rw [HV.out,Nat.zero_mul,xn]; exact jb.nil w,Ext.refl w⟩
 · have h0b:((E.length:Int) == 0)=false:=beq_eq_false_iff_ne.2 (by omega);go_wp2_with fail;have bI:Hid (wby w w.heap.size words s E 0 (w.alloc (Obj.cells (zt (List.replicate (words+E.length+1) 0)).toArray 84))):=by
    refine ⟨List.replicate (E.length+1) 0,0,?_,by simp,vg.replicate _,hid (by simp),Nat.pow_pos (by omega),by simp,(Ext.refl _).alloc _⟩;have:=Row.new w (List.replicate (words+E.length+1) 0);rw [Nat.add_assoc,<- List.replicate_append_replicate] at this;rw [Nat.add_assoc,<- List.replicate_append_replicate];exact this
   have uT:words+E.length+1 - words=E.length+1:=by omega
   rw [uT];clear uT e1 e2 dB
   go_loopw [36] (fun iv wr=>∃ k:Nat,k<=E.length/\iv=.int .i64 k/\Hid (wby w w.heap.size words s E k wr)) (fun iv _=>E.length - (intOf iv).toNat)
   case atStart=>exact ⟨0,by omega,rfl,bI⟩
   case round =>
    clear bI;obtain ⟨k,hk,rfl,HI⟩:=hrel;obtain ⟨ys,cy,ae,mi,nH,Vt,kY,aH,aA⟩:=HI.out
    by_cases af:k < E.length
    · obtain ⟨ad,x,rfl,hb,ai,hx1,HX⟩:=(G5.out.ext aA).get_ k af;have bZ:wr.cell? ⟨w.heap.size,words+k,none⟩=some (.int .u32 (cy:Nat)):=by
       rw [ae.cell (words+k) (by simp; omega)];have:=Vt.out;rw [List.getElem_append_right (by simp)];simp at this ⊢;obtain ⟨_,h⟩:=List.getElem?_eq_some_iff.1 this;rw [h]
      have dw:wr.frozen? ⟨w.heap.size,words+k,none⟩=false:=ae.frozen _;obtain ⟨z,gK,iU,_⟩:=ae.get_ (words+(k+1)) (by simp; omega);have CZ:=zh HX;have WP:2 ^ s<=2147483648:=Nat.pow_le_pow_right (n:=2) (by omega) (show s<=31 by omega);have TY:∃ q,4294967296=2 ^ s * q:=⟨2 ^ (32 - s),by rw [<- Nat.pow_add,show s+(32 - s)=32 from by omega]⟩;have yL:x * 2 ^ s<=4294967295 * 2147483648:=Nat.mul_le_mul (by omega) WP;have Pq:(0:Int)<=(x:Int) * 2 ^ s:=by (have:(x:Int) * 2 ^ s=((x * 2 ^ s:Nat):Int):=by simp); omega
      have Xt:(x:Int) * 2 ^ s<=4294967295 * 2147483648:=by (have:(x:Int) * 2 ^ s=((x * 2 ^ s:Nat):Int):=by simp); omega
      obtain ⟨q,hq⟩:=TY;have lw:x * 2 ^ s % 4294967296 % 2 ^ s=0:=by
       rw [hq,Nat.mod_mul_right_mod,Nat.mul_mod_left]
      have OW:x * 2 ^ s % 4294967296+cy < 4294967296:=by
       have h1:x * 2 ^ s % 4294967296 < 2 ^ s * q:=by rw [<- hq]; exact Nat.mod_lt _ (by omega)
       obtain ⟨m,hm⟩:=Nat.dvd_of_mod_eq_zero lw;rw [hm] at h1 ⊢;have h2:=Nat.lt_of_mul_lt_mul_left h1;have h3:2 ^ s * (m+1)<=2 ^ s * q:=Nat.mul_le_mul_left _ h2;rw [Nat.mul_add,Nat.mul_one] at h3;omega
      have WS:bits .or .u32 (cy:Int) ((x:Int) * 2 ^ s % 4294967296)=((x * 2 ^ s % B32+cy:Nat):Int):=by
       have e:(x:Int) * 2 ^ s % 4294967296=((x * 2 ^ s % 4294967296:Nat):Int):=by simp
       rw [e,u32_or_nat _ _ (by omega) (by omega),Nat.or_comm,nat_join s _ _ lw kY,ug]
      have HS:Hid (wby w w.heap.size words s E (k+1) ((wr.setCell ⟨w.heap.size,words+k,none⟩ (.int .u32 ((x * 2 ^ s % B32+cy:Nat):Int))).setCell ⟨w.heap.size,words+(k+1),none⟩ (.int .u32 ((x * 2 ^ s / B32:Nat):Int)))):=by
       have r1:=(ae.set_ (words+k) (x * 2 ^ s % B32+cy)).set_ (words+(k+1)) (x * 2 ^ s / B32);rw [List.set_append_right _ _ (by simp),List.set_append_right _ _ (by simp),List.length_replicate,Nat.add_sub_cancel_left,Nat.add_sub_cancel_left] at r1;refine ⟨_,x * 2 ^ s / B32,r1,by rw [List.length_set,List.length_set,mi],(nH.set _ _ (by rw [ug]; exact OW)).set _ _ (by rw [ug]; omega),hid (by rw [List.getElem?_set_self (by rw [List.length_set]; omega)]),?_,?_,(aA.setCell (by simp) _).setCell (by simp) _⟩
       · rw [ug];exact Nat.div_lt_of_lt_mul (Nat.mul_lt_mul_of_pos_right hx1 (Nat.pow_pos (by omega)))
       · rw [List.take_set_of_le (Nat.le_refl _),qy ys k _ (by omega),gad,List.length_take,Nat.min_eq_left (by omega),CZ,Nat.add_mul,Nat.pow_succ,<- aH];have e:=Nat.mod_add_div (x * 2 ^ s) B32;have e2:B32 ^ k * (x * 2 ^ s)=B32 ^ k * (x * 2 ^ s % B32)+B32 ^ k * B32 * (x * 2 ^ s / B32):=by
          rw [Nat.mul_assoc (B32 ^ k) B32,<- Nat.mul_add,e]
         rw [Nat.mul_assoc (B32 ^ k) x,e2,Nat.mul_add];omega
      have he:(x:Int) * 2 ^ s / 4294967296=((x * 2 ^ s / B32:Nat):Int):=by rw [ug]; simp
      have SY:=hid he;have hbd:(x:Int) * 2 ^ s / 4294967296 < 4294967296:=by omega
      clear HI ae mi nH Vt aH aA CZ hq lw he;go_wp2_with fail
      go_roundw
      case rel =>
       refine ⟨k+1,by omega,by go_num,?_⟩;rw [SY.out,show ((x:Int) * 2 ^ s % B32+cy)=((x * 2 ^ s % B32+cy:Nat):Int) from by simp];exact HS
      case measure=>simp [intOf]; omega
    · obtain rfl:k=E.length:=by omega
      have hyt:ys=ys.take E.length ++ [cy]:=by
       obtain ⟨h,e⟩:=List.getElem?_eq_some_iff.1 Vt.out;have:=za3 ys E.length h;rw [List.take_of_length_le (by omega),e] at this;exact this
      have hvy:val ys=val ds * 2 ^ s:=by
       rw [hyt,gad,List.length_take,Nat.min_eq_left (by omega),aH,List.take_of_length_le (Nat.le_refl _),yS.out]
      have HV:Hid (val (List.replicate words 0 ++ ys)=val ds * 2 ^ n):=by
       have:val (List.replicate words 0 ++ ys)=val ds * 2 ^ n:=by
        rw [val_append,kab,List.length_replicate,Nat.zero_add,hvy,Vd.out,show B32=2 ^ 32 from rfl,<- Nat.pow_mul,Nat.pow_add,Nat.mul_left_comm]
       exact this
      have HN:Hid (jb wr (.slice (some ⟨w.heap.size,0,none⟩) (words+E.length+1) (words+E.length+1)) (List.replicate words 0 ++ ys)):=
       ae.natVn ((vg.replicate _).append nH) _ _ (by simp; omega) (Nat.le_refl _) (by omega)
      have HX:=hid aA;clear HI ae mi nH Vt aH aA hyt hvy;go_wp2_with fail;refine (qw _ _ _ HN.out).mono ?_;rintro e w' ⟨v',rfl,hv,rfl⟩;rw [HV.out] at hv;have rH:=hid hv;clear hv;go_wp2_with fail;go_ret;exact ⟨v',rfl,rH.out,HX.out⟩
def gas (s : Nat) : List Nat -> List Nat
 | []=>[]
 | d :: r=>((d+B32 * r.headD 0) / 2 ^ s) % B32 :: gas s r
theorem kb0 (s:Nat) (T:List Nat):(gas s T).length=T.length:=by
 induction T with
 | nil=>rfl
 | cons d r ih=>simp [gas,ih]
theorem zcq (s:Nat) (T:List Nat) (k:Nat) (hk:k < T.length):(gas s T)[k]?=some (((T.getD k 0+B32 * T.getD (k+1) 0) / 2 ^ s) % B32):=by
 induction T generalizing k with
 | nil=>simp at hk
 | cons d r ih =>
   rcases k with _ | k
   · simp only [gas,List.getElem?_cons_zero,List.getD_cons_zero,List.getD_cons_succ];cases r <;> rfl
   · simp only [gas,List.getElem?_cons_succ,List.getD_cons_succ];exact ih k (by simpa using hk)
theorem kch (d h P Q:Nat) (hP:0 < P) (hd:d < P * Q):((d+P * Q * h) / P) % (P * Q)=d / P+Q * (h % P):=by
 have e1:(d+P * Q * h) / P=d / P+Q * h:=by rw [Nat.mul_assoc,Nat.add_mul_div_left _ _ hP]
 have hdq:d / P < Q:=Nat.div_lt_of_lt_mul hd;have hm:=Nat.mod_lt h hP;have e2:d / P+Q * h=(d / P+Q * (h % P))+P * Q * (h / P):=by
  have e3:Q * h=Q * (h % P)+P * Q * (h / P):=by
   have:Q * (h % P+P * (h / P))=Q * h:=by rw [Nat.mod_add_div]
   rw [Nat.mul_add,<- Nat.mul_assoc,Nat.mul_comm Q P] at this;omega
  omega
 rw [e1,e2,Nat.add_mul_mod_self_left,Nat.mod_eq_of_lt];have:Q * (h % P+1)<=Q * P:=Nat.mul_le_mul_left _ hm;rw [Nat.mul_add,Nat.mul_one,Nat.mul_comm Q P] at this;omega
theorem wcp (s:Nat) (hs:s < 32) (T:List Nat) (hT:vg T):val (gas s T)=val T / 2 ^ s:=by
 have hB:B32=2 ^ s * 2 ^ (32 - s):=by rw [<- Nat.pow_add,show s+(32 - s)=32 from by omega]; rfl
 have hP:0 < 2 ^ s:=Nat.pow_pos (by omega)
 induction T with
 | nil=>simp [gas]
 | cons d r ih =>
   have Ae:r.headD 0 % 2 ^ s=val r % 2 ^ s:=by
    cases r with
    | nil=>rfl
    | cons h t=>rw [List.headD_cons,val_cons,hB,Nat.mul_assoc,Nat.add_mul_mod_self_left]
   have hd:=hT.head;rw [gas,val_cons,val_cons,ih hT.tail];generalize hq:2 ^ (32 - s)=Q at *;generalize hp:2 ^ s=P at *;rw [hB] at hd ⊢;rw [kch d _ P Q hP hd,Ae,Nat.mul_assoc P Q (val r),Nat.add_mul_div_left _ _ hP,Nat.mul_assoc P Q,Nat.mul_left_comm P Q,Nat.add_assoc,<- Nat.mul_add,Nat.mod_add_div]
theorem uby (a:Addr) (k:Nat):a.add (k+1)=⟨a.block,a.off+(k+1),none⟩:=by simp [Addr.add]
def qaz (w0:World) (g s:Nat) (T:List Nat) (k:Nat) (wr:World):Prop:=
 ∃ zs:List Nat,Row wr g zs/\zs.length=T.length/\vg zs/\zs.take k=(gas s T).take k/\Ext w0 wr
theorem qaz.step {w0 wr : World} {g s : Nat} {T zs : List Nat} {k z : Nat} (hr : Row wr g zs) (hl : zs.length = T.length) (hd : vg zs) (ht : zs.take k = (gas s T).take k) (hx : Ext w0 wr) (hg : w0.heap.size <= g)
 (hk:k < T.length) (hz:z=((T.getD k 0+B32 * T.getD (k+1) 0) / 2 ^ s) % B32):qaz w0 g s T (k+1) (wr.setCell ⟨g,k,none⟩ (.int .u32 (z:Int))):=by
 refine ⟨zs.set k z,hr.set_ _ _,by rw [List.length_set,hl],hd.set _ _ (by rw [hz]; exact Nat.mod_lt _ ui),?_,hx.setCell (by simpa using hg) _⟩;rw [qy zs k z (by omega),ht,List.take_add_one,zcq s T k hk,<- hz]
 rfl
theorem ucz (u:Value) (ds:List Nat) (n:Nat) (w:World) (h:jb w u ds) (hs:ds.length<=35184372088832) (hn:n<=9223372036854775807) :
 Calls Tryz.prog 147 #[u,.int .i64 (n:Nat)] w (vap (val ds / 2 ^ n) w):=by
 have qE:(dg (val ds)).length<=ds.length:=uh h.digs;go_enter Tryz.func147,Tryz.ntmps147;go_wp2_with fail;refine (qw u ds _ h).mono ?_;rintro e w' ⟨u',rfl,hu,rfl⟩;obtain ⟨A,c,rfl,h1,h2,h3⟩:=hu;have G5:=hid h3;have yS:=hid (qg (val ds));clear h3 h;generalize hE:dg (val ds)=E at *;have HE:=hid hE;clear hE;obtain ⟨words,s,bW,Ov⟩:∃ words s:Nat,s < 32/\n=32 * words+s:=⟨n / 32,n % 32,by omega,by omega⟩;have Vd:=hid Ov;have e1:(n:Int) / 32=words:=by omega
 have e2:(n:Int) % 32=s:=by omega
 have hB:B32 ^ words=2 ^ (32 * words):=by rw [show B32=2 ^ 32 from rfl,<- Nat.pow_mul]
 have HB:=hid hB;clear Ov hB
 by_cases h0:E.length<=words
 · have HV:Hid (val ds / 2 ^ n=0):=by
    have:val ds / 2 ^ n=0:=by
     apply Nat.div_eq_of_lt;have h4:=zy G5.out.1;rw [yS.out] at h4;refine Nat.lt_of_lt_of_le h4 (Nat.le_trans (Nat.pow_le_pow_right ui h0) ?_);rw [HB.out,Vd.out];exact Nat.pow_le_pow_right (by omega) (by omega)
    exact this
   go_wp2_with fail;go_ret;exact ⟨_,rfl,by rw [HV.out,xn]; exact jb.nil w,Ext.refl w⟩
 · obtain ⟨ad,rfl,-,-⟩:=G5.out.2 (by omega);have hcw:¬ (c=words):=by omega
   have GT:=hid (G5.out.drop words c (by omega) h1);rw [if_neg hcw] at GT;have Rt:Hid ((E.drop words).length=E.length - words):=by
    have:(E.drop words).length=E.length - words:=List.length_drop;exact this
   have xU:Hid (val (E.drop words) / 2 ^ s=val ds / 2 ^ n):=by
    have:val (E.drop words) / 2 ^ s=val ds / 2 ^ n:=by
     have e:=zk E words (by omega);have h4:=zy (G5.out.1.take words);rw [List.length_take,Nat.min_eq_left (by omega)] at h4;rw [yS.out] at e;rw [Vd.out,Nat.pow_add,<- Nat.div_div_eq_div_mul,<- HB.out,e,Nat.add_mul_div_left _ _ (Nat.pow_pos ui),Nat.div_eq_of_lt h4,Nat.zero_add]
    exact this
   obtain ⟨m,hm⟩:∃ m,m=E.length - words:=⟨_,rfl⟩;have Xa:m<=35184372088832:=by omega
   have Lh:0 < m:=by omega
   rw [<- hm] at Rt;have dB:=fun W=>qaa (m:Int) (by omega) (by omega) W
   generalize E.drop words=T at *;rw [hm] at dB;go_wp2_with fail;rw [<- hm];have fC:m<=c - words:=by omega
   have DT:c - words<=9223372036854775807:=by omega
   generalize c - words=c2 at *;clear hm dB e1 e2 h0 hcw
   have bI:Hid (qaz w w.heap.size s T 0 (w.alloc (Obj.cells (zt (List.replicate m 0)).toArray 84))):=
    ⟨List.replicate m 0,Row.new w _,by simp; exact Rt.out.symm,vg.replicate _,by simp,(Ext.refl _).alloc _⟩
   change Hid (yj w (some (ad.add words)) T) at GT
   generalize ad.add words=bd at *;have hP:0 < 2 ^ s:=Nat.pow_pos (by omega)
   go_loopw [33] (fun iv wr=>∃ k:Nat,k<=m/\iv=.int .i64 k/\Hid (qaz w w.heap.size s T k wr)) (fun iv _=>m - (intOf iv).toNat)
   case atStart=>exact ⟨0,by omega,rfl,bI⟩
   case round =>
    clear bI;obtain ⟨k,hk,rfl,HI⟩:=hrel;obtain ⟨zs,ae,dR,dM,dD,aA⟩:=HI.out;have YC:=Rt.out
    by_cases af:k < m
    · obtain ⟨_,x,e0,hb,ai,hx1,HX⟩:=(GT.out.ext aA).get_ k (by omega);injection e0 with e0
      subst e0;obtain ⟨z,gK,iU,_⟩:=ae.get_ k (by omega);have yG:T.getD k 0=x:=by rw [List.getD_eq_getElem?_getD,HX.out]; rfl
      by_cases mO:k+1 < m
      · obtain ⟨_,y,e0,dX,eQ,BP,HY⟩:=(GT.out.ext aA).get_ (k+1) (by omega);injection e0 with e0
        subst e0;rw [uby] at eQ;have Nr:T.getD (k+1) 0=y:=by rw [List.getD_eq_getElem?_getD,HY.out]; rfl
        have HS:=hid (qaz.step (z:=((x+B32 * y) / 2 ^ s) % B32) ae dR dM dD aA (Nat.le_refl _) (by omega) (by rw [yG,Nr]));have WS:bits .or .u64 (x:Int) ((y:Int) * 4294967296)=(x:Int)+y * 4294967296:=by
         have:=u64_or_nat x (y * 4294967296) (by omega) (by omega);rw [Nat.or_comm,nat_join 32 (y * 4294967296) x (by omega) (by omega)] at this;simp at this;omega
        have he:((x:Int)+y * 4294967296) / 2 ^ s % 4294967296=((((x+B32 * y) / 2 ^ s) % B32:Nat):Int):=by
         rw [Nat.mul_comm B32 y,ug]; simp
        have SY:=hid he;clear HI ae dR dM dD aA YC yG Nr he;go_wp2_with fail
        go_roundw
        case rel =>
         refine ⟨k+1,by omega,by go_num,?_⟩;rw [SY.out];exact HS
        case measure=>simp [intOf]; omega
      · have Nr:T.getD (k+1) 0=0:=by rw [List.getD_eq_getElem?_getD,List.getElem?_eq_none (by omega)]; rfl
        have HS:=hid (qaz.step (z:=((x+B32 * 0) / 2 ^ s) % B32) ae dR dM dD aA (Nat.le_refl _) (by omega) (by rw [yG,Nr]));have he:(x:Int) / 2 ^ s % 4294967296=((((x+B32 * 0) / 2 ^ s) % B32:Nat):Int):=by
         rw [Nat.mul_zero,Nat.add_zero,ug]; simp
        have SY:=hid he;clear HI ae dR dM dD aA YC yG Nr he;go_wp2_with fail
        go_roundw
        case rel =>
         refine ⟨k+1,by omega,by go_num,?_⟩;rw [SY.out];exact HS
        case measure=>simp [intOf]; omega
    · obtain rfl:k=m:=by omega
      have HV:Hid (val zs=val ds / 2 ^ n):=by
       have:val zs=val ds / 2 ^ n:=by
        rw [List.take_of_length_le (by omega),List.take_of_length_le (by rw [kb0]; omega)] at dD;rw [dD,wcp s bW T GT.out.1];exact xU.out
       exact this
      have HN:Hid (jb wr (.slice (some ⟨w.heap.size,0,none⟩) k k) zs):=ae.natVn dM _ _ (by omega) (Nat.le_refl _) (by omega);have HX:=hid aA;clear HI ae dR dM dD aA YC;go_wp2_with fail;refine (qw _ _ _ HN.out).mono ?_;rintro e w' ⟨v',rfl,hv,rfl⟩;rw [HV.out] at hv;have rH:=hid hv;clear hv;go_wp2_with fail;go_ret;exact ⟨v',rfl,rH.out,HX.out⟩
end Go.Proofs.YtcepajijiabkmaaGreat
