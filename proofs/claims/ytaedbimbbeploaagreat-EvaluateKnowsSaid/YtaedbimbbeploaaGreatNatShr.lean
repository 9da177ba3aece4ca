/- Layer 1 (natural): shifts to the right. -/
import Derived.Test.YtaedbimbbeploaaGreatNatShl
set_option linter.unusedSimpArgs false
set_option linter.unusedVariables false

set_option maxRecDepth 100000
set_option maxHeartbeats 8000000
namespace Go.Proofs.YtaedbimbbeploaaGreat
open Go.RowKit
def yaq (s : Nat) : List Nat -> List Nat
 | []=>[]
 | d :: r=>((d+B32 * r.headD 0) / 2 ^ s) % B32 :: yaq s r
theorem jbk (s:Nat) (T:List Nat):(yaq s T).length=T.length:=by
 induction T with
 | nil=>rfl
 | cons d r ih=>simp [yaq,ih]
theorem zb6 (s:Nat) (T:List Nat) (k:Nat) (hk:k < T.length):(yaq s T)[k]?=some (((T.getD k 0+B32 * T.getD (k+1) 0) / 2 ^ s) % B32):=by
 induction T generalizing k with
 | nil=>simp at hk
 | cons d r ih =>
   rcases k with _ | k
   · simp only [yaq,List.getElem?_cons_zero,List.getD_cons_zero,List.getD_cons_succ];cases r <;> rfl
   · simp only [yaq,List.getElem?_cons_succ,List.getD_cons_succ];exact ih k (by simpa using hk)
theorem vbw (d h P Q:Nat) (hP:0 < P) (hd:d < P * Q):((d+P * Q * h) / P) % (P * Q)=d / P+Q * (h % P):=by
 have e1:(d+P * Q * h) / P=d / P+Q * h:=by rw [Nat.mul_assoc,Nat.add_mul_div_left _ _ hP]
 have hdq:d / P < Q:=Nat.div_lt_of_lt_mul hd;have hm:=Nat.mod_lt h hP;have e2:d / P+Q * h=(d / P+Q * (h % P))+P * Q * (h / P):=by
  have e3:Q * h=Q * (h % P)+P * Q * (h / P):=by
   have:Q * (h % P+P * (h / P))=Q * h:=by rw [Nat.mod_add_div]
   rw [Nat.mul_add,<- Nat.mul_assoc,Nat.mul_comm Q P] at this;omega
  omega
 rw [e1,e2,Nat.add_mul_mod_self_left,Nat.mod_eq_of_lt];have:Q * (h % P+1)<=Q * P:=Nat.mul_le_mul_left _ hm;rw [Nat.mul_add,Nat.mul_one,Nat.mul_comm Q P] at this;omega
theorem wb5 (s:Nat) (hs:s < 32) (T:List Nat) (hT:ve T):val (yaq s T)=val T / 2 ^ s:=by
 have hB:B32=2 ^ s * 2 ^ (32 - s):=by rw [<- Nat.pow_add,show s+(32 - s)=32 from by omega]; rfl
 have hP:0 < 2 ^ s:=Nat.pow_pos (by omega)
 induction T with
 | nil=>simp [yaq]
 | cons d r ih =>
   have hmod:r.headD 0 % 2 ^ s=val r % 2 ^ s:=by
    cases r with
    | nil=>rfl
    | cons h t=>rw [List.headD_cons,val_cons,hB,Nat.mul_assoc,Nat.add_mul_mod_self_left]
   have hd:=hT.head;rw [yaq,val_cons,val_cons,ih hT.tail];generalize hq:2 ^ (32 - s)=Q at *;generalize hp:2 ^ s=P at *;rw [hB] at hd ⊢;rw [vbw d _ P Q hP hd,hmod,Nat.mul_assoc P Q (val r),Nat.add_mul_div_left _ _ hP,Nat.mul_assoc P Q,Nat.mul_left_comm P Q,Nat.add_assoc,<- Nat.mul_add,Nat.mod_add_div]
theorem qbj (a:Addr) (k:Nat):a.add (k+1)=⟨a.block,a.off+(k+1),none⟩:=by simp [Addr.add]
def zat (w0:World) (g s:Nat) (T:List Nat) (k:Nat) (wr:World):Prop:=
 ∃ zs:List Nat,Row wr g zs/\zs.length=T.length/\ve zs/\zs.take k=(yaq s T).take k/\Ext w0 wr
theorem zat.step {w0 wr : World} {g s : Nat} {T zs : List Nat} {k z : Nat} (hr : Row wr g zs) (hl : zs.length = T.length) (hd : ve zs) (ht : zs.take k = (yaq s T).take k) (hx : Ext w0 wr) (hg : w0.heap.size <= g)
 (hk:k < T.length) (hz:z=((T.getD k 0+B32 * T.getD (k+1) 0) / 2 ^ s) % B32):zat w0 g s T (k+1) (wr.setCell ⟨g,k,none⟩ (.int .u32 (z:Int))):=by
 refine ⟨zs.set k z,hr.set_ _ _,by rw [List.length_set,hl],hd.set _ _ (by rw [hz]; exact Nat.mod_lt _ uh),?_,hx.setCell (by simpa using hg) _⟩;rw [uw zs k z (by omega),ht,List.take_add_one,zb6 s T k hk,<- hz]
 rfl
theorem xcf (u:Value) (ds:List Nat) (n:Nat) (w:World) (h:ja w u ds) (hs:ds.length<=35184372088832) (hn:n<=9223372036854775807) :
 Calls Tryz.prog 145 #[u,.int .i64 (n:Nat)] w (zao (val ds / 2 ^ n) w):=by
 have hls:(dg (val ds)).length<=ds.length:=jd h.digs;go_enter Tryz.func145,Tryz.ntmps145;go_wp2_with fail;refine (wu u ds _ h).mono ?_;rintro e w' ⟨u',rfl,hu,rfl⟩;obtain ⟨A,c,rfl,h1,h2,h3⟩:=hu;have G5:=Lib.hid h3;have HVD:=Lib.hid (je (val ds));clear h3 h;generalize hE:dg (val ds)=E at *;have HE:=Lib.hid hE;clear hE;obtain ⟨words,s,hs1,hnw⟩:∃ words s:Nat,s < 32/\n=32 * words+s:=⟨n / 32,n % 32,by omega,by omega⟩;have HNW:=Lib.hid hnw;have e1:(n:Int) / 32=words:=by omega
 have e2:(n:Int) % 32=s:=by omega
 have hB:B32 ^ words=2 ^ (32 * words):=by rw [show B32=2 ^ 32 from rfl,<- Nat.pow_mul]
 have HB:=Lib.hid hB;clear hnw hB
 by_cases h0:E.length<=words
 · have HV:Hid (val ds / 2 ^ n=0):=by
    have:val ds / 2 ^ n=0:=by
     apply Nat.div_eq_of_lt;have h4:=ww G5.out.1;rw [HVD.out] at h4;refine Nat.lt_of_lt_of_le h4 (Nat.le_trans (Nat.pow_le_pow_right uh h0) ?_);rw [HB.out,HNW.out];exact Nat.pow_le_pow_right (by omega) (by omega)
    exact this
   go_wp2_with fail;go_ret;exact ⟨_,rfl,by rw [HV.out,jm]; exact ja.nil w,Ext.refl w⟩
 · obtain ⟨ad,rfl,-,-⟩:=G5.out.2 (by omega);have hcw:¬ (c=words):=by omega
   have GT:=Lib.hid (G5.out.drop words c (by omega) h1);rw [if_neg hcw] at GT;have HTL:Hid ((E.drop words).length=E.length - words):=by
    have:(E.drop words).length=E.length - words:=List.length_drop;exact this
   have HTV:Hid (val (E.drop words) / 2 ^ s=val ds / 2 ^ n):=by
    have:val (E.drop words) / 2 ^ s=val ds / 2 ^ n:=by
     have e:=yj E words (by omega);have h4:=ww (G5.out.1.take words);rw [List.length_take,Nat.min_eq_left (by omega)] at h4;rw [HVD.out] at e;rw [HNW.out,Nat.pow_add,<- Nat.div_div_eq_div_mul,<- HB.out,e,Nat.add_mul_div_left _ _ (Nat.pow_pos uh),Nat.div_eq_of_lt h4,Nat.zero_add]
    exact this
   obtain ⟨m,hm⟩:∃ m,m=E.length - words:=⟨_,rfl⟩;have hm1:m<=35184372088832:=by omega
   have hm2:0 < m:=by omega
   rw [<- hm] at HTL;have hmk:=fun W=>jy (m:Int) (by omega) (by omega) W
   generalize E.drop words=T at *;rw [hm] at hmk;go_wp2_with fail;rw [<- hm];have hcm:m<=c - words:=by omega
   have hcm2:c - words<=9223372036854775807:=by omega
   generalize c - words=c2 at *;clear hm hmk e1 e2 h0 hcw
   have HINV:Hid (zat w w.heap.size s T 0 (w.alloc (Obj.cells (jr (List.replicate m 0)).toArray 62))):=
    ⟨List.replicate m 0,Row.new w _,by simp; exact HTL.out.symm,ve.replicate _,by simp,(Ext.refl _).alloc _⟩
   change Hid (jh w (some (ad.add words)) T) at GT
   generalize ad.add words=bd at *;have hP:0 < 2 ^ s:=Nat.pow_pos (by omega)
   go_loopw [33] (fun iv wr=>∃ k:Nat,k<=m/\iv=.int .i64 k/\Hid (zat w w.heap.size s T k wr)) (fun iv _=>m - (intOf iv).toNat)
   case atStart=>exact ⟨0,by omega,rfl,HINV⟩
   case round =>
    clear HINV;obtain ⟨k,hk,rfl,HI⟩:=hrel;obtain ⟨zs,hrow,hzl,hzd,htk,hext⟩:=HI.out;have hTm:=HTL.out
    by_cases hlt:k < m
    · obtain ⟨_,x,e0,hb,hcell,hx1,HX⟩:=(GT.out.ext hext).get_ k (by omega);injection e0 with e0
      subst e0;obtain ⟨z,hz1,hz2,_⟩:=hrow.get_ k (by omega);have hxD:T.getD k 0=x:=by rw [List.getD_eq_getElem?_getD,HX.out]; rfl
      by_cases hlt2:k+1 < m
      · obtain ⟨_,y,e0,hb',hcell',hy1,HY⟩:=(GT.out.ext hext).get_ (k+1) (by omega);injection e0 with e0
        subst e0;rw [qbj] at hcell';have hyD:T.getD (k+1) 0=y:=by rw [List.getD_eq_getElem?_getD,HY.out]; rfl
        have HS:=Lib.hid (zat.step (z:=((x+B32 * y) / 2 ^ s) % B32) hrow hzl hzd htk hext (Nat.le_refl _) (by omega) (by rw [hxD,hyD]));have hor:bits .or .u64 (x:Int) ((y:Int) * 4294967296)=(x:Int)+y * 4294967296:=by
         have:=u64_or_nat x (y * 4294967296) (by omega) (by omega);rw [Nat.or_comm,nat_join 32 (y * 4294967296) x (by omega) (by omega)] at this;simp at this;omega
        have he:((x:Int)+y * 4294967296) / 2 ^ s % 4294967296=((((x+B32 * y) / 2 ^ s) % B32:Nat):Int):=by
         rw [Nat.mul_comm B32 y,yf]; simp
        have HEE:=Lib.hid he;clear HI hrow hzl hzd htk hext hTm hxD hyD he;go_wp2_with fail
        go_roundw
        case rel =>
         refine ⟨k+1,by omega,by go_num,?_⟩;rw [HEE.out];exact HS
        case measure=>simp [intOf]; omega
      · have hyD:T.getD (k+1) 0=0:=by rw [List.getD_eq_getElem?_getD,List.getElem?_eq_none (by omega)]; rfl
        have HS:=Lib.hid (zat.step (z:=((x+B32 * 0) / 2 ^ s) % B32) hrow hzl hzd htk hext (Nat.le_refl _) (by omega) (by rw [hxD,hyD]));have he:(x:Int) / 2 ^ s % 4294967296=((((x+B32 * 0) / 2 ^ s) % B32:Nat):Int):=by
         rw [Nat.mul_zero,Nat.add_zero,yf]; simp
        have HEE:=Lib.hid he;clear HI hrow hzl hzd htk hext hTm hxD hyD he;go_wp2_with fail
        go_roundw
        case rel =>
         refine ⟨k+1,by omega,by go_num,?_⟩;rw [HEE.out];exact HS
        case measure=>simp [intOf]; omega
    · obtain rfl:k=m:=by omega
      have HV:Hid (val zs=val ds / 2 ^ n):=by
       have:val zs=val ds / 2 ^ n:=by
        rw [List.take_of_length_le (by omega),List.take_of_length_le (by rw [jbk]; omega)] at htk;rw [htk,wb5 s hs1 T GT.out.1];exact HTV.out
       exact this
      have HN:Hid (ja wr (.slice (some ⟨w.heap.size,0,none⟩) k k) zs):=hrow.natVn hzd _ _ (by omega) (Nat.le_refl _) (by omega);have HX:=Lib.hid hext;clear HI hrow hzl hzd htk hext hTm;go_wp2_with fail;refine (wu _ _ _ HN.out).mono ?_;rintro e w' ⟨v',rfl,hv,rfl⟩;rw [HV.out] at hv;have HV2:=Lib.hid hv;clear hv;go_wp2_with fail;go_ret;exact ⟨v',rfl,HV2.out,HX.out⟩
end Go.Proofs.YtaedbimbbeploaaGreat
