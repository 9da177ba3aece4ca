/- Layer 1 (natural): shifts to the right. -/
import Derived.Test.YtheefiaoimbeiaaGreatDoorMt9
import Derived.Test.YtheefiaoimbeiaaGreatDoorMt0
set_option linter.unusedSimpArgs false
set_option linter.unusedVariables false
set_option maxRecDepth 100000
set_option maxHeartbeats 8000000
namespace Go.Proofs.YtheefiaoimbeiaaGreatDoor
open Go.RowKit
def zat (s : Nat) : List Nat -> List Nat
 | []=>[]
 | d :: r=>((d+B32 * r.headD 0) / 2 ^ s) % B32 :: zat s r
theorem ubo (s:Nat) (T:List Nat):(zat s T).length=T.length:=by
 induction T with
 | nil=>rfl
 | cons d r ih=>simp [zat,ih]
theorem kcb (s:Nat) (T:List Nat) (k:Nat) (hk:k < T.length):(zat s T)[k]?=some (((T.getD k 0+B32 * T.getD (k+1) 0) / 2 ^ s) % B32):=by
 induction T generalizing k with
 | nil=>simp at hk
 | cons d r ih =>
   rcases k with _ | k
   · simp only [zat,List.getElem?_cons_zero,List.getD_cons_zero,List.getD_cons_succ];cases r <;> rfl
   · simp only [zat,List.getElem?_cons_succ,List.getD_cons_succ];exact ih k (by simpa using hk)
theorem xb3 (d h P Q:Nat) (hP:0 < P) (hd:d < P * Q):((d+P * Q * h) / P) % (P * Q)=d / P+Q * (h % P):=by
 have e1:(d+P * Q * h) / P=d / P+Q * h:=by rw [Nat.mul_assoc,Nat.add_mul_div_left _ _ hP]
 have hdq:d / P < Q:=Nat.div_lt_of_lt_mul hd;have hm:=Nat.mod_lt h hP;have e2:d / P+Q * h=(d / P+Q * (h % P))+P * Q * (h / P):=by
  have e3:Q * h=Q * (h % P)+P * Q * (h / P):=by
   have:Q * (h % P+P * (h / P))=Q * h:=by rw [Nat.mod_add_div]
   rw [Nat.mul_add,<- Nat.mul_assoc,Nat.mul_comm Q P] at this;omega
  omega
 rw [e1,e2,Nat.add_mul_mod_self_left,Nat.mod_eq_of_lt];have:Q * (h % P+1)<=Q * P:=Nat.mul_le_mul_left _ hm;rw [Nat.mul_add,Nat.mul_one,Nat.mul_comm Q P] at this;omega
theorem jcb (s:Nat) (hs:s < 32) (T:List Nat) (hT:zg T):val (zat s T)=val T / 2 ^ s:=by
 have hB:B32=2 ^ s * 2 ^ (32 - s):=by rw [<- Nat.pow_add,show s+(32 - s)=32 from by omega]; rfl
 have hP:0 < 2 ^ s:=Nat.pow_pos (by omega)
 induction T with
 | nil=>simp [zat]
 | cons d r ih =>
   have hmod:r.headD 0 % 2 ^ s=val r % 2 ^ s:=by
    cases r with
    | nil=>rfl
    | cons h t=>rw [List.headD_cons,val_cons,hB,Nat.mul_assoc,Nat.add_mul_mod_self_left]
   have hd:=hT.head;rw [zat,val_cons,val_cons,ih hT.tail];generalize hq:2 ^ (32 - s)=Q at *;generalize hp:2 ^ s=P at *;rw [hB] at hd ⊢;rw [xb3 d _ P Q hP hd,hmod,Nat.mul_assoc P Q (val r),Nat.add_mul_div_left _ _ hP,Nat.mul_assoc P Q,Nat.mul_left_comm P Q,Nat.add_assoc,<- Nat.mul_add,Nat.mod_add_div]
theorem ybn (a:Addr) (k:Nat):a.add (k+1)=⟨a.block,a.off+(k+1),none⟩:=by simp [Addr.add]
def jaw (w0:World) (g s:Nat) (T:List Nat) (k:Nat) (wr:World):Prop:=
 ∃ zs:List Nat,Row wr g zs/\zs.length=T.length/\zg zs/\zs.take k=(zat s T).take k/\Ext w0 wr
theorem jaw.step {w0 wr : World} {g s : Nat} {T zs : List Nat} {k z : Nat} (hr : Row wr g zs) (hl : zs.length = T.length) (hd : zg zs) (ht : zs.take k = (zat s T).take k) (hx : Ext w0 wr) (hg : w0.heap.size <= g)
 (hk:k < T.length) (hz:z=((T.getD k 0+B32 * T.getD (k+1) 0) / 2 ^ s) % B32):jaw w0 g s T (k+1) (wr.setCell ⟨g,k,none⟩ (.int .u32 (z:Int))):=by
 refine ⟨zs.set k z,hr.set_ _ _,by rw [List.length_set,hl],hd.set _ _ (by rw [hz]; exact Nat.mod_lt _ uj),?_,hx.setCell (by simpa using hg) _⟩;rw [zab zs k z (by omega),ht,List.take_add_one,kcb s T k hk,<- hz]
 rfl
theorem wcm (u:Value) (ds:List Nat) (n:Nat) (w:World) (h:ja w u ds) (hs:ds.length<=35184372088832) (hn:n<=9223372036854775807) :
 Calls Tryz.prog 171 #[u,.int .i64 (n:Nat)] w (zar (val ds / 2 ^ n) w):=by
 have hls:(dg (val ds)).length<=ds.length:=ve h.digs;go_enter Tryz.func171,Tryz.ntmps171;go_wp2_with fail;refine (yz u ds _ h).mono ?_;rintro e w' ⟨u',rfl,hu,rfl⟩;obtain ⟨A,c,rfl,h1,h2,h3⟩:=hu;have G5:=Lib.hid h3;have HVD:=Lib.hid (je (val ds));clear h3 h;generalize hE:dg (val ds)=E at *;have HE:=Lib.hid hE;clear hE;obtain ⟨words,s,hs1,hnw⟩:∃ words s:Nat,s < 32/\n=32 * words+s:=⟨n / 32,n % 32,by omega,by omega⟩;have HNW:=Lib.hid hnw;have e1:(n:Int) / 32=words:=by omega
 have e2:(n:Int) % 32=s:=by omega
 have hB:B32 ^ words=2 ^ (32 * words):=by rw [show B32=2 ^ 32 from rfl,<- Nat.pow_mul]
 have HB:=Lib.hid hB;clear hnw hB
 by_cases h0:E.length<=words
 · have HV:Hid (val ds / 2 ^ n=0):=by
    have:val ds / 2 ^ n=0:=by
     apply Nat.div_eq_of_lt;have h4:=uab G5.out.1;rw [HVD.out] at h4;refine Nat.lt_of_lt_of_le h4 (Nat.le_trans (Nat.pow_le_pow_right uj h0) ?_);rw [HB.out,HNW.out];exact Nat.pow_le_pow_right (by omega) (by omega)
    exact this
   go_wp2_with fail;go_ret;exact ⟨_,rfl,by rw [HV.out,jm]; exact ja.nil w,Ext.refl w⟩
 · obtain ⟨ad,rfl,-,-⟩:=G5.out.2 (by omega);have hcw:¬ (c=words):=by omega
   have GT:=Lib.hid (G5.out.drop words c (by omega) h1);rw [if_neg hcw] at GT;have HTL:Hid ((E.drop words).length=E.length - words):=by
    have:(E.drop words).length=E.length - words:=List.length_drop;exact this
   have HTV:Hid (val (E.drop words) / 2 ^ s=val ds / 2 ^ n):=by
    have:val (E.drop words) / 2 ^ s=val ds / 2 ^ n:=by
     have e:=jl E words (by omega);have h4:=uab (G5.out.1.take words);rw [List.length_take,Nat.min_eq_left (by omega)] at h4;rw [HVD.out] at e;rw [HNW.out,Nat.pow_add,<- Nat.div_div_eq_div_mul,<- HB.out,e,Nat.add_mul_div_left _ _ (Nat.pow_pos uj),Nat.div_eq_of_lt h4,Nat.zero_add]
    exact this
   obtain ⟨m,hm⟩:∃ m,m=E.length - words:=⟨_,rfl⟩;have hm1:m<=35184372088832:=by omega
   have hm2:0 < m:=by omega
   rw [<- hm] at HTL;have hmk:=fun W=>vab (m:Int) (by omega) (by omega) W
   generalize E.drop words=T at *;rw [hm] at hmk;go_wp2_with fail;rw [<- hm];have hcm:m<=c - words:=by omega
   have hcm2:c - words<=9223372036854775807:=by omega
   generalize c - words=c2 at *;clear hm hmk e1 e2 h0 hcw
   have HINV:Hid (jaw w w.heap.size s T 0 (w.alloc (Obj.cells (jw (List.replicate m 0)).toArray 108))):=
    ⟨List.replicate m 0,Row.new w _,by simp; exact HTL.out.symm,zg.replicate _,by simp,(Ext.refl _).alloc _⟩
   change Hid (jk w (some (ad.add words)) T) at GT
   generalize ad.add words=bd at *;have hP:0 < 2 ^ s:=Nat.pow_pos (by omega)
   go_loopw [33] (fun iv wr=>∃ k:Nat,k<=m/\iv=.int .i64 k/\Hid (jaw w w.heap.size s T k wr)) (fun iv _=>m - (intOf iv).toNat)
   case atStart=>exact ⟨0,by omega,rfl,HINV⟩
   case round =>
    clear HINV;obtain ⟨k,hk,rfl,HI⟩:=hrel;obtain ⟨zs,hrow,hzl,hzd,htk,hext⟩:=HI.out;have hTm:=HTL.out
    by_cases hlt:k < m
    · obtain ⟨_,x,e0,hb,hcell,hx1,HX⟩:=(GT.out.ext hext).get_ k (by omega);injection e0 with e0
      subst e0;obtain ⟨z,hz1,hz2,_⟩:=hrow.get_ k (by omega);have hxD:T.getD k 0=x:=by rw [List.getD_eq_getElem?_getD,HX.out]; rfl
      by_cases hlt2:k+1 < m
      · obtain ⟨_,y,e0,hb',hcell',hy1,HY⟩:=(GT.out.ext hext).get_ (k+1) (by omega);injection e0 with e0
        subst e0;rw [ybn] at hcell';have hyD:T.getD (k+1) 0=y:=by rw [List.getD_eq_getElem?_getD,HY.out]; rfl
        have HS:=Lib.hid (jaw.step (z:=((x+B32 * y) / 2 ^ s) % B32) hrow hzl hzd htk hext (Nat.le_refl _) (by omega) (by rw [hxD,hyD]));have hor:bits .or .u64 (x:Int) ((y:Int) * 4294967296)=(x:Int)+y * 4294967296:=by
         have:=u64_or_nat x (y * 4294967296) (by omega) (by omega);rw [Nat.or_comm,nat_join 32 (y * 4294967296) x (by omega) (by omega)] at this;simp at this;omega
        have he:((x:Int)+y * 4294967296) / 2 ^ s % 4294967296=((((x+B32 * y) / 2 ^ s) % B32:Nat):Int):=by
         rw [Nat.mul_comm B32 y,yg]; simp
        have HEE:=Lib.hid he;clear HI hrow hzl hzd htk hext hTm hxD hyD he;go_wp2_with fail
        go_roundw
        case rel =>
         refine ⟨k+1,by omega,by go_num,?_⟩;rw [HEE.out];exact HS
        case measure=>simp [intOf]; omega
      · have hyD:T.getD (k+1) 0=0:=by rw [List.getD_eq_getElem?_getD,List.getElem?_eq_none (by omega)]; rfl
        have HS:=Lib.hid (jaw.step (z:=((x+B32 * 0) / 2 ^ s) % B32) hrow hzl hzd htk hext (Nat.le_refl _) (by omega) (by rw [hxD,hyD]));have he:(x:Int) / 2 ^ s % 4294967296=((((x+B32 * 0) / 2 ^ s) % B32:Nat):Int):=by
         rw [Nat.mul_zero,Nat.add_zero,yg]; simp
        have HEE:=Lib.hid he;clear HI hrow hzl hzd htk hext hTm hxD hyD he;go_wp2_with fail
        go_roundw
        case rel =>
         refine ⟨k+1,by omega,by go_num,?_⟩;rw [HEE.out];exact HS
        case measure=>simp [intOf]; omega
    · obtain rfl:k=m:=by omega
      have HV:Hid (val zs=val ds / 2 ^ n):=by
       have:val zs=val ds / 2 ^ n:=by
        rw [List.take_of_length_le (by omega),List.take_of_length_le (by rw [ubo]; omega)] at htk;rw [htk,jcb s hs1 T GT.out.1];exact HTV.out
       exact this
      have HN:Hid (ja wr (.slice (some ⟨w.heap.size,0,none⟩) k k) zs):=hrow.natVn hzd _ _ (by omega) (Nat.le_refl _) (by omega);have HX:=Lib.hid hext;clear HI hrow hzl hzd htk hext hTm;go_wp2_with fail;refine (yz _ _ _ HN.out).mono ?_;rintro e w' ⟨v',rfl,hv,rfl⟩;rw [HV.out] at hv;have HV2:=Lib.hid hv;clear hv;go_wp2_with fail;go_ret;exact ⟨v',rfl,HV2.out,HX.out⟩
/- Plain arithmetic of long division. No program in sight. -/
def gai (B U V:Nat):Nat:=min (B - 1) (U / V)
theorem ucs {B:Nat} (hB:0 < B) (U V:Nat):gai B U V < B:=by
 unfold gai; omega
theorem xbz {B:Nat} (hB:0 < B) {u v U V K r r':Nat} (hK:0 < K) (hu:u=U * K+r) (hr:r < K) (hv:v=V * K+r') (hr':r' < K) (hV:B<=V) (hq:u < v * B) :
 u / v<=gai B U V/\gai B U V<=u / v+1:=by
 have hV0:0 < V:=Nat.lt_of_lt_of_le hB hV;have hv0:0 < v:=by rw [hv]; have:=Nat.mul_pos hV0 hK; omega
 have hqB:u / v < B:=Nat.div_lt_of_lt_mul hq
 constructor
 · have h1:u / v * v<=u:=Nat.div_mul_le_self u v;have h2:u / v * V * K<=u / v * v:=by rw [hv,Nat.mul_assoc]; exact Nat.mul_le_mul_left _ (by omega)
   have h3:u / v * V * K < (U+1) * K:=by rw [Nat.add_mul,Nat.one_mul]; omega
   have h4:u / v * V < U+1:=Nat.lt_of_mul_lt_mul_right h3;have h5:u / v<=U / V:=(Nat.le_div_iff_mul_le hV0).2 (by omega);unfold gai; omega
 · rcases Nat.lt_or_ge (u / v+1) (U / V) with h | h
   · exfalso
     generalize hQ:u / v=Q at *;have h1:(Q+2) * V<=U:=(Nat.le_div_iff_mul_le hV0).1 h;have h2:(Q+2) * V * K<=u:=by
      have:=Nat.mul_le_mul_right K h1;omega
     have h3:u < (Q+1) * v:=by
      rw [Nat.add_mul,Nat.one_mul,Nat.mul_comm,<- hQ];have h7:=Nat.mod_lt u hv0;have h8:=Nat.div_add_mod u v;omega
     have h4:(Q+1) * v < (Q+1) * ((V+1) * K):=Nat.mul_lt_mul_of_pos_left (by rw [hv,Nat.add_mul,Nat.one_mul]; omega) (by omega);have h5:(Q+2) * V * K < (Q+1) * (V+1) * K:=by rw [Nat.mul_assoc (Q+1)]; omega
     have h6:=Nat.lt_of_mul_lt_mul_right h5;rw [Nat.add_mul,Nat.add_mul,Nat.one_mul,Nat.mul_add,Nat.mul_one] at h6;omega
   · unfold gai; omega
def kaw (B U2 U V v1 q r o:Nat):Prop:=q < B/\r < B/\o<=1/\r+B * o+q * v1=U2/\gai B U V<=q
theorem jbm {B:Nat} (hB:0 < B) {u2 u1 u0 v1 v2:Nat} (h1:u1 < B) (hv1:v1 < B) (he:u2=v1):kaw B (u2 * B+u1) (u2 * B * B+u1 * B+u0) (v1 * B+v2) v1 (B - 1) ((u1+v1) % B) ((u1+v1) / B):=by
 refine ⟨by omega,Nat.mod_lt _ hB,by have:=(Nat.div_lt_iff_lt_mul hB).2 (show u1+v1 < 2 * B by omega); omega,?_,by unfold gai; omega⟩;rw [Nat.mod_add_div,he,Nat.sub_mul,Nat.one_mul,Nat.mul_comm B v1];have:v1<=v1 * B:=Nat.le_mul_of_pos_right _ hB;omega
theorem ycj {B:Nat} (hB:0 < B) {u2 u1 u0 v1 v2:Nat} (h1:u1 < B) (h0:u0 < B) (hv1:v1 < B) (hlt:u2 < v1) :
 kaw B (u2 * B+u1) (u2 * B * B+u1 * B+u0) (v1 * B+v2) v1 ((u2 * B+u1) / v1) ((u2 * B+u1) % v1) 0:=by
 have hv0:0 < v1:=by omega
 have hm:=Nat.mod_lt (u2 * B+u1) hv0;have hq:u2 * B+u1 < v1 * B:=by
  have:(u2+1) * B<=v1 * B:=Nat.mul_le_mul_right _ hlt;rw [Nat.add_mul,Nat.one_mul] at this; omega
 refine ⟨Nat.div_lt_of_lt_mul hq,by omega,by omega,?_,?_⟩
 · rw [Nat.mul_zero,Nat.add_zero,Nat.mul_comm _ v1,Nat.add_comm]; exact Nat.div_add_mod _ _
 · have hV0:0 < v1 * B+v2:=by have:=Nat.mul_pos hv0 hB; omega
   have h2:(u2 * B * B+u1 * B+u0) / (v1 * B+v2)<=(u2 * B+u1) / v1:=by
    rw [Nat.le_div_iff_mul_le hv0];have h3:=Nat.div_mul_le_self (u2 * B * B+u1 * B+u0) (v1 * B+v2);generalize (u2 * B * B+u1 * B+u0) / (v1 * B+v2)=t at *;have h4:t * v1 * B<=t * (v1 * B+v2):=by rw [Nat.mul_assoc]; exact Nat.mul_le_mul_left _ (by omega)
    have h5:t * v1 * B < (u2 * B+u1+1) * B:=by rw [Nat.add_mul,Nat.add_mul,Nat.one_mul]; omega
    have:=Nat.lt_of_mul_lt_mul_right h5;omega
   unfold gai; omega
theorem kbm {B:Nat} (hB:0 < B) {u2 u1 u0 v1 v2 q r o:Nat} (h:kaw B (u2 * B+u1) (u2 * B * B+u1 * B+u0) (v1 * B+v2) v1 q r o) (hv1:0 < v1) (hstop:o=1\/q * v2<=r * B+u0) (hv2:v2 < B) :
 q=gai B (u2 * B * B+u1 * B+u0) (v1 * B+v2):=by
 obtain ⟨hq,hr,ho,he,hle⟩:=h;have hV0:0 < v1 * B+v2:=by have:=Nat.mul_pos hv1 hB; omega
 have hU:u2 * B * B+u1 * B+u0=(r+B * o) * B+q * v1 * B+u0:=by
  rw [<- Nat.add_mul,<- he,Nat.add_mul]
 have hqv:q * v2<=(r+B * o) * B+u0:=by
  rcases hstop with ho1 | h1
  · subst ho1;have h2:q * v2<=B * B:=Nat.mul_le_mul (by omega) (by omega);rw [Nat.add_mul,Nat.mul_one]; omega
  · rw [Nat.add_mul]; omega
 have h3:q<=(u2 * B * B+u1 * B+u0) / (v1 * B+v2):=by
  rw [Nat.le_div_iff_mul_le hV0,hU,Nat.mul_add,<- Nat.mul_assoc];omega
 unfold gai at *; omega
theorem qbm {B:Nat} (hB:0 < B) {u2 u1 u0 v1 v2 q r:Nat} (h:kaw B (u2 * B+u1) (u2 * B * B+u1 * B+u0) (v1 * B+v2) v1 q r 0) (hv1:0 < v1) (hv1B:v1 < B) (hgo:r * B+u0 < q * v2) :
 0 < q/\kaw B (u2 * B+u1) (u2 * B * B+u1 * B+u0) (v1 * B+v2) v1 (q - 1) ((r+v1) % B) ((r+v1) / B):=by
 obtain ⟨hq,hr,ho,he,hle⟩:=h;have hV0:0 < v1 * B+v2:=by have:=Nat.mul_pos hv1 hB; omega
 have hq0:0 < q:=by
  rcases Nat.eq_zero_or_pos q with e | e
  · rw [e,Nat.zero_mul] at hgo; omega
  · exact e
 have hU:u2 * B * B+u1 * B+u0=r * B+q * v1 * B+u0:=by
  rw [<- Nat.add_mul,<- he,Nat.mul_zero,Nat.add_zero,Nat.add_mul]
 have h3:(u2 * B * B+u1 * B+u0) / (v1 * B+v2) < q:=by
  rw [Nat.div_lt_iff_lt_mul hV0,hU,Nat.mul_add,<- Nat.mul_assoc];omega
 refine ⟨hq0,by omega,Nat.mod_lt _ hB,by have:=(Nat.div_lt_iff_lt_mul hB).2 (show r+v1 < 2 * B by omega); omega,?_,by unfold gai; omega⟩;rw [Nat.mod_add_div,Nat.sub_mul,Nat.one_mul];have:v1<=q * v1:=Nat.le_mul_of_pos_left _ hq0;omega
/- Layer 3 (division): the parts of long division. -/
set_option maxRecDepth 100000
set_option maxHeartbeats 8000000
def jb9 (B U2 U V v1:Nat) (w:World) (s11 s12 s13:Value) (wx:World):Prop:=
 ∃ q r o:Nat,s11=.int .u32 (q:Nat)/\s12=.int .u32 (r:Nat)/\s13=.int .u32 (o:Nat)/\kaw B U2 U V v1 q r o/\∃ n,wx=w.drewN n
theorem xbm (u2 u1 u0 v1 v2:Nat) (w:World) (hu2:u2<=v1) (hu1:u1 < 4294967296) (hu0:u0 < 4294967296) (hv1:v1 < 4294967296) (hv2:v2 < 4294967296) (hv10:2147483648<=v1) :
 Calls Tryz.prog 168 #[.int .u32 (u2:Nat),.int .u32 (u1:Nat),.int .u32 (u0:Nat),.int .u32 (v1:Nat),.int .u32 (v2:Nat)] w fun e w' =>
  e=.returned (.int .u32 (gai B32 (u2 * B32 * B32+u1 * B32+u0) (v1 * B32+v2):Nat))/\∃ n,w'=w.drewN n:=by
 go_enter Tryz.func168,Tryz.ntmps168
 go_upto_if 18 with (fail)
 go_cut [11,12,13] (fun s11 s12 s13 wx=>jb9 B32 (u2 * B32+u1) (u2 * B32 * B32+u1 * B32+u0) (v1 * B32+v2) v1 w s11 s12 s13 wx)
 case first =>
  by_cases h:u2 < v1
  · have hi:=Lib.hid (ycj (u0:=u0) (v2:=v2) uj (show u1 < B32 from hu1) (show u0 < B32 from hu0) (show v1 < B32 from hv1) h);go_wp2_with fail;refine (vcl _ _ _ _ (by omega) (by omega) (by omega) (by omega) (by omega)).mono ?_;rintro e w2 ⟨rfl,n2,rfl⟩;go_wp2_with fail
    go_meet
    refine ⟨_,_,0,?_,?_,rfl,hi.out,n2,rfl⟩
    · rw [yg]; simp
    · rw [yg]; simp
  · have he:u2=v1:=by omega
    have hi:=Lib.hid (jbm (u0:=u0) (v2:=v2) uj (show u1 < B32 from hu1) (show v1 < B32 from hv1) he);clear he;go_wp2_with fail;refine (add32 _ _ 0 _ (by omega) (by omega) (by omega) (by omega) (by omega) (by omega)).mono ?_;rintro e w2 ⟨rfl,rfl⟩;go_wp2_with fail
    go_meet
    refine ⟨_,_,_,?_,?_,?_,hi.out,0,rfl⟩
    · rfl
    · rw [yg]; simp
    · rw [yg]; simp
 case rest =>
  obtain ⟨q,r,o,rfl,rfl,rfl,hinv,n,rfl⟩:=hcut;have HI0:=Lib.hid hinv;clear hinv;go_wp2_with fail
  go_loopw [11,12,13] (fun s11 s12 s13 wx=>jb9 B32 (u2 * B32+u1) (u2 * B32 * B32+u1 * B32+u0) (v1 * B32+v2) v1 w s11 s12 s13 wx) (fun s11 _ _ _=>(intOf s11).toNat)
  case atStart=>exact ⟨q,r,o,rfl,rfl,rfl,HI0.out,n,rfl⟩
  case round =>
   clear HI0;obtain ⟨q,r,o,rfl,rfl,rfl,hinv,n,rfl⟩:=hrel;have hq:=hinv.1;have hr:=hinv.2.1;have ho:=hinv.2.2.1;have HI:=Lib.hid hinv;rw [yg] at hq hr;clear hinv
   by_cases ho0:o=0
   · subst ho0;go_wp2_with fail;refine (qbx _ _ _ (by omega) (by omega) (by omega) (by omega)).mono ?_;rintro e w2 ⟨rfl,rfl⟩;obtain ⟨H,hH⟩:∃ H:Nat,H=q * v2 / 4294967296:=⟨_,rfl⟩;obtain ⟨Lo,hLo⟩:∃ Lo:Nat,Lo=q * v2 % 4294967296:=⟨_,rfl⟩;have e1:(q:Int) * v2 / 4294967296=H:=by rw [hH]; simp
     have e2:(q:Int) * v2 % 4294967296=Lo:=by rw [hLo]; simp
     have hdec:q * v2=H * 4294967296+Lo:=by omega
     have hLo1:Lo < 4294967296:=by omega
     have HDEC:=Lib.hid hdec;rw [e1,e2];clear e1 e2 hH hLo hdec;have hdone:q * v2<=r * B32+u0->q=gai B32 (u2 * B32 * B32+u1 * B32+u0) (v1 * B32+v2):=fun h=>kbm uj HI.out (by omega) (.inr h) hv2
     have HDONE:=Lib.hid hdone;clear hdone;rcases Nat.lt_trichotomy H r with hlt | heq | hgt
     · have b1:decide (H < r)=true:=by simp [hlt]
       go_wp2_with fail;go_ret;refine ⟨?_,_,rfl⟩;have:=HDONE.out (by rw [yg]; have:=HDEC.out; omega);rw [<- this]
       rfl
     · subst heq;have b1:decide (H < H)=false:=by simp
       have b2:((H:Int) == (H:Int))=true:=by simp
       by_cases hl:Lo<=u0
       · have b3:decide (Lo<=u0)=true:=by simp [hl]
         go_wp2_with fail;go_ret;refine ⟨?_,_,rfl⟩;have:=HDONE.out (by rw [yg]; have:=HDEC.out; omega);rw [<- this]
         rfl
       · have b3:decide (Lo<=u0)=false:=by simp [hl]
         obtain ⟨hq0,hst⟩:=qbm uj HI.out (by omega) (show v1 < B32 from hv1) (by rw [yg]; have:=HDEC.out; omega);have HST:=Lib.hid hst;clear hst;go_wp2_with fail;refine (add32 _ _ 0 _ (by omega) (by omega) (by omega) (by omega) (by omega) (by omega)).mono ?_;rintro e w2 ⟨rfl,rfl⟩;go_wp2_with fail
         go_roundw
         case rel=>exact ⟨q - 1,_,_,by congr 1; omega,by rw [yg]; simp,by rw [yg]; simp,HST.out,_,rfl⟩
         case measure=>simp [intOf]; omega
     · have b1:decide (H < r)=false:=by simp; omega
       have b2:((H:Int) == (r:Int))=false:=beq_eq_false_iff_ne.2 (by omega);obtain ⟨hq0,hst⟩:=qbm uj HI.out (by omega) (show v1 < B32 from hv1) (by rw [yg]; have:=HDEC.out; omega);have HST:=Lib.hid hst;clear hst;go_wp2_with fail;refine (add32 _ _ 0 _ (by omega) (by omega) (by omega) (by omega) (by omega) (by omega)).mono ?_;rintro e w2 ⟨rfl,rfl⟩;go_wp2_with fail
       go_roundw
       case rel=>exact ⟨q - 1,_,_,by congr 1; omega,by rw [yg]; simp,by rw [yg]; simp,HST.out,_,rfl⟩
       case measure=>simp [intOf]; omega
   · obtain rfl:o=1:=by omega
     have hd:=kbm uj HI.out (by omega) (.inl rfl) hv2;have HD:=Lib.hid hd;clear hd;go_wp2_with fail;go_ret;refine ⟨?_,_,rfl⟩;rw [<- HD.out]
     rfl
/- Layer 3 (division): subtracting a multiple, adding back, in place. -/
set_option maxRecDepth 100000
set_option maxHeartbeats 8000000
def seg (zs:List Nat) (off k:Nat):List Nat:=(zs.drop off).take k
theorem waw {zs:List Nat} {off k r:Nat} (h:Hid (zs[off+k]?=some r)):val (seg zs off (k+1))=val (seg zs off k)+B32 ^ k * r:=by
 have h1:Hid ((zs.drop off)[k]?=some r):=by
  have:=h.out;rw [<- List.getElem?_drop] at this;exact this
 exact qg h1
theorem ycn {zs:List Nat} {off k d:Nat} (h:off+k < zs.length):val (seg (zs.set (off+k) d) off (k+1))=val (seg zs off k)+B32 ^ k * d:=by
 unfold seg;have hlk:k < (zs.drop off).length:=by rw [List.length_drop]; omega
 rw [List.drop_set,if_neg (by omega),Nat.add_sub_cancel_left,zab _ _ _ hlk,vaf,List.length_take,Nat.min_eq_left (by omega)]
theorem qbg {zs:List Nat} {i d:Nat}:(zs.set i d).drop (i+1)=zs.drop (i+1):=by
 rw [List.drop_set,if_pos (by omega)]
def waj (g off:Nat) (zs:List Nat) (k:Nat) (w0 wr:World) (ys:List Nat):Prop:=
 Row wr g ys/\ys.length=zs.length/\zg ys/\ys.take off=zs.take off/\ys.drop (off+k)=zs.drop (off+k)/\Only g w0 wr
theorem waj.get {g off k:Nat} {zs ys:List Nat} {w0 wr:World} (h:waj g off zs k w0 wr ys) (hk:off+k < zs.length) :
 ∃ r:Nat,wr.cell? ⟨g,off+k,none⟩=some (.int .u32 (r:Nat))/\wr.frozen? ⟨g,off+k,none⟩=false/\r < 4294967296/\Hid (zs[off+k]?=some r):=by
 obtain ⟨h1,h2,h3,h4,h5,h6⟩:=h;obtain ⟨r,c1,c2,c3⟩:=h1.get_ (off+k) (by omega);refine ⟨r,c1,c2,h3 _ (List.mem_of_getElem? c3.out),?_⟩;have e1:ys[off+k]?=(ys.drop (off+k))[0]?:=by rw [List.getElem?_drop]; simp
 have e2:zs[off+k]?=(zs.drop (off+k))[0]?:=by rw [List.getElem?_drop]; simp
 have:=c3.out;rw [e1,h5,<- e2] at this;exact this
theorem waj.set {g off k d:Nat} {zs ys:List Nat} {w0 wr:World} (h:waj g off zs k w0 wr ys) (hk:off+k < zs.length) (hd:d < B32) :
 waj g off zs (k+1) w0 (wr.setCell ⟨g,off+k,none⟩ (.int .u32 (d:Nat))) (ys.set (off+k) d)/\val (seg (ys.set (off+k) d) off (k+1))=val (seg ys off k)+B32 ^ k * d:=by
 obtain ⟨h1,h2,h3,h4,h5,h6⟩:=h;refine ⟨⟨h1.set_ _ _,by rw [List.length_set,h2],h3.set _ _ hd,by rw [List.take_set_of_le (by omega),h4],?_,h6.setCell _ _⟩,ycn (by omega)⟩;rw [show off+(k+1)=(off+k)+1 from by omega,qbg,<- List.drop_drop (i:=1) (j:=off+k),h5,List.drop_drop]
theorem vb2 (Sy Sz P c b d low c' b' p z D X:Nat) (h:Sy+D * X=Sz+P * (c+b)) (y:Nat) (hp:p=D * y) (h1:p+c=low+B32 * c') (h2:d+low+b=z+B32 * b') :
 (Sy+P * d)+D * (X+P * y)=(Sz+P * z)+P * B32 * (c'+b'):=by
 have e1:D * (X+P * y)=D * X+P * p:=by rw [Nat.mul_add,hp,Nat.mul_left_comm]
 have e2:P * (d+p+c+b)=P * (z+B32 * (c'+b')):=by congr 1; rw [Nat.mul_add]; omega
 rw [Nat.mul_add,Nat.mul_add,Nat.mul_add,Nat.mul_add,<- Nat.mul_assoc] at e2;rw [Nat.mul_add] at h;omega
def xbc (g off:Nat) (zs xs:List Nat) (D k c b:Nat) (w0 wr:World):Prop:=
 ∃ ys,waj g off zs k w0 wr ys/\val (seg ys off k)+D * val (xs.take k)=val (seg zs off k)+B32 ^ k * (c+b)
def kbt (g off n:Nat) (zs xs:List Nat) (D:Nat) (w:World) (e:Ending) (w':World):Prop:=
 ∃ (ys:List Nat) (b:Nat),b<=1/\e=.returned (.bool ((b:Int) != 0))/\waj g off zs (n+1) w w' ys/\val (seg ys off (n+1))+D * val xs=val (seg zs off (n+1))+B32 ^ (n+1) * b
theorem vca (g off zc n xc D : Nat) (zs xs : List Nat) (X : Option Addr) (w : World) (hrow : Row w g zs) (hzd : zg zs) (hzl : off + n + 1 <= zs.length) (hzc : n + 1 <= zc) (hzc' : zc <= 35184372088832)
 (hx:jk w X xs) (hxn:xs.length=n) (hxa:∀ ad,X=some ad->ad.block ≠ g) (hxc:n<=xc) (_hxc':xc<=9223372036854775807) (hD:D < 4294967296) :
 Calls Tryz.prog 169 #[.slice (some ⟨g,off,none⟩) (n+1) zc,.slice X n xc,.int .u32 (D:Nat)] w (kbt g off n zs xs D w):=by
 have HINV:Hid (xbc g off zs xs D 0 0 0 w w):=⟨zs,⟨hrow,rfl,hzd,rfl,rfl,Only.refl _ _⟩,by simp [seg]⟩;have HX:=Lib.hid hx;have HXN:=Lib.hid hxn;have HXA:=Lib.hid hxa;clear hx hxa hrow hzd hxn;go_enter Tryz.func169,Tryz.ntmps169;go_wp2_with fail
 go_loopw [7,8,17] (fun cv bv iv wr=>∃ k c b:Nat,k<=n/\iv=.int .i64 k/\cv=.int .u32 c/\bv=.int .u32 b/\c < 4294967296/\b<=1/\Hid (xbc g off zs xs D k c b w wr)) (fun _ _ iv _=>n - (intOf iv).toNat)
 case atStart=>exact ⟨0,0,0,by omega,rfl,rfl,rfl,by omega,by omega,HINV⟩
 case round =>
  clear HINV;obtain ⟨k,c,b,hk,rfl,rfl,rfl,hc,hb,HI⟩:=hrel;obtain ⟨ys,hseg,hval⟩:=HI.out;obtain ⟨r,hrc,hrf,hr1,HR⟩:=hseg.get (by omega)
  by_cases hlt:k < n
  · obtain ⟨ad,y,rfl,hbk,hcell,hy1,HY⟩:=(HX.out.only hseg.2.2.2.2.2 HXA.out).get_ k (by have:=HXN.out; omega);have hp0:(0:Int)<=(y:Int) * D:=Int.mul_nonneg (by omega) (by omega);have hp1:(y:Int) * D<=4294967295 * 4294967295:=Int.mul_le_mul (by omega) (by omega) (by omega) (by omega);have HSEG:=Lib.hid hseg;have HVAL:=Lib.hid hval;clear HI hseg hval;go_wp2_with fail;refine (qbx _ _ _ (by omega) (by omega) (by omega) (by omega)).mono ?_;rintro e w2 ⟨rfl,rfl⟩;go_wp2_with fail;refine (add32 _ _ 0 _ (by omega) (by omega) (by omega) (by omega) (by omega) (by omega)).mono ?_;rintro e w2 ⟨rfl,rfl⟩;go_wp2_with fail;obtain ⟨p,hp⟩:∃ p:Nat,p=D * y:=⟨_,rfl⟩;have hpI:(y:Int) * D=(p:Int):=by rw [hp]; simp [Int.mul_comm]
    rw [hpI] at hp1 ⊢;obtain ⟨low,hlow⟩:∃ low:Nat,low=(p+c) % 4294967296:=⟨_,rfl⟩;obtain ⟨cc,hcc⟩:∃ cc:Nat,cc=(p+c) / 4294967296:=⟨_,rfl⟩;have e1:((p:Int)+c) % 4294967296=low:=by omega
    have e2:(p:Int) / 4294967296+((p:Int) % 4294967296+c) / 4294967296=cc:=by omega
    have hcc1:cc < 4294967296:=by omega
    have hl1:low < 4294967296:=by omega
    rw [e1,e2];have HPC:Hid (p+c=low+B32 * cc):=by
     have:p+c=low+B32 * cc:=by rw [yg]; omega
     exact this
    have HP:=Lib.hid hp;clear hlow hcc e1 e2 hpI hp0 hp1 hp;refine (ubu _ _ _ _ (by omega) (by omega) (by omega) (by omega) (by omega) (by omega)).mono ?_;rintro e w2 ⟨rfl,rfl⟩;obtain ⟨d,hd1⟩:=Int.eq_ofNat_of_zero_le (show 0<=((r:Int) - low - b) % 4294967296 by omega);obtain ⟨b',hb'⟩:=Int.eq_ofNat_of_zero_le (qaw r low b).1;have hb2:=(qaw r low b).2;rw [hb'] at hb2;have hdc:d+low+b=r+B32 * b':=by
     rw [yg];unfold bor at hb'
     split at hb' <;> omega
    have hdlt:d < B32:=by rw [yg]; omega
    rw [hd1,hb'];have HS:Hid (xbc g off zs xs D (k+1) cc b' w (wr.setCell ⟨g,off+k,none⟩ (.int .u32 (d:Nat)))):=by
     obtain ⟨s1,s2⟩:=HSEG.out.set (d:=d) (by omega) hdlt;refine ⟨_,s1,?_⟩;rw [s2,qg HY,waw HR,Nat.pow_succ];exact vb2 _ _ _ _ _ _ _ _ _ _ _ _ _ HVAL.out y HP.out HPC.out hdc
    clear hd1 hb' hdc HSEG HVAL HR;go_wp2_with fail
    go_roundw
    case rel=>exact ⟨k+1,cc,b',by omega,by go_num,rfl,rfl,hcc1,by omega,HS⟩
    case measure=>simp [intOf]; omega
  · obtain rfl:k=n:=by omega
    have HSEG:=Lib.hid hseg;have HVAL:=Lib.hid hval;clear HI hseg hval;go_wp2_with fail;refine (ubu _ _ _ _ (by omega) (by omega) (by omega) (by omega) (by omega) (by omega)).mono ?_;rintro e w2 ⟨rfl,rfl⟩;obtain ⟨d,hd1⟩:=Int.eq_ofNat_of_zero_le (show 0<=((r:Int) - c - b) % 4294967296 by omega);obtain ⟨b',hb'⟩:=Int.eq_ofNat_of_zero_le (qaw r c b).1;have hb2:=(qaw r c b).2;rw [hb'] at hb2;have hdc:d+c+b=r+B32 * b':=by
     rw [yg];unfold bor at hb'
     split at hb' <;> omega
    have hdlt:d < B32:=by rw [yg]; omega
    rw [hd1,hb'];have hbb:b'<=1:=by omega
    have HF:Hid (kbt g off k zs xs D w (.returned (.bool ((b':Int) != 0))) (wr.setCell ⟨g,off+k,none⟩ (.int .u32 (d:Nat)))):=by
     obtain ⟨s1,s2⟩:=HSEG.out.set (d:=d) (by omega) hdlt;refine ⟨_,b',hbb,rfl,s1,?_⟩;rw [s2,waw HR,Nat.pow_succ];have h3:=HVAL.out;rw [List.take_of_length_le (by have:=HXN.out; omega)] at h3;have e2:B32 ^ k * (d+c+b)=B32 ^ k * (r+B32 * b'):=by rw [hdc]
     rw [Nat.mul_add,Nat.mul_add,Nat.mul_add,<- Nat.mul_assoc] at e2;rw [Nat.mul_add] at h3;omega
    clear hd1 hb' hdc HSEG HVAL HR;go_wp2_with fail;go_ret;exact HF.out
theorem vbf (Sy Sz P c d r y c' X:Nat) (h:Sy+P * c=Sz+X) (h1:r+y+c=d+B32 * c'):(Sy+P * d)+P * B32 * c'=(Sz+P * r)+(X+P * y):=by
 have e2:P * (r+y+c)=P * (d+B32 * c'):=by rw [h1]
 rw [Nat.mul_add,Nat.mul_add,Nat.mul_add,<- Nat.mul_assoc] at e2;omega
def vbc (g off:Nat) (zs xs:List Nat) (k c:Nat) (w0 wr:World):Prop:=
 ∃ ys,waj g off zs k w0 wr ys/\val (seg ys off k)+B32 ^ k * c=val (seg zs off k)+val (xs.take k)
def ubt (g off n:Nat) (zs xs:List Nat) (w:World) (e:Ending) (w':World):Prop:=
 ∃ (ys:List Nat) (c:Nat),e=.returned (.tuple #[])/\waj g off zs (n+1) w w' ys/\val (seg ys off (n+1))+B32 ^ (n+1) * c=val (seg zs off (n+1))+val xs
theorem gck (g off zc n xc : Nat) (zs xs : List Nat) (X : Option Addr) (w : World) (hrow : Row w g zs) (hzd : zg zs) (hzl : off + n + 1 <= zs.length) (hzc : n + 1 <= zc) (hzc' : zc <= 35184372088832)
 (hx:jk w X xs) (hxn:xs.length=n) (hxa:∀ ad,X=some ad->ad.block ≠ g) (hxc:n<=xc) (_hxc':xc<=9223372036854775807) :
 Calls Tryz.prog 170 #[.slice (some ⟨g,off,none⟩) (n+1) zc,.slice X n xc] w (ubt g off n zs xs w):=by
 have HINV:Hid (vbc g off zs xs 0 0 w w):=⟨zs,⟨hrow,rfl,hzd,rfl,rfl,Only.refl _ _⟩,by simp [seg]⟩;have HX:=Lib.hid hx;have HXN:=Lib.hid hxn;have HXA:=Lib.hid hxa;clear hx hxa hrow hzd hxn;go_enter Tryz.func170,Tryz.ntmps170;go_wp2_with fail
 go_loopw [4,9] (fun cv iv wr=>∃ k c:Nat,k<=n/\iv=.int .i64 k/\cv=.int .u32 c/\c<=1/\Hid (vbc g off zs xs k c w wr)) (fun _ iv _=>n - (intOf iv).toNat)
 case atStart=>exact ⟨0,0,by omega,rfl,rfl,by omega,HINV⟩
 case round =>
  clear HINV;obtain ⟨k,c,hk,rfl,rfl,hc,HI⟩:=hrel;obtain ⟨ys,hseg,hval⟩:=HI.out;obtain ⟨r,hrc,hrf,hr1,HR⟩:=hseg.get (by omega)
  by_cases hlt:k < n
  · obtain ⟨ad,y,rfl,hbk,hcell,hy1,HY⟩:=(HX.out.only hseg.2.2.2.2.2 HXA.out).get_ k (by have:=HXN.out; omega);have HS:Hid (vbc g off zs xs (k+1) ((r+y+c) / B32) w (wr.setCell ⟨g,off+k,none⟩ (.int .u32 (((r+y+c) % B32:Nat):Int)))):=by
     obtain ⟨s1,s2⟩:=hseg.set (d:=(r+y+c) % B32) (by omega) (Nat.mod_lt _ uj);refine ⟨_,s1,?_⟩;rw [s2,qg HY,waw HR,Nat.pow_succ];exact vbf _ _ _ _ _ _ _ _ _ hval (Nat.mod_add_div _ _).symm
    clear HI hseg hval;go_wp2_with fail;refine (add32 _ _ _ _ (by omega) (by omega) (by omega) (by omega) (by omega) (by omega)).mono ?_;rintro e w2 ⟨rfl,rfl⟩;go_wp2_with fail
    go_roundw
    case rel =>
     refine ⟨k+1,(r+y+c) / B32,by omega,by go_num,by rw [yg]; congr 1,by rw [yg]; omega,?_⟩;rw [show (((r:Int)+y+c) % 4294967296)=(((r+y+c) % B32:Nat):Int) from by rw [yg]; omega];exact HS
    case measure=>simp [intOf]; omega
  · obtain rfl:k=n:=by omega
    have HF:Hid (ubt g off k zs xs w (.returned (.tuple #[])) (wr.setCell ⟨g,off+k,none⟩ (.int .u32 (((r+c) % B32:Nat):Int)))):=by
     obtain ⟨s1,s2⟩:=hseg.set (d:=(r+c) % B32) (by omega) (Nat.mod_lt _ uj);refine ⟨_,(r+c) / B32,rfl,s1,?_⟩;rw [s2,waw HR,Nat.pow_succ];have h3:=hval;rw [List.take_of_length_le (by have:=HXN.out; omega)] at h3;have:=vbf _ _ _ _ _ _ 0 _ _ h3 (Nat.mod_add_div (r+0+c) _).symm;simpa using this
    clear HI hseg hval;go_wp2_with fail
    go_end0
    rw [show (((r:Int)+c) % 4294967296)=(((r+c) % B32:Nat):Int) from by rw [yg]; omega];exact HF.out
end Go.Proofs.YtheefiaoimbeiaaGreatDoor
