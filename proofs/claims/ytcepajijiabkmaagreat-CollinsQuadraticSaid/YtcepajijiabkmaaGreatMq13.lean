/- Reference 20: Few: is a sum of terms, in any form, of a size that is looked at? Law 24: Few. -/
import Derived.Test.YtcepajijiabkmaaGreatMq12
set_option linter.unusedSimpArgs false
set_option linter.unusedVariables false

set_option maxRecDepth 100000
set_option maxHeartbeats 8000000
namespace Go.Proofs.YtcepajijiabkmaaGreat
open Lib (hid)
open Go.RowKit
structure gag where
 neg:Bool
 ds:List Nat
 mo:Mo
def ybp (w:World) (A:Option Addr) (ts:List gag):Prop:=∀ i (h:i < ts.length),∃ ad B c,A=some ad/\ad.block < w.heap.size/\vak w (ad.add (i * 6)) ts[i].neg (.slice B ts[i].ds.length c) ts[i].mo/\jb w (.slice B ts[i].ds.length c) ts[i].ds
def kaj (w:World) (v:Value) (ts:List gag):Prop:=∃ A c,v=.slice A ts.length c/\ts.length<=c/\c<=9223372036854775807/\ybp w A ts
theorem ybp.ext {w w':World} {A:Option Addr} {ts:List gag} (h:ybp w A ts) (hx:Ext w w'):ybp w' A ts:=by
 intro i hi;obtain ⟨ad,B,c,e,hb,h1,h2⟩:=h i hi;exact ⟨ad,B,c,e,Nat.lt_of_lt_of_le hb hx.size,h1.ext hx (by rw [ja]; exact hb),h2.ext hx⟩
theorem kaj.ext {w w':World} {v:Value} {ts:List gag} (h:kaj w v ts) (hx:Ext w w'):kaj w' v ts:=by
 obtain ⟨A,c,e,h1,h2,h3⟩:=h;exact ⟨A,c,e,h1,h2,h3.ext hx⟩
def gag.few (d:Nat) (e:Int) (t:gag):Prop:=t.ds.length<=d/\t.mo.le e
def ybz (ts:List gag) (n d:Nat) (e:Int) (w:World) (x:Ending) (w':World):Prop:=∃ b,x=.returned (.bool b)/\(b=true->ts.length<=n/\∀ t ∈ ts,t.few d e)/\Ext w w'
theorem vc5 {m:Mo} {e:Int} (h:∀ j:Nat,j < 4->m.get ((j+1:Nat):Int)<=e):m.le e:=by
 have h0:=h 0 (by omega);have h1:=h 1 (by omega);have h2:=h 2 (by omega);have h3:=h 3 (by omega);simp [Mo.get] at h0 h1 h2 h3;exact ⟨h0,h1,h2,h3⟩
theorem kcl {w:World} {v:Value} {ts:List gag} (n d:Nat) (e:Int) (h:kaj w v ts):Calls Tryz.prog 27 #[v,.int .i64 n,.int .i64 d,.int .i64 e] w (ybz ts n d e w):=by
 obtain ⟨A,c,rfl,dY,dK,aK⟩:=h;have lJ:=hid aK;clear aK
 by_cases hn:n < ts.length
 · have uQ:decide (n < ts.length)=true:=by simpa using hn
   go_enter Tryz.func27,Tryz.ntmps27;go_wp2_with fail;go_ret;exact ⟨false,rfl,by simp,Ext.refl w⟩
 have uQ:decide (n < ts.length)=false:=by simpa using hn
 have HN:=hid hn;go_enter Tryz.func27,Tryz.ntmps27;go_wp2_with fail
 go_loopw [9] (fun iv wr=>∃ k:Nat,k<=ts.length/\iv=.int .i64 k/\Hid ((∀ t ∈ ts.take k,t.few d e)/\Ext w wr)) (fun iv _=>ts.length - (intOf iv).toNat)
 case atStart=>exact ⟨0,Nat.zero_le _,rfl,fun t ht=>by simp at ht,Ext.refl w⟩
 case round =>
  obtain ⟨k,hk,rfl,⟨iC,hx⟩⟩:=hrel;have HA:=hid iC;have HX:=hid hx;clear iC hx
  by_cases af:k < ts.length
  · obtain ⟨ad,B,c',rfl,hb,jA,-⟩:=lJ.out k af;have dD:=jA.ext HX.out (by rw [ja]; exact hb);have ZE:Hid (∀ j:Nat,j < 4->wr.cell? ⟨(ad.add (k * 6)).block,(ad.add (k * 6)).off+2+j,none⟩=some (.int .i64 (ts[k].mo.get ((j+1:Nat):Int)))):=dD.get_;have rJ:Hid (ts[k].few d e->∀ t ∈ ts.take (k+1),t.few d e):=hid (fun h t ht=>by
     rw [List.take_succ_eq_append_getElem af] at ht;rcases List.mem_append.1 ht with ht | ht
     · exact HA.out t ht
     · rw [List.mem_singleton.1 ht]; exact h)
    have a1:=dD.2.1;clear dD jA;generalize ts[k]=tk at *
    by_cases hd:d < tk.ds.length
    · have kX:decide (d < tk.ds.length)=true:=by simpa using hd
      go_wp2_with fail;go_ret;exact ⟨false,rfl,by simp,HX.out⟩
    have kX:decide (d < tk.ds.length)=false:=by simpa using hd
    have HD:Hid (tk.ds.length<=d):=hid (by omega);go_wp2_with fail;clear a1
    go_loopw [10] (fun jv wi=>∃ j:Nat,j<=4/\jv=.int .i64 j/\Hid ((∀ i:Nat,i < j->tk.mo.get ((i+1:Nat):Int)<=e)/\Ext wr wi)) (fun jv _=>4 - (intOf jv).toNat)
    case atStart=>exact ⟨0,Nat.zero_le _,rfl,fun i hi=>by omega,Ext.refl wr⟩
    case round =>
     obtain ⟨j,hj,rfl,⟨hle,hxi⟩⟩:=hrel;have zB:=hid hle;have Cm:=hid hxi;clear hle hxi
     by_cases oW:j < 4
     · have hcj:=(Cm.out.cell (p:=⟨(ad.add (k * 6)).block,(ad.add (k * 6)).off+2+j,none⟩) (by show (ad.add (k * 6)).block < _; rw [ja]; exact Nat.lt_of_lt_of_le hb HX.out.size)).trans (ZE.out j oW);generalize hgx:tk.mo.get ((j+1:Nat):Int)=x at hcj;have HGX:=hid hgx;clear hgx
       by_cases CZ:x<=e
       · have MH:Hid (∀ i:Nat,i < j+1->tk.mo.get ((i+1:Nat):Int)<=e):=hid (fun i hi=>by
          rcases Nat.lt_or_eq_of_le (Nat.le_of_lt_succ hi) with h | rfl
          · exact zB.out i h
          · rw [HGX.out]; exact CZ)
         go_wp2_with fail
         all_goals first
           | (go_ret
              exact ⟨false,rfl,by simp,HX.out.trans Cm.out⟩)
           | (go_roundw
              case rel=>exact ⟨j+1,by omega,by go_num,MH.out,Cm.out⟩
              case measure=>simp [intOf]; omega)
       · go_wp2_with fail
         all_goals
          go_ret;exact ⟨false,rfl,by simp,HX.out.trans Cm.out⟩
     · obtain rfl:j=4:=by omega
       have HF:Hid (tk.few d e):=hid ⟨HD.out,vc5 zB.out⟩;go_wp2_with fail
       go_roundw
       case rel=>exact ⟨k+1,by omega,by go_num,rJ.out HF.out,HX.out.trans Cm.out⟩
       case measure=>simp [intOf]; omega
  · obtain rfl:k=ts.length:=by omega
    have HF:Hid (∀ t ∈ ts,t.few d e):=hid (by have:=HA.out; rwa [List.take_length] at this);go_wp2_with fail;go_ret;exact ⟨true,rfl,fun _=>⟨by omega,HF.out⟩,HX.out⟩
theorem va5 {w:World} {v:Value} {ts:List gag} (n:Nat) (e:Int) (h:kaj w v ts):Calls Tryz.prog 7 #[v,.int .i64 n,.int .i64 e] w (ybz ts n 4 e w):=by
 have HC:Hid (∀ w',Ext w w'->Calls Tryz.prog 27 #[v,.int .i64 n,.int .i64 4,.int .i64 e] w' (ybz ts n 4 e w')):=hid (fun w' hx=>kcl n 4 e (h.ext hx));obtain ⟨A,c,rfl,dY,dK,-⟩:=h;go_enter Tryz.func7,Tryz.ntmps7;go_wp2_with fail;refine (HC.out _ (by first | exact Ext.refl w | exact (Ext.refl w).drew)).mono ?_;rintro x w2 ⟨b,rfl,hb,x2⟩;have HB:=hid hb;have X2:=hid x2;clear hb x2;go_wp2_with fail;go_ret;exact ⟨b,rfl,HB.out,X2.out⟩
theorem zat (x:Rat) (m n:Nat):x ^ (m+n)=x ^ m * x ^ n:=by
 induction n with
 | zero=>simp
 | succ n ih=>rw [<- Nat.add_assoc,Rat.pow_succ,ih,Rat.pow_succ]; grind
theorem vcq (x:Rat) (m n:Nat):x ^ (m * n)=(x ^ m) ^ n:=by
 induction n with
 | zero=>simp
 | succ n ih=>rw [Nat.mul_succ,zat,ih,Rat.pow_succ]
def Mo.num (E:Nat) (m:Mo):Nat:=m.a.toNat+E * (m.b.toNat+E * (m.c.toNat+E * m.d.toNat))
theorem uan {E x x' y y':Nat} (hx:x < E) (h:y < y'):x+E * y < x'+E * y':=by
 have h1:E * (y+1)<=E * y':=Nat.mul_le_mul_left E h;rw [Nat.mul_add] at h1;omega
theorem Mo.num_lt {E:Nat} {m n:Mo} (hm:m.nonneg) (hn:n.nonneg) (hE:m.a < E/\m.b < E/\m.c < E/\m.d < E) (h:m.lt n):m.num E < n.num E:=by
 unfold Mo.lt at h;unfold Mo.nonneg at hm hn;unfold Mo.num;rcases h with h | ⟨h1,h | ⟨h2,h | ⟨h3,h⟩⟩⟩
 · exact uan (by omega) (uan (by omega) (uan (by omega) (by omega)))
 · rw [h1]; exact uan (by omega) (uan (by omega) (by omega))
 · rw [h1,h2]; exact uan (by omega) (by omega)
 · rw [h1,h2,h3]; omega
def xaq (E B : Nat) : Sp -> Int
 | []=>0
 | (c,m) :: r=>c * (B:Int) ^ m.num E+xaq E B r
def kro (E B:Nat) (i:Int):Rat:=(B:Rat) ^ (E ^ (i - 1).toNat)
theorem Mo.val_kro (E B:Nat) (m:Mo):m.val (kro E B)=(B:Rat) ^ m.num E:=by
 unfold Mo.val kro Mo.num;simp only [<- vcq,<- zat]
 congr 1
 simp only [show ((1:Int) - 1).toNat=0 from rfl,show ((2:Int) - 1).toNat=1 from rfl,show ((3:Int) - 1).toNat=2 from rfl,show ((4:Int) - 1).toNat=3 from rfl,Nat.pow_zero,Nat.pow_one]
 grind
theorem wbp (E B:Nat) (l:Sp):jk (kro E B) l=(xaq E B l:Rat):=by
 induction l with
 | nil=>simp [jk,xaq]
 | cons x l ih =>
   obtain ⟨c,m⟩:=x;simp only [jk,xaq,ih,Mo.val_kro]
   push_cast
   rfl
theorem gc1 (E B K:Nat) (hB:0 < B) (l:Sp) (h:∀ x ∈ l,x.2.num E<=K):(xaq E B l).natAbs<=yg l * B ^ K:=by
 induction l with
 | nil=>simp [xaq]
 | cons x l ih =>
   obtain ⟨c,m⟩:=x;have h1:=ih fun x hx=>h x (List.mem_cons_of_mem _ hx)
   have h2:B ^ m.num E<=B ^ K:=Nat.pow_le_pow_right hB (h (c,m) (List.mem_cons_self ..));simp only [xaq,yg];have h3:(c * (B:Int) ^ m.num E).natAbs=c.natAbs * B ^ m.num E:=by
    rw [Int.natAbs_mul,Int.natAbs_pow,Int.natAbs_natCast]
   have h4:c.natAbs * B ^ m.num E<=c.natAbs * B ^ K:=Nat.mul_le_mul_left _ h2;have h5:=Int.natAbs_add_le (c * (B:Int) ^ m.num E) (xaq E B l);rw [Nat.add_mul];omega
theorem xah (c:Int) (m:Mo) (l:Sp):yg ((c,m) :: l)=c.natAbs+yg l:=rfl
theorem yb7 {l:Sp} (h:qp l) (hn:∀ x ∈ l,x.2.nonneg) (E:Nat) (hE:∀ x ∈ l,x.2.le E) (B:Nat) (hB:yg l+1<=B) (au:l ≠ []):xaq (E+1) B l ≠ 0:=by
 intro h2;cases l with
 | nil=>exact au rfl
 | cons x r =>
   obtain ⟨c,m⟩:=x;simp only [xaq] at h2;have hc:=h.1;rw [xah] at hB;have Oy:∀ x ∈ r,x.2.num (E+1) < m.num (E+1):=fun x hx=>by
    refine Mo.num_lt (hn x (List.mem_cons_of_mem _ hx)) (hn _ (List.mem_cons_self ..)) ?_ (h.2.1 x hx);have:=hE x (List.mem_cons_of_mem _ hx);unfold Mo.le at this;omega
   have h3:(c * (B:Int) ^ m.num (E+1)).natAbs=c.natAbs * B ^ m.num (E+1):=by
    rw [Int.natAbs_mul,Int.natAbs_pow,Int.natAbs_natCast]
   have h4:(xaq (E+1) B r).natAbs=(c * (B:Int) ^ m.num (E+1)).natAbs:=by omega
   have bZ:1<=c.natAbs:=by omega
   cases r with
   | nil =>
     simp only [xaq,Int.natAbs_zero] at h4;rw [h3] at h4;have:0 < B ^ m.num (E+1):=Nat.pow_pos (by omega);have:=Nat.mul_le_mul_right (B ^ m.num (E+1)) bZ;omega
   | cons y r' =>
     have hy:=Oy y (List.mem_cons_self ..);obtain ⟨K,hK⟩:∃ K,m.num (E+1)=K+1:=⟨m.num (E+1) - 1,by omega⟩;have h5:=gc1 (E+1) B K (by omega) (y :: r') (fun x hx=>by have:=Oy x hx; omega);rw [h4,h3,hK,Nat.pow_succ] at h5;have hp:0 < B ^ K:=Nat.pow_pos (by omega);generalize B ^ K=P at *;generalize yg (y :: r')=S at *;have h6:1 * (P * B)<=c.natAbs * (P * B):=Nat.mul_le_mul_right _ bZ;have h7:P * (S+2)<=P * B:=Nat.mul_le_mul_left _ (by omega);have h8:P * (S+2)=S * P+2 * P:=by grind
     omega
theorem qb9 {l:Sp} (h:qp l) (hn:∀ x ∈ l,x.2.nonneg) (E:Nat) (hE:∀ x ∈ l,x.2.le E) (hz:∀ ρ,jk ρ l=0):l=[]:=by
 cases l with
 | nil=>rfl
 | cons x r =>
   have h1:=hz (kro (E+1) (yg (x :: r)+1));rw [wbp] at h1;exact absurd (by exact_mod_cast h1) (yb7 h hn E hE _ (Nat.le_refl _) (by simp))
theorem Mo.le_sup (l:Sp):∃ E:Nat,∀ x ∈ l,x.2.le E:=by
 induction l with
 | nil=>exact ⟨0,by simp⟩
 | cons x r ih =>
   obtain ⟨E,h⟩:=ih;refine ⟨E+x.2.a.toNat+x.2.b.toNat+x.2.c.toNat+x.2.d.toNat,fun y hy=>?_⟩;rcases List.mem_cons.1 hy with rfl | hy
   · unfold Mo.le; omega
   · exact (h y hy).mono (by omega)
theorem xa4 {l l':Sp} (hn:∀ x ∈ l,x.2.nonneg) (Ub:∀ x ∈ l',x.2.nonneg) (h:∀ ρ,jk ρ l=jk ρ l') (k:Mo):je l k=je l' k:=by
 have kU:∀ x ∈ l ++ yan l',x.2.nonneg:=fun x hx=>by
  rcases List.mem_append.1 hx with hx | hx
  · exact hn x hx
  · unfold yan at hx;obtain ⟨y,hy,rfl⟩:=List.mem_map.1 hx;exact Ub y hy
 obtain ⟨E,hE⟩:=Mo.le_sup (jf (l ++ yan l'));have h1:jf (l ++ yan l')=[]:=qb9 (yz _) (fun x hx=>(yt hx).1) E hE (fun ρ=>by
  rw [qap ρ (yad kU),xag,gbp,h ρ]
  grind)
 have h2:=yad kU k;rw [h1,gal,ybl] at h2;simp only [je] at h2;omega
theorem Pl.val_uniq {p q:Pl} (hp:p.Can) (hq:q.Can) (h:∀ ρ,p.val ρ=q.val ρ):p=q:=by
 refine Pl.can_eq hp hq (xa4 p.terms_one_nonneg q.terms_one_nonneg fun ρ=>?_);rw [Pl.terms_val ρ p _ Mo.one_nonneg,Pl.terms_val ρ q _ Mo.one_nonneg,h ρ]
theorem Pl.ofS_val (ρ:Int->Rat) {l:Sp} (hn:∀ x ∈ l,x.2.nonneg):(Pl.ofS l).val ρ=jk ρ l:=by
 have h1:=qap ρ (l:=(Pl.ofS l).terms Mo.one) (l':=l) (fun k=>by
  rw [Pl.ofS_coef]
  split
  · rfl
  · rename_i hk
    exact (qac fun x hx e=>hk (by rw [<- e]; exact hn x hx)).symm)
 rw [Pl.terms_val ρ _ _ Mo.one_nonneg,Mo.val_one] at h1
 grind
theorem Pl.terms_sval (ρ:Int->Rat) (p:Pl):jk ρ (p.terms Mo.one)=p.val ρ:=by
 rw [Pl.terms_val ρ p _ Mo.one_nonneg,Mo.val_one]; grind
def Mo.mul (m n:Mo):Mo:=⟨m.a+n.a,m.b+n.b,m.c+n.c,m.d+n.d⟩
theorem Mo.mul_nonneg {m n:Mo} (h:m.nonneg) (k:n.nonneg):(m.mul n).nonneg:=by unfold Mo.nonneg Mo.mul at *; simp only at *; omega
theorem Mo.mul_le {m n:Mo} {E F:Nat} (h:m.le E) (k:n.le F):(m.mul n).le ((E+F:Nat):Int):=by unfold Mo.le Mo.mul at *; simp only; omega
theorem Mo.val_mul (ρ:Int->Rat) {m n:Mo} (h:m.nonneg) (k:n.nonneg):(m.mul n).val ρ=m.val ρ * n.val ρ:=by
 unfold Mo.nonneg at h k;unfold Mo.val Mo.mul;rw [Int.toNat_add h.1 k.1,Int.toNat_add h.2.1 k.2.1,Int.toNat_add h.2.2.1 k.2.2.1,Int.toNat_add h.2.2.2 k.2.2.2];simp only [zat]
 grind
def stm (c:Int) (m:Mo) (l:Sp):Sp:=l.map fun x=>(c * x.1,m.mul x.2)
def xal : Sp -> Sp -> Sp
 | [],_=>[]
 | (c,m) :: r,l=>stm c m l ++ xal r l
theorem ycz {c:Int} {m:Mo} {l:Sp} {x:Int × Mo} (h:x ∈ stm c m l):∃ y ∈ l,x=(c * y.1,m.mul y.2):=by
 unfold stm at h;obtain ⟨y,hy,rfl⟩:=List.mem_map.1 h;exact ⟨y,hy,rfl⟩
theorem xbb {k l:Sp} {x:Int × Mo} (h:x ∈ xal k l):∃ y ∈ k,∃ z ∈ l,x=(y.1 * z.1,y.2.mul z.2):=by
 induction k with
 | nil=>simp [xal] at h
 | cons u k ih =>
   obtain ⟨c,m⟩:=u;rw [xal] at h;rcases List.mem_append.1 h with h | h
   · obtain ⟨z,hz,rfl⟩:=ycz h;exact ⟨(c,m),List.mem_cons_self ..,z,hz,rfl⟩
   · obtain ⟨y,hy,z,hz,rfl⟩:=ih h;exact ⟨y,List.mem_cons_of_mem _ hy,z,hz,rfl⟩
theorem wcy (ρ:Int->Rat) (c:Int) {m:Mo} (hm:m.nonneg) {l:Sp} (hl:∀ x ∈ l,x.2.nonneg):jk ρ (stm c m l)=(c:Rat) * m.val ρ * jk ρ l:=by
 induction l with
 | nil=>simp [stm,jk]
 | cons x l ih =>
   obtain ⟨d,n⟩:=x;have h1:=ih fun x hx=>hl x (List.mem_cons_of_mem _ hx)
   have h2:=hl (d,n) (List.mem_cons_self ..);unfold stm at h1 ⊢;simp only [List.map_cons,jk,h1,Mo.val_mul ρ hm h2]
   push_cast
   grind
theorem kcp (ρ:Int->Rat) {k l:Sp} (hk:∀ x ∈ k,x.2.nonneg) (hl:∀ x ∈ l,x.2.nonneg):jk ρ (xal k l)=jk ρ k * jk ρ l:=by
 induction k with
 | nil=>simp [xal,jk]
 | cons x k ih =>
   obtain ⟨c,m⟩:=x;rw [xal,xag,wcy ρ c (hk _ (List.mem_cons_self ..)) hl,ih fun x hx=>hk x (List.mem_cons_of_mem _ hx)];simp only [jk]
   grind
theorem zcz (c:Int) (m:Mo) (l:Sp):yg (stm c m l)=c.natAbs * yg l:=by
 induction l with
 | nil=>simp [stm,yg]
 | cons x l ih =>
   obtain ⟨d,n⟩:=x;unfold stm at ih ⊢;simp only [List.map_cons,yg,ih,Int.natAbs_mul,Nat.mul_add]
theorem ubr (k l:Sp):yg (xal k l)=yg k * yg l:=by
 induction k with
 | nil=>simp [xal,yg]
 | cons x k ih =>
   obtain ⟨c,m⟩:=x;rw [xal,qag,zcz,ih,xah,Nat.add_mul]
theorem qa8 {k l:Sp} (hk:∀ x ∈ k,x.2.nonneg) (hl:∀ x ∈ l,x.2.nonneg):∀ x ∈ xal k l,x.2.nonneg:=fun x hx=>by
 obtain ⟨y,hy,z,hz,rfl⟩:=xbb hx;exact Mo.mul_nonneg (hk y hy) (hl z hz)
def Pl.add (p q:Pl):Pl:=Pl.ofS (p.terms Mo.one ++ q.terms Mo.one)
def Pl.mul (p q:Pl):Pl:=Pl.ofS (xal (p.terms Mo.one) (q.terms Mo.one))
theorem Pl.add_can (p q:Pl):(p.add q).Can:=Pl.ofS_can _
theorem Pl.mul_can (p q:Pl):(p.mul q).Can:=Pl.ofS_can _
theorem Pl.add_val (ρ:Int->Rat) (p q:Pl):(p.add q).val ρ=p.val ρ+q.val ρ:=by
 unfold Pl.add;rw [Pl.ofS_val ρ (fun x hx=>(List.mem_append.1 hx).elim (p.terms_one_nonneg x) (q.terms_one_nonneg x)),xag,Pl.terms_sval,Pl.terms_sval]
theorem Pl.mul_val (ρ:Int->Rat) (p q:Pl):(p.mul q).val ρ=p.val ρ * q.val ρ:=by
 unfold Pl.mul;rw [Pl.ofS_val ρ (qa8 p.terms_one_nonneg q.terms_one_nonneg),kcp ρ p.terms_one_nonneg q.terms_one_nonneg,Pl.terms_sval,Pl.terms_sval]
theorem Pl.const_val (ρ:Int->Rat) (z:Int):(Pl.const z).val ρ=(z:Rat):=by
 have:=Pl.terms_sval ρ (Pl.const z);rw [Pl.const_terms] at this;simp only [jk,Mo.val_one] at this
 grind
theorem Pl.zero_val (ρ:Int->Rat):Pl.zero.val ρ=0:=by simp [Pl.zero,Pl.val,sgn,val]
theorem Pl.zero_of_val {p:Pl} (hp:p.Can) (h:∀ ρ,p.val ρ=0):p=Pl.zero:=Pl.val_uniq hp Pl.zero_can fun ρ=>by rw [h,Pl.zero_val]
mutual
def Pl.ex (E : Nat) : Pl -> Prop
 | .mk l _ _ cs=>l<=0\/(cs.length<=E+1/\qat E cs)
def qat (E : Nat) : List Pl -> Prop
 | []=>True
 | c :: r=>c.ex E/\qat E r
end
mutual
def Pl.nr : Pl -> Nat
 | .mk l n d cs=>if l<=0 then (sgn n (val d)).natAbs else ql cs
def ql : List Pl -> Nat
 | []=>0
 | c :: r=>c.nr+ql r
end
theorem xat {E:Nat} {cs:List Pl} (h:qat E cs):∀ c ∈ cs,c.ex E:=by
 induction cs with
 | nil=>simp
 | cons y r ih=>rw [qat] at h; simpa using ⟨h.1,ih h.2⟩
theorem ua6 {E:Nat} {cs:List Pl} (h:∀ c ∈ cs,c.ex E):qat E cs:=by
 induction cs with
 | nil=>trivial
 | cons y r ih=>rw [qat]; exact ⟨h y (by simp),ih fun c hc=>h c (by simp [hc])⟩
theorem jbc {cs:List Pl} {c:Pl} (h:c ∈ cs):c.nr<=ql cs:=by
 induction cs with
 | nil=>cases h
 | cons y r ih =>
   rw [ql];rcases List.mem_cons.1 h with rfl | h
   · omega
   · have:=ih h; omega
theorem ka9 (a b:List Pl):ql (a ++ b)=ql a+ql b:=by
 induction a with
 | nil=>simp [ql]
 | cons x a ih=>rw [List.cons_append,ql,ql,ih]; omega
mutual
theorem Pl.ex_mono {E F : Nat} (UL : E <= F) : ∀ p : Pl, p.ex E -> p.ex F
 | .mk l _ _ cs,h=>by rw [Pl.ex] at h ⊢; rcases h with h | h; exact .inl h; exact .inr ⟨by omega,ybm UL cs h.2⟩
theorem ybm {E F : Nat} (UL : E <= F) : ∀ cs : List Pl, qat E cs -> qat F cs
 | [],_=>trivial
 | c :: r,h=>by rw [qat] at h ⊢; exact ⟨Pl.ex_mono UL c h.1,ybm UL r h.2⟩
end
theorem Pl.can_kids {l:Int} {n:Bool} {d:List Nat} {cs:List Pl} (h:(Pl.mk l n d cs).Can) (hl:¬ l<=0):l<=4/\gp l cs:=⟨h.lv_nonneg.2,(h.kids (by omega)).2.2.2.1⟩
theorem Mo.get_put_ne (m:Mo) (i e j:Int) (hj:0 < j) (oW:j<=4) (hi:0 < i) (Fh:i<=4) (h:j ≠ i):(m.put i e).get j=m.get j:=by
 have:=Mo.get_put m i.toNat e (by omega) (by omega) j.toNat (by omega) (by omega);rw [show ((i.toNat:Nat):Int)=i by omega,show ((j.toNat:Nat):Int)=j by omega,if_neg (by omega)] at this;exact this
mutual
theorem Pl.terms_ex (E : Nat) : ∀ (p : Pl) (m : Mo), p.Can -> p.ex E -> m.le E -> (∀ i : Int, 0 < i -> i <= p.lv -> m.get i = 0) -> ∀ x ∈ p.terms m, x.2.le E
 | .mk l n d cs,m,hc,h,hm,h0,x,hx=>by
   rw [Pl.terms] at hx
   by_cases h1:l<=0
   · rw [if_pos h1] at hx;rw [List.mem_singleton.1 hx];exact hm
   · rw [if_neg h1] at hx;obtain ⟨aj,hk⟩:=Pl.can_kids hc h1;rw [if_neg (by omega)] at hx;rw [Pl.ex] at h;have h:=h.resolve_left h1;have hz:=h0 l (by omega) (Int.le_refl _);rw [hz] at hx;exact gbf E cs m l 0 hk h.2 hm (by omega) aj (by omega) (by omega) (fun i hi Cb=>h0 i hi (by show i<=l; omega)) x hx
theorem gbf (E : Nat) : ∀ (cs : List Pl) (m : Mo) (l e : Int), gp l cs -> qat E cs -> m.le E -> 0 < l -> l <= 4 -> 0 <= e -> e + cs.length <= E + 1 -> (∀ i : Int, 0 < i -> i < l -> m.get i = 0) -> ∀ x ∈ xe m l e cs, x.2.le E
 | [],m,l,e,_,_,_,_,_,_,_,_,x,hx=>by rw [xe] at hx; cases hx
 | c :: r,m,l,e,hc,h,hm,kV,aj,he,hle,h0,x,hx=>by
   rw [xe] at hx;rw [qat] at h;rw [List.length_cons] at hle;unfold gp at hc;rcases List.mem_append.1 hx with hx | hx
   · exact Pl.terms_ex E c _ hc.2.1 h.1 (hm.put l e (by omega)) (fun i hi Cb=>by rw [Mo.get_put_ne m l e i hi (by omega) kV aj (by omega)]; exact h0 i hi (by omega)) x hx
   · exact gbf E r m l (e+1) hc.2.2 h.2 hm kV aj (by omega) (by omega) h0 x hx
end
mutual
theorem Pl.terms_nr : ∀ (p : Pl) (m : Mo), p.Can -> yg (p.terms m) = p.nr
 | .mk l n d cs,m,hc=>by
   rw [Pl.terms,Pl.nr]
   by_cases h1:l<=0
   · rw [if_pos h1,if_pos h1]; simp [yg]
   · rw [if_neg h1,if_neg h1];obtain ⟨aj,hk⟩:=Pl.can_kids hc h1;rw [if_neg (by omega)];exact vbf cs m l _ hk
theorem vbf : ∀ (cs : List Pl) (m : Mo) (l e : Int), gp l cs -> yg (xe m l e cs) = ql cs
 | [],m,l,e,_=>rfl
 | c :: r,m,l,e,hc=>by
   unfold gp at hc;rw [xe,qag,ql,Pl.terms_nr c _ hc.2.1,vbf r m l (e+1) hc.2.2]
end
theorem Pl.const_nr (z:Int):(Pl.const z).nr=z.natAbs:=by rw [Pl.const,Pl.nr,if_pos (Int.le_refl _),qg,xan]
theorem wb9 (f:Int × Mo->Int) (k:Nat) (l:Sp):ql ((List.range k).map fun i=>Pl.const (yg (l.filter fun x=>decide (f x=Int.ofNat i))))<=yg l:=by
 have h1:∀ k,ql ((List.range k).map fun i=>Pl.const (yg (l.filter fun x=>decide (f x=Int.ofNat i))))=yg (l.filter fun x=>decide (0<=f x/\f x < k)):=by
  intro k
  induction k with
  | zero =>
    rw [show (l.filter fun x=>decide (0<=f x/\f x < ((0:Nat):Int)))=[] from List.filter_eq_nil_iff.2 fun x _=>by simp]
    rfl
  | succ k ih =>
    rw [List.range_succ,List.map_append,ka9,ih];simp only [List.map_cons,List.map_nil,ql,Pl.const_nr,Int.natAbs_natCast,Nat.add_zero];clear ih
    induction l with
    | nil=>rfl
    | cons x l ih =>
      obtain ⟨c,m⟩:=x;simp only [List.filter_cons,decide_eq_true_eq]
      by_cases h1:f (c,m)=Int.ofNat k
      · have h2:¬ (0<=f (c,m)/\f (c,m) < (k:Int)):=by rw [h1]; simp
        have h3:0<=f (c,m)/\f (c,m) < ((k+1:Nat):Int):=by rw [h1]; simp; omega
        rw [if_neg h2,if_pos h1,if_pos h3,xah,xah];omega
      · rw [if_neg h1];have h4:f (c,m) ≠ (k:Int):=h1
        by_cases h2:0<=f (c,m)/\f (c,m) < (k:Int)
        · have h3:0<=f (c,m)/\f (c,m) < ((k+1:Nat):Int):=by omega
          rw [if_pos h2,if_pos h3,xah,xah];omega
        · have h3:¬ (0<=f (c,m)/\f (c,m) < ((k+1:Nat):Int)):=by omega
          rw [if_neg h2,if_neg h3];exact ih
 rw [h1];exact xb0 _ l
theorem vc0 {α:Type} (f g:α->Pl) (l:List α) (h:∀ x ∈ l,(f x).nr<=(g x).nr):ql (l.map f)<=ql (l.map g):=by
 induction l with
 | nil=>simp [ql]
 | cons x l ih =>
   simp only [List.map_cons,ql];have h1:=h x (by simp);have h2:=ih fun y hy=>h y (by simp [hy])
   omega
theorem vc6 (n:Nat):∀ l:Sp,(bld n l).nr<=yg l:=by
 induction n with
 | zero =>
   intro l;cases l with
   | nil=>simp [bld,Pl.zero,Pl.nr,sgn,val]
   | cons x r=>obtain ⟨c,m⟩:=x; rw [bld,Pl.const_nr,xah]; omega
 | succ n ih =>
   intro l;cases l with
   | nil=>simp [bld,Pl.zero,Pl.nr,sgn,val]
   | cons x r =>
     obtain ⟨c,m⟩:=x;rw [bld]
     split
     · exact ih _
     · rw [Pl.nr,if_neg (by omega)];refine Nat.le_trans (vc0 _ (fun (i:Nat)=>Pl.const (yg (((c,m) :: r).filter fun x=>decide (x.2.get (n+1:Nat)=Int.ofNat i)))) _ fun i _=>?_) (wb9 (fun x=>x.2.get (n+1:Nat)) _ _);rw [Pl.const_nr,Int.natAbs_natCast];exact ih _
theorem uc6 (E n:Nat):∀ l:Sp,(∀ x ∈ l,x.2.le E)->(bld n l).ex E:=by
 induction n with
 | zero =>
   intro l _;cases l with
   | nil=>simp [bld,Pl.zero,Pl.ex]
   | cons x r=>obtain ⟨c,m⟩:=x; simp [bld,Pl.const,Pl.ex]
 | succ n ih =>
   intro l hl;cases l with
   | nil=>simp [bld,Pl.zero,Pl.ex]
   | cons x r =>
     obtain ⟨c,m⟩:=x;rw [bld]
     split
     · exact ih _ hl
     · rw [Pl.ex];have hg:m.get ((n+1:Nat):Int)<=E:=(hl (c,m) (by simp)).get ((n+1:Nat):Int);refine .inr ⟨by rw [List.length_map,List.length_range]; omega,ua6 fun p hp=>?_⟩;obtain ⟨i,-,rfl⟩:=List.mem_map.1 hp;exact ih _ (fun x hx=>hl x (List.mem_filter.1 hx).1)
theorem Pl.ofS_ex {E:Nat} {l:Sp} (h:∀ x ∈ l,x.2.le E):(Pl.ofS l).ex E:=uc6 E 4 _ fun x hx=>by
 obtain ⟨-,y,hy,e⟩:=yt hx;rw [<- e];exact h y hy
theorem Pl.ofS_nr (l:Sp):(Pl.ofS l).nr<=yg l:=Nat.le_trans (vc6 4 _) (uau l)
theorem Pl.ex_sz (E:Nat) (n:Nat):∀ p:Pl,p.Can->p.ex E->p.lv<=n->p.sz<=(E+2) ^ n:=by
 induction n with
 | zero =>
   intro p hc h hl;obtain ⟨l,ng,d,cs⟩:=p;unfold Pl.Can at hc
   change l<=0 at hl
   rcases hc with hc | hc
   · rw [hc.2.1,Pl.sz,xk]; simp
   · omega
 | succ n ih =>
   intro p hc h hl;obtain ⟨l,ng,d,cs⟩:=p
   change l<=((n+1:Nat):Int) at hl
   by_cases h1:l<=0
   · unfold Pl.Can at hc;rcases hc with hc | hc
     · rw [hc.2.1,Pl.sz,xk]; exact Nat.pow_pos (by omega)
     · omega
   · obtain ⟨-,hk⟩:=Pl.can_kids hc h1;rw [Pl.ex] at h;have h:=h.resolve_left h1;have key:∀ ks:List Pl,(∀ c ∈ ks,c.sz<=(E+2) ^ n)->xk ks<=ks.length * (E+2) ^ n:=by
      intro ks
      induction ks with
      | nil=>simp [xk]
      | cons y r ihr =>
        intro hh;have h1:=hh y (by simp);have h2:=ihr fun z hz=>hh z (by simp [hz])
        rw [xk,List.length_cons,Nat.add_mul];omega
     have h2:=key cs fun c fC=>ih c (hk.mem c fC).2 (xat h.2 c fC) (by have:=(hk.mem c fC).1; omega)
     have h3:cs.length * (E+2) ^ n<=(E+1) * (E+2) ^ n:=Nat.mul_le_mul_right _ h.1;have h4:(E+2) ^ (n+1)=(E+1) * (E+2) ^ n+(E+2) ^ n:=by rw [Nat.pow_succ,Nat.mul_comm,<- Nat.succ_mul]
     have h5:0 < (E+2) ^ n:=Nat.pow_pos (by omega);rw [Pl.sz];omega
mutual
theorem Pl.nr_dm (D : Nat) : ∀ p : Pl, p.Can -> p.nr < B32 ^ D -> p.dm <= D
 | .mk l n d cs,hc,h=>by
   unfold Pl.Can at hc;rw [Pl.nr] at h;rw [Pl.dm];rcases hc with hc | hc
   · rw [if_pos (by omega),uu] at h;rw [hc.2.1,qx,hc.2.2.1];have:=ve h;omega
   · rw [if_neg (by omega)] at h;have:=kb6 D cs l hc.2.2.2.2.2.1 h;rw [hc.2.2.2.1,List.length_nil];omega
theorem kb6 (D : Nat) : ∀ (cs : List Pl) (l : Int), gp l cs -> ql cs < B32 ^ D -> qx cs <= D
 | [],_,_,_=>by rw [qx]; omega
 | c :: r,l,hc,h=>by
   unfold gp at hc;rw [ql] at h;rw [qx];have h1:=Pl.nr_dm D c hc.2.1 (by omega);have h2:=kb6 D r l hc.2.2 (by omega);omega
end
structure Fit (p : Pl) (E D : Nat) : Prop where
 can:p.Can
 ex:p.ex E
 nr:p.nr < B32 ^ D
namespace Fit
variable {p q:Pl} {E D F G:Nat}
theorem sz (h:Fit p E D):p.sz<=(E+2) ^ 4:=Pl.ex_sz E 4 p h.can h.ex h.can.lv_nonneg.2
theorem dm (h:Fit p E D):p.dm<=D:=Pl.nr_dm D p h.can h.nr
theorem mono (h:Fit p E D) (hE:E<=F) (hD:D<=G):Fit p F G:=⟨h.can,Pl.ex_mono hE p h.ex,Nat.lt_of_lt_of_le h.nr (Nat.pow_le_pow_right (by decide) hD)⟩
theorem exps (h:Fit p E D):∀ x ∈ p.terms Mo.one,x.2.le E:=Pl.terms_ex E p Mo.one h.can h.ex (by unfold Mo.le Mo.one; simp) (fun i h0 h4=>by unfold Mo.one Mo.get; split <;> (try split) <;> (try split) <;> rfl)
theorem nrm (h:Fit p E D):yg (p.terms Mo.one)=p.nr:=Pl.terms_nr p _ h.can
theorem kid {l:Int} {n:Bool} {d:List Nat} {cs:List Pl} (h:Fit (.mk l n d cs) E D) (hl:0 < l) {c:Pl} (hc:c ∈ cs):Fit c E D:=by
 obtain ⟨h1,h2,h3⟩:=h;obtain ⟨-,hk⟩:=Pl.can_kids h1 (by omega);rw [Pl.ex] at h2;rw [Pl.nr,if_neg (by omega)] at h3;have:=jbc hc;exact ⟨(hk.mem c hc).2,xat (h2.resolve_left (by omega)).2 c hc,by omega⟩
theorem len {l:Int} {n:Bool} {d:List Nat} {cs:List Pl} (h:Fit (.mk l n d cs) E D) (hl:0 < l):cs.length<=E+1:=by
 have h2:=h.ex;rw [Pl.ex] at h2;exact (h2.resolve_left (by omega)).1
theorem const {z:Int} (h:z.natAbs < B32 ^ D):Fit (Pl.const z) E D:=⟨ut z,by unfold Pl.const; rw [Pl.ex]; exact .inl (Int.le_refl _),by rw [Pl.const_nr]; exact h⟩
theorem zero:Fit Pl.zero E D:=⟨Pl.zero_can,by unfold Pl.zero; rw [Pl.ex]; exact .inl (Int.le_refl _),by unfold Pl.zero; rw [Pl.nr,if_pos (Int.le_refl _)]; exact Nat.pow_pos (by decide)⟩
theorem add (h:Fit p E D) (k:Fit q F G):Fit (p.add q) (max E F) (max D G+1):=by
 refine ⟨Pl.add_can p q,Pl.ofS_ex fun x hx=>?_,?_⟩
 · rcases List.mem_append.1 hx with hx | hx
   · exact (h.exps x hx).mono (by omega)
   · exact (k.exps x hx).mono (by omega)
 · have h1:=Pl.ofS_nr (p.terms Mo.one ++ q.terms Mo.one);rw [qag,h.nrm,k.nrm] at h1;have h2:B32 ^ D<=B32 ^ max D G:=Nat.pow_le_pow_right (by decide) (by omega);have h3:B32 ^ G<=B32 ^ max D G:=Nat.pow_le_pow_right (by decide) (by omega);have h4:=h.nr;have h5:=k.nr;unfold Pl.add;rw [Nat.pow_succ];have h6:B32 ^ max D G * 2<=B32 ^ max D G * B32:=Nat.mul_le_mul_left _ (by decide);omega
theorem mul (h:Fit p E D) (k:Fit q F G):Fit (p.mul q) (E+F) (D+G):=by
 refine ⟨Pl.mul_can p q,Pl.ofS_ex fun x hx=>?_,?_⟩
 · obtain ⟨y,hy,z,hz,rfl⟩:=xbb hx;exact Mo.mul_le (h.exps y hy) (k.exps z hz)
 · have h1:=Pl.ofS_nr (xal (p.terms Mo.one) (q.terms Mo.one));rw [ubr,h.nrm,k.nrm] at h1;unfold Pl.mul;rw [Nat.pow_add];refine Nat.lt_of_le_of_lt h1 (Nat.mul_lt_mul_of_lt_of_le h.nr (Nat.le_of_lt k.nr) (Nat.pow_pos (by decide)))
end Fit
end Go.Proofs.YtcepajijiabkmaaGreat
