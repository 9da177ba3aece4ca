/- Reference 20: Few: is a sum of terms, in any form, of a size that is looked at? Law 24: Few. -/
import Derived.Test.YtcepajijiabkmaaGreatMp12
set_option linter.unusedSimpArgs false
set_option linter.unusedVariables false

set_option maxRecDepth 100000
set_option maxHeartbeats 8000000
namespace Go.Proofs.YtcepajijiabkmaaGreat
open Lib (hid)
open Go.RowKit
structure kaf where
 neg:Bool
 ds:List Nat
 mo:Mo
def qbs (w:World) (A:Option Addr) (ts:List kaf):Prop:=∀ i (h:i < ts.length),∃ ad B c,A=some ad/\ad.block < w.heap.size/\kal w (ad.add (i * 6)) ts[i].neg (.slice B ts[i].ds.length c) ts[i].mo/\jc w (.slice B ts[i].ds.length c) ts[i].ds
def uaq (w:World) (v:Value) (ts:List kaf):Prop:=∃ A c,v=.slice A ts.length c/\ts.length<=c/\c<=9223372036854775807/\qbs w A ts
theorem qbs.ext {w w':World} {A:Option Addr} {ts:List kaf} (h:qbs w A ts) (hx:Ext w w'):qbs w' A ts:=by
 intro i hi;obtain ⟨ad,B,c,e,hb,h1,h2⟩:=h i hi;exact ⟨ad,B,c,e,pw hb hx.size,h1.ext hx (by rw [ja]; exact hb),h2.ext hx⟩
theorem uaq.ext {w w':World} {v:Value} {ts:List kaf} (h:uaq w v ts) (hx:Ext w w'):uaq w' v ts:=by
 obtain ⟨A,c,e,h1,h2,h3⟩:=h;exact ⟨A,c,e,h1,h2,h3.ext hx⟩
def kaf.qaG (d:Nat) (e:Int) (t:kaf):Prop:=t.ds.length<=d/\t.mo.le e
def wb2 (ts:List kaf) (n d:Nat) (e:Int) (w:World) (x:Ending) (w':World):Prop:=∃ b,x=.returned (.bool b)/\(b=true->ts.length<=n/\∀ t ∈ ts,t.qaG d e)/\Ext w w'
theorem wda {m:Mo} {e:Int} (h:∀ j:Nat,j < 4->m.get ((j+1:Nat):Int)<=e):m.le e:=by
 have h0:=h 0 (by omega);have h1:=h 1 (by omega);have h2:=h 2 (by omega);have h3:=h 3 (by omega);simp [Mo.get] at h0 h1 h2 h3;exact ⟨h0,h1,h2,h3⟩
theorem zcp {w:World} {v:Value} {ts:List kaf} (n d:Nat) (e:Int) (h:uaq w v ts):Calls Tryz.prog 27 #[v,.int .i64 n,.int .i64 d,.int .i64 e] w (wb2 ts n d e w):=by
 obtain ⟨A,c,rfl,dP,dC,aK⟩:=h;have lQ:=hid aK;clear aK
 by_cases hn:n < ts.length
 · have wY:decide (n < ts.length)=true:=by simpa using hn
   go_enter Tryz.func27,Tryz.ntmps27;go_wp2_with fail;go_ret;exact ⟨false,rfl,by simp,Ext.refl w⟩
 have wY:decide (n < ts.length)=false:=by simpa using hn
 have HN:=hid hn;go_enter Tryz.func27,Tryz.ntmps27;go_wp2_with fail
 go_loopw [9] (fun iv wr=>∃ k:Nat,k<=ts.length/\iv=.int .i64 k/\Hid ((∀ t ∈ ts.take k,t.qaG d e)/\Ext w wr)) (fun iv _=>ts.length - (intOf iv).toNat)
 case atStart=>exact ⟨0,pS _,rfl,fun t ht=>by simp at ht,Ext.refl w⟩
 case round =>
  obtain ⟨k,hk,rfl,⟨iU,hx⟩⟩:=hrel;have HA:=hid iU;have HX:=hid hx;clear iU hx
  by_cases af:k < ts.length
  · obtain ⟨ad,B,c',rfl,hb,kN,-⟩:=lQ.out k af;have eu:=kN.ext HX.out (by rw [ja]; exact hb);have HTW:Hid (∀ j:Nat,j < 4->wr.cell? ⟨(ad.add (k * 6)).block,(ad.add (k * 6)).off+2+j,none⟩=some (.int .i64 (ts[k].mo.get ((j+1:Nat):Int)))):=eu.xS;have uK:Hid (ts[k].qaG d e->∀ t ∈ ts.take (k+1),t.qaG d e):=hid (fun h t ht=>by
     rw [pC af] at ht;rcases rj.1 ht with ht | ht
     · exact HA.out t ht
     · rw [pD.1 ht]; exact h)
    have a1:=eu.2.1;clear eu kN;generalize ts[k]=tk at *
    by_cases hd:d < tk.ds.length
    · have nH:decide (d < tk.ds.length)=true:=by simpa using hd
      go_wp2_with fail;go_ret;exact ⟨false,rfl,by simp,HX.out⟩
    have nH:decide (d < tk.ds.length)=false:=by simpa using hd
    have HD:Hid (tk.ds.length<=d):=hid (by omega);go_wp2_with fail;clear a1
    go_loopw [10] (fun jv wi=>∃ j:Nat,j<=4/\jv=.int .i64 j/\Hid ((∀ i:Nat,i < j->tk.mo.get ((i+1:Nat):Int)<=e)/\Ext wr wi)) (fun jv _=>4 - (intOf jv).toNat)
    case atStart=>exact ⟨0,pS _,rfl,fun i hi=>by omega,Ext.refl wr⟩
    case round =>
     obtain ⟨j,hj,rfl,⟨hle,EG⟩⟩:=hrel;have nK:=hid hle;have En:=hid EG;clear hle EG
     by_cases rD:j < 4
     · have hcj:=(En.out.cell (p:=⟨(ad.add (k * 6)).block,(ad.add (k * 6)).off+2+j,none⟩) (by show (ad.add (k * 6)).block < _; rw [ja]; exact pw hb HX.out.size)).trans (HTW.out j rD);generalize hgx:tk.mo.get ((j+1:Nat):Int)=x at hcj;have HGX:=hid hgx;clear hgx
       by_cases EH:x<=e
       · have DF:Hid (∀ i:Nat,i < j+1->tk.mo.get ((i+1:Nat):Int)<=e):=hid (fun i hi=>by
          rcases Nat.lt_or_eq_of_le (Nat.le_of_lt_succ hi) with h | rfl
          · exact nK.out i h
          · rw [HGX.out]; exact EH)
         go_wp2_with fail
         all_goals first
           | (go_ret
              exact ⟨false,rfl,by simp,HX.out.trans En.out⟩)
           | (go_roundw
              case rel=>exact ⟨j+1,by omega,by go_num,DF.out,En.out⟩
              case measure=>simp [intOf]; omega)
       · go_wp2_with fail
         all_goals
          go_ret;exact ⟨false,rfl,by simp,HX.out.trans En.out⟩
     · obtain rfl:j=4:=by omega
       have HF:Hid (tk.qaG d e):=hid ⟨HD.out,wda nK.out⟩;go_wp2_with fail
       go_roundw
       case rel=>exact ⟨k+1,by omega,by go_num,uK.out HF.out,HX.out.trans En.out⟩
       case measure=>simp [intOf]; omega
  · obtain rfl:k=ts.length:=by omega
    have HF:Hid (∀ t ∈ ts,t.qaG d e):=hid (by have:=HA.out; rwa [pP] at this);go_wp2_with fail;go_ret;exact ⟨true,rfl,fun _=>⟨by omega,HF.out⟩,HX.out⟩
theorem wco {w:World} {v:Value} {ts:List kaf} (n:Nat) (e:Int) (h:uaq w v ts):Calls Tryz.prog 7 #[v,.int .i64 n,.int .i64 e] w (wb2 ts n 4 e w):=by
 have HC:Hid (∀ w',Ext w w'->Calls Tryz.prog 27 #[v,.int .i64 n,.int .i64 4,.int .i64 e] w' (wb2 ts n 4 e w')):=hid (fun w' hx=>zcp n 4 e (h.ext hx));obtain ⟨A,c,rfl,dP,dC,-⟩:=h;go_enter Tryz.func7,Tryz.ntmps7;go_wp2_with fail;refine (HC.out _ (by first | exact Ext.refl w | exact (Ext.refl w).drew)).mono ?_;rintro x w2 ⟨b,rfl,hb,x2⟩;have HB:=hid hb;have X2:=hid x2;clear hb x2;go_wp2_with fail;go_ret;exact ⟨b,rfl,HB.out,X2.out⟩
theorem gau (x:Rat) (m n:Nat):x ^ (m+n)=x ^ m * x ^ n:=by
 induction n with
 | zero=>simp
 | succ n ih=>rw [<- tO,Pr,ih,Pr]; grind
theorem xcu (x:Rat) (m n:Nat):x ^ (m * n)=(x ^ m) ^ n:=by
 induction n with
 | zero=>simp
 | succ n ih=>rw [Nat.mul_succ,gau,ih,Pr]
def Mo.num (E:Nat) (m:Mo):Nat:=m.a.toNat+E * (m.b.toNat+E * (m.c.toNat+E * m.d.toNat))
theorem kap {E x x' y y':Nat} (hx:x < E) (h:y < y'):x+E * y < x'+E * y':=by
 have h1:E * (y+1)<=E * y':=sE E h;rw [ri] at h1;omega
theorem Mo.Kf {E:Nat} {m n:Mo} (hm:m.qe) (hn:n.qe) (hE:m.a < E/\m.b < E/\m.c < E/\m.d < E) (h:m.lt n):m.num E < n.num E:=by
 unfold Mo.lt at h;unfold Mo.qe at hm hn;unfold Mo.num;rcases h with h | ⟨h1,h | ⟨h2,h | ⟨h3,h⟩⟩⟩
 · exact kap (by omega) (kap (by omega) (kap (by omega) (by omega)))
 · rw [h1]; exact kap (by omega) (kap (by omega) (by omega))
 · rw [h1,h2]; exact kap (by omega) (by omega)
 · rw [h1,h2,h3]; omega
def qas (E B : Nat) : Sp -> Int
 | []=>0
 | (c,m) :: r=>c * (B:Int) ^ m.num E+qas E B r
def kro (E B:Nat) (i:Int):Rat:=(B:Rat) ^ (E ^ (i - 1).toNat)
theorem Mo.qaJ (E B:Nat) (m:Mo):m.val (kro E B)=(B:Rat) ^ m.num E:=by
 unfold Mo.val kro Mo.num;simp only [<- xcu,<- gau]
 congr 1
 simp only [show ((1:Int) - 1).toNat=0 from rfl,show ((2:Int) - 1).toNat=1 from rfl,show ((3:Int) - 1).toNat=2 from rfl,show ((4:Int) - 1).toNat=3 from rfl,Nat.pow_zero,Nat.pow_one]
 grind
theorem ybt (E B:Nat) (l:Sp):xn (kro E B) l=(qas E B l:Rat):=by
 induction l with
 | nil=>simp [xn,qas]
 | cons x l ih =>
   obtain ⟨c,m⟩:=x;simp only [xn,qas,ih,Mo.qaJ]
   push_cast
   rfl
theorem qc7 (E B K:Nat) (hB:0 < B) (l:Sp) (h:∀ x ∈ l,x.2.num E<=K):(qas E B l).natAbs<=zg l * B ^ K:=by
 induction l with
 | nil=>simp [qas]
 | cons x l ih =>
   obtain ⟨c,m⟩:=x;have h1:=ih fun x hx=>h x (rz _ hx)
   have h2:B ^ m.num E<=B ^ K:=rS hB (h (c,m) (r5 ..));simp only [qas,zg];have h3:(c * (B:Int) ^ m.num E).natAbs=c.natAbs * B ^ m.num E:=by
    rw [Int.natAbs_mul,Int.natAbs_pow,uL]
   have h4:c.natAbs * B ^ m.num E<=c.natAbs * B ^ K:=sE _ h2;have h5:=Int.natAbs_add_le (c * (B:Int) ^ m.num E) (qas E B l);rw [rN];omega
theorem kai (c:Int) (m:Mo) (l:Sp):zg ((c,m) :: l)=c.natAbs+zg l:=rfl
theorem yca {l:Sp} (h:yt l) (hn:∀ x ∈ l,x.2.qe) (E:Nat) (hE:∀ x ∈ l,x.2.le E) (B:Nat) (hB:zg l+1<=B) (ax:l ≠ []):qas (E+1) B l ≠ 0:=by
 intro h2;cases l with
 | nil=>exact ax rfl
 | cons x r =>
   obtain ⟨c,m⟩:=x;simp only [qas] at h2;have hc:=h.1;rw [kai] at hB;have Rh:∀ x ∈ r,x.2.num (E+1) < m.num (E+1):=fun x hx=>by
    refine Mo.Kf (hn x (rz _ hx)) (hn _ (r5 ..)) ?_ (h.2.1 x hx);have:=hE x (rz _ hx);unfold Mo.le at this;omega
   have h3:(c * (B:Int) ^ m.num (E+1)).natAbs=c.natAbs * B ^ m.num (E+1):=by
    rw [Int.natAbs_mul,Int.natAbs_pow,uL]
   have h4:(qas (E+1) B r).natAbs=(c * (B:Int) ^ m.num (E+1)).natAbs:=by omega
   have bZ:1<=c.natAbs:=by omega
   cases r with
   | nil =>
     simp only [qas,Ta] at h4;rw [h3] at h4;have:0 < B ^ m.num (E+1):=tp (by omega);have:=pE (B ^ m.num (E+1)) bZ;omega
   | cons y r' =>
     have hy:=Rh y (r5 ..);obtain ⟨K,hK⟩:∃ K,m.num (E+1)=K+1:=⟨m.num (E+1) - 1,by omega⟩;have h5:=qc7 (E+1) B K (by omega) (y :: r') (fun x hx=>by have:=Rh x hx; omega);rw [h4,h3,hK,se] at h5;have hp:0 < B ^ K:=tp (by omega);generalize B ^ K=P at *;generalize zg (y :: r')=S at *;have h6:1 * (P * B)<=c.natAbs * (P * B):=pE _ bZ;have h7:P * (S+2)<=P * B:=sE _ (by omega);have h8:P * (S+2)=S * P+2 * P:=by grind
     omega
theorem ycc {l:Sp} (h:yt l) (hn:∀ x ∈ l,x.2.qe) (E:Nat) (hE:∀ x ∈ l,x.2.le E) (hz:∀ ρ,xn ρ l=0):l=[]:=by
 cases l with
 | nil=>rfl
 | cons x r =>
   have h1:=hz (kro (E+1) (zg (x :: r)+1));rw [ybt] at h1;exact absurd (by exact_mod_cast h1) (yca h hn E hE _ (pj _) (by simp))
theorem Mo.le_sup (l:Sp):∃ E:Nat,∀ x ∈ l,x.2.le E:=by
 induction l with
 | nil=>exact ⟨0,by simp⟩
 | cons x r ih =>
   obtain ⟨E,h⟩:=ih;refine ⟨E+x.2.a.toNat+x.2.b.toNat+x.2.c.toNat+x.2.d.toNat,fun y hy=>?_⟩;rcases pQ.1 hy with rfl | hy
   · unfold Mo.le; omega
   · exact (h y hy).mono (by omega)
theorem ua5 {l l':Sp} (hn:∀ x ∈ l,x.2.qe) (Xj:∀ x ∈ l',x.2.qe) (h:∀ ρ,xn ρ l=xn ρ l') (k:Mo):je l k=je l' k:=by
 have nD:∀ x ∈ l ++ gao l',x.2.qe:=fun x hx=>by
  rcases rj.1 hx with hx | hx
  · exact hn x hx
  · unfold gao at hx;obtain ⟨y,hy,rfl⟩:=pZ.1 hx;exact Xj y hy
 obtain ⟨E,hE⟩:=Mo.le_sup (xg (l ++ gao l'));have h1:xg (l ++ gao l')=[]:=ycc (vz _) (fun x hx=>(qw hx).1) E hE (fun ρ=>by
  rw [xar ρ (yae nD),gah,zbt,h ρ]
  grind)
 have h2:=yae nD k;rw [h1,xan,gbn] at h2;simp only [je] at h2;omega
theorem Pl.qz {p q:Pl} (hp:p.Can) (hq:q.Can) (h:∀ ρ,p.val ρ=q.val ρ):p=q:=by
 refine Pl.Km hp hq (ua5 p.qv q.qv fun ρ=>?_);rw [Pl.zR ρ p _ Mo.one_nonneg,Pl.zR ρ q _ Mo.one_nonneg,h ρ]
theorem Pl.ka (ρ:Int->Rat) {l:Sp} (hn:∀ x ∈ l,x.2.qe):(Pl.jz l).val ρ=xn ρ l:=by
 have h1:=xar ρ (l:=(Pl.jz l).qt Mo.one) (l':=l) (fun k=>by
  rw [Pl.J0]
  split
  · rfl
  · rename_i hk
    exact (uac fun x hx e=>hk (by rw [<- e]; exact hn x hx)).symm)
 rw [Pl.zR ρ _ _ Mo.one_nonneg,Mo.val_one] at h1
 grind
theorem Pl.ze (ρ:Int->Rat) (p:Pl):xn ρ (p.qt Mo.one)=p.val ρ:=by
 rw [Pl.zR ρ p _ Mo.one_nonneg,Mo.val_one]; grind
def Mo.mul (m n:Mo):Mo:=⟨m.a+n.a,m.b+n.b,m.c+n.c,m.d+n.d⟩
theorem Mo.mul_nonneg {m n:Mo} (h:m.qe) (k:n.qe):(m.mul n).qe:=by unfold Mo.qe Mo.mul at *; simp only at *; omega
theorem Mo.qbd {m n:Mo} {E F:Nat} (h:m.le E) (k:n.le F):(m.mul n).le ((E+F:Nat):Int):=by unfold Mo.le Mo.mul at *; simp only; omega
theorem Mo.val_mul (ρ:Int->Rat) {m n:Mo} (h:m.qe) (k:n.qe):(m.mul n).val ρ=m.val ρ * n.val ρ:=by
 unfold Mo.qe at h k;unfold Mo.val Mo.mul;rw [Int.toNat_add h.1 k.1,Int.toNat_add h.2.1 k.2.1,Int.toNat_add h.2.2.1 k.2.2.1,Int.toNat_add h.2.2.2 k.2.2.2];simp only [gau]
 grind
def stm (c:Int) (m:Mo) (l:Sp):Sp:=l.map fun x=>(c * x.1,m.mul x.2)
def uam : Sp -> Sp -> Sp
 | [],_=>[]
 | (c,m) :: r,l=>stm c m l ++ uam r l
theorem uc4 {c:Int} {m:Mo} {l:Sp} {x:Int × Mo} (h:x ∈ stm c m l):∃ y ∈ l,x=(c * y.1,m.mul y.2):=by
 unfold stm at h;obtain ⟨y,hy,rfl⟩:=pZ.1 h;exact ⟨y,hy,rfl⟩
theorem xbd {k l:Sp} {x:Int × Mo} (h:x ∈ uam k l):∃ y ∈ k,∃ z ∈ l,x=(y.1 * z.1,y.2.mul z.2):=by
 induction k with
 | nil=>simp [uam] at h
 | cons u k ih =>
   obtain ⟨c,m⟩:=u;rw [uam] at h;rcases rj.1 h with h | h
   · obtain ⟨z,hz,rfl⟩:=uc4 h;exact ⟨(c,m),r5 ..,z,hz,rfl⟩
   · obtain ⟨y,hy,z,hz,rfl⟩:=ih h;exact ⟨y,rz _ hy,z,hz,rfl⟩
theorem kc4 (ρ:Int->Rat) (c:Int) {m:Mo} (hm:m.qe) {l:Sp} (hl:∀ x ∈ l,x.2.qe):xn ρ (stm c m l)=(c:Rat) * m.val ρ * xn ρ l:=by
 induction l with
 | nil=>simp [stm,xn]
 | cons x l ih =>
   obtain ⟨d,n⟩:=x;have h1:=ih fun x hx=>hl x (rz _ hx)
   have h2:=hl (d,n) (r5 ..);unfold stm at h1 ⊢;simp only [sr,xn,h1,Mo.val_mul ρ hm h2]
   push_cast
   grind
theorem xct (ρ:Int->Rat) {k l:Sp} (hk:∀ x ∈ k,x.2.qe) (hl:∀ x ∈ l,x.2.qe):xn ρ (uam k l)=xn ρ k * xn ρ l:=by
 induction k with
 | nil=>simp [uam,xn]
 | cons x k ih =>
   obtain ⟨c,m⟩:=x;rw [uam,gah,kc4 ρ c (hk _ (r5 ..)) hl,ih fun x hx=>hk x (rz _ hx)];simp only [xn]
   grind
theorem vc4 (c:Int) (m:Mo) (l:Sp):zg (stm c m l)=c.natAbs * zg l:=by
 induction l with
 | nil=>simp [stm,zg]
 | cons x l ih =>
   obtain ⟨d,n⟩:=x;unfold stm at ih ⊢;simp only [sr,zg,ih,Int.natAbs_mul,ri]
theorem qbu (k l:Sp):zg (uam k l)=zg k * zg l:=by
 induction k with
 | nil=>simp [uam,zg]
 | cons x k ih =>
   obtain ⟨c,m⟩:=x;rw [uam,wah,vc4,ih,kai,rN]
theorem yba {k l:Sp} (hk:∀ x ∈ k,x.2.qe) (hl:∀ x ∈ l,x.2.qe):∀ x ∈ uam k l,x.2.qe:=fun x hx=>by
 obtain ⟨y,hy,z,hz,rfl⟩:=xbd hx;exact Mo.mul_nonneg (hk y hy) (hl z hz)
def Pl.add (p q:Pl):Pl:=Pl.jz (p.qt Mo.one ++ q.qt Mo.one)
def Pl.mul (p q:Pl):Pl:=Pl.jz (uam (p.qt Mo.one) (q.qt Mo.one))
theorem Pl.yk (p q:Pl):(p.add q).Can:=Pl.jj _
theorem Pl.q8 (p q:Pl):(p.mul q).Can:=Pl.jj _
theorem Pl.yi (ρ:Int->Rat) (p q:Pl):(p.add q).val ρ=p.val ρ+q.val ρ:=by
 unfold Pl.add;rw [Pl.ka ρ (fun x hx=>(rj.1 hx).elim (p.qv x) (q.qv x)),gah,Pl.ze,Pl.ze]
theorem Pl.qD (ρ:Int->Rat) (p q:Pl):(p.mul q).val ρ=p.val ρ * q.val ρ:=by
 unfold Pl.mul;rw [Pl.ka ρ (yba p.qv q.qv),xct ρ p.qv q.qv,Pl.ze,Pl.ze]
theorem Pl.qT (ρ:Int->Rat) (z:Int):(Pl.const z).val ρ=(z:Rat):=by
 have:=Pl.ze ρ (Pl.const z);rw [Pl.vf] at this;simp only [xn,Mo.val_one] at this
 grind
theorem Pl.qu (ρ:Int->Rat):Pl.zero.val ρ=0:=by simp [Pl.zero,Pl.val,sgn,val]
theorem Pl.jN {p:Pl} (hp:p.Can) (h:∀ ρ,p.val ρ=0):p=Pl.zero:=Pl.qz hp Pl.qS fun ρ=>by rw [h,Pl.qu]
mutual
def Pl.ex (E : Nat) : Pl -> Prop
 | .mk l _ _ cs=>l<=0\/(cs.length<=E+1/\yav E cs)
def yav (E : Nat) : List Pl -> Prop
 | []=>True
 | c :: r=>c.ex E/\yav E r
end
mutual
def Pl.nr : Pl -> Nat
 | .mk l n d cs=>if l<=0 then (sgn n (val d)).natAbs else ql cs
def ql : List Pl -> Nat
 | []=>0
 | c :: r=>c.nr+ql r
end
theorem zav {E:Nat} {cs:List Pl} (h:yav E cs):∀ c ∈ cs,c.ex E:=by
 induction cs with
 | nil=>simp
 | cons y r ih=>rw [yav] at h; simpa using ⟨h.1,ih h.2⟩
theorem ua8 {E:Nat} {cs:List Pl} (h:∀ c ∈ cs,c.ex E):yav E cs:=by
 induction cs with
 | nil=>trivial
 | cons y r ih=>rw [yav]; exact ⟨h y (by simp),ih fun c hc=>h c (by simp [hc])⟩
theorem qbe {cs:List Pl} {c:Pl} (h:c ∈ cs):c.nr<=ql cs:=by
 induction cs with
 | nil=>cases h
 | cons y r ih =>
   rw [ql];rcases pQ.1 h with rfl | h
   · omega
   · have:=ih h; omega
theorem qbb (a b:List Pl):ql (a ++ b)=ql a+ql b:=by
 induction a with
 | nil=>simp [ql]
 | cons x a ih=>rw [rI,ql,ql,ih]; omega
mutual
theorem Pl.ZD {E F : Nat} (uG : E <= F) : ∀ p : Pl, p.ex E -> p.ex F
 | .mk l _ _ cs,h=>by rw [Pl.ex] at h ⊢; rcases h with h | h; exact .inl h; exact .inr ⟨by omega,wbo uG cs h.2⟩
theorem wbo {E F : Nat} (uG : E <= F) : ∀ cs : List Pl, yav E cs -> yav F cs
 | [],_=>trivial
 | c :: r,h=>by rw [yav] at h ⊢; exact ⟨Pl.ZD uG c h.1,wbo uG r h.2⟩
end
theorem Pl.kt {l:Int} {n:Bool} {d:List Nat} {cs:List Pl} (h:(Pl.mk l n d cs).Can) (hl:¬ l<=0):l<=4/\qp l cs:=⟨h.qq.2,(h.kids (by omega)).2.2.2.1⟩
theorem Mo.Kj (m:Mo) (i e j:Int) (hj:0 < j) (rD:j<=4) (hi:0 < i) (H6:i<=4) (h:j ≠ i):(m.put i e).get j=m.get j:=by
 have:=Mo.zr m i.toNat e (by omega) (by omega) j.toNat (by omega) (by omega);rw [show ((i.toNat:Nat):Int)=i by omega,show ((j.toNat:Nat):Int)=j by omega,if_neg (by omega)] at this;exact this
mutual
theorem Pl.JT (E : Nat) : ∀ (p : Pl) (m : Mo), p.Can -> p.ex E -> m.le E -> (∀ i : Int, 0 < i -> i <= p.lv -> m.get i = 0) -> ∀ x ∈ p.qt m, x.2.le E
 | .mk l n d cs,m,hc,h,hm,h0,x,hx=>by
   rw [Pl.qt] at hx
   by_cases h1:l<=0
   · rw [if_pos h1] at hx;rw [pD.1 hx];exact hm
   · rw [if_neg h1] at hx;obtain ⟨ag,hk⟩:=Pl.kt hc h1;rw [if_neg (by omega)] at hx;rw [Pl.ex] at h;have h:=h.resolve_left h1;have hz:=h0 l (by omega) (ub _);rw [hz] at hx;exact wbh E cs m l 0 hk h.2 hm (by omega) ag (by omega) (by omega) (fun i hi Eb=>h0 i hi (by show i<=l; omega)) x hx
theorem wbh (E : Nat) : ∀ (cs : List Pl) (m : Mo) (l e : Int), qp l cs -> yav E cs -> m.le E -> 0 < l -> l <= 4 -> 0 <= e -> e + cs.length <= E + 1 -> (∀ i : Int, 0 < i -> i < l -> m.get i = 0) -> ∀ x ∈ xe m l e cs, x.2.le E
 | [],m,l,e,_,_,_,_,_,_,_,_,x,hx=>by rw [xe] at hx; cases hx
 | c :: r,m,l,e,hc,h,hm,lV,ag,he,hle,h0,x,hx=>by
   rw [xe] at hx;rw [yav] at h;rw [pL] at hle;unfold qp at hc;rcases rj.1 hx with hx | hx
   · exact Pl.JT E c _ hc.2.1 h.1 (hm.put l e (by omega)) (fun i hi Eb=>by rw [Mo.Kj m l e i hi (by omega) lV ag (by omega)]; exact h0 i hi (by omega)) x hx
   · exact wbh E r m l (e+1) hc.2.2 h.2 hm lV ag (by omega) (by omega) h0 x hx
end
mutual
theorem Pl.j9 : ∀ (p : Pl) (m : Mo), p.Can -> zg (p.qt m) = p.nr
 | .mk l n d cs,m,hc=>by
   rw [Pl.qt,Pl.nr]
   by_cases h1:l<=0
   · rw [if_pos h1,if_pos h1]; simp [zg]
   · rw [if_neg h1,if_neg h1];obtain ⟨ag,hk⟩:=Pl.kt hc h1;rw [if_neg (by omega)];exact ubh cs m l _ hk
theorem ubh : ∀ (cs : List Pl) (m : Mo) (l e : Int), qp l cs -> zg (xe m l e cs) = ql cs
 | [],m,l,e,_=>rfl
 | c :: r,m,l,e,hc=>by
   unfold qp at hc;rw [xe,wah,ql,Pl.j9 c _ hc.2.1,ubh r m l (e+1) hc.2.2]
end
theorem Pl.ju (z:Int):(Pl.const z).nr=z.natAbs:=by rw [Pl.const,Pl.nr,if_pos (ub _),qg,wao]
theorem vcc (f:Int × Mo->Int) (k:Nat) (l:Sp):ql ((List.range k).map fun i=>Pl.const (zg (l.filter fun x=>decide (f x=Int.ofNat i))))<=zg l:=by
 have h1:∀ k,ql ((List.range k).map fun i=>Pl.const (zg (l.filter fun x=>decide (f x=Int.ofNat i))))=zg (l.filter fun x=>decide (0<=f x/\f x < k)):=by
  intro k
  induction k with
  | zero =>
    rw [show (l.filter fun x=>decide (0<=f x/\f x < ((0:Nat):Int)))=[] from Rp.2 fun x _=>by simp]
    rfl
  | succ k ih =>
    rw [RB,ux,qbb,ih];simp only [sr,SP,ql,Pl.ju,uL,s8];clear ih
    induction l with
    | nil=>rfl
    | cons x l ih =>
      obtain ⟨c,m⟩:=x;simp only [sB,decide_eq_true_eq]
      by_cases h1:f (c,m)=Int.ofNat k
      · have h2:¬ (0<=f (c,m)/\f (c,m) < (k:Int)):=by rw [h1]; simp
        have h3:0<=f (c,m)/\f (c,m) < ((k+1:Nat):Int):=by rw [h1]; simp; omega
        rw [if_neg h2,if_pos h1,if_pos h3,kai,kai];omega
      · rw [if_neg h1];have h4:f (c,m) ≠ (k:Int):=h1
        by_cases h2:0<=f (c,m)/\f (c,m) < (k:Int)
        · have h3:0<=f (c,m)/\f (c,m) < ((k+1:Nat):Int):=by omega
          rw [if_pos h2,if_pos h3,kai,kai];omega
        · have h3:¬ (0<=f (c,m)/\f (c,m) < ((k+1:Nat):Int)):=by omega
          rw [if_neg h2,if_neg h3];exact ih
 rw [h1];exact yb4 _ l
theorem kc6 {α:Type} (f g:α->Pl) (l:List α) (h:∀ x ∈ l,(f x).nr<=(g x).nr):ql (l.map f)<=ql (l.map g):=by
 induction l with
 | nil=>simp [ql]
 | cons x l ih =>
   simp only [sr,ql];have h1:=h x (by simp);have h2:=ih fun y hy=>h y (by simp [hy])
   omega
theorem gdb (n:Nat):∀ l:Sp,(bld n l).nr<=zg l:=by
 induction n with
 | zero =>
   intro l;cases l with
   | nil=>simp [bld,Pl.zero,Pl.nr,sgn,val]
   | cons x r=>obtain ⟨c,m⟩:=x; rw [bld,Pl.ju,kai]; omega
 | succ n ih =>
   intro l;cases l with
   | nil=>simp [bld,Pl.zero,Pl.nr,sgn,val]
   | cons x r =>
     obtain ⟨c,m⟩:=x;rw [bld]
     split
     · exact ih _
     · rw [Pl.nr,if_neg (by omega)];refine py (kc6 _ (fun (i:Nat)=>Pl.const (zg (((c,m) :: r).filter fun x=>decide (x.2.get (n+1:Nat)=Int.ofNat i)))) _ fun i _=>?_) (vcc (fun x=>x.2.get (n+1:Nat)) _ _);rw [Pl.ju,uL];exact ih _
theorem wdb (E n:Nat):∀ l:Sp,(∀ x ∈ l,x.2.le E)->(bld n l).ex E:=by
 induction n with
 | zero =>
   intro l _;cases l with
   | nil=>simp [bld,Pl.zero,Pl.ex]
   | cons x r=>obtain ⟨c,m⟩:=x; simp [bld,Pl.const,Pl.ex]
 | succ n ih =>
   intro l hl;cases l with
   | nil=>simp [bld,Pl.zero,Pl.ex]
   | cons x r =>
     obtain ⟨c,m⟩:=x;rw [bld]
     split
     · exact ih _ hl
     · rw [Pl.ex];have hg:m.get ((n+1:Nat):Int)<=E:=(hl (c,m) (by simp)).get ((n+1:Nat):Int);refine .inr ⟨by rw [px,tt]; omega,ua8 fun p hp=>?_⟩;obtain ⟨i,-,rfl⟩:=pZ.1 hp;exact ih _ (fun x hx=>hl x (sq.1 hx).1)
theorem Pl.vA {E:Nat} {l:Sp} (h:∀ x ∈ l,x.2.le E):(Pl.jz l).ex E:=wdb E 4 _ fun x hx=>by
 obtain ⟨-,y,hy,e⟩:=qw hx;rw [<- e];exact h y hy
theorem Pl.kA (l:Sp):(Pl.jz l).nr<=zg l:=py (gdb 4 _) (va5 l)
theorem Pl.qbO (E:Nat) (n:Nat):∀ p:Pl,p.Can->p.ex E->p.lv<=n->p.sz<=(E+2) ^ n:=by
 induction n with
 | zero =>
   intro p hc h hl;obtain ⟨l,ng,d,cs⟩:=p;unfold Pl.Can at hc
   change l<=0 at hl
   rcases hc with hc | hc
   · rw [hc.2.1,Pl.sz,vk]; simp
   · omega
 | succ n ih =>
   intro p hc h hl;obtain ⟨l,ng,d,cs⟩:=p
   change l<=((n+1:Nat):Int) at hl
   by_cases h1:l<=0
   · unfold Pl.Can at hc;rcases hc with hc | hc
     · rw [hc.2.1,Pl.sz,vk]; exact tp (by omega)
     · omega
   · obtain ⟨-,hk⟩:=Pl.kt hc h1;rw [Pl.ex] at h;have h:=h.resolve_left h1;have key:∀ ks:List Pl,(∀ c ∈ ks,c.sz<=(E+2) ^ n)->vk ks<=ks.length * (E+2) ^ n:=by
      intro ks
      induction ks with
      | nil=>simp [vk]
      | cons y r ihr =>
        intro hh;have h1:=hh y (by simp);have h2:=ihr fun z hz=>hh z (by simp [hz])
        rw [vk,pL,rN];omega
     have h2:=key cs fun c gU=>ih c (hk.mem c gU).2 (zav h.2 c gU) (by have:=(hk.mem c gU).1; omega)
     have h3:cs.length * (E+2) ^ n<=(E+1) * (E+2) ^ n:=pE _ h.1;have h4:(E+2) ^ (n+1)=(E+1) * (E+2) ^ n+(E+2) ^ n:=by rw [se,sj,<- PJ]
     have h5:0 < (E+2) ^ n:=tp (by omega);rw [Pl.sz];omega
mutual
theorem Pl.qaR (D : Nat) : ∀ p : Pl, p.Can -> p.nr < B32 ^ D -> p.dm <= D
 | .mk l n d cs,hc,h=>by
   unfold Pl.Can at hc;rw [Pl.nr] at h;rw [Pl.dm];rcases hc with hc | hc
   · rw [if_pos (by omega),ku] at h;rw [hc.2.1,ww,hc.2.2.1];have:=yf h;omega
   · rw [if_neg (by omega)] at h;have:=kb9 D cs l hc.2.2.2.2.2.1 h;rw [hc.2.2.2.1,r8];omega
theorem kb9 (D : Nat) : ∀ (cs : List Pl) (l : Int), qp l cs -> ql cs < B32 ^ D -> ww cs <= D
 | [],_,_,_=>by rw [ww]; omega
 | c :: r,l,hc,h=>by
   unfold qp at hc;rw [ql] at h;rw [ww];have h1:=Pl.qaR D c hc.2.1 (by omega);have h2:=kb9 D r l hc.2.2 (by omega);omega
end
structure Fit (p : Pl) (E D : Nat) : Prop where
 can:p.Can
 ex:p.ex E
 nr:p.nr < B32 ^ D
namespace Fit
variable {p q:Pl} {E D F G:Nat}
theorem sz (h:Fit p E D):p.sz<=(E+2) ^ 4:=Pl.qbO E 4 p h.can h.ex h.can.qq.2
theorem dm (h:Fit p E D):p.dm<=D:=Pl.qaR D p h.can h.nr
theorem mono (h:Fit p E D) (hE:E<=F) (hD:D<=G):Fit p F G:=⟨h.can,Pl.ZD hE p h.ex,pw h.nr (rS (by decide) hD)⟩
theorem exps (h:Fit p E D):∀ x ∈ p.qt Mo.one,x.2.le E:=Pl.JT E p Mo.one h.can h.ex (by unfold Mo.le Mo.one; simp) (fun i h0 h4=>by unfold Mo.one Mo.get; split <;> (try split) <;> (try split) <;> rfl)
theorem nrm (h:Fit p E D):zg (p.qt Mo.one)=p.nr:=Pl.j9 p _ h.can
theorem kid {l:Int} {n:Bool} {d:List Nat} {cs:List Pl} (h:Fit (.mk l n d cs) E D) (hl:0 < l) {c:Pl} (hc:c ∈ cs):Fit c E D:=by
 obtain ⟨h1,h2,h3⟩:=h;obtain ⟨-,hk⟩:=Pl.kt h1 (by omega);rw [Pl.ex] at h2;rw [Pl.nr,if_neg (by omega)] at h3;have:=qbe hc;exact ⟨(hk.mem c hc).2,zav (h2.resolve_left (by omega)).2 c hc,by omega⟩
theorem len {l:Int} {n:Bool} {d:List Nat} {cs:List Pl} (h:Fit (.mk l n d cs) E D) (hl:0 < l):cs.length<=E+1:=by
 have h2:=h.ex;rw [Pl.ex] at h2;exact (h2.resolve_left (by omega)).1
theorem const {z:Int} (h:z.natAbs < B32 ^ D):Fit (Pl.const z) E D:=⟨zt z,by unfold Pl.const; rw [Pl.ex]; exact .inl (ub _),by rw [Pl.ju]; exact h⟩
theorem zero:Fit Pl.zero E D:=⟨Pl.qS,by unfold Pl.zero; rw [Pl.ex]; exact .inl (ub _),by unfold Pl.zero; rw [Pl.nr,if_pos (ub _)]; exact tp (by decide)⟩
theorem add (h:Fit p E D) (k:Fit q F G):Fit (p.add q) (max E F) (max D G+1):=by
 refine ⟨Pl.yk p q,Pl.vA fun x hx=>?_,?_⟩
 · rcases rj.1 hx with hx | hx
   · exact (h.exps x hx).mono (by omega)
   · exact (k.exps x hx).mono (by omega)
 · have h1:=Pl.kA (p.qt Mo.one ++ q.qt Mo.one);rw [wah,h.nrm,k.nrm] at h1;have h2:B32 ^ D<=B32 ^ max D G:=rS (by decide) (by omega);have h3:B32 ^ G<=B32 ^ max D G:=rS (by decide) (by omega);have h4:=h.nr;have h5:=k.nr;unfold Pl.add;rw [se];have h6:B32 ^ max D G * 2<=B32 ^ max D G * B32:=sE _ (by decide);omega
theorem mul (h:Fit p E D) (k:Fit q F G):Fit (p.mul q) (E+F) (D+G):=by
 refine ⟨Pl.q8 p q,Pl.vA fun x hx=>?_,?_⟩
 · obtain ⟨y,hy,z,hz,rfl⟩:=xbd hx;exact Mo.qbd (h.exps y hy) (k.exps z hz)
 · have h1:=Pl.kA (uam (p.qt Mo.one) (q.qt Mo.one));rw [qbu,h.nrm,k.nrm] at h1;unfold Pl.mul;rw [wk];refine sw h1 (Tg h.nr (Sf k.nr) (tp (by decide)))
end Fit
end Go.Proofs.YtcepajijiabkmaaGreat
