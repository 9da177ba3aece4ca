/- Reference 20: Few: is a sum of terms, in any form, of a size that is looked at? Law 24: Few. -/
import Derived.Test.YtcepajijiabkmaaGreatMo12
set_option linter.all false
set_option maxRecDepth 100000
set_option maxHeartbeats 8000000
namespace Go.Proofs.YtcepajijiabkmaaGreat
open Lib (hid)
open Go.RowKit
structure kag where
 neg:Bool
 ds:List Nat
 mo:Mo
def kbv (w:World) (A:Option Addr) (ts:List kag):Prop:=∀ i (h:i < ts.length),∃ ad B c,A=some ad/\ad.block < w.heap.size/\vam w (ad.add (i * 6)) ts[i].neg (.slice B ts[i].ds.length c) ts[i].mo/\jc w (.slice B ts[i].ds.length c) ts[i].ds
def war (w:World) (v:Value) (ts:List kag):Prop:=∃ A c,v=.slice A ts.length c/\ts.length<=c/\c<=9223372036854775807/\kbv w A ts
theorem kbv.ext {w w':World} {A:Option Addr} {ts:List kag} (h:kbv w A ts) (hx:Ext w w'):kbv w' A ts:=by
 intro i hi;obtain ⟨ad,B,c,e,hb,h1,h2⟩:=h i hi;exact ⟨ad,B,c,e,px hb hx.size,h1.ext hx (by rw [ja]; exact hb),h2.ext hx⟩
theorem war.ext {w w':World} {v:Value} {ts:List kag} (h:war w v ts) (hx:Ext w w'):war w' v ts:=by
 obtain ⟨A,c,e,h1,h2,h3⟩:=h;exact ⟨A,c,e,h1,h2,h3.ext hx⟩
def kag.qaH (d:Nat) (e:Int) (t:kag):Prop:=t.ds.length<=d/\t.mo.le e
def gb6 (ts:List kag) (n d:Nat) (e:Int) (w:World) (x:Ending) (w':World):Prop:=∃ b,x=.returned (.bool b)/\(b=true->ts.length<=n/\∀ t ∈ ts,t.qaH d e)/\Ext w w'
theorem xdg {m:Mo} {e:Int} (h:∀ j:Nat,j < 4->m.get ((j+1:Nat):Int)<=e):m.le e:=by
 have h0:=h 0 (by omega);have h1:=h 1 (by omega);have h2:=h 2 (by omega);have h3:=h 3 (by omega);simp [Mo.get] at h0 h1 h2 h3;exact ⟨h0,h1,h2,h3⟩
theorem xcu {w:World} {v:Value} {ts:List kag} (n d:Nat) (e:Int) (h:war w v ts):Calls Tryz.prog 27 #[v,.int .i64 n,.int .i64 d,.int .i64 e] w (gb6 ts n d e w):=by
 obtain ⟨A,c,rfl,fC,dK,aK⟩:=h;have lF:=hid aK;clear aK
 by_cases hn:n < ts.length
 · have wW:decide (n < ts.length)=true:=by simpa using hn
   go_enter Tryz.func27,Tryz.ntmps27;go_wp2_with fail;go_ret;exact ⟨false,rfl,by simp,Ext.refl w⟩
 have wW:decide (n < ts.length)=false:=by simpa using hn
 have HN:=hid hn;go_enter Tryz.func27,Tryz.ntmps27;go_wp2_with fail
 go_loopw [9] (fun iv wr=>∃ k:Nat,k<=ts.length/\iv=.int .i64 k/\Hid ((∀ t ∈ ts.take k,t.qaH d e)/\Ext w wr)) (fun iv _=>ts.length - (intOf iv).toNat)
 case atStart=>exact ⟨0,pZ _,rfl,fun t ht=>by simp at ht,Ext.refl w⟩
 case round =>
  obtain ⟨k,hk,rfl,⟨iU,hx⟩⟩:=hrel;have HA:=hid iU;have HX:=hid hx;clear iU hx
  by_cases af:k < ts.length
  · obtain ⟨ad,B,c',rfl,hb,kL,-⟩:=lF.out k af;have ed:=kL.ext HX.out (by rw [ja]; exact hb);have HTW:Hid (∀ j:Nat,j < 4->wr.cell? ⟨(ad.add (k * 6)).block,(ad.add (k * 6)).off+2+j,none⟩=some (.int .i64 (ts[k].mo.get ((j+1:Nat):Int)))):=ed.xS;have uK:Hid (ts[k].qaH d e->∀ t ∈ ts.take (k+1),t.qaH d e):=hid (fun h t ht=>by
     rw [pC af] at ht;rcases pT.1 ht with ht | ht
     · exact HA.out t ht
     · rw [pD.1 ht]; exact h)
    have a1:=ed.2.1;clear ed kL;generalize ts[k]=tk at *
    by_cases hd:d < tk.ds.length
    · have nJ:decide (d < tk.ds.length)=true:=by simpa using hd
      go_wp2_with fail;go_ret;exact ⟨false,rfl,by simp,HX.out⟩
    have nJ:decide (d < tk.ds.length)=false:=by simpa using hd
    have HD:Hid (tk.ds.length<=d):=hid (by omega);go_wp2_with fail;clear a1
    go_loopw [10] (fun jv wi=>∃ j:Nat,j<=4/\jv=.int .i64 j/\Hid ((∀ i:Nat,i < j->tk.mo.get ((i+1:Nat):Int)<=e)/\Ext wr wi)) (fun jv _=>4 - (intOf jv).toNat)
    case atStart=>exact ⟨0,pZ _,rfl,fun i hi=>by omega,Ext.refl wr⟩
    case round =>
     obtain ⟨j,hj,rfl,⟨hle,EL⟩⟩:=hrel;have rG:=hid hle;have Ep:=hid EL;clear hle EL
     by_cases ry:j < 4
     · have hcj:=(Ep.out.cell (p:=⟨(ad.add (k * 6)).block,(ad.add (k * 6)).off+2+j,none⟩) (by show (ad.add (k * 6)).block < _; rw [ja]; exact px hb HX.out.size)).trans (HTW.out j ry);generalize hgx:tk.mo.get ((j+1:Nat):Int)=x at hcj;have HGX:=hid hgx;clear hgx
       by_cases EN:x<=e
       · have DK:Hid (∀ i:Nat,i < j+1->tk.mo.get ((i+1:Nat):Int)<=e):=hid (fun i hi=>by
          rcases Nat.lt_or_eq_of_le (Nat.le_of_lt_succ hi) with h | rfl
          · exact rG.out i h
          · rw [HGX.out]; exact EN)
         go_wp2_with fail
         all_goals first
           | (go_ret
              exact ⟨false,rfl,by simp,HX.out.trans Ep.out⟩)
           | (go_roundw
              case rel=>exact ⟨j+1,by omega,by go_num,DK.out,Ep.out⟩
              case measure=>simp [intOf]; omega)
       · go_wp2_with fail
         all_goals
          go_ret;exact ⟨false,rfl,by simp,HX.out.trans Ep.out⟩
     · obtain rfl:j=4:=by omega
       have HF:Hid (tk.qaH d e):=hid ⟨HD.out,xdg rG.out⟩;go_wp2_with fail
       go_roundw
       case rel=>exact ⟨k+1,by omega,by go_num,uK.out HF.out,HX.out.trans Ep.out⟩
       case measure=>simp [intOf]; omega
  · obtain rfl:k=ts.length:=by omega
    have HF:Hid (∀ t ∈ ts,t.qaH d e):=hid (by have:=HA.out; rwa [pQ] at this);go_wp2_with fail;go_ret;exact ⟨true,rfl,fun _=>⟨by omega,HF.out⟩,HX.out⟩
theorem ycu {w:World} {v:Value} {ts:List kag} (n:Nat) (e:Int) (h:war w v ts):Calls Tryz.prog 7 #[v,.int .i64 n,.int .i64 e] w (gb6 ts n 4 e w):=by
 have HC:Hid (∀ w',Ext w w'->Calls Tryz.prog 27 #[v,.int .i64 n,.int .i64 4,.int .i64 e] w' (gb6 ts n 4 e w')):=hid (fun w' hx=>xcu n 4 e (h.ext hx));obtain ⟨A,c,rfl,fC,dK,-⟩:=h;go_enter Tryz.func7,Tryz.ntmps7;go_wp2_with fail;refine (HC.out _ (by first | exact Ext.refl w | exact (Ext.refl w).drew)).mono ?_;rintro x w2 ⟨b,rfl,hb,x2⟩;have HB:=hid hb;have X2:=hid x2;clear hb x2;go_wp2_with fail;go_ret;exact ⟨b,rfl,HB.out,X2.out⟩
theorem yaw (x:Rat) (m n:Nat):x ^ (m+n)=x ^ m * x ^ n:=by
 induction n with
 | zero=>simp
 | succ n ih=>rw [<- tR,Pu,ih,Pu]; grind
theorem gcz (x:Rat) (m n:Nat):x ^ (m * n)=(x ^ m) ^ n:=by
 induction n with
 | zero=>simp
 | succ n ih=>rw [Nat.mul_succ,yaw,ih,Pu]
def Mo.num (E:Nat) (m:Mo):Nat:=m.a.toNat+E * (m.b.toNat+E * (m.c.toNat+E * m.d.toNat))
theorem waq {E x x' y y':Nat} (hx:x < E) (h:y < y'):x+E * y < x'+E * y':=by
 have h1:E * (y+1)<=E * y':=sL E h;rw [rk] at h1;omega
theorem Mo.Kg {E:Nat} {m n:Mo} (hm:m.qe) (hn:n.qe) (hE:m.a < E/\m.b < E/\m.c < E/\m.d < E) (h:m.lt n):m.num E < n.num E:=by
 unfold Mo.lt at h;unfold Mo.qe at hm hn;unfold Mo.num;rcases h with h | ⟨h1,h | ⟨h2,h | ⟨h3,h⟩⟩⟩
 · exact waq (by omega) (waq (by omega) (waq (by omega) (by omega)))
 · rw [h1]; exact waq (by omega) (waq (by omega) (by omega))
 · rw [h1,h2]; exact waq (by omega) (by omega)
 · rw [h1,h2,h3]; omega
def vat (E B : Nat) : Sp -> Int
 | []=>0
 | (c,m) :: r=>c * (B:Int) ^ m.num E+vat E B r
def kro (E B:Nat) (i:Int):Rat:=(B:Rat) ^ (E ^ (i - 1).toNat)
theorem Mo.qaK (E B:Nat) (m:Mo):m.val (kro E B)=(B:Rat) ^ m.num E:=by
 unfold Mo.val kro Mo.num;simp only [<- gcz,<- yaw]
 congr 1
 simp only [show ((1:Int) - 1).toNat=0 from rfl,show ((2:Int) - 1).toNat=1 from rfl,show ((3:Int) - 1).toNat=2 from rfl,show ((4:Int) - 1).toNat=3 from rfl,Wt,paR]
 grind
theorem qbw (E B:Nat) (l:Sp):ql (kro E B) l=(vat E B l:Rat):=by
 induction l with
 | nil=>simp [ql,vat]
 | cons x l ih =>
   obtain ⟨c,m⟩:=x;simp only [ql,vat,ih,Mo.qaK]
   push_cast
   rfl
theorem wdc (E B K:Nat) (hB:0 < B) (l:Sp) (h:∀ x ∈ l,x.2.num E<=K):(vat E B l).natAbs<=zg l * B ^ K:=by
 induction l with
 | nil=>simp [vat]
 | cons x l ih =>
   obtain ⟨c,m⟩:=x;have h1:=ih fun x hx=>h x (rr _ hx)
   have h2:B ^ m.num E<=B ^ K:=r8 hB (h (c,m) (rS ..));simp only [vat,zg];have h3:(c * (B:Int) ^ m.num E).natAbs=c.natAbs * B ^ m.num E:=by
    rw [paf,Int.natAbs_pow,u5]
   have h4:c.natAbs * B ^ m.num E<=c.natAbs * B ^ K:=sL _ h2;have h5:=Int.natAbs_add_le (c * (B:Int) ^ m.num E) (vat E B l);rw [r5];omega
theorem vaj (c:Int) (m:Mo) (l:Sp):zg ((c,m) :: l)=c.natAbs+zg l:=rfl
theorem kce {l:Sp} (h:zq l) (hn:∀ x ∈ l,x.2.qe) (E:Nat) (hE:∀ x ∈ l,x.2.le E) (B:Nat) (hB:zg l+1<=B) (au:l ≠ []):vat (E+1) B l ≠ 0:=by
 intro h2;cases l with
 | nil=>exact au rfl
 | cons x r =>
   obtain ⟨c,m⟩:=x;simp only [vat] at h2;have hc:=h.1;rw [vaj] at hB;have Ri:∀ x ∈ r,x.2.num (E+1) < m.num (E+1):=fun x hx=>by
    refine Mo.Kg (hn x (rr _ hx)) (hn _ (rS ..)) ?_ (h.2.1 x hx);have:=hE x (rr _ hx);unfold Mo.le at this;omega
   have h3:(c * (B:Int) ^ m.num (E+1)).natAbs=c.natAbs * B ^ m.num (E+1):=by
    rw [paf,Int.natAbs_pow,u5]
   have h4:(vat (E+1) B r).natAbs=(c * (B:Int) ^ m.num (E+1)).natAbs:=by omega
   have bY:1<=c.natAbs:=by omega
   cases r with
   | nil =>
     simp only [vat,Tk] at h4;rw [h3] at h4;have:0 < B ^ m.num (E+1):=tp (by omega);have:=pE (B ^ m.num (E+1)) bY;omega
   | cons y r' =>
     have hy:=Ri y (rS ..);obtain ⟨K,hK⟩:∃ K,m.num (E+1)=K+1:=⟨m.num (E+1) - 1,by omega⟩;have h5:=wdc (E+1) B K (by omega) (y :: r') (fun x hx=>by have:=Ri x hx; omega);rw [h4,h3,hK,si] at h5;have hp:0 < B ^ K:=tp (by omega);generalize B ^ K=P at *;generalize zg (y :: r')=S at *;have h6:1 * (P * B)<=c.natAbs * (P * B):=pE _ bY;have h7:P * (S+2)<=P * B:=sL _ (by omega);have h8:P * (S+2)=S * P+2 * P:=by grind
     omega
theorem vcg {l:Sp} (h:zq l) (hn:∀ x ∈ l,x.2.qe) (E:Nat) (hE:∀ x ∈ l,x.2.le E) (hz:∀ ρ,ql ρ l=0):l=[]:=by
 cases l with
 | nil=>rfl
 | cons x r =>
   have h1:=hz (kro (E+1) (zg (x :: r)+1));rw [qbw] at h1;exact absurd (by exact_mod_cast h1) (kce h hn E hE _ (pj _) (by simp))
theorem Mo.le_sup (l:Sp):∃ E:Nat,∀ x ∈ l,x.2.le E:=by
 induction l with
 | nil=>exact ⟨0,by simp⟩
 | cons x r ih =>
   obtain ⟨E,h⟩:=ih;refine ⟨E+x.2.a.toNat+x.2.b.toNat+x.2.c.toNat+x.2.d.toNat,fun y hy=>?_⟩;rcases pN.1 hy with rfl | hy
   · unfold Mo.le; omega
   · exact (h y hy).mono (by omega)
theorem ja7 {l l':Sp} (hn:∀ x ∈ l,x.2.qe) (Xk:∀ x ∈ l',x.2.qe) (h:∀ ρ,ql ρ l=ql ρ l') (k:Mo):ve l k=ve l' k:=by
 have nH:∀ x ∈ l ++ yaq l',x.2.qe:=fun x hx=>by
  rcases pT.1 hx with hx | hx
  · exact hn x hx
  · unfold yaq at hx;obtain ⟨y,hy,rfl⟩:=pS.1 hx;exact Xk y hy
 obtain ⟨E,hE⟩:=Mo.le_sup (qg (l ++ yaq l'));have h1:qg (l ++ yaq l')=[]:=vcg (kaa _) (fun x hx=>(ww hx).1) E hE (fun ρ=>by
  rw [jas ρ (gae nH),zaj,xbw,h ρ]
  grind)
 have h2:=gae nH k;rw [h1,jao,gbq] at h2;simp only [ve] at h2;omega
theorem Pl.qv {p q:Pl} (hp:p.Can) (hq:q.Can) (h:∀ ρ,p.val ρ=q.val ρ):p=q:=by
 refine Pl.Kn hp hq (ja7 p.qz q.qz fun ρ=>?_);rw [Pl.zR ρ p _ Mo.one_nonneg,Pl.zR ρ q _ Mo.one_nonneg,h ρ]
theorem Pl.ke (ρ:Int->Rat) {l:Sp} (hn:∀ x ∈ l,x.2.qe):(Pl.j8 l).val ρ=ql ρ l:=by
 have h1:=jas ρ (l:=(Pl.j8 l).qu Mo.one) (l':=l) (fun k=>by
  rw [Pl.Kb]
  split
  · rfl
  · rename_i hk
    exact (vad fun x hx e=>hk (by rw [<- e]; exact hn x hx)).symm)
 rw [Pl.zR ρ _ _ Mo.one_nonneg,Mo.val_one] at h1
 grind
theorem Pl.ze (ρ:Int->Rat) (p:Pl):ql ρ (p.qu Mo.one)=p.val ρ:=by
 rw [Pl.zR ρ p _ Mo.one_nonneg,Mo.val_one]; grind
def Mo.mul (m n:Mo):Mo:=⟨m.a+n.a,m.b+n.b,m.c+n.c,m.d+n.d⟩
theorem Mo.mul_nonneg {m n:Mo} (h:m.qe) (k:n.qe):(m.mul n).qe:=by unfold Mo.qe Mo.mul at *; simp only at *; omega
theorem Mo.qbA {m n:Mo} {E F:Nat} (h:m.le E) (k:n.le F):(m.mul n).le ((E+F:Nat):Int):=by unfold Mo.le Mo.mul at *; simp only; omega
theorem Mo.val_mul (ρ:Int->Rat) {m n:Mo} (h:m.qe) (k:n.qe):(m.mul n).val ρ=m.val ρ * n.val ρ:=by
 unfold Mo.qe at h k;unfold Mo.val Mo.mul;rw [paq h.1 k.1,paq h.2.1 k.2.1,paq h.2.2.1 k.2.2.1,paq h.2.2.2 k.2.2.2];simp only [yaw]
 grind
def stm (c:Int) (m:Mo) (l:Sp):Sp:=l.map fun x=>(c * x.1,m.mul x.2)
def wan : Sp -> Sp -> Sp
 | [],_=>[]
 | (c,m) :: r,l=>stm c m l ++ wan r l
theorem qda {c:Int} {m:Mo} {l:Sp} {x:Int × Mo} (h:x ∈ stm c m l):∃ y ∈ l,x=(c * y.1,m.mul y.2):=by
 unfold stm at h;obtain ⟨y,hy,rfl⟩:=pS.1 h;exact ⟨y,hy,rfl⟩
theorem kbf {k l:Sp} {x:Int × Mo} (h:x ∈ wan k l):∃ y ∈ k,∃ z ∈ l,x=(y.1 * z.1,y.2.mul z.2):=by
 induction k with
 | nil=>simp [wan] at h
 | cons u k ih =>
   obtain ⟨c,m⟩:=u;rw [wan] at h;rcases pT.1 h with h | h
   · obtain ⟨z,hz,rfl⟩:=qda h;exact ⟨(c,m),rS ..,z,hz,rfl⟩
   · obtain ⟨y,hy,z,hz,rfl⟩:=ih h;exact ⟨y,rr _ hy,z,hz,rfl⟩
theorem yda (ρ:Int->Rat) (c:Int) {m:Mo} (hm:m.qe) {l:Sp} (hl:∀ x ∈ l,x.2.qe):ql ρ (stm c m l)=(c:Rat) * m.val ρ * ql ρ l:=by
 induction l with
 | nil=>simp [stm,ql]
 | cons x l ih =>
   obtain ⟨d,n⟩:=x;have h1:=ih fun x hx=>hl x (rr _ hx)
   have h2:=hl (d,n) (rS ..);unfold stm at h1 ⊢;simp only [ss,ql,h1,Mo.val_mul ρ hm h2]
   push_cast
   grind
theorem vcy (ρ:Int->Rat) {k l:Sp} (hk:∀ x ∈ k,x.2.qe) (hl:∀ x ∈ l,x.2.qe):ql ρ (wan k l)=ql ρ k * ql ρ l:=by
 induction k with
 | nil=>simp [wan,ql]
 | cons x k ih =>
   obtain ⟨c,m⟩:=x;rw [wan,zaj,yda ρ c (hk _ (rS ..)) hl,ih fun x hx=>hk x (rr _ hx)];simp only [ql]
   grind
theorem xda (c:Int) (m:Mo) (l:Sp):zg (stm c m l)=c.natAbs * zg l:=by
 induction l with
 | nil=>simp [stm,zg]
 | cons x l ih =>
   obtain ⟨d,n⟩:=x;unfold stm at ih ⊢;simp only [ss,zg,ih,paf,rk]
theorem gbx (k l:Sp):zg (wan k l)=zg k * zg l:=by
 induction k with
 | nil=>simp [wan,zg]
 | cons x k ih =>
   obtain ⟨c,m⟩:=x;rw [wan,yaj,xda,ih,vaj,r5]
theorem qbc {k l:Sp} (hk:∀ x ∈ k,x.2.qe) (hl:∀ x ∈ l,x.2.qe):∀ x ∈ wan k l,x.2.qe:=fun x hx=>by
 obtain ⟨y,hy,z,hz,rfl⟩:=kbf hx;exact Mo.mul_nonneg (hk y hy) (hl z hz)
def Pl.add (p q:Pl):Pl:=Pl.j8 (p.qu Mo.one ++ q.qu Mo.one)
def Pl.mul (p q:Pl):Pl:=Pl.j8 (wan (p.qu Mo.one) (q.qu Mo.one))
theorem Pl.yk (p q:Pl):(p.add q).Can:=Pl.jj _
theorem Pl.q9 (p q:Pl):(p.mul q).Can:=Pl.jj _
theorem Pl.yi (ρ:Int->Rat) (p q:Pl):(p.add q).val ρ=p.val ρ+q.val ρ:=by
 unfold Pl.add;rw [Pl.ke ρ (fun x hx=>(pT.1 hx).elim (p.qz x) (q.qz x)),zaj,Pl.ze,Pl.ze]
theorem Pl.qD (ρ:Int->Rat) (p q:Pl):(p.mul q).val ρ=p.val ρ * q.val ρ:=by
 unfold Pl.mul;rw [Pl.ke ρ (qbc p.qz q.qz),vcy ρ p.qz q.qz,Pl.ze,Pl.ze]
theorem Pl.qS (ρ:Int->Rat) (z:Int):(Pl.const z).val ρ=(z:Rat):=by
 have:=Pl.ze ρ (Pl.const z);rw [Pl.vf] at this;simp only [ql,Mo.val_one] at this
 grind
theorem Pl.qt (ρ:Int->Rat):Pl.zero.val ρ=0:=by simp [Pl.zero,Pl.val,sgn,val]
theorem Pl.j9 {p:Pl} (hp:p.Can) (h:∀ ρ,p.val ρ=0):p=Pl.zero:=Pl.qv hp Pl.qT fun ρ=>by rw [h,Pl.qt]
mutual
def Pl.ex (E : Nat) : Pl -> Prop
 | .mk l _ _ cs=>l<=0\/(cs.length<=E+1/\jaw E cs)
def jaw (E : Nat) : List Pl -> Prop
 | []=>True
 | c :: r=>c.ex E/\jaw E r
end
mutual
def Pl.nr : Pl -> Nat
 | .mk l n d cs=>if l<=0 then (sgn n (val d)).natAbs else jm cs
def jm : List Pl -> Nat
 | []=>0
 | c :: r=>c.nr+jm r
end
theorem qaw {E:Nat} {cs:List Pl} (h:jaw E cs):∀ c ∈ cs,c.ex E:=by
 induction cs with
 | nil=>simp
 | cons y r ih=>rw [jaw] at h; simpa using ⟨h.1,ih h.2⟩
theorem wba {E:Nat} {cs:List Pl} (h:∀ c ∈ cs,c.ex E):jaw E cs:=by
 induction cs with
 | nil=>trivial
 | cons y r ih=>rw [jaw]; exact ⟨h y (by simp),ih fun c hc=>h c (by simp [hc])⟩
theorem vbg {cs:List Pl} {c:Pl} (h:c ∈ cs):c.nr<=jm cs:=by
 induction cs with
 | nil=>cases h
 | cons y r ih =>
   rw [jm];rcases pN.1 h with rfl | h
   · omega
   · have:=ih h; omega
theorem vbd (a b:List Pl):jm (a ++ b)=jm a+jm b:=by
 induction a with
 | nil=>simp [jm]
 | cons x a ih=>rw [rI,jm,jm,ih]; omega
mutual
theorem Pl.Z6 {E F : Nat} (uF : E <= F) : ∀ p : Pl, p.ex E -> p.ex F
 | .mk l _ _ cs,h=>by rw [Pl.ex] at h ⊢; rcases h with h | h; exact .inl h; exact .inr ⟨by omega,wbr uF cs h.2⟩
theorem wbr {E F : Nat} (uF : E <= F) : ∀ cs : List Pl, jaw E cs -> jaw F cs
 | [],_=>trivial
 | c :: r,h=>by rw [jaw] at h ⊢; exact ⟨Pl.Z6 uF c h.1,wbr uF r h.2⟩
end
theorem Pl.kx {l:Int} {n:Bool} {d:List Nat} {cs:List Pl} (h:(Pl.mk l n d cs).Can) (hl:¬ l<=0):l<=4/\uq l cs:=⟨h.qq.2,(h.kids (by omega)).2.2.2.1⟩
theorem Mo.Kk (m:Mo) (i e j:Int) (hj:0 < j) (ry:j<=4) (hi:0 < i) (Ig:i<=4) (h:j ≠ i):(m.put i e).get j=m.get j:=by
 have:=Mo.zr m i.toNat e (by omega) (by omega) j.toNat (by omega) (by omega);rw [show ((i.toNat:Nat):Int)=i by omega,show ((j.toNat:Nat):Int)=j by omega,if_neg (by omega)] at this;exact this
mutual
theorem Pl.Ka (E : Nat) : ∀ (p : Pl) (m : Mo), p.Can -> p.ex E -> m.le E -> (∀ i : Int, 0 < i -> i <= p.lv -> m.get i = 0) -> ∀ x ∈ p.qu m, x.2.le E
 | .mk l n d cs,m,hc,h,hm,h0,x,hx=>by
   rw [Pl.qu] at hx
   by_cases h1:l<=0
   · rw [if_pos h1] at hx;rw [pD.1 hx];exact hm
   · rw [if_neg h1] at hx;obtain ⟨ag,hk⟩:=Pl.kx hc h1;rw [if_neg (by omega)] at hx;rw [Pl.ex] at h;have h:=h.resolve_left h1;have hz:=h0 l (by omega) (uv _);rw [hz] at hx;exact zbl E cs m l 0 hk h.2 hm (by omega) ag (by omega) (by omega) (fun i hi Ef=>h0 i hi (by show i<=l; omega)) x hx
theorem zbl (E : Nat) : ∀ (cs : List Pl) (m : Mo) (l e : Int), uq l cs -> jaw E cs -> m.le E -> 0 < l -> l <= 4 -> 0 <= e -> e + cs.length <= E + 1 -> (∀ i : Int, 0 < i -> i < l -> m.get i = 0) -> ∀ x ∈ xe m l e cs, x.2.le E
 | [],m,l,e,_,_,_,_,_,_,_,_,x,hx=>by rw [xe] at hx; cases hx
 | c :: r,m,l,e,hc,h,hm,lW,ag,he,hle,h0,x,hx=>by
   rw [xe] at hx;rw [jaw] at h;rw [pH] at hle;unfold uq at hc;rcases pT.1 hx with hx | hx
   · exact Pl.Ka E c _ hc.2.1 h.1 (hm.put l e (by omega)) (fun i hi Ef=>by rw [Mo.Kk m l e i hi (by omega) lW ag (by omega)]; exact h0 i hi (by omega)) x hx
   · exact zbl E r m l (e+1) hc.2.2 h.2 hm lW ag (by omega) (by omega) h0 x hx
end
mutual
theorem Pl.kd : ∀ (p : Pl) (m : Mo), p.Can -> zg (p.qu m) = p.nr
 | .mk l n d cs,m,hc=>by
   rw [Pl.qu,Pl.nr]
   by_cases h1:l<=0
   · rw [if_pos h1,if_pos h1]; simp [zg]
   · rw [if_neg h1,if_neg h1];obtain ⟨ag,hk⟩:=Pl.kx hc h1;rw [if_neg (by omega)];exact gbk cs m l _ hk
theorem gbk : ∀ (cs : List Pl) (m : Mo) (l e : Int), uq l cs -> zg (xe m l e cs) = jm cs
 | [],m,l,e,_=>rfl
 | c :: r,m,l,e,hc=>by
   unfold uq at hc;rw [xe,yaj,jm,Pl.kd c _ hc.2.1,gbk r m l (e+1) hc.2.2]
end
theorem Pl.jx (z:Int):(Pl.const z).nr=z.natAbs:=by rw [Pl.const,Pl.nr,if_pos (uv _),jg,xaq]
theorem ych (f:Int × Mo->Int) (k:Nat) (l:Sp):jm ((List.range k).map fun i=>Pl.const (zg (l.filter fun x=>decide (f x=Int.ofNat i))))<=zg l:=by
 have h1:∀ k,jm ((List.range k).map fun i=>Pl.const (zg (l.filter fun x=>decide (f x=Int.ofNat i))))=zg (l.filter fun x=>decide (0<=f x/\f x < k)):=by
  intro k
  induction k with
  | zero =>
    rw [show (l.filter fun x=>decide (0<=f x/\f x < ((0:Nat):Int)))=[] from RE.2 fun x _=>by simp]
    rfl
  | succ k ih =>
    rw [tO,uc,vbd,ih];simp only [ss,Ss,jm,Pl.jx,u5,s9];clear ih
    induction l with
    | nil=>rfl
    | cons x l ih =>
      obtain ⟨c,m⟩:=x;simp only [rR,decide_eq_true_eq]
      by_cases h1:f (c,m)=Int.ofNat k
      · have h2:¬ (0<=f (c,m)/\f (c,m) < (k:Int)):=by rw [h1]; simp
        have h3:0<=f (c,m)/\f (c,m) < ((k+1:Nat):Int):=by rw [h1]; simp; omega
        rw [if_neg h2,if_pos h1,if_pos h3,vaj,vaj];omega
      · rw [if_neg h1];have h4:f (c,m) ≠ (k:Int):=h1
        by_cases h2:0<=f (c,m)/\f (c,m) < (k:Int)
        · have h3:0<=f (c,m)/\f (c,m) < ((k+1:Nat):Int):=by omega
          rw [if_pos h2,if_pos h3,vaj,vaj];omega
        · have h3:¬ (0<=f (c,m)/\f (c,m) < ((k+1:Nat):Int)):=by omega
          rw [if_neg h2,if_neg h3];exact ih
 rw [h1];exact wb7 _ l
theorem zdc {α:Type} (f g:α->Pl) (l:List α) (h:∀ x ∈ l,(f x).nr<=(g x).nr):jm (l.map f)<=jm (l.map g):=by
 induction l with
 | nil=>simp [jm]
 | cons x l ih =>
   simp only [ss,jm];have h1:=h x (by simp);have h2:=ih fun y hy=>h y (by simp [hy])
   omega
theorem xdh (n:Nat):∀ l:Sp,(bld n l).nr<=zg l:=by
 induction n with
 | zero =>
   intro l;cases l with
   | nil=>simp [bld,Pl.zero,Pl.nr,sgn,val]
   | cons x r=>obtain ⟨c,m⟩:=x; rw [bld,Pl.jx,vaj]; omega
 | succ n ih =>
   intro l;cases l with
   | nil=>simp [bld,Pl.zero,Pl.nr,sgn,val]
   | cons x r =>
     obtain ⟨c,m⟩:=x;rw [bld]
     split
     · exact ih _
     · rw [Pl.nr,if_neg (by omega)];refine py (zdc _ (fun (i:Nat)=>Pl.const (zg (((c,m) :: r).filter fun x=>decide (x.2.get (n+1:Nat)=Int.ofNat i)))) _ fun i _=>?_) (ych (fun x=>x.2.get (n+1:Nat)) _ _);rw [Pl.jx,u5];exact ih _
theorem qdh (E n:Nat):∀ l:Sp,(∀ x ∈ l,x.2.le E)->(bld n l).ex E:=by
 induction n with
 | zero =>
   intro l _;cases l with
   | nil=>simp [bld,Pl.zero,Pl.ex]
   | cons x r=>obtain ⟨c,m⟩:=x; simp [bld,Pl.const,Pl.ex]
 | succ n ih =>
   intro l hl;cases l with
   | nil=>simp [bld,Pl.zero,Pl.ex]
   | cons x r =>
     obtain ⟨c,m⟩:=x;rw [bld]
     split
     · exact ih _ hl
     · rw [Pl.ex];have hg:m.get ((n+1:Nat):Int)<=E:=(hl (c,m) (by simp)).get ((n+1:Nat):Int);refine .inr ⟨by rw [pw,tt]; omega,wba fun p hp=>?_⟩;obtain ⟨i,-,rfl⟩:=pS.1 hp;exact ih _ (fun x hx=>hl x (sw.1 hx).1)
theorem Pl.vA {E:Nat} {l:Sp} (h:∀ x ∈ l,x.2.le E):(Pl.j8 l).ex E:=qdh E 4 _ fun x hx=>by
 obtain ⟨-,y,hy,e⟩:=ww hx;rw [<- e];exact h y hy
theorem Pl.kB (l:Sp):(Pl.j8 l).nr<=zg l:=py (xdh 4 _) (qa7 l)
theorem Pl.qbN (E:Nat) (n:Nat):∀ p:Pl,p.Can->p.ex E->p.lv<=n->p.sz<=(E+2) ^ n:=by
 induction n with
 | zero =>
   intro p hc h hl;obtain ⟨l,ng,d,cs⟩:=p;unfold Pl.Can at hc
   change l<=0 at hl
   rcases hc with hc | hc
   · rw [hc.2.1,Pl.sz,vk]; simp
   · omega
 | succ n ih =>
   intro p hc h hl;obtain ⟨l,ng,d,cs⟩:=p
   change l<=((n+1:Nat):Int) at hl
   by_cases h1:l<=0
   · unfold Pl.Can at hc;rcases hc with hc | hc
     · rw [hc.2.1,Pl.sz,vk]; exact tp (by omega)
     · omega
   · obtain ⟨-,hk⟩:=Pl.kx hc h1;rw [Pl.ex] at h;have h:=h.resolve_left h1;have key:∀ ks:List Pl,(∀ c ∈ ks,c.sz<=(E+2) ^ n)->vk ks<=ks.length * (E+2) ^ n:=by
      intro ks
      induction ks with
      | nil=>simp [vk]
      | cons y r ihr =>
        intro hh;have h1:=hh y (by simp);have h2:=ihr fun z hz=>hh z (by simp [hz])
        rw [vk,pH,r5];omega
     have h2:=key cs fun c gY=>ih c (hk.mem c gY).2 (qaw h.2 c gY) (by have:=(hk.mem c gY).1; omega)
     have h3:cs.length * (E+2) ^ n<=(E+1) * (E+2) ^ n:=pE _ h.1;have h4:(E+2) ^ (n+1)=(E+1) * (E+2) ^ n+(E+2) ^ n:=by rw [si,sj,<- Re]
     have h5:0 < (E+2) ^ n:=tp (by omega);rw [Pl.sz];omega
mutual
theorem Pl.qaS (D : Nat) : ∀ p : Pl, p.Can -> p.nr < B32 ^ D -> p.dm <= D
 | .mk l n d cs,hc,h=>by
   unfold Pl.Can at hc;rw [Pl.nr] at h;rw [Pl.dm];rcases hc with hc | hc
   · rw [if_pos (by omega),qw] at h;rw [hc.2.1,jy,hc.2.2.1];have:=yf h;omega
   · rw [if_neg (by omega)] at h;have:=wcd D cs l hc.2.2.2.2.2.1 h;rw [hc.2.2.2.1,rK];omega
theorem wcd (D : Nat) : ∀ (cs : List Pl) (l : Int), uq l cs -> jm cs < B32 ^ D -> jy cs <= D
 | [],_,_,_=>by rw [jy]; omega
 | c :: r,l,hc,h=>by
   unfold uq at hc;rw [jm] at h;rw [jy];have h1:=Pl.qaS D c hc.2.1 (by omega);have h2:=wcd D r l hc.2.2 (by omega);omega
end
structure Fit (p : Pl) (E D : Nat) : Prop where
 can:p.Can
 ex:p.ex E
 nr:p.nr < B32 ^ D
namespace Fit
variable {p q:Pl} {E D F G:Nat}
theorem sz (h:Fit p E D):p.sz<=(E+2) ^ 4:=Pl.qbN E 4 p h.can h.ex h.can.qq.2
theorem dm (h:Fit p E D):p.dm<=D:=Pl.qaS D p h.can h.nr
theorem mono (h:Fit p E D) (hE:E<=F) (hD:D<=G):Fit p F G:=⟨h.can,Pl.Z6 hE p h.ex,px h.nr (r8 (by decide) hD)⟩
theorem exps (h:Fit p E D):∀ x ∈ p.qu Mo.one,x.2.le E:=Pl.Ka E p Mo.one h.can h.ex (by unfold Mo.le Mo.one; simp) (fun i h0 h4=>by unfold Mo.one Mo.get; split <;> (try split) <;> (try split) <;> rfl)
theorem nrm (h:Fit p E D):zg (p.qu Mo.one)=p.nr:=Pl.kd p _ h.can
theorem kid {l:Int} {n:Bool} {d:List Nat} {cs:List Pl} (h:Fit (.mk l n d cs) E D) (hl:0 < l) {c:Pl} (hc:c ∈ cs):Fit c E D:=by
 obtain ⟨h1,h2,h3⟩:=h;obtain ⟨-,hk⟩:=Pl.kx h1 (by omega);rw [Pl.ex] at h2;rw [Pl.nr,if_neg (by omega)] at h3;have:=vbg hc;exact ⟨(hk.mem c hc).2,qaw (h2.resolve_left (by omega)).2 c hc,by omega⟩
theorem len {l:Int} {n:Bool} {d:List Nat} {cs:List Pl} (h:Fit (.mk l n d cs) E D) (hl:0 < l):cs.length<=E+1:=by
 have h2:=h.ex;rw [Pl.ex] at h2;exact (h2.resolve_left (by omega)).1
theorem const {z:Int} (h:z.natAbs < B32 ^ D):Fit (Pl.const z) E D:=⟨qp z,by unfold Pl.const; rw [Pl.ex]; exact .inl (uv _),by rw [Pl.jx]; exact h⟩
theorem zero:Fit Pl.zero E D:=⟨Pl.qT,by unfold Pl.zero; rw [Pl.ex]; exact .inl (uv _),by unfold Pl.zero; rw [Pl.nr,if_pos (uv _)]; exact tp (by decide)⟩
theorem add (h:Fit p E D) (k:Fit q F G):Fit (p.add q) (max E F) (max D G+1):=by
 refine ⟨Pl.yk p q,Pl.vA fun x hx=>?_,?_⟩
 · rcases pT.1 hx with hx | hx
   · exact (h.exps x hx).mono (by omega)
   · exact (k.exps x hx).mono (by omega)
 · have h1:=Pl.kB (p.qu Mo.one ++ q.qu Mo.one);rw [yaj,h.nrm,k.nrm] at h1;have h2:B32 ^ D<=B32 ^ max D G:=r8 (by decide) (by omega);have h3:B32 ^ G<=B32 ^ max D G:=r8 (by decide) (by omega);have h4:=h.nr;have h5:=k.nr;unfold Pl.add;rw [si];have h6:B32 ^ max D G * 2<=B32 ^ max D G * B32:=sL _ (by decide);omega
theorem mul (h:Fit p E D) (k:Fit q F G):Fit (p.mul q) (E+F) (D+G):=by
 refine ⟨Pl.q9 p q,Pl.vA fun x hx=>?_,?_⟩
 · obtain ⟨y,hy,z,hz,rfl⟩:=kbf hx;exact Mo.qbA (h.exps y hy) (k.exps z hz)
 · have h1:=Pl.kB (wan (p.qu Mo.one) (q.qu Mo.one));rw [gbx,h.nrm,k.nrm] at h1;unfold Pl.mul;rw [wT];refine sB h1 (Tr h.nr (Sq k.nr) (tp (by decide)))
end Fit
end Go.Proofs.YtcepajijiabkmaaGreat
