/- Layer 27: prenex.kind, Level. -/
import Derived.Test.YtopddaabiinboaaGreatMp18
import Derived.Test.YtopddaabiinboaaGreatMp14
import Derived.Test.YtopddaabiinboaaGreatMp16
import Derived.Test.YtopddaabiinboaaGreatMp0
import Derived.Test.YtopddaabiinboaaGreatMp9
set_option linter.unusedSimpArgs false
set_option linter.unusedVariables false

set_option maxRecDepth 100000
set_option maxHeartbeats 8000000
namespace Go.Proofs.YtopddaabiinboaaGreat
open Go.RowKit
def vg3 (k:Int):Int:=if k < 0\/4 < k then 0 else k
theorem xhb (k j:Int) (h1:1<=j) (h2:j<=4):(vg3 k == j)=(k == j):=by
 have:(vg3 k=j) ↔ (k=j):=by unfold vg3; split <;> omega
 rw [Bool.eq_iff_iff]; simpa using this
theorem wir {w:World} (t:Mx) (s A K:Value):Calls Tryz.prog 61 #[mxV t s A K] w (vc5 (vg3 t.kind) w):=by
 unfold mxV;generalize t.kind=k;generalize t.rel=r;generalize t.p.lv=l;generalize t.p.neg=n
 by_cases h1:k < 0
 · rw [show vg3 k=0 from if_pos (.inl h1)];go_enter Tryz.func61,Tryz.ntmps61;go_wp2_with fail;go_ret;exact ⟨rfl,(Ext.refl w).alloc _⟩
 by_cases h2:4 < k
 · rw [show vg3 k=0 from if_pos (.inr h2)];go_enter Tryz.func61,Tryz.ntmps61;go_wp2_with fail;go_ret;exact ⟨rfl,(Ext.refl w).alloc _⟩
 · rw [show vg3 k=k from if_neg (by omega)];go_enter Tryz.func61,Tryz.ntmps61;go_wp2_with fail;go_ret;exact ⟨rfl,(Ext.refl w).alloc _⟩
mutual
def Mx.lvl : Mx -> Int
 | .mk k _ p ks=>if k=2 then p.nf.lv else if k=3\/k=4 then xda 0 ks else 0
def xda : Int -> List Mx -> Int
 | a,[]=>a
 | a,t :: r=>xda (max a t.lvl) r
end
theorem gh2 (a:Int) (l r:List Mx):xda a (l ++ r)=xda (xda a l) r:=by
 induction l generalizing a with
 | nil=>rfl
 | cons t l ih=>simp only [List.cons_append,xda]; exact ih _
theorem qhp (a:Int) (l:List Mx) (k:Nat) (hk:k < l.length):xda a (l.take (k+1))=max (xda a (l.take k)) l[k].lvl:=by
 rw [List.take_succ_eq_append_getElem hk,gh2]; rfl
theorem Mx.lvl_eq (t:Mx):t.lvl=if t.kind=2 then t.p.nf.lv else if t.kind=3\/t.kind=4 then xda 0 t.ks else 0:=by
 cases t; rw [Mx.lvl]; rfl
def zja (n:Nat):Prop:=∀ (q:Nat->Prop) (t:Mx) (v:Value) (w:World),t.sz < n->t.sz<=1000000->t.each uhc->MxV w q t v->Calls Tryz.prog 31 #[v] w (vc5 t.lvl w)
theorem yi2 (n:Nat):zja n:=by
 induction n with
 | zero=>intro q t v w h; omega
 | succ n ih =>
 intro q t v w hn hbig hsm h;have hkl:t.ks.length<=1000000:=by have:=t.ks_len; omega
 have IH:=Lib.hid ih;have HSZ:=Lib.hid (fun k hk=>t.kid_le k hk);have HSM:=Lib.hid (Mx.each_ks hsm);have hps:=Mx.each_p hsm;obtain ⟨A0,n0,c0,A,n1,c1,K,c,rfl,hp,hl1,hl2,h4⟩:=h.open_;have HP:=Lib.hid hp;have H4:=Lib.hid h4;have HLV:=Lib.hid t.lvl_eq;obtain ⟨W,hW⟩:=n_m (w.alloc (.cells #[.int .i64 t.kind,.int .i64 t.rel,.int .i64 t.p.lv,.bool t.p.neg,.slice A0 n0 c0,.slice A n1 c1,.slice K t.ks.length c] 50));have hWx:Ext w W:=by rw [<- hW]; exact (Ext.refl w).alloc _
 have hWs:W.heap.size=w.heap.size+1:=by rw [<- hW]; simp
 have hbx:udd W w.heap.size t (.slice A0 n0 c0) (.slice A n1 c1) (.slice K t.ks.length c):=by rw [<- hW]; exact udd.new w t _ _ _ _
 have HWX:=Lib.hid hWx;have HBX:=Lib.hid hbx;have HKIND:=Lib.hid (wir (w:=W) t (.slice A0 n0 c0) (.slice A n1 c1) (.slice K t.ks.length c));obtain ⟨b0,b1,b2,b3,b4,b5,b6⟩:=hbx;have hk2:=xhb t.kind 2 (by omega) (by omega);have hk3:=xhb t.kind 3 (by omega) (by omega);have hk4:=xhb t.kind 4 (by omega) (by omega);clear h ih h4 hWx hp hsm;unfold mxV at *;go_enter Tryz.func31,Tryz.ntmps31;go_wp2_with fail;clear hW b0 b1 b2 b3 b4 b5 b6;refine HKIND.out.mono ?_;rintro e w1 ⟨rfl,x1⟩;generalize vg3 t.kind=kd at *;have X1:=Lib.hid (HWX.out.trans x1);obtain ⟨b0,b1,b2,b3,b4,b5,b6⟩:=HBX.out.ext x1 (by omega);have hs1:=x1.size;clear x1 HKIND HWX HBX
 by_cases k2:t.kind=2
 · have hlv:=HLV.out;rw [if_pos k2] at hlv;have q2:(kd == 2)=true:=by rw [hk2]; simpa using k2
   have HC:=Lib.hid (yia _ (HP.out.ext X1.out) hps);unfold plV at HC;have HL:=Lib.hid hlv;generalize t.p.nf.lv=lv at *;clear k2 hk2 hk3 hk4 hlv HLV;go_wp2_with fail;refine HC.out.mono ?_;rintro e w2 ⟨rfl,x2⟩;have X2:=Lib.hid (X1.out.trans x2);clear x2 HC b0 b1 b2 b3 b4 b5 b6;go_wp2_with fail;go_ret;exact ⟨by rw [HL.out]; rfl,X2.out⟩
 by_cases k34:t.kind=3\/t.kind=4
 · have hlv:=HLV.out;rw [if_neg k2,if_pos k34] at hlv;have HL:=Lib.hid hlv;have q2:(kd == 2)=false:=by rw [hk2]; simpa using k2
   have D6:=Lib.hid b6;clear hlv HLV hk2 k2 HP;rcases k34 with k3 | k4
   · have q3:(kd == 3)=true:=by rw [hk3]; simpa using k3
     clear k3 hk3 hk4;go_wp2_with fail;clear b0 b1 b2 b3 b4 b5 b6
     go_loopw [3,19] (fun mv iv wr=>∃ (k:Nat),k<=t.ks.length/\iv=.int .i64 k/\Hid (mv=.int .i64 (xda 0 (t.ks.take k))/\Ext w1 wr)) (fun _ iv _=>t.ks.length - (intOf iv).toNat)
     case atStart=>exact ⟨0,Nat.zero_le _,rfl,⟨by simp [xda],Ext.refl w1⟩⟩
     case round =>
      obtain ⟨k,hk,rfl,⟨rfl,hxw⟩⟩:=hrel;have HXW:=Lib.hid hxw
      by_cases hlt:k < t.ks.length
      · obtain ⟨ad,B0,m0,d0,B1,m1,d1,K2,n2,c2,rfl,hadb,⟨e0,e1,e2,e3,e4,e5,e6⟩,hkt⟩:=zc6.kid (zc6.ext H4.out (X1.out.trans hxw)) k hlt;have HKT:=Lib.hid hkt;have hsz:t.ks[k].sz < n/\t.ks[k].sz<=1000000:=by have:=HSZ.out k hlt; omega
        have HSTEP:Hid (xda 0 (t.ks.take (k+1))=max (xda 0 (t.ks.take k)) t.ks[k].lvl):=by
         have:xda 0 (t.ks.take (k+1))=max (xda 0 (t.ks.take k)) t.ks[k].lvl:=qhp _ _ _ hlt;exact this
        clear hkt hxw;generalize xda 0 (t.ks.take k)=mm at *;have hkid:=IH.out q t.ks[k] _ (wr.alloc (.cells #[.int .i64 t.ks[k].kind,.int .i64 t.ks[k].rel,.int .i64 t.ks[k].p.lv,.bool t.ks[k].p.neg,.slice B0 m0 d0,.slice B1 m1 d1,.slice K2 n2 c2] 50)) hsz.1 hsz.2 (xgw HSM.out (List.getElem_mem hlt)) (HKT.out.ext ((Ext.refl wr).alloc _));have HKID:=Lib.hid hkid;clear hkid HKT;generalize t.ks[k].lvl=lk at *;go_wp2_with fail;refine HKID.out.mono ?_;rintro e w2 ⟨rfl,x2⟩;have X2:=Lib.hid ((HXW.out.alloc _).trans x2);clear x2 HKID e0 e1 e2 e3 e4 e5 e6;go_wp2_with fail
        go_roundw
        case rel=>exact ⟨k+1,by omega,by go_num,⟨by rw [HSTEP.out],X2.out⟩⟩
        case measure=>simp [intOf]; omega
      · have hke:k=t.ks.length:=by omega
        have HF:Hid (t.lvl=xda 0 (t.ks.take k)):=by
         rw [hke,List.take_length];exact HL.out
        clear hxw hke;generalize xda 0 (t.ks.take k)=mm at *;go_wp2_with fail;go_ret;exact ⟨by rw [HF.out]; rfl,X1.out.trans HXW.out⟩
   · have q3:(kd == 3)=false:=by rw [hk3]; simp; omega
     have q4:(kd == 4)=true:=by rw [hk4]; simpa using k4
     clear k4 hk3 hk4;go_wp2_with fail;clear b0 b1 b2 b3 b4 b5 b6
     go_loopw [3,19] (fun mv iv wr=>∃ (k:Nat),k<=t.ks.length/\iv=.int .i64 k/\Hid (mv=.int .i64 (xda 0 (t.ks.take k))/\Ext w1 wr)) (fun _ iv _=>t.ks.length - (intOf iv).toNat)
     case atStart=>exact ⟨0,Nat.zero_le _,rfl,⟨by simp [xda],Ext.refl w1⟩⟩
     case round =>
      obtain ⟨k,hk,rfl,⟨rfl,hxw⟩⟩:=hrel;have HXW:=Lib.hid hxw
      by_cases hlt:k < t.ks.length
      · obtain ⟨ad,B0,m0,d0,B1,m1,d1,K2,n2,c2,rfl,hadb,⟨e0,e1,e2,e3,e4,e5,e6⟩,hkt⟩:=zc6.kid (zc6.ext H4.out (X1.out.trans hxw)) k hlt;have HKT:=Lib.hid hkt;have hsz:t.ks[k].sz < n/\t.ks[k].sz<=1000000:=by have:=HSZ.out k hlt; omega
        have HSTEP:Hid (xda 0 (t.ks.take (k+1))=max (xda 0 (t.ks.take k)) t.ks[k].lvl):=by
         have:xda 0 (t.ks.take (k+1))=max (xda 0 (t.ks.take k)) t.ks[k].lvl:=qhp _ _ _ hlt;exact this
        clear hkt hxw;generalize xda 0 (t.ks.take k)=mm at *;have hkid:=IH.out q t.ks[k] _ (wr.alloc (.cells #[.int .i64 t.ks[k].kind,.int .i64 t.ks[k].rel,.int .i64 t.ks[k].p.lv,.bool t.ks[k].p.neg,.slice B0 m0 d0,.slice B1 m1 d1,.slice K2 n2 c2] 50)) hsz.1 hsz.2 (xgw HSM.out (List.getElem_mem hlt)) (HKT.out.ext ((Ext.refl wr).alloc _));have HKID:=Lib.hid hkid;clear hkid HKT;generalize t.ks[k].lvl=lk at *;go_wp2_with fail;refine HKID.out.mono ?_;rintro e w2 ⟨rfl,x2⟩;have X2:=Lib.hid ((HXW.out.alloc _).trans x2);clear x2 HKID e0 e1 e2 e3 e4 e5 e6;go_wp2_with fail
        go_roundw
        case rel=>exact ⟨k+1,by omega,by go_num,⟨by rw [HSTEP.out],X2.out⟩⟩
        case measure=>simp [intOf]; omega
      · have hke:k=t.ks.length:=by omega
        have HF:Hid (t.lvl=xda 0 (t.ks.take k)):=by
         rw [hke,List.take_length];exact HL.out
        clear hxw hke;generalize xda 0 (t.ks.take k)=mm at *;go_wp2_with fail;go_ret;exact ⟨by rw [HF.out]; rfl,X1.out.trans HXW.out⟩
 · have hlv:=HLV.out;rw [if_neg k2,if_neg k34] at hlv;have HL:=Lib.hid hlv;have q2:(kd == 2)=false:=by rw [hk2]; simpa using k2
   have q3:(kd == 3)=false:=by rw [hk3]; simp; omega
   have q4:(kd == 4)=false:=by rw [hk4]; simp; omega
   clear hlv HLV hk2 hk3 hk4 k2 k34;go_wp2_with fail;go_ret;exact ⟨by rw [HL.out]; rfl,X1.out⟩
theorem qhw {q:Nat->Prop} (t:Mx) (v:Value) (w:World) (hbig:t.sz<=1000000) (hsm:t.each uhc) (h:MxV w q t v):Calls Tryz.prog 31 #[v] w (vc5 t.lvl w):=
 yi2 (t.sz+1) q t v w (Nat.lt_succ_self _) hbig hsm h
end Go.Proofs.YtopddaabiinboaaGreat

/- Layer 38: the polynomials of a matrix, plain; lists that a call has made longer. -/
namespace Go.Proofs.YtopddaabiinboaaGreat
open Go.RowKit
end Go.Proofs.YtopddaabiinboaaGreat

/- Layer 38: prenex.Polys. -/
namespace Go.Proofs.YtopddaabiinboaaGreat
open Go.RowKit
end Go.Proofs.YtopddaabiinboaaGreat

/- Matrices: what holds of every polynomial in them. -/
namespace Go.Proofs.YtopddaabiinboaaGreat
open Go.RowKit
mutual
theorem MxV.dig {w : World} {q : Nat -> Prop} : ∀ (t : Mx) (v : Value), MxV w q t v -> t.each Pl.dig
 | .mk k r p ks,v,h=>by
   unfold MxV at h;obtain ⟨s,A,K,c,e,h1,h2,h3,h4⟩:=h;rw [Mx.each];exact ⟨h1.dig,zc6.dig ks K 0 h4⟩
theorem zc6.dig {w : World} {q : Nat -> Prop} : ∀ (l : List Mx) (A : Option Addr) (j : Nat), zc6 w q l A j -> jdd Pl.dig l
 | [],A,j,h=>by rw [jdd]; trivial
 | t :: r,A,j,h=>by
   unfold zc6 at h;obtain ⟨⟨ad,s,B,K,e,hb,hpb,h1,h2⟩,h3⟩:=h;rw [jdd];exact ⟨MxV.dig t _ h2,zc6.dig r A (j+1) h3⟩
end
end Go.Proofs.YtopddaabiinboaaGreat

/- Layer 40: Holds, and the reference's Holds. -/
namespace Go.Proofs.YtopddaabiinboaaGreat
open Go.RowKit
def jdg (r s:Int):Bool:=if r=1 then decide (s < 0) else if r=2 then decide (s<=0) else if r=4 then s != 0 else if r=5 then decide (0<=s) else if r=6 then decide (0 < s) else s == 0
theorem vg4 (r s:Int) (w:World):Calls Tryz.prog 21 #[.int .i64 r,.int .i64 s] w fun e w'=>e=.returned (.bool (jdg r s))/\w'=w:=by
 by_cases h1:r=1
 · have hv:jdg r s=(decide (s < 0)):=by subst h1; rfl
   have b1:(r == 1)=true:=by simpa using h1
   rw [hv];clear hv h1;go_enter Tryz.func21,Tryz.ntmps21;go_wp2_with fail;go_ret;exact ⟨rfl,rfl⟩
 by_cases h2:r=2
 · have hv:jdg r s=(decide (s<=0)):=by subst h2; rfl
   have b1:(r == 1)=false:=by simpa using h1
   have b2:(r == 2)=true:=by simpa using h2
   rw [hv];clear hv h1 h2;go_enter Tryz.func21,Tryz.ntmps21;go_wp2_with fail;go_ret;exact ⟨rfl,rfl⟩
 by_cases h4:r=4
 · have hv:jdg r s=(s != 0):=by subst h4; rfl
   have b1:(r == 1)=false:=by simpa using h1
   have b2:(r == 2)=false:=by simpa using h2
   have b4:(r == 4)=true:=by simpa using h4
   rw [hv];clear hv h1 h2 h4;go_enter Tryz.func21,Tryz.ntmps21;go_wp2_with fail;go_ret;exact ⟨rfl,rfl⟩
 by_cases h5:r=5
 · have hv:jdg r s=(decide (0<=s)):=by subst h5; rfl
   have b1:(r == 1)=false:=by simpa using h1
   have b2:(r == 2)=false:=by simpa using h2
   have b4:(r == 4)=false:=by simpa using h4
   have b5:(r == 5)=true:=by simpa using h5
   rw [hv];clear hv h1 h2 h4 h5;go_enter Tryz.func21,Tryz.ntmps21;go_wp2_with fail;go_ret;exact ⟨rfl,rfl⟩
 by_cases h6:r=6
 · have hv:jdg r s=(decide (0 < s)):=by subst h6; rfl
   have b1:(r == 1)=false:=by simpa using h1
   have b2:(r == 2)=false:=by simpa using h2
   have b4:(r == 4)=false:=by simpa using h4
   have b5:(r == 5)=false:=by simpa using h5
   have b6:(r == 6)=true:=by simpa using h6
   rw [hv];clear hv h1 h2 h4 h5 h6;go_enter Tryz.func21,Tryz.ntmps21;go_wp2_with fail;go_ret;exact ⟨rfl,rfl⟩
 have hv:jdg r s=(s == 0):=by simp [jdg,h1,h2,h4,h5,h6]
 have b1:(r == 1)=false:=by simpa using h1
 have b2:(r == 2)=false:=by simpa using h2
 have b4:(r == 4)=false:=by simpa using h4
 have b5:(r == 5)=false:=by simpa using h5
 have b6:(r == 6)=false:=by simpa using h6
 rw [hv];clear hv h1 h2 h4 h5 h6;go_enter Tryz.func21,Tryz.ntmps21;go_wp2_with fail;go_ret;exact ⟨rfl,rfl⟩
end Go.Proofs.YtopddaabiinboaaGreat

/- Relations of atoms. -/
namespace Go.Proofs.YtopddaabiinboaaGreat
end Go.Proofs.YtopddaabiinboaaGreat

/- Layer 34: formula.OfTerm, formula.Of: the term, the formula of a tree. -/
set_option maxRecDepth 100000
set_option maxHeartbeats 8000000
namespace Go.Proofs.YtopddaabiinboaaGreat
open Go.RowKit
attribute [local go_sem] gdg jde jdh vdg ydh zdh udg gdb kde wdg qdh wgt uc9 xdh wdb
def vda (L : Nat) : Tm -> Tr -> Prop
 | .num z,t=>t.d.kind=1/\t.ks=[]/\z=sgn t.d.neg (val t.d.ds)/\t.d.ds.length<=L
 | .name s,t=>t.d.kind=2/\t.ks=[]/\t.d.name=s
 | .add a b,t=>t.d.kind=3/\∃ x y,t.ks=[x,y]/\vda L a x/\vda L b y
 | .sub a b,t=>t.d.kind=4/\∃ x y,t.ks=[x,y]/\vda L a x/\vda L b y
 | .mul a b,t=>t.d.kind=5/\∃ x y,t.ks=[x,y]/\vda L a x/\vda L b y
 | .neg a,t=>t.d.kind=6/\∃ x,t.ks=[x]/\vda L a x
 | .pow a e,t=>t.d.kind=7/\t.d.exp=e/\0<=e/\∃ x,t.ks=[x]/\vda L a x
def yg1 (L:Nat) (m:Tm) (w:World) (e:Ending) (w':World):Prop:=∃ v,e=.returned (.tuple #[v,.int .i64 0])/\TmV w' L m v/\Ext w w'
theorem TmV.box {w:World} {L:Nat} {a:Addr} {u:Value} (ha:w.cell? a=some u) (hu:gc6 u=false) (u':Value) {t:Tm} {v:Value} (h:TmV w L t v):TmV (w.setCell a u') L t v:=by
 induction t generalizing v with
 | num z=>obtain ⟨x,e,h⟩:=h; exact ⟨x,e,h.box ha hu u'⟩
 | name s=>exact h
 | add a b iha ihb=>obtain ⟨x,y,e,h,k⟩:=h; exact ⟨x,y,e,iha h,ihb k⟩
 | sub a b iha ihb=>obtain ⟨x,y,e,h,k⟩:=h; exact ⟨x,y,e,iha h,ihb k⟩
 | mul a b iha ihb=>obtain ⟨x,y,e,h,k⟩:=h; exact ⟨x,y,e,iha h,ihb k⟩
 | neg a iha=>obtain ⟨x,e,h⟩:=h; exact ⟨x,e,iha h⟩
 | pow a n iha=>obtain ⟨x,e,h⟩:=h; exact ⟨x,e,iha h⟩
def zhn : Value -> Bool
 | .iface _ _=>true
 | .nilIface=>true
 | _=>false
theorem yis {u:Value} (h:zhn u=true):gc6 u=false:=by cases u <;> simp_all [zhn,gc6]
def zdc (L:Nat) (w:World) (g g':Nat) (o:Obj) (xs:List Tm) (k:Nat) (wr:World):Prop:=
 Ext w wr/\wr.heap[g']?=some o/\∃ u0 u1,wr.heap[g]?=some (.cells #[u0,u1] 306 (0,0))/\zhn u0=true/\zhn u1=true/\(∀ x,0 < k->xs[0]?=some x->TmV wr L x u0)/\(∀ x,1 < k->xs[1]?=some x->TmV wr L x u1)
theorem zdc.cell {L:Nat} {w:World} {g g':Nat} {o:Obj} {xs:List Tm} {k:Nat} {wr:World} (h:zdc L w g g' o xs k wr) (j:Nat) (hj:j < 2):∃ u,wr.cell? ⟨g,j,none⟩=some u/\zhn u=true/\wr.frozen? ⟨g,j,none⟩=false:=by
 obtain ⟨-,-,u0,u1,h1,h2,h3,-⟩:=h;rcases (show j=0\/j=1 by omega) with rfl | rfl
 · exact ⟨u0,by simp [World.cell?,h1],h2,by simp [World.frozen?,h1]⟩
 · exact ⟨u1,by simp [World.cell?,h1],h3,by simp [World.frozen?,h1]⟩
theorem zdc.ext {L:Nat} {w:World} {g g':Nat} {o:Obj} {xs:List Tm} {k:Nat} {wr w':World} (h:zdc L w g g' o xs k wr) (hx:Ext wr w'):zdc L w g g' o xs k w':=by
 obtain ⟨h0,h0',u0,u1,h1,h2,h3,h4,h5⟩:=h;have lt:∀ {i:Nat} {o:Obj},wr.heap[i]?=some o->i < wr.heap.size:=fun {i o} h=>(Array.getElem?_eq_some_iff.1 h).1
 exact ⟨h0.trans hx,(hx.below.block _ (lt h0')).trans h0',u0,u1,(hx.below.block _ (lt h1)).trans h1,h2,h3,fun x hk hxs=>(h4 x hk hxs).ext hx,fun x hk hxs=>(h5 x hk hxs).ext hx⟩
theorem zdc.put {L:Nat} {w:World} {g g':Nat} {o:Obj} {xs:List Tm} {k:Nat} {wr:World} (h:zdc L w g g' o xs k wr) (hk:k < 2) (hg:w.heap.size<=g) (hne:g' ≠ g) {u:Value} (hu:zhn u=true) (hx:∀ x,xs[k]?=some x->TmV wr L x u) :
 zdc L w g g' o xs (k+1) (wr.setCell ⟨g,k,none⟩ u):=by
 obtain ⟨uk,ck,ik,-⟩:=h.cell k hk;obtain ⟨h0,h0',u0,u1,h1,h2,h3,h4,h5⟩:=h;have bx:∀ {x v},TmV wr L x v->TmV (wr.setCell ⟨g,k,none⟩ u) L x v:=fun {x v} hv=>hv.box ck (yis ik) u
 refine ⟨h0.setCell hg _,(Below.heap_setCell wr ⟨g,k,none⟩ u g' hne).trans h0',?_⟩;have hs:∀ c:Array Value,wr.heap[g]?=some (.cells c 306 (0,0))->(wr.setCell ⟨g,k,none⟩ u).heap[g]?=some (.cells (c.setIfInBounds k u) 306 (0,0)):=fun c hc=>by
  simp [World.setCell,Array.getElem?_modify,hc]
 rcases (show k=0\/k=1 by omega) with rfl | rfl
 · exact ⟨u,u1,by rw [hs _ h1]; rfl,hu,h3,fun x _ hxs=>bx (hx x hxs),fun x hk=>absurd hk (by omega)⟩
 · exact ⟨u0,u,by rw [hs _ h1]; rfl,h2,hu,fun x _ hxs=>bx (h4 x (by omega) hxs),fun x _ hxs=>bx (hx x hxs)⟩
def kg4 (L n:Nat):Prop:=∀ (m:Tm) (t:Tr),m.sz < n->vda L m t->∀ (v:Value) (w:World),TrV w (fun _=>True) t v->Calls Tryz.prog 206 #[v] w (yg1 L m w)
theorem ki0 {L n:Nat} (ih:kg4 L n) {a b:Tm} (t:Tr) (hsz:(Tm.add a b).sz < n+1) (h:vda L (.add a b) t) (v:Value) (w:World) (hv:TrV w (fun _=>True) t v):Calls Tryz.prog 206 #[v] w (yg1 L (.add a b) w):=by
 have IH:=Lib.hid ih;clear ih;obtain ⟨⟨kind,neg,ds,name,exp,rel,truth,all⟩,ks⟩:=t;obtain ⟨hkind,t0,t1,hks,h0,h1⟩:=h;simp only [Tr.d] at hkind;simp only [Tr.ks] at hks;subst hkind hks;obtain ⟨A0,n0,c0,A,c,rfl,hnat,hc1,hc2,hat⟩:=hv.open_
 change jc6 w _ [t0,t1] A 0 at hat
 have HAT:=Lib.hid hat;clear hv hat hnat;unfold ndV;simp only [Tr.d,Tr.ks,List.length_cons,List.length_nil,Nat.zero_add,Nat.reduceAdd] at hc1 ⊢;have HIS:Hid (∀ i (hi:i < 2),vda L ([a,b][i]'(by simpa using hi)) ([t0,t1][i]'(by simpa using hi))):=by
  intro i hi;rcases (show i=0\/i=1 by omega) with rfl | rfl
  · exact h0
  · exact h1
 clear h0 h1;have hsz':∀ i (hi:i < 2),([a,b][i]'(by simpa using hi)).sz < n:=by
  intro i hi;simp only [Tm.sz] at hsz;rcases (show i=0\/i=1 by omega) with rfl | rfl <;> simp <;> omega
 have HSZ:=Lib.hid hsz';clear hsz';go_enter Tryz.func206,Tryz.ntmps206;go_wp2_with fail
 go_loopw [40] (fun iv wr=>∃ k:Nat,k<=2/\iv=.int .i64 k/\Hid (zdc L w (w.heap.size+1) w.heap.size (.cells #[.int .i64 3,.bool neg,.slice A0 n0 c0,.string name,.int .i64 exp,.int .i64 rel,.bool truth,.bool all,.slice A 2 c] 194) [a,b] k wr)) (fun iv _=>2 - (intOf iv).toNat)
 case atStart =>
  refine ⟨0,by omega,rfl,⟨((Ext.refl w).alloc _).alloc _,?_,.nilIface,.nilIface,?_,rfl,rfl,fun x hk=>absurd hk (by omega),fun x hk=>absurd hk (by omega)⟩⟩
  · rw [Below.heap_alloc _ _ _ (by simp)]; exact heap_alloc_new w _
  · have:=heap_alloc_new (w.alloc (.cells #[.int .i64 3,.bool neg,.slice A0 n0 c0,.string name,.int .i64 exp,.int .i64 rel,.bool truth,.bool all,.slice A 2 c] 194)) (.cells #[.nilIface,.nilIface] 306)
    rwa [World.size_alloc] at this
 case round =>
  obtain ⟨k,hk,rfl,hinv⟩:=hrel;have HINV:=Lib.hid hinv;have hwx:=hinv.1;have hat2:=HAT.out.ext hwx;have hb8:=hinv.2.1;clear hinv
  by_cases hlt:k < 2
  · obtain ⟨ad,B0,m0,d0,B1,m1,d1,rfl,hadb,⟨e0,e1,e2,e3,e4,e5,e6,e7,e8⟩,hkt⟩:=hat2.kid k (by simpa using hlt);have HKT:=Lib.hid hkt;clear hkt hat2 hb8 hwx;have hisk:=HIS.out k hlt;have hszk:=HSZ.out k hlt;have HISK:=Lib.hid hisk;have HXK:Hid (∃ x,[a,b][k]?=some x/\vda L x ([t0,t1][k]'(by simpa using hlt))/\x.sz < n):=⟨_,List.getElem?_eq_getElem (by simpa using hlt),hisk,hszk⟩;clear hisk hszk HISK;generalize ([t0,t1][k]'(by simpa using hlt))=tk at *;obtain ⟨x,hxk,hisx,hszx⟩:=HXK;have HXK:=Lib.hid hxk;have HISX:=Lib.hid hisx;clear hxk hisx;go_wp2_with fail;refine (IH.out x tk hszx HISX.out _ _ (HKT.out.ext ((Ext.refl wr).alloc _))).mono ?_;rintro e w2 ⟨v2,rfl,htm,hx2⟩;have hinv2:=HINV.out.ext (((Ext.refl wr).alloc _).trans hx2);obtain ⟨T2,u2,rfl⟩:=htm.iface;obtain ⟨uk,ck,ik,fk⟩:=hinv2.cell k (by omega);have HNEXT:=Lib.hid (hinv2.put (u:=.iface T2 u2) (by omega) (by omega) (by omega) rfl (fun y hy=>by rw [HXK.out] at hy; injection hy with hy; subst hy; exact htm));clear hinv2 htm hx2 e0 e1 e2 e3 e4 e5 e6 e7 e8;go_wp2_with fail
    go_roundw
    case rel=>exact ⟨k+1,by omega,by go_num,HNEXT⟩
    case measure=>simp [intOf]; omega
  · clear hat2 hwx;have hk2:2<=k:=by omega
    obtain ⟨hwx,-,u0,u1,hpar,i0,i1,p0,p1⟩:=HINV.out;have c0:wr.cell? ⟨w.heap.size,0,none⟩=some (.int .i64 3):=by simp [World.cell?,hb8]
    have c4:wr.cell? ⟨w.heap.size,4,none⟩=some (.int .i64 exp):=by simp [World.cell?,hb8]
    have q0:wr.cell? ⟨w.heap.size+1,0,none⟩=some u0:=by simp [World.cell?,hpar]
    have q1:wr.cell? ⟨w.heap.size+1,1,none⟩=some u1:=by simp [World.cell?,hpar]
    have f0:=p0 a (by omega) rfl;obtain ⟨T0,u0,rfl⟩:=f0.iface;have f1:=p1 b (by omega) rfl;obtain ⟨T1,u1,rfl⟩:=f1.iface;have HFIN:Hid (TmV wr L (.add a b) (.iface 199 (.agg #[.iface T0 u0,.iface T1 u1]))):=⟨_,_,rfl,f0,f1⟩;clear f0 f1;have HWX:=Lib.hid hwx;clear hb8 hpar hwx HINV i0 i1 p0 p1;go_wp2_with fail
    go_ret2
    exact ⟨_,rfl,HFIN.out,HWX.out⟩
theorem zi0 {L n:Nat} (ih:kg4 L n) {a b:Tm} (t:Tr) (hsz:(Tm.sub a b).sz < n+1) (h:vda L (.sub a b) t) (v:Value) (w:World) (hv:TrV w (fun _=>True) t v):Calls Tryz.prog 206 #[v] w (yg1 L (.sub a b) w):=by
 have IH:=Lib.hid ih;clear ih;obtain ⟨⟨kind,neg,ds,name,exp,rel,truth,all⟩,ks⟩:=t;obtain ⟨hkind,t0,t1,hks,h0,h1⟩:=h;simp only [Tr.d] at hkind;simp only [Tr.ks] at hks;subst hkind hks;obtain ⟨A0,n0,c0,A,c,rfl,hnat,hc1,hc2,hat⟩:=hv.open_
 change jc6 w _ [t0,t1] A 0 at hat
 have HAT:=Lib.hid hat;clear hv hat hnat;unfold ndV;simp only [Tr.d,Tr.ks,List.length_cons,List.length_nil,Nat.zero_add,Nat.reduceAdd] at hc1 ⊢;have HIS:Hid (∀ i (hi:i < 2),vda L ([a,b][i]'(by simpa using hi)) ([t0,t1][i]'(by simpa using hi))):=by
  intro i hi;rcases (show i=0\/i=1 by omega) with rfl | rfl
  · exact h0
  · exact h1
 clear h0 h1;have hsz':∀ i (hi:i < 2),([a,b][i]'(by simpa using hi)).sz < n:=by
  intro i hi;simp only [Tm.sz] at hsz;rcases (show i=0\/i=1 by omega) with rfl | rfl <;> simp <;> omega
 have HSZ:=Lib.hid hsz';clear hsz';go_enter Tryz.func206,Tryz.ntmps206;go_wp2_with fail
 go_loopw [40] (fun iv wr=>∃ k:Nat,k<=2/\iv=.int .i64 k/\Hid (zdc L w (w.heap.size+1) w.heap.size (.cells #[.int .i64 4,.bool neg,.slice A0 n0 c0,.string name,.int .i64 exp,.int .i64 rel,.bool truth,.bool all,.slice A 2 c] 194) [a,b] k wr)) (fun iv _=>2 - (intOf iv).toNat)
 case atStart =>
  refine ⟨0,by omega,rfl,⟨((Ext.refl w).alloc _).alloc _,?_,.nilIface,.nilIface,?_,rfl,rfl,fun x hk=>absurd hk (by omega),fun x hk=>absurd hk (by omega)⟩⟩
  · rw [Below.heap_alloc _ _ _ (by simp)]; exact heap_alloc_new w _
  · have:=heap_alloc_new (w.alloc (.cells #[.int .i64 4,.bool neg,.slice A0 n0 c0,.string name,.int .i64 exp,.int .i64 rel,.bool truth,.bool all,.slice A 2 c] 194)) (.cells #[.nilIface,.nilIface] 306)
    rwa [World.size_alloc] at this
 case round =>
  obtain ⟨k,hk,rfl,hinv⟩:=hrel;have HINV:=Lib.hid hinv;have hwx:=hinv.1;have hat2:=HAT.out.ext hwx;have hb8:=hinv.2.1;clear hinv
  by_cases hlt:k < 2
  · obtain ⟨ad,B0,m0,d0,B1,m1,d1,rfl,hadb,⟨e0,e1,e2,e3,e4,e5,e6,e7,e8⟩,hkt⟩:=hat2.kid k (by simpa using hlt);have HKT:=Lib.hid hkt;clear hkt hat2 hb8 hwx;have hisk:=HIS.out k hlt;have hszk:=HSZ.out k hlt;have HISK:=Lib.hid hisk;have HXK:Hid (∃ x,[a,b][k]?=some x/\vda L x ([t0,t1][k]'(by simpa using hlt))/\x.sz < n):=⟨_,List.getElem?_eq_getElem (by simpa using hlt),hisk,hszk⟩;clear hisk hszk HISK;generalize ([t0,t1][k]'(by simpa using hlt))=tk at *;obtain ⟨x,hxk,hisx,hszx⟩:=HXK;have HXK:=Lib.hid hxk;have HISX:=Lib.hid hisx;clear hxk hisx;go_wp2_with fail;refine (IH.out x tk hszx HISX.out _ _ (HKT.out.ext ((Ext.refl wr).alloc _))).mono ?_;rintro e w2 ⟨v2,rfl,htm,hx2⟩;have hinv2:=HINV.out.ext (((Ext.refl wr).alloc _).trans hx2);obtain ⟨T2,u2,rfl⟩:=htm.iface;obtain ⟨uk,ck,ik,fk⟩:=hinv2.cell k (by omega);have HNEXT:=Lib.hid (hinv2.put (u:=.iface T2 u2) (by omega) (by omega) (by omega) rfl (fun y hy=>by rw [HXK.out] at hy; injection hy with hy; subst hy; exact htm));clear hinv2 htm hx2 e0 e1 e2 e3 e4 e5 e6 e7 e8;go_wp2_with fail
    go_roundw
    case rel=>exact ⟨k+1,by omega,by go_num,HNEXT⟩
    case measure=>simp [intOf]; omega
  · clear hat2 hwx;have hk2:2<=k:=by omega
    obtain ⟨hwx,-,u0,u1,hpar,i0,i1,p0,p1⟩:=HINV.out;have c0:wr.cell? ⟨w.heap.size,0,none⟩=some (.int .i64 4):=by simp [World.cell?,hb8]
    have c4:wr.cell? ⟨w.heap.size,4,none⟩=some (.int .i64 exp):=by simp [World.cell?,hb8]
    have q0:wr.cell? ⟨w.heap.size+1,0,none⟩=some u0:=by simp [World.cell?,hpar]
    have q1:wr.cell? ⟨w.heap.size+1,1,none⟩=some u1:=by simp [World.cell?,hpar]
    have f0:=p0 a (by omega) rfl;obtain ⟨T0,u0,rfl⟩:=f0.iface;have f1:=p1 b (by omega) rfl;obtain ⟨T1,u1,rfl⟩:=f1.iface;have HFIN:Hid (TmV wr L (.sub a b) (.iface 200 (.agg #[.iface T0 u0,.iface T1 u1]))):=⟨_,_,rfl,f0,f1⟩;clear f0 f1;have HWX:=Lib.hid hwx;clear hb8 hpar hwx HINV i0 i1 p0 p1;go_wp2_with fail
    go_ret2
    exact ⟨_,rfl,HFIN.out,HWX.out⟩
theorem ji0 {L n:Nat} (ih:kg4 L n) {a b:Tm} (t:Tr) (hsz:(Tm.mul a b).sz < n+1) (h:vda L (.mul a b) t) (v:Value) (w:World) (hv:TrV w (fun _=>True) t v):Calls Tryz.prog 206 #[v] w (yg1 L (.mul a b) w):=by
 have IH:=Lib.hid ih;clear ih;obtain ⟨⟨kind,neg,ds,name,exp,rel,truth,all⟩,ks⟩:=t;obtain ⟨hkind,t0,t1,hks,h0,h1⟩:=h;simp only [Tr.d] at hkind;simp only [Tr.ks] at hks;subst hkind hks;obtain ⟨A0,n0,c0,A,c,rfl,hnat,hc1,hc2,hat⟩:=hv.open_
 change jc6 w _ [t0,t1] A 0 at hat
 have HAT:=Lib.hid hat;clear hv hat hnat;unfold ndV;simp only [Tr.d,Tr.ks,List.length_cons,List.length_nil,Nat.zero_add,Nat.reduceAdd] at hc1 ⊢;have HIS:Hid (∀ i (hi:i < 2),vda L ([a,b][i]'(by simpa using hi)) ([t0,t1][i]'(by simpa using hi))):=by
  intro i hi;rcases (show i=0\/i=1 by omega) with rfl | rfl
  · exact h0
  · exact h1
 clear h0 h1;have hsz':∀ i (hi:i < 2),([a,b][i]'(by simpa using hi)).sz < n:=by
  intro i hi;simp only [Tm.sz] at hsz;rcases (show i=0\/i=1 by omega) with rfl | rfl <;> simp <;> omega
 have HSZ:=Lib.hid hsz';clear hsz';go_enter Tryz.func206,Tryz.ntmps206;go_wp2_with fail
 go_loopw [40] (fun iv wr=>∃ k:Nat,k<=2/\iv=.int .i64 k/\Hid (zdc L w (w.heap.size+1) w.heap.size (.cells #[.int .i64 5,.bool neg,.slice A0 n0 c0,.string name,.int .i64 exp,.int .i64 rel,.bool truth,.bool all,.slice A 2 c] 194) [a,b] k wr)) (fun iv _=>2 - (intOf iv).toNat)
 case atStart =>
  refine ⟨0,by omega,rfl,⟨((Ext.refl w).alloc _).alloc _,?_,.nilIface,.nilIface,?_,rfl,rfl,fun x hk=>absurd hk (by omega),fun x hk=>absurd hk (by omega)⟩⟩
  · rw [Below.heap_alloc _ _ _ (by simp)]; exact heap_alloc_new w _
  · have:=heap_alloc_new (w.alloc (.cells #[.int .i64 5,.bool neg,.slice A0 n0 c0,.string name,.int .i64 exp,.int .i64 rel,.bool truth,.bool all,.slice A 2 c] 194)) (.cells #[.nilIface,.nilIface] 306)
    rwa [World.size_alloc] at this
 case round =>
  obtain ⟨k,hk,rfl,hinv⟩:=hrel;have HINV:=Lib.hid hinv;have hwx:=hinv.1;have hat2:=HAT.out.ext hwx;have hb8:=hinv.2.1;clear hinv
  by_cases hlt:k < 2
  · obtain ⟨ad,B0,m0,d0,B1,m1,d1,rfl,hadb,⟨e0,e1,e2,e3,e4,e5,e6,e7,e8⟩,hkt⟩:=hat2.kid k (by simpa using hlt);have HKT:=Lib.hid hkt;clear hkt hat2 hb8 hwx;have hisk:=HIS.out k hlt;have hszk:=HSZ.out k hlt;have HISK:=Lib.hid hisk;have HXK:Hid (∃ x,[a,b][k]?=some x/\vda L x ([t0,t1][k]'(by simpa using hlt))/\x.sz < n):=⟨_,List.getElem?_eq_getElem (by simpa using hlt),hisk,hszk⟩;clear hisk hszk HISK;generalize ([t0,t1][k]'(by simpa using hlt))=tk at *;obtain ⟨x,hxk,hisx,hszx⟩:=HXK;have HXK:=Lib.hid hxk;have HISX:=Lib.hid hisx;clear hxk hisx;go_wp2_with fail;refine (IH.out x tk hszx HISX.out _ _ (HKT.out.ext ((Ext.refl wr).alloc _))).mono ?_;rintro e w2 ⟨v2,rfl,htm,hx2⟩;have hinv2:=HINV.out.ext (((Ext.refl wr).alloc _).trans hx2);obtain ⟨T2,u2,rfl⟩:=htm.iface;obtain ⟨uk,ck,ik,fk⟩:=hinv2.cell k (by omega);have HNEXT:=Lib.hid (hinv2.put (u:=.iface T2 u2) (by omega) (by omega) (by omega) rfl (fun y hy=>by rw [HXK.out] at hy; injection hy with hy; subst hy; exact htm));clear hinv2 htm hx2 e0 e1 e2 e3 e4 e5 e6 e7 e8;go_wp2_with fail
    go_roundw
    case rel=>exact ⟨k+1,by omega,by go_num,HNEXT⟩
    case measure=>simp [intOf]; omega
  · clear hat2 hwx;have hk2:2<=k:=by omega
    obtain ⟨hwx,-,u0,u1,hpar,i0,i1,p0,p1⟩:=HINV.out;have c0:wr.cell? ⟨w.heap.size,0,none⟩=some (.int .i64 5):=by simp [World.cell?,hb8]
    have c4:wr.cell? ⟨w.heap.size,4,none⟩=some (.int .i64 exp):=by simp [World.cell?,hb8]
    have q0:wr.cell? ⟨w.heap.size+1,0,none⟩=some u0:=by simp [World.cell?,hpar]
    have q1:wr.cell? ⟨w.heap.size+1,1,none⟩=some u1:=by simp [World.cell?,hpar]
    have f0:=p0 a (by omega) rfl;obtain ⟨T0,u0,rfl⟩:=f0.iface;have f1:=p1 b (by omega) rfl;obtain ⟨T1,u1,rfl⟩:=f1.iface;have HFIN:Hid (TmV wr L (.mul a b) (.iface 201 (.agg #[.iface T0 u0,.iface T1 u1]))):=⟨_,_,rfl,f0,f1⟩;clear f0 f1;have HWX:=Lib.hid hwx;clear hb8 hpar hwx HINV i0 i1 p0 p1;go_wp2_with fail
    go_ret2
    exact ⟨_,rfl,HFIN.out,HWX.out⟩
theorem qi0 {L n:Nat} (ih:kg4 L n) {a:Tm} (t:Tr) (hsz:(Tm.neg a).sz < n+1) (h:vda L (.neg a) t) (v:Value) (w:World) (hv:TrV w (fun _=>True) t v):Calls Tryz.prog 206 #[v] w (yg1 L (.neg a) w):=by
 have IH:=Lib.hid ih;clear ih;obtain ⟨⟨kind,neg,ds,name,exp,rel,truth,all⟩,ks⟩:=t;obtain ⟨hkind,t0,hks,h0⟩:=h;simp only [Tr.d] at hkind;simp only [Tr.ks] at hks;subst hkind hks;obtain ⟨A0,n0,c0,A,c,rfl,hnat,hc1,hc2,hat⟩:=hv.open_
 change jc6 w _ [t0] A 0 at hat
 have HAT:=Lib.hid hat;clear hv hat hnat;unfold ndV;simp only [Tr.d,Tr.ks,List.length_cons,List.length_nil,Nat.zero_add,Nat.reduceAdd] at hc1 ⊢;have HIS:Hid (∀ i (hi:i < 1),vda L ([a][i]'(by simpa using hi)) ([t0][i]'(by simpa using hi))):=by
  intro i hi;obtain rfl:i=0:=by omega
  exact h0
 clear h0;have hsz':∀ i (hi:i < 1),([a][i]'(by simpa using hi)).sz < n:=by
  intro i hi;simp only [Tm.sz] at hsz;obtain rfl:i=0:=by omega
  simp; omega
 have HSZ:=Lib.hid hsz';clear hsz';go_enter Tryz.func206,Tryz.ntmps206;go_wp2_with fail
 go_loopw [40] (fun iv wr=>∃ k:Nat,k<=1/\iv=.int .i64 k/\Hid (zdc L w (w.heap.size+1) w.heap.size (.cells #[.int .i64 6,.bool neg,.slice A0 n0 c0,.string name,.int .i64 exp,.int .i64 rel,.bool truth,.bool all,.slice A 1 c] 194) [a] k wr)) (fun iv _=>1 - (intOf iv).toNat)
 case atStart =>
  refine ⟨0,by omega,rfl,⟨((Ext.refl w).alloc _).alloc _,?_,.nilIface,.nilIface,?_,rfl,rfl,fun x hk=>absurd hk (by omega),fun x hk=>absurd hk (by omega)⟩⟩
  · rw [Below.heap_alloc _ _ _ (by simp)]; exact heap_alloc_new w _
  · have:=heap_alloc_new (w.alloc (.cells #[.int .i64 6,.bool neg,.slice A0 n0 c0,.string name,.int .i64 exp,.int .i64 rel,.bool truth,.bool all,.slice A 1 c] 194)) (.cells #[.nilIface,.nilIface] 306)
    rwa [World.size_alloc] at this
 case round =>
  obtain ⟨k,hk,rfl,hinv⟩:=hrel;have HINV:=Lib.hid hinv;have hwx:=hinv.1;have hat2:=HAT.out.ext hwx;have hb8:=hinv.2.1;clear hinv
  by_cases hlt:k < 1
  · obtain ⟨ad,B0,m0,d0,B1,m1,d1,rfl,hadb,⟨e0,e1,e2,e3,e4,e5,e6,e7,e8⟩,hkt⟩:=hat2.kid k (by simpa using hlt);have HKT:=Lib.hid hkt;clear hkt hat2 hb8 hwx;have hisk:=HIS.out k hlt;have hszk:=HSZ.out k hlt;have HISK:=Lib.hid hisk;have HXK:Hid (∃ x,[a][k]?=some x/\vda L x ([t0][k]'(by simpa using hlt))/\x.sz < n):=⟨_,List.getElem?_eq_getElem (by simpa using hlt),hisk,hszk⟩;clear hisk hszk HISK;generalize ([t0][k]'(by simpa using hlt))=tk at *;obtain ⟨x,hxk,hisx,hszx⟩:=HXK;have HXK:=Lib.hid hxk;have HISX:=Lib.hid hisx;clear hxk hisx;go_wp2_with fail;refine (IH.out x tk hszx HISX.out _ _ (HKT.out.ext ((Ext.refl wr).alloc _))).mono ?_;rintro e w2 ⟨v2,rfl,htm,hx2⟩;have hinv2:=HINV.out.ext (((Ext.refl wr).alloc _).trans hx2);obtain ⟨T2,u2,rfl⟩:=htm.iface;obtain ⟨uk,ck,ik,fk⟩:=hinv2.cell k (by omega);have HNEXT:=Lib.hid (hinv2.put (u:=.iface T2 u2) (by omega) (by omega) (by omega) rfl (fun y hy=>by rw [HXK.out] at hy; injection hy with hy; subst hy; exact htm));clear hinv2 htm hx2 e0 e1 e2 e3 e4 e5 e6 e7 e8;go_wp2_with fail
    go_roundw
    case rel=>exact ⟨k+1,by omega,by go_num,HNEXT⟩
    case measure=>simp [intOf]; omega
  · clear hat2 hwx;have hk2:1<=k:=by omega
    obtain ⟨hwx,-,u0,u1,hpar,i0,i1,p0,p1⟩:=HINV.out;have c0:wr.cell? ⟨w.heap.size,0,none⟩=some (.int .i64 6):=by simp [World.cell?,hb8]
    have c4:wr.cell? ⟨w.heap.size,4,none⟩=some (.int .i64 exp):=by simp [World.cell?,hb8]
    have q0:wr.cell? ⟨w.heap.size+1,0,none⟩=some u0:=by simp [World.cell?,hpar]
    have q1:wr.cell? ⟨w.heap.size+1,1,none⟩=some u1:=by simp [World.cell?,hpar]
    have f0:=p0 a (by omega) rfl;obtain ⟨T0,u0,rfl⟩:=f0.iface;have HFIN:Hid (TmV wr L (.neg a) (.iface 197 (.agg #[.iface T0 u0]))):=⟨_,rfl,f0⟩;clear f0;have HWX:=Lib.hid hwx;clear hb8 hpar hwx HINV i0 i1 p0 p1;go_wp2_with fail
    go_ret2
    exact ⟨_,rfl,HFIN.out,HWX.out⟩
theorem yi0 {L n:Nat} (ih:kg4 L n) {a:Tm} {ex:Int} (t:Tr) (hsz:(Tm.pow a ex).sz < n+1) (h:vda L (.pow a ex) t) (v:Value) (w:World) (hv:TrV w (fun _=>True) t v):Calls Tryz.prog 206 #[v] w (yg1 L (.pow a ex) w):=by
 have IH:=Lib.hid ih;clear ih;obtain ⟨⟨kind,neg,ds,name,exp,rel,truth,all⟩,ks⟩:=t;obtain ⟨hkind,hexp,hpos,t0,hks,h0⟩:=h;simp only [Tr.d] at hexp;subst hexp;have hpd:decide (exp < 0)=false:=by simpa using hpos
 simp only [Tr.d] at hkind;simp only [Tr.ks] at hks;subst hkind hks;obtain ⟨A0,n0,c0,A,c,rfl,hnat,hc1,hc2,hat⟩:=hv.open_
 change jc6 w _ [t0] A 0 at hat
 have HAT:=Lib.hid hat;clear hv hat hnat;unfold ndV;simp only [Tr.d,Tr.ks,List.length_cons,List.length_nil,Nat.zero_add,Nat.reduceAdd] at hc1 ⊢;have HIS:Hid (∀ i (hi:i < 1),vda L ([a][i]'(by simpa using hi)) ([t0][i]'(by simpa using hi))):=by
  intro i hi;obtain rfl:i=0:=by omega
  exact h0
 clear h0;have hsz':∀ i (hi:i < 1),([a][i]'(by simpa using hi)).sz < n:=by
  intro i hi;simp only [Tm.sz] at hsz;obtain rfl:i=0:=by omega
  simp; omega
 have HSZ:=Lib.hid hsz';clear hsz';go_enter Tryz.func206,Tryz.ntmps206;go_wp2_with fail
 go_loopw [40] (fun iv wr=>∃ k:Nat,k<=1/\iv=.int .i64 k/\Hid (zdc L w (w.heap.size+1) w.heap.size (.cells #[.int .i64 7,.bool neg,.slice A0 n0 c0,.string name,.int .i64 exp,.int .i64 rel,.bool truth,.bool all,.slice A 1 c] 194) [a] k wr)) (fun iv _=>1 - (intOf iv).toNat)
 case atStart =>
  refine ⟨0,by omega,rfl,⟨((Ext.refl w).alloc _).alloc _,?_,.nilIface,.nilIface,?_,rfl,rfl,fun x hk=>absurd hk (by omega),fun x hk=>absurd hk (by omega)⟩⟩
  · rw [Below.heap_alloc _ _ _ (by simp)]; exact heap_alloc_new w _
  · have:=heap_alloc_new (w.alloc (.cells #[.int .i64 7,.bool neg,.slice A0 n0 c0,.string name,.int .i64 exp,.int .i64 rel,.bool truth,.bool all,.slice A 1 c] 194)) (.cells #[.nilIface,.nilIface] 306)
    rwa [World.size_alloc] at this
 case round =>
  obtain ⟨k,hk,rfl,hinv⟩:=hrel;have HINV:=Lib.hid hinv;have hwx:=hinv.1;have hat2:=HAT.out.ext hwx;have hb8:=hinv.2.1;clear hinv
  by_cases hlt:k < 1
  · obtain ⟨ad,B0,m0,d0,B1,m1,d1,rfl,hadb,⟨e0,e1,e2,e3,e4,e5,e6,e7,e8⟩,hkt⟩:=hat2.kid k (by simpa using hlt);have HKT:=Lib.hid hkt;clear hkt hat2 hb8 hwx;have hisk:=HIS.out k hlt;have hszk:=HSZ.out k hlt;have HISK:=Lib.hid hisk;have HXK:Hid (∃ x,[a][k]?=some x/\vda L x ([t0][k]'(by simpa using hlt))/\x.sz < n):=⟨_,List.getElem?_eq_getElem (by simpa using hlt),hisk,hszk⟩;clear hisk hszk HISK;generalize ([t0][k]'(by simpa using hlt))=tk at *;obtain ⟨x,hxk,hisx,hszx⟩:=HXK;have HXK:=Lib.hid hxk;have HISX:=Lib.hid hisx;clear hxk hisx;go_wp2_with fail;refine (IH.out x tk hszx HISX.out _ _ (HKT.out.ext ((Ext.refl wr).alloc _))).mono ?_;rintro e w2 ⟨v2,rfl,htm,hx2⟩;have hinv2:=HINV.out.ext (((Ext.refl wr).alloc _).trans hx2);obtain ⟨T2,u2,rfl⟩:=htm.iface;obtain ⟨uk,ck,ik,fk⟩:=hinv2.cell k (by omega);have HNEXT:=Lib.hid (hinv2.put (u:=.iface T2 u2) (by omega) (by omega) (by omega) rfl (fun y hy=>by rw [HXK.out] at hy; injection hy with hy; subst hy; exact htm));clear hinv2 htm hx2 e0 e1 e2 e3 e4 e5 e6 e7 e8;go_wp2_with fail
    go_roundw
    case rel=>exact ⟨k+1,by omega,by go_num,HNEXT⟩
    case measure=>simp [intOf]; omega
  · clear hat2 hwx;have hk2:1<=k:=by omega
    obtain ⟨hwx,-,u0,u1,hpar,i0,i1,p0,p1⟩:=HINV.out;have c0:wr.cell? ⟨w.heap.size,0,none⟩=some (.int .i64 7):=by simp [World.cell?,hb8]
    have c4:wr.cell? ⟨w.heap.size,4,none⟩=some (.int .i64 exp):=by simp [World.cell?,hb8]
    have q0:wr.cell? ⟨w.heap.size+1,0,none⟩=some u0:=by simp [World.cell?,hpar]
    have q1:wr.cell? ⟨w.heap.size+1,1,none⟩=some u1:=by simp [World.cell?,hpar]
    have f0:=p0 a (by omega) rfl;obtain ⟨T0,u0,rfl⟩:=f0.iface;have HFIN:Hid (TmV wr L (.pow a exp) (.iface 204 (.agg #[.iface T0 u0,.int .i64 exp]))):=⟨_,rfl,f0⟩;clear f0;have HWX:=Lib.hid hwx;clear hb8 hpar hwx HINV i0 i1 p0 p1;go_wp2_with fail
    go_ret2
    exact ⟨_,rfl,HFIN.out,HWX.out⟩
theorem giq {L n:Nat} (ih:kg4 L n) {s:ByteArray} (t:Tr) (hsz:(Tm.name s).sz < n+1) (h:vda L (.name s) t) (v:Value) (w:World) (hv:TrV w (fun _=>True) t v):Calls Tryz.prog 206 #[v] w (yg1 L (.name s) w):=by
 have IH:=Lib.hid ih;clear ih;obtain ⟨⟨kind,neg,ds,name,exp,rel,truth,all⟩,ks⟩:=t;obtain ⟨hkind,hks,hname⟩:=h;simp only [Tr.d] at hname;subst hname;simp only [Tr.d] at hkind;simp only [Tr.ks] at hks;subst hkind hks;obtain ⟨A0,n0,c0,A,c,rfl,hnat,hc1,hc2,hat⟩:=hv.open_
 change jc6 w _ [] A 0 at hat
 have HAT:=Lib.hid hat;clear hv hat;unfold ndV;simp only [Tr.d,Tr.ks,List.length_cons,List.length_nil,Nat.zero_add,Nat.reduceAdd] at hc1 ⊢;go_enter Tryz.func206,Tryz.ntmps206;go_wp2_with fail;refine wp_loop_rounds 1 ?_;rw [rounds_succ];go_wp2_with fail
 go_ret2
 exact ⟨_,rfl,rfl,((Ext.refl w).alloc _).alloc _⟩
theorem xi0 {L n:Nat} (hL:L<=35184372088000) (ih:kg4 L n) {z:Int} (t:Tr) (hsz:(Tm.num z).sz < n+1) (h:vda L (.num z) t) (v:Value) (w:World) (hv:TrV w (fun _=>True) t v):Calls Tryz.prog 206 #[v] w (yg1 L (.num z) w):=by
 have IH:=Lib.hid ih;clear ih;obtain ⟨⟨kind,neg,ds,name,exp,rel,truth,all⟩,ks⟩:=t;obtain ⟨hkind,hks,hz,hlen⟩:=h;simp only [Tr.d] at hz hlen;simp only [Tr.d] at hkind;simp only [Tr.ks] at hks;subst hkind hks;obtain ⟨A0,n0,c0,A,c,rfl,hnat,hc1,hc2,hat⟩:=hv.open_
 change jc6 w _ [] A 0 at hat
 have HAT:=Lib.hid hat;clear hv hat;unfold ndV;simp only [Tr.d,Tr.ks,List.length_cons,List.length_nil,Nat.zero_add,Nat.reduceAdd] at hc1 ⊢;go_enter Tryz.func206,Tryz.ntmps206;go_wp2_with fail;refine wp_loop_rounds 1 ?_;rw [rounds_succ];go_wp2_with fail;obtain ⟨W,hW⟩:=n_m ((w.alloc (.cells #[.int .i64 1,.bool neg,.slice A0 n0 c0,.string name,.int .i64 exp,.int .i64 rel,.bool truth,.bool all,.slice A 0 c] 194)).alloc (.cells #[.nilIface,.nilIface] 306));have hWx:Ext w W:=by rw [<- hW]; exact ((Ext.refl w).alloc _).alloc _
 rw [hW];clear hW;have hint:xc4 W (.agg #[.bool neg,.slice A0 n0 c0]) z L:=⟨neg,_,ds,rfl,hnat.ext hWx,hz,hlen⟩;refine (xdi _ z L _ hint (by omega)).mono ?_;rintro e w1 ⟨x1,rfl,m1,y1⟩;have HFIN:Hid (TmV w1 L (.num z) (.iface 63 x1)):=⟨x1,rfl,m1.raw.mono (by rw [hz,qc7]; exact Nat.le_trans (vc3 hnat.digs) hlen)⟩;have HX:=Lib.hid (hWx.trans y1);obtain ⟨b1,A1,n1,c1,rfl⟩:=m1.unpack;clear hint hz hnat hWx m1 y1;go_wp2_with fail
 go_ret2
 exact ⟨_,rfl,HFIN.out,HX.out⟩
theorem wi7 (L:Nat) (hL:L<=35184372088000) (n:Nat):kg4 L n:=by
 induction n with
 | zero=>intro m t h; omega
 | succ n ih =>
   intro m t hsz h v w hv;cases m with
   | num z=>exact xi0 hL ih t hsz h v w hv
   | name s=>exact giq ih t hsz h v w hv
   | add a b=>exact ki0 ih t hsz h v w hv
   | sub a b=>exact zi0 ih t hsz h v w hv
   | mul a b=>exact ji0 ih t hsz h v w hv
   | neg a=>exact qi0 ih t hsz h v w hv
   | pow a e=>exact yi0 ih t hsz h v w hv
theorem ghi {L:Nat} (hL:L<=35184372088000) (m:Tm) (t:Tr) (h:vda L m t) (v:Value) (w:World) {p:Nat->Prop} (hv:TrV w p t v):Calls Tryz.prog 206 #[v] w (yg1 L m w):=
 wi7 L hL (m.sz+1) m t (Nat.lt_succ_self _) h v w (hv.mono fun _ _=>trivial)
end Go.Proofs.YtopddaabiinboaaGreat
