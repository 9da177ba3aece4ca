/- Layer 27: prenex.kind, Level. -/
import Derived.Test.YtaedbimbbeploaaGreatDoorMb22
import Derived.Test.YtaedbimbbeploaaGreatDoorMb18
import Derived.Test.YtaedbimbbeploaaGreatDoorMb23
import Derived.Test.YtaedbimbbeploaaGreatDoorMRow
import Derived.Test.YtaedbimbbeploaaGreatDoorMb24
set_option linter.unusedSimpArgs false
set_option linter.unusedVariables false

set_option maxRecDepth 100000
set_option maxHeartbeats 8000000
namespace Go.Proofs.YtaedbimbbeploaaGreatDoor
open Go.RowKit
def qag (k:Int):Int:=if k < 0\/4 < k then 0 else k
theorem ya1 (k j:Int) (h1:1<=j) (h2:j<=4):(qag k == j)=(k == j):=by
 have:(qag k=j) ↔ (k=j):=by unfold qag; split <;> omega
 rw [Bool.eq_iff_iff]; simpa using this
theorem xbp {w:World} (t:Mx) (s A K:Value):Calls Tryz.prog 110 #[mxV t s A K] w (waa (qag t.kind) w):=by
 unfold mxV;generalize t.kind=k;generalize t.rel=r;generalize t.p.lv=l;generalize t.p.neg=n
 by_cases h1:k < 0
 · rw [show qag k=0 from if_pos (.inl h1)];go_enter Tryz.func110,Tryz.ntmps110;go_wp2_with fail;go_ret;exact ⟨rfl,(Ext.refl w).alloc _⟩
 by_cases h2:4 < k
 · rw [show qag k=0 from if_pos (.inr h2)];go_enter Tryz.func110,Tryz.ntmps110;go_wp2_with fail;go_ret;exact ⟨rfl,(Ext.refl w).alloc _⟩
 · rw [show qag k=k from if_neg (by omega)];go_enter Tryz.func110,Tryz.ntmps110;go_wp2_with fail;go_ret;exact ⟨rfl,(Ext.refl w).alloc _⟩
mutual
def Mx.lvl : Mx -> Int
 | .mk k _ p ks=>if k=2 then p.nf.lv else if k=3\/k=4 then ut 0 ks else 0
def ut : Int -> List Mx -> Int
 | a,[]=>a
 | a,t :: r=>ut (max a t.lvl) r
end
theorem ubu (a:Int) (l r:List Mx):ut a (l ++ r)=ut (ut a l) r:=by
 induction l generalizing a with
 | nil=>rfl
 | cons t l ih=>simp only [List.cons_append,ut]; exact ih _
theorem vbg (a:Int) (l:List Mx) (k:Nat) (hk:k < l.length):ut a (l.take (k+1))=max (ut a (l.take k)) l[k].lvl:=by
 rw [List.take_succ_eq_append_getElem hk,ubu]; rfl
theorem Mx.lvl_eq (t:Mx):t.lvl=if t.kind=2 then t.p.nf.lv else if t.kind=3\/t.kind=4 then ut 0 t.ks else 0:=by
 cases t; rw [Mx.lvl]; rfl
def zcz (n:Nat):Prop:=∀ (q:Nat->Prop) (t:Mx) (v:Value) (w:World),t.sz < n->t.sz<=1000000->t.small->MxV w q t v->Calls Tryz.prog 87 #[v] w (waa t.lvl w)
theorem vct (n:Nat):zcz n:=by
 induction n with
 | zero=>intro q t v w h; omega
 | succ n ih =>
 intro q t v w hn hbig hsm h;have hkl:t.ks.length<=1000000:=by have:=t.ks_len; omega
 have IH:=Lib.hid ih;have HSZ:=Lib.hid (fun k hk=>t.kid_le k hk);have HSM:=Lib.hid (Mx.ks_small hsm);have hps:=Mx.p_small hsm;obtain ⟨A0,n0,c0,A,n1,c1,K,c,rfl,hp,hl1,hl2,h4⟩:=h.open_;have HP:=Lib.hid hp;have H4:=Lib.hid h4;have HLV:=Lib.hid t.lvl_eq;obtain ⟨W,hW⟩:∃ W,w.alloc (.cells #[.int .i64 t.kind,.int .i64 t.rel,.int .i64 t.p.lv,.bool t.p.neg,.slice A0 n0 c0,.slice A n1 c1,.slice K t.ks.length c] 45)=W:=⟨_,rfl⟩;have hWx:Ext w W:=by rw [<- hW]; exact (Ext.refl w).alloc _
 have hWs:W.heap.size=w.heap.size+1:=by rw [<- hW]; simp
 have hbx:um W w.heap.size t (.slice A0 n0 c0) (.slice A n1 c1) (.slice K t.ks.length c):=by rw [<- hW]; exact um.new w t _ _ _ _
 have HWX:=Lib.hid hWx;have HBX:=Lib.hid hbx;have HKIND:=Lib.hid (xbp (w:=W) t (.slice A0 n0 c0) (.slice A n1 c1) (.slice K t.ks.length c));obtain ⟨b0,b1,b2,b3,b4,b5,b6⟩:=hbx;have hk2:=ya1 t.kind 2 (by omega) (by omega);have hk3:=ya1 t.kind 3 (by omega) (by omega);have hk4:=ya1 t.kind 4 (by omega) (by omega);clear h ih h4 hWx hp hsm;unfold mxV at *;go_enter Tryz.func87,Tryz.ntmps87;go_wp2_with fail;clear hW b0 b1 b2 b3 b4 b5 b6;refine HKIND.out.mono ?_;rintro e w1 ⟨rfl,x1⟩;generalize qag t.kind=kd at *;have X1:=Lib.hid (HWX.out.trans x1);obtain ⟨b0,b1,b2,b3,b4,b5,b6⟩:=HBX.out.ext x1 (by omega);have hs1:=x1.size;clear x1 HKIND HWX HBX
 by_cases k2:t.kind=2
 · have hlv:=HLV.out;rw [if_pos k2] at hlv;have q2:(kd == 2)=true:=by rw [hk2]; simpa using k2
   have hnf:t.p.nf.sz<=1099511627776:=Nat.le_trans (Pl.nf_sz t.p) (Nat.le_trans (Nat.pow_le_pow_left (show t.p.sz+2<=42 by omega) 4) (by decide));have HC:=Lib.hid (ub2 t.p _ (HP.out.ext X1.out) (by omega) hnf (by omega));unfold plV at HC;have HL:=Lib.hid hlv;generalize t.p.nf.lv=lv at *;clear k2 hk2 hk3 hk4 hlv HLV hnf;go_wp2_with fail;refine HC.out.mono ?_;rintro e w2 ⟨rfl,x2⟩;have X2:=Lib.hid (X1.out.trans x2);clear x2 HC b0 b1 b2 b3 b4 b5 b6;go_wp2_with fail;go_ret;exact ⟨by rw [HL.out]; rfl,X2.out⟩
 by_cases k34:t.kind=3\/t.kind=4
 · have hlv:=HLV.out;rw [if_neg k2,if_pos k34] at hlv;have HL:=Lib.hid hlv;have q2:(kd == 2)=false:=by rw [hk2]; simpa using k2
   have D6:=Lib.hid b6;clear hlv HLV hk2 k2 HP;rcases k34 with k3 | k4
   · have q3:(kd == 3)=true:=by rw [hk3]; simpa using k3
     clear k3 hk3 hk4;go_wp2_with fail;clear b0 b1 b2 b3 b4 b5 b6
     go_loopw [3,19] (fun mv iv wr=>∃ (k:Nat),k<=t.ks.length/\iv=.int .i64 k/\Hid (mv=.int .i64 (ut 0 (t.ks.take k))/\Ext w1 wr)) (fun _ iv _=>t.ks.length - (intOf iv).toNat)
     case atStart=>exact ⟨0,Nat.zero_le _,rfl,⟨by simp [ut],Ext.refl w1⟩⟩
     case round =>
      obtain ⟨k,hk,rfl,⟨rfl,hxw⟩⟩:=hrel;have HXW:=Lib.hid hxw
      by_cases hlt:k < t.ks.length
      · obtain ⟨ad,B0,m0,d0,B1,m1,d1,K2,n2,c2,rfl,hadb,⟨e0,e1,e2,e3,e4,e5,e6⟩,hkt⟩:=jg.kid (jg.ext H4.out (X1.out.trans hxw)) k hlt;have HKT:=Lib.hid hkt;have hsz:t.ks[k].sz < n/\t.ks[k].sz<=1000000:=by have:=HSZ.out k hlt; omega
        have HSTEP:Hid (ut 0 (t.ks.take (k+1))=max (ut 0 (t.ks.take k)) t.ks[k].lvl):=by
         have:ut 0 (t.ks.take (k+1))=max (ut 0 (t.ks.take k)) t.ks[k].lvl:=vbg _ _ _ hlt;exact this
        clear hkt hxw;generalize ut 0 (t.ks.take k)=mm at *;have hkid:=IH.out q t.ks[k] _ (wr.alloc (.cells #[.int .i64 t.ks[k].kind,.int .i64 t.ks[k].rel,.int .i64 t.ks[k].p.lv,.bool t.ks[k].p.neg,.slice B0 m0 d0,.slice B1 m1 d1,.slice K2 n2 c2] 45)) hsz.1 hsz.2 (kae HSM.out (List.getElem_mem hlt)) (HKT.out.ext ((Ext.refl wr).alloc _));have HKID:=Lib.hid hkid;clear hkid HKT;generalize t.ks[k].lvl=lk at *;go_wp2_with fail;refine HKID.out.mono ?_;rintro e w2 ⟨rfl,x2⟩;have X2:=Lib.hid ((HXW.out.alloc _).trans x2);clear x2 HKID e0 e1 e2 e3 e4 e5 e6;go_wp2_with fail
        go_roundw
        case rel=>exact ⟨k+1,by omega,by go_num,⟨by rw [HSTEP.out],X2.out⟩⟩
        case measure=>simp [intOf]; omega
      · have hke:k=t.ks.length:=by omega
        have HF:Hid (t.lvl=ut 0 (t.ks.take k)):=by
         rw [hke,List.take_length];exact HL.out
        clear hxw hke;generalize ut 0 (t.ks.take k)=mm at *;go_wp2_with fail;go_ret;exact ⟨by rw [HF.out]; rfl,X1.out.trans HXW.out⟩
   · have q3:(kd == 3)=false:=by rw [hk3]; simp; omega
     have q4:(kd == 4)=true:=by rw [hk4]; simpa using k4
     clear k4 hk3 hk4;go_wp2_with fail;clear b0 b1 b2 b3 b4 b5 b6
     go_loopw [3,19] (fun mv iv wr=>∃ (k:Nat),k<=t.ks.length/\iv=.int .i64 k/\Hid (mv=.int .i64 (ut 0 (t.ks.take k))/\Ext w1 wr)) (fun _ iv _=>t.ks.length - (intOf iv).toNat)
     case atStart=>exact ⟨0,Nat.zero_le _,rfl,⟨by simp [ut],Ext.refl w1⟩⟩
     case round =>
      obtain ⟨k,hk,rfl,⟨rfl,hxw⟩⟩:=hrel;have HXW:=Lib.hid hxw
      by_cases hlt:k < t.ks.length
      · obtain ⟨ad,B0,m0,d0,B1,m1,d1,K2,n2,c2,rfl,hadb,⟨e0,e1,e2,e3,e4,e5,e6⟩,hkt⟩:=jg.kid (jg.ext H4.out (X1.out.trans hxw)) k hlt;have HKT:=Lib.hid hkt;have hsz:t.ks[k].sz < n/\t.ks[k].sz<=1000000:=by have:=HSZ.out k hlt; omega
        have HSTEP:Hid (ut 0 (t.ks.take (k+1))=max (ut 0 (t.ks.take k)) t.ks[k].lvl):=by
         have:ut 0 (t.ks.take (k+1))=max (ut 0 (t.ks.take k)) t.ks[k].lvl:=vbg _ _ _ hlt;exact this
        clear hkt hxw;generalize ut 0 (t.ks.take k)=mm at *;have hkid:=IH.out q t.ks[k] _ (wr.alloc (.cells #[.int .i64 t.ks[k].kind,.int .i64 t.ks[k].rel,.int .i64 t.ks[k].p.lv,.bool t.ks[k].p.neg,.slice B0 m0 d0,.slice B1 m1 d1,.slice K2 n2 c2] 45)) hsz.1 hsz.2 (kae HSM.out (List.getElem_mem hlt)) (HKT.out.ext ((Ext.refl wr).alloc _));have HKID:=Lib.hid hkid;clear hkid HKT;generalize t.ks[k].lvl=lk at *;go_wp2_with fail;refine HKID.out.mono ?_;rintro e w2 ⟨rfl,x2⟩;have X2:=Lib.hid ((HXW.out.alloc _).trans x2);clear x2 HKID e0 e1 e2 e3 e4 e5 e6;go_wp2_with fail
        go_roundw
        case rel=>exact ⟨k+1,by omega,by go_num,⟨by rw [HSTEP.out],X2.out⟩⟩
        case measure=>simp [intOf]; omega
      · have hke:k=t.ks.length:=by omega
        have HF:Hid (t.lvl=ut 0 (t.ks.take k)):=by
         rw [hke,List.take_length];exact HL.out
        clear hxw hke;generalize ut 0 (t.ks.take k)=mm at *;go_wp2_with fail;go_ret;exact ⟨by rw [HF.out]; rfl,X1.out.trans HXW.out⟩
 · have hlv:=HLV.out;rw [if_neg k2,if_neg k34] at hlv;have HL:=Lib.hid hlv;have q2:(kd == 2)=false:=by rw [hk2]; simpa using k2
   have q3:(kd == 3)=false:=by rw [hk3]; simp; omega
   have q4:(kd == 4)=false:=by rw [hk4]; simp; omega
   clear hlv HLV hk2 hk3 hk4 k2 k34;go_wp2_with fail;go_ret;exact ⟨by rw [HL.out]; rfl,X1.out⟩
theorem qcj {q:Nat->Prop} (t:Mx) (v:Value) (w:World) (hbig:t.sz<=1000000) (hsm:t.small) (h:MxV w q t v):Calls Tryz.prog 87 #[v] w (waa t.lvl w):=
 vct (t.sz+1) q t v w (Nat.lt_succ_self _) hbig hsm h
end Go.Proofs.YtaedbimbbeploaaGreatDoor

/- Layer 38: prenex.relation, complement; what builder.poly is to do. -/
namespace Go.Proofs.YtaedbimbbeploaaGreatDoor
open Go.RowKit
attribute [local go_sem] yac uz uac wab jac qac zac jw wz xac vac yaf ul kac kw
theorem qbn (r:Int) (w:World):Calls Tryz.prog 105 #[.int .i64 r] w fun e w'=>e=.returned (.int .i64 (zad r))/\w'=w:=by
 unfold zad
 by_cases h1:r < 1
 · rw [if_pos (.inl h1)];go_enter Tryz.func105,Tryz.ntmps105;go_wp2_with fail;go_ret;exact ⟨rfl,rfl⟩
 · by_cases h2:6 < r
   · rw [if_pos (.inr h2)];go_enter Tryz.func105,Tryz.ntmps105;go_wp2_with fail;go_ret;exact ⟨rfl,rfl⟩
   · rw [if_neg (by omega)];go_enter Tryz.func105,Tryz.ntmps105;go_wp2_with fail;go_ret;exact ⟨rfl,rfl⟩
theorem xcc (r:Int) (w:World):Calls Tryz.prog 106 #[.int .i64 r] w fun e w'=>e=.returned (.int .i64 (kbd r))/\w'=w:=by
 unfold kbd;rcases (show r=1\/r=2\/r=4\/r=5\/r=6\/(r ≠ 1/\r ≠ 2/\r ≠ 4/\r ≠ 5/\r ≠ 6) by omega) with rfl | rfl | rfl | rfl | rfl | ⟨h1,h2,h3,h4,h5⟩
 all_goals
  first | rw [if_neg h1,if_neg h2,if_neg h3,if_neg h4,if_neg h5] | skip
  first | (have k1 : (r == 1) = false := by simp [h1]
           have k2:(r == 2)=false:=by simp [h2]
           have k3:(r == 4)=false:=by simp [h3]
           have k4:(r == 5)=false:=by simp [h4]
           have k5:(r == 6)=false:=by simp [h5]
           clear h1 h2 h3 h4 h5) | skip
  go_enter Tryz.func106,Tryz.ntmps106;go_wp2_with fail;go_ret;exact ⟨rfl,rfl⟩
def va2 (W:World) (gb bl:Nat) (g:ByteArray->Int):Prop:=W.cell? ⟨gb,2,none⟩=some (.map (some bl))/\gb < W.heap.size/\vab W bl g
theorem va2.ext {W W':World} {gb bl:Nat} {g:ByteArray->Int} (h:va2 W gb bl g) (hx:Ext W W'):va2 W' gb bl g:=⟨(hx.cell (p:=⟨gb,2,none⟩) h.2.1).trans h.1,Nat.lt_of_lt_of_le h.2.1 hx.size,h.2.2.ext hx⟩
section
variable {w0:World} {L gb bl:Nat} {g:ByteArray->Int}
def gac (w0:World) (L gb bl:Nat) (g:ByteArray->Int) (t:Tm):Prop:=∀ (v:Value) (W:World),Ext w0 W->TmV w0 L t v->va2 W gb bl g->t.wt<=400 ->
 Calls Tryz.prog 59 #[.pointer (some ⟨gb,0,none⟩),v] W (yg (fun b=>W.heap.size<=b) (xh g t) W)
theorem Bd.fit400 {p:Pl} {W:Nat} (h:Bd p W) (hw:W<=400):Fit p 400 401:=(h.mono hw).fit
theorem jb5 {a b:Tm} (h:uf (je a.wt b.wt+1)<=400):a.wt<=400/\b.wt<=400:=by
 have h1:=xak h;have hm:a.wt<=je a.wt b.wt/\b.wt<=je a.wt b.wt:=by unfold je; split <;> omega
 omega
theorem uby {a b:Tm} (h:uf (a.wt+b.wt)<=400):a.wt<=400/\b.wt<=400:=by
 have h1:=xak h;have:=a.wt_bd; have:=b.wt_bd;omega
end
end Go.Proofs.YtaedbimbbeploaaGreatDoor
