/- Layer 38: the polynomials of a matrix, plain; lists that a call has made longer. -/
import Derived.Test.YtaedbimbbeploaaGreatDoorMb31
import Derived.Test.YtaedbimbbeploaaGreatDoorMb15
import Derived.Test.YtaedbimbbeploaaGreatDoorMb30
set_option linter.unusedSimpArgs false
set_option linter.unusedVariables false
namespace Go.Proofs.YtaedbimbbeploaaGreatDoor
open Go.RowKit
mutual
def Mx.pols : Mx -> List Pl
 | .mk k _ p ks=>if k=2 then [p.nf] else if k=3\/k=4 then jau ks else []
def jau : List Mx -> List Pl
 | []=>[]
 | t :: r=>t.pols ++ jau r
end
theorem kbo (l:List Mx) (k:Nat):qw (l.take k)<=qw l:=by
 have h:qw l=qw (l.take k)+qw (l.drop k):=by rw [<- ka5,List.take_append_drop]
 omega
/- Reference 38: Polys, Level. -/
set_option maxRecDepth 100000
set_option maxHeartbeats 8000000
mutual
def Mx.raw : Mx -> List Pl
 | .mk k _ p ks=>if k=2 then [p] else xaa ks
def xaa : List Mx -> List Pl
 | []=>[]
 | t :: r=>t.raw ++ xaa r
end
theorem kbt (a b:List Mx):xaa (a ++ b)=xaa a ++ xaa b:=by
 induction a with
 | nil=>rfl
 | cons x r ih=>simp only [List.cons_append,xaa,ih,List.append_assoc]
theorem yb8 (l:List Mx) (k:Nat) (hk:k < l.length):xaa (l.take (k+1))=xaa (l.take k) ++ l[k].raw:=by
 rw [List.take_succ_eq_append_getElem hk,kbt]; simp [xaa]
theorem Mx.raw_eq (t:Mx):t.raw=if t.kind=2 then [t.p] else xaa t.ks:=by
 cases t; rw [Mx.raw]; rfl
mutual
theorem Mx.raw_len : ∀ t : Mx, t.raw.length <= t.sz
 | .mk k r p ks=>by
   have:=xa7 ks;rw [Mx.raw,Mx.sz]
   split
   · simp
   · omega
theorem xa7 : ∀ l : List Mx, (xaa l).length <= qw l
 | []=>by simp [xaa]
 | t :: r=>by
   have h1:=t.raw_len;have h2:=xa7 r;rw [xaa,qw,List.length_append]; omega
end
def zav (w0:World) (l:List Pl) (w:World) (e:Ending) (w':World):Prop:=∃ A c,e=.returned (.slice A l.length c)/\jd w' (fun b=>b < w0.heap.size\/w.heap.size<=b) l A 0/\Ext w w'
theorem zav.congr {w0:World} {l l':List Pl} {w w':World} {e:Ending} (h:l=l') (hr:zav w0 l' w e w'):zav w0 l w e w':=by rw [h]; exact hr
def wcy (w0:World) (q:Nat->Prop) (n:Nat):Prop:=∀ (t:Mx) (v:Value) (w:World),t.sz < n->t.sz<=1000000->MxV w0 q t v->Ext w0 w->Calls Tryz.prog 130 #[v] w (zav w0 t.raw w)
theorem jcr (w0:World) (q:Nat->Prop) (n:Nat):wcy w0 q n:=by
 induction n with
 | zero=>intro t v w h; omega
 | succ n ih =>
 intro t v w hn hbig h hx0;have hkl:t.ks.length<=1000000:=by have:=t.ks_len; omega
 have IH:=Lib.hid ih;have HSZ:=Lib.hid (fun k hk=>t.kid_le k hk);have HKS:Hid (∀ (k:Nat) (hk:k < t.ks.length),(xaa (t.ks.take k)).length+t.ks[k].sz<=t.sz):=by
  have:∀ (k:Nat) (hk:k < t.ks.length),(xaa (t.ks.take k)).length+t.ks[k].sz<=t.sz:=by
   intro k hk;have h1:=xa7 (t.ks.take k);have h2:=kca t.ks k hk;have h3:=kbo t.ks (k+1);have h4:qw t.ks < t.sz:=by cases t; simp only [Mx.sz,Mx.ks]; omega
   omega
  exact this
 obtain ⟨A0,n0,c0,A,n1,c1,K,c,rfl,hp,hl1,hl2,h4⟩:=h.open_;have hp0:PlV w0 (fun b=>b < w0.heap.size) t.p (plV t.p (.slice A0 n0 c0) (.slice A n1 c1)):=PlV.turn_ (Nat.le_refl _) (fun _ _ h=>h) (fun b hb _=>⟨hb,rfl⟩) hp;have HP:=Lib.hid hp0;have H4:=Lib.hid h4;have HRW:=Lib.hid t.raw_eq;have HX0:=Lib.hid hx0;have hx0s:=hx0.size;obtain ⟨W,hW⟩:∃ W,w.alloc (.cells #[.int .i64 t.kind,.int .i64 t.rel,.int .i64 t.p.lv,.bool t.p.neg,.slice A0 n0 c0,.slice A n1 c1,.slice K t.ks.length c] 45)=W:=⟨_,rfl⟩;have hWx:Ext w W:=by rw [<- hW]; exact (Ext.refl w).alloc _
 have hWs:W.heap.size=w.heap.size+1:=by rw [<- hW]; simp
 have hbx:um W w.heap.size t (.slice A0 n0 c0) (.slice A n1 c1) (.slice K t.ks.length c):=by rw [<- hW]; exact um.new w t _ _ _ _
 have HWX:=Lib.hid hWx;have HBX:=Lib.hid hbx;obtain ⟨b0,b1,b2,b3,b4,b5,b6⟩:=hbx;clear h ih h4 hWx hp hx0 hp0;unfold mxV at *;go_enter Tryz.func130,Tryz.ntmps130
 by_cases k2:t.kind=2
 · have hlv:=HRW.out;rw [if_pos k2] at hlv;have q2:(t.kind == 2)=true:=by simpa using k2
   have HF:Hid (zav w0 t.raw w (.returned (.slice (some ⟨W.heap.size,0,none⟩) 1 1)) (W.alloc (.cells #[.int .i64 t.p.lv,.bool t.p.neg,.slice A0 n0 c0,.slice A n1 c1] 42))):=by
    have hxa:Ext w (W.alloc (.cells #[.int .i64 t.p.lv,.bool t.p.neg,.slice A0 n0 c0,.slice A n1 c1] 42)):=HWX.out.alloc _;refine zav.congr hlv ⟨_,1,rfl,?_,hxa⟩;unfold jd;refine ⟨⟨⟨W.heap.size,0,none⟩,_,_,rfl,by simp,.inr HWX.out.size,?_,(HP.out.ext (HX0.out.trans hxa)).mono fun b hb=>.inl hb⟩,by unfold jd; trivial⟩;rw [Nat.zero_mul,gp,Nat.zero_add];refine ⟨?_,?_,?_,?_⟩ <;> simp [go_sem]
   rw [hWs] at HF;clear hlv HRW k2;go_wp2_with fail;go_ret;exact HF.out
 · have hlv:=HRW.out;rw [if_neg k2] at hlv;have HL:=Lib.hid hlv;have q2:(t.kind == 2)=false:=by simpa using k2
   clear hlv HRW k2;go_wp2_with fail;clear hW b0 b1 b2 b3 b4 b5 b6
   go_loopw [3,14] (fun ov iv wr=>∃ (k:Nat),k<=t.ks.length/\iv=.int .i64 k/\Hid (jm (w.heap.size+1) (fun b=>b < w0.heap.size\/w.heap.size<=b) wr ov (xaa (t.ks.take k))/\Ext W wr)) (fun _ iv _=>t.ks.length - (intOf iv).toNat)
   case atStart=>exact ⟨0,Nat.zero_le _,rfl,⟨by simpa [xaa] using jm.nil _ _ _,Ext.refl W⟩⟩
   case round =>
    obtain ⟨k,hk,rfl,⟨hrow,hxw⟩⟩:=hrel;have HROW:=Lib.hid hrow;have HXW:=Lib.hid hxw;obtain ⟨b0,b1,b2,b3,b4,b5,b6⟩:=HBX.out.ext hxw (by omega);obtain ⟨TB,Td,rfl,-,-⟩:=hrow.len
    by_cases hlt:k < t.ks.length
    · have hxr:Ext w0 wr:=(HX0.out.trans HWX.out).trans hxw;have hxs:=hxw.size;obtain ⟨ad,B0,m0,d0,B1,m1,d1,K2,n2,c2,rfl,hadb,hnd,hkt⟩:=jg.kid H4.out k hlt;obtain ⟨e0,e1,e2,e3,e4,e5,e6⟩:=hnd.ext hxr (by rw [ja]; exact hadb);have hks:=HKS.out k hlt;have hkid:=IH.out t.ks[k] _ wr (by have:=HSZ.out k hlt; omega) (by have:=HSZ.out k hlt; omega) hkt hxr;have HKID:=Lib.hid hkid;have hrl:=t.ks[k].raw_len;have HNX:Hid (xaa (t.ks.take (k+1))=xaa (t.ks.take k) ++ t.ks[k].raw):=by
       have:xaa (t.ks.take (k+1))=xaa (t.ks.take k) ++ t.ks[k].raw:=yb8 _ _ hlt;exact this
      have hlen:(xaa (t.ks.take k)).length+t.ks[k].raw.length<=1000000000:=by omega
      clear hkid hks hkt hnd hadb hrow hxr hxw hrl;generalize t.ks[k].raw=pk at *;generalize xaa (t.ks.take k)=lk at *;have HAPP:Hid (∀ w2 A2 c2,jd w2 (fun b=>b < w0.heap.size\/wr.heap.size<=b) pk A2 0->Ext wr w2->∃ v4 w4,(Builtin.append_ #[40,40] 40 #[.slice TB lk.length Td,.slice A2 pk.length c2]).run Tryz.prog w2=.ok v4 w4/\jm (w.heap.size+1) (fun b=>b < w0.heap.size\/w.heap.size<=b) w4 v4 (xaa (t.ks.take (k+1)))/\Ext W w4):=by
       intro w2 A2 c2 hat hx2;have hx2s:=hx2.size;obtain ⟨v4,w4,hrun,g4,n4,r4,o4⟩:=(HROW.out.ext hx2).append (by omega) (jd.turn (Nat.le_refl _) (fun _ _ h=>h) (fun b hb hp=>⟨⟨fun e=>by have:=HROW.out.own e; omega,by omega⟩,rfl⟩) _ _ _ hat) hlen c2 40;refine ⟨v4,w4,hrun,by rw [HNX.out]; exact r4,Below.grown (HXW.out.trans hx2).below g4 (by omega) (fun b e=>by have:=HROW.out.own e; omega)⟩
      unfold mxV at HKID;clear HXW HROW HNX hlen;go_wp2_with fail;refine HKID.out.mono ?_;rintro e w2 ⟨A2,c2',rfl,hat,x2⟩;obtain ⟨v4,w4,hrun,hr4,hx4⟩:=HAPP.out w2 A2 c2' hat x2;have HR4:=Lib.hid hr4;have HX4:=Lib.hid hx4;clear hat x2 HAPP HKID hr4 hx4 e0 e1 e2 e3 e4 e5 e6 b0 b1 b2 b3 b4 b5 b6
      go_wp2_with (at_builtin
                   refine wpList_append_run rfl (.tmp 17) (.tmp 23) _ _ rfl _ _ _ _ rfl rfl hrun ?_)
      clear hrun;go_wp2_with fail
      go_roundw
      case rel=>exact ⟨k+1,by omega,by go_num,⟨HR4.out,HX4.out⟩⟩
      case measure=>simp [intOf]; omega
    · have hke:k=t.ks.length:=by omega
      subst hke;have hf:zav w0 t.raw w (.returned (.slice TB (xaa (t.ks.take t.ks.length)).length Td)) wr:=by
       have hr:=HROW.out;rw [List.take_length] at hr ⊢;exact zav.congr HL.out ⟨_,_,rfl,jd.turn (Nat.le_refl _) (fun _ _ h=>h) (fun b hb hp=>⟨by omega,rfl⟩) _ _ _ hr.at_,HWX.out.trans HXW.out⟩
      have HF:=Lib.hid hf;clear hf HROW hrow hxw;generalize (xaa (t.ks.take t.ks.length)).length=ll at *;go_wp2_with fail;go_ret;exact HF.out
def lvR (a : Int) : List Pl -> Int
 | []=>a
 | p :: r=>lvR (max a p.lv) r
theorem zba (a:Int) (l r:List Pl):lvR a (l ++ r)=lvR (lvR a l) r:=by
 induction l generalizing a with
 | nil=>rfl
 | cons t l ih=>simp only [List.cons_append,lvR]; exact ih _
theorem vcj (a:Int) (l:List Pl) (k:Nat) (hk:k < l.length):lvR a (l.take (k+1))=max (lvR a (l.take k)) l[k].lv:=by
 rw [List.take_succ_eq_append_getElem hk,zba]; rfl
theorem zb1 {q:Nat->Prop} (t:Mx) (v:Value) (w:World) (hbig:t.sz<=1000000) (h:MxV w q t v):Calls Tryz.prog 74 #[v] w (waa (lvR 0 t.raw) w):=by
 have HH:=Lib.hid h;have hrl:=t.raw_len;obtain ⟨A0,n0,c0,A,n1,c1,K,c,rfl,hp,hl1,hl2,h4⟩:=h.open_;obtain ⟨W,hW⟩:∃ W,w.alloc (.cells #[.int .i64 t.kind,.int .i64 t.rel,.int .i64 t.p.lv,.bool t.p.neg,.slice A0 n0 c0,.slice A n1 c1,.slice K t.ks.length c] 45)=W:=⟨_,rfl⟩;have hWx:Ext w W:=by rw [<- hW]; exact (Ext.refl w).alloc _
 obtain ⟨b0,b1,b2,b3,b4,b5,b6⟩:um W w.heap.size t (.slice A0 n0 c0) (.slice A n1 c1) (.slice K t.ks.length c):=by rw [<- hW]; exact um.new w t _ _ _ _
 have HWX:=Lib.hid hWx;have HC:=Lib.hid (jcr w q (t.sz+1) t _ W (Nat.lt_succ_self _) hbig HH.out hWx);clear h hp h4 hWx;generalize t.raw=l at *;unfold mxV at *;go_enter Tryz.func74,Tryz.ntmps74;go_wp2_with fail;clear hW b0 b1 b2 b3 b4 b5 b6;refine HC.out.mono ?_;rintro e w2 ⟨A2,c2,rfl,hat,x2⟩;have HAT:=Lib.hid hat;have X2:=Lib.hid (HWX.out.trans x2);clear hat x2 HC;go_wp2_with fail
 go_loopw [3,10] (fun mv iv wr=>∃ (k:Nat),k<=l.length/\iv=.int .i64 k/\wr=w2/\Hid (mv=.int .i64 (lvR 0 (l.take k)))) (fun _ iv _=>l.length - (intOf iv).toNat)
 case atStart=>exact ⟨0,Nat.zero_le _,rfl,rfl,by simp [lvR]; exact Lib.hid trivial⟩
 case round =>
  obtain ⟨k,hk,rfl,rfl,⟨rfl⟩⟩:=hrel
  by_cases hlt:k < l.length
  · obtain ⟨ad,s,K2,rfl,hadb,-,⟨e0,e1,e2,e3⟩,-⟩:=jd.get_ l A2 0 HAT.out k hlt;rw [Nat.zero_add] at e0 e1 e2 e3;have HSTEP:Hid (lvR 0 (l.take (k+1))=max (lvR 0 (l.take k)) l[k].lv):=by
     have:lvR 0 (l.take (k+1))=max (lvR 0 (l.take k)) l[k].lv:=vcj _ _ _ hlt;exact this
    generalize lvR 0 (l.take k)=mm at *;generalize l[k].lv=lk at *;go_wp2_with fail
    go_roundw
    case rel=>exact ⟨k+1,by omega,by go_num,trivial,Lib.hid (by rw [HSTEP.out])⟩
    case measure=>simp [intOf]; omega
  · have hke:k=l.length:=by omega
    have HF:Hid (lvR 0 l=lvR 0 (l.take k)):=by
     rw [hke,List.take_length];exact Lib.hid rfl
    clear hke;generalize lvR 0 (l.take k)=mm at *;go_wp2_with fail;go_ret;exact ⟨by rw [HF.out]; rfl,X2.out⟩
/- The plain law of matrices: levels and polynomials of a matrix and of its normal form. -/
mutual
theorem Mx.nrm_raw : ∀ t : Mx, t.nrm.raw = t.pols
 | .mk k r p ks=>by
   rw [Mx.nrm,Mx.pols]
   by_cases h1:k=1
   · rw [if_pos h1,if_neg (by omega),if_neg (by omega),Mx.raw,if_neg (by omega),xaa]
   · rw [if_neg h1]
     by_cases h2:k=2
     · rw [if_pos h2,if_pos h2,Mx.raw,if_pos rfl]
     · rw [if_neg h2,if_neg h2]
       by_cases h3:k=3\/k=4
       · rw [if_pos h3,if_pos h3,Mx.raw,if_neg h2,ybo ks]
       · rw [if_neg h3,if_neg h3,Mx.raw,if_neg (by omega),xaa]
theorem ybo : ∀ l : List Mx, xaa (vav l) = jau l
 | []=>by rw [vav,xaa,jau]
 | t :: r=>by rw [vav,xaa,jau,t.nrm_raw,ybo r]
end
mutual
theorem Mx.lvl_pols : ∀ (t : Mx) (a : Int), 0 <= a -> t.each (fun p => 0 <= p.nf.lv) -> lvR a t.pols = max a t.lvl /\ 0 <= t.lvl
 | .mk k r p ks,a,ha,h=>by
   rw [Mx.each] at h;rw [Mx.pols,Mx.lvl]
   by_cases h2:k=2
   · rw [if_pos h2,if_pos h2];exact ⟨rfl,h.1⟩
   · rw [if_neg h2,if_neg h2]
     by_cases h3:k=3\/k=4
     · rw [if_pos h3,if_pos h3];have h0:=wa0 ks 0 (by omega) h.2;have h1:=wa0 ks a ha h.2;have hm:=ua7 ks a ha h.2;omega
     · rw [if_neg h3,if_neg h3,lvR];omega
theorem wa0 : ∀ (l : List Mx) (a : Int), 0 <= a -> xw (fun p => 0 <= p.nf.lv) l -> lvR a (jau l) = ut a l /\ 0 <= ut a l
 | [],a,ha,_=>by rw [jau,lvR,ut]; exact ⟨rfl,ha⟩
 | t :: r,a,ha,h=>by
   rw [xw] at h;rw [jau,ut,zba];have h1:=t.lvl_pols a ha h.1;rw [h1.1];exact wa0 r (max a t.lvl) (by omega) h.2
theorem ua7 : ∀ (l : List Mx) (a : Int), 0 <= a -> xw (fun p => 0 <= p.nf.lv) l -> ut a l = max a (ut 0 l)
 | [],a,ha,_=>by rw [ut,ut]; omega
 | t :: r,a,ha,h=>by
   rw [xw] at h;rw [ut,ut];have h0:=t.lvl_pols a ha h.1;have h1:=ua7 r (max a t.lvl) (by omega) h.2;have h2:=ua7 r (max 0 t.lvl) (by omega) h.2;omega
end
theorem Mx.lvl_nrm (t:Mx):lvR 0 t.nrm.raw=t.lvl:=by
 have h:=t.lvl_pols 0 (by omega) (t.each_all fun p=>p.nf_can.lv_nonneg.1);rw [t.nrm_raw,h.1]; omega
end Go.Proofs.YtaedbimbbeploaaGreatDoor
