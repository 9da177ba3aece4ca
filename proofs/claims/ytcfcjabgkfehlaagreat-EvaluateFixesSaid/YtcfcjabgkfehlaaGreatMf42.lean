/- Layer 27: prenex.kind, Level. -/
import Derived.Test.YtcfcjabgkfehlaaGreatMf39
import Derived.Test.YtcfcjabgkfehlaaGreatDeg
import Derived.Test.YtcfcjabgkfehlaaGreatMf41
set_option linter.unusedSimpArgs false
set_option linter.unusedVariables false
set_option maxRecDepth 100000
set_option maxHeartbeats 8000000
namespace Go.Proofs.YtcfcjabgkfehlaaGreat
open Go.RowKit
def gar (k:Int):Int:=if k < 0\/4 < k then 0 else k
theorem uam (k j:Int) (h1:1<=j) (h2:j<=4):(gar k == j)=(k == j):=by
 have:(gar k=j) ↔ (k=j):=by unfold gar; split <;> omega
 rw [Bool.eq_iff_iff]; simpa using this
theorem xbl {w:World} (t:Mx) (s A K:Value):Calls Tryz.prog 131 #[mxV t s A K] w (jo (gar t.kind) w):=by
 unfold mxV;generalize t.kind=k;generalize t.rel=r;generalize t.p.lv=l;generalize t.p.neg=n
 by_cases h1:k < 0
 · rw [show gar k=0 from if_pos (.inl h1)];go_enter Tryz.func131,Tryz.ntmps131;go_wp2_with fail;go_ret;exact ⟨rfl,(Ext.refl w).alloc _⟩
 by_cases h2:4 < k
 · rw [show gar k=0 from if_pos (.inr h2)];go_enter Tryz.func131,Tryz.ntmps131;go_wp2_with fail;go_ret;exact ⟨rfl,(Ext.refl w).alloc _⟩
 · rw [show gar k=k from if_neg (by omega)];go_enter Tryz.func131,Tryz.ntmps131;go_wp2_with fail;go_ret;exact ⟨rfl,(Ext.refl w).alloc _⟩
mutual
def Mx.lvl : Mx -> Int
 | .mk k _ p ks=>if k=2 then p.nf.lv else if k=3\/k=4 then wz 0 ks else 0
def wz : Int -> List Mx -> Int
 | a,[]=>a
 | a,t :: r=>wz (max a t.lvl) r
end
theorem gbq (a:Int) (l r:List Mx):wz a (l ++ r)=wz (wz a l) r:=by
 induction l generalizing a with
 | nil=>rfl
 | cons t l ih=>simp only [List.cons_append,wz]; exact ih _
theorem wbd (a:Int) (l:List Mx) (k:Nat) (hk:k < l.length):wz a (l.take (k+1))=max (wz a (l.take k)) l[k].lvl:=by
 rw [List.take_succ_eq_append_getElem hk,gbq]; rfl
theorem Mx.lvl_eq (t:Mx):t.lvl=if t.kind=2 then t.p.nf.lv else if t.kind=3\/t.kind=4 then wz 0 t.ks else 0:=by
 cases t; rw [Mx.lvl]; rfl
def xcx (n:Nat):Prop:=∀ (q:Nat->Prop) (t:Mx) (v:Value) (w:World),t.sz < n->t.sz<=1000000->t.each wap->MxV w q t v->Calls Tryz.prog 83 #[v] w (jo t.lvl w)
theorem qcp (n:Nat):xcx n:=by
 induction n with
 | zero=>intro q t v w h; omega
 | succ n ih =>
 intro q t v w hn hbig hsm h;have hkl:t.ks.length<=1000000:=by have:=t.ks_len; omega
 have IH:=Lib.hid ih;have HSZ:=Lib.hid (fun k hk=>t.kid_le k hk);have HSM:=Lib.hid (Mx.each_ks hsm);have hps:=Mx.each_p hsm;obtain ⟨A0,n0,c0,A,n1,c1,K,c,rfl,hp,hl1,hl2,h4⟩:=h.open_;have HP:=Lib.hid hp;have H4:=Lib.hid h4;have HLV:=Lib.hid t.lvl_eq;obtain ⟨W,hW⟩:∃ W,w.alloc (.cells #[.int .i64 t.kind,.int .i64 t.rel,.int .i64 t.p.lv,.bool t.p.neg,.slice A0 n0 c0,.slice A n1 c1,.slice K t.ks.length c] 63)=W:=⟨_,rfl⟩;have hWx:Ext w W:=by rw [<- hW]; exact (Ext.refl w).alloc _
 have hWs:W.heap.size=w.heap.size+1:=by rw [<- hW]; simp
 have hbx:zt W w.heap.size t (.slice A0 n0 c0) (.slice A n1 c1) (.slice K t.ks.length c):=by rw [<- hW]; exact zt.new w t _ _ _ _
 have HWX:=Lib.hid hWx;have HBX:=Lib.hid hbx;have HKIND:=Lib.hid (xbl (w:=W) t (.slice A0 n0 c0) (.slice A n1 c1) (.slice K t.ks.length c));obtain ⟨b0,b1,b2,b3,b4,b5,b6⟩:=hbx;have hk2:=uam t.kind 2 (by omega) (by omega);have hk3:=uam t.kind 3 (by omega) (by omega);have hk4:=uam t.kind 4 (by omega) (by omega);clear h ih h4 hWx hp hsm;unfold mxV at *;go_enter Tryz.func83,Tryz.ntmps83;go_wp2_with fail;clear hW b0 b1 b2 b3 b4 b5 b6;refine HKIND.out.mono ?_;rintro e w1 ⟨rfl,x1⟩;generalize gar t.kind=kd at *;have X1:=Lib.hid (HWX.out.trans x1);obtain ⟨b0,b1,b2,b3,b4,b5,b6⟩:=HBX.out.ext x1 (by omega);have hs1:=x1.size;clear x1 HKIND HWX HBX
 by_cases k2:t.kind=2
 · have hlv:=HLV.out;rw [if_pos k2] at hlv;have q2:(kd == 2)=true:=by rw [hk2]; simpa using k2
   have HC:=Lib.hid (yby _ (HP.out.ext X1.out) hps);unfold plV at HC;have HL:=Lib.hid hlv;generalize t.p.nf.lv=lv at *;clear k2 hk2 hk3 hk4 hlv HLV;go_wp2_with fail;refine HC.out.mono ?_;rintro e w2 ⟨rfl,x2⟩;have X2:=Lib.hid (X1.out.trans x2);clear x2 HC b0 b1 b2 b3 b4 b5 b6;go_wp2_with fail;go_ret;exact ⟨by rw [HL.out]; rfl,X2.out⟩
 by_cases k34:t.kind=3\/t.kind=4
 · have hlv:=HLV.out;rw [if_neg k2,if_pos k34] at hlv;have HL:=Lib.hid hlv;have q2:(kd == 2)=false:=by rw [hk2]; simpa using k2
   have D6:=Lib.hid b6;clear hlv HLV hk2 k2 HP;rcases k34 with k3 | k4
   · have q3:(kd == 3)=true:=by rw [hk3]; simpa using k3
     clear k3 hk3 hk4;go_wp2_with fail;clear b0 b1 b2 b3 b4 b5 b6
     go_loopw [3,19] (fun mv iv wr=>∃ (k:Nat),k<=t.ks.length/\iv=.int .i64 k/\Hid (mv=.int .i64 (wz 0 (t.ks.take k))/\Ext w1 wr)) (fun _ iv _=>t.ks.length - (intOf iv).toNat)
     case atStart=>exact ⟨0,Nat.zero_le _,rfl,⟨by simp [wz],Ext.refl w1⟩⟩
     case round =>
      obtain ⟨k,hk,rfl,⟨rfl,hxw⟩⟩:=hrel;have HXW:=Lib.hid hxw
      by_cases hlt:k < t.ks.length
      · obtain ⟨ad,B0,m0,d0,B1,m1,d1,K2,n2,c2,rfl,hadb,⟨e0,e1,e2,e3,e4,e5,e6⟩,hkt⟩:=zi.kid (zi.ext H4.out (X1.out.trans hxw)) k hlt;have HKT:=Lib.hid hkt;have hsz:t.ks[k].sz < n/\t.ks[k].sz<=1000000:=by have:=HSZ.out k hlt; omega
        have HSTEP:Hid (wz 0 (t.ks.take (k+1))=max (wz 0 (t.ks.take k)) t.ks[k].lvl):=by
         have:wz 0 (t.ks.take (k+1))=max (wz 0 (t.ks.take k)) t.ks[k].lvl:=wbd _ _ _ hlt;exact this
        clear hkt hxw;generalize wz 0 (t.ks.take k)=mm at *;have hkid:=IH.out q t.ks[k] _ (wr.alloc (.cells #[.int .i64 t.ks[k].kind,.int .i64 t.ks[k].rel,.int .i64 t.ks[k].p.lv,.bool t.ks[k].p.neg,.slice B0 m0 d0,.slice B1 m1 d1,.slice K2 n2 c2] 63)) hsz.1 hsz.2 (vad HSM.out (List.getElem_mem hlt)) (HKT.out.ext ((Ext.refl wr).alloc _));have HKID:=Lib.hid hkid;clear hkid HKT;generalize t.ks[k].lvl=lk at *;go_wp2_with fail;refine HKID.out.mono ?_;rintro e w2 ⟨rfl,x2⟩;have X2:=Lib.hid ((HXW.out.alloc _).trans x2);clear x2 HKID e0 e1 e2 e3 e4 e5 e6;go_wp2_with fail
        go_roundw
        case rel=>exact ⟨k+1,by omega,by go_num,⟨by rw [HSTEP.out],X2.out⟩⟩
        case measure=>simp [intOf]; omega
      · have hke:k=t.ks.length:=by omega
        have HF:Hid (t.lvl=wz 0 (t.ks.take k)):=by
         rw [hke,List.take_length];exact HL.out
        clear hxw hke;generalize wz 0 (t.ks.take k)=mm at *;go_wp2_with fail;go_ret;exact ⟨by rw [HF.out]; rfl,X1.out.trans HXW.out⟩
   · have q3:(kd == 3)=false:=by rw [hk3]; simp; omega
     have q4:(kd == 4)=true:=by rw [hk4]; simpa using k4
     clear k4 hk3 hk4;go_wp2_with fail;clear b0 b1 b2 b3 b4 b5 b6
     go_loopw [3,19] (fun mv iv wr=>∃ (k:Nat),k<=t.ks.length/\iv=.int .i64 k/\Hid (mv=.int .i64 (wz 0 (t.ks.take k))/\Ext w1 wr)) (fun _ iv _=>t.ks.length - (intOf iv).toNat)
     case atStart=>exact ⟨0,Nat.zero_le _,rfl,⟨by simp [wz],Ext.refl w1⟩⟩
     case round =>
      obtain ⟨k,hk,rfl,⟨rfl,hxw⟩⟩:=hrel;have HXW:=Lib.hid hxw
      by_cases hlt:k < t.ks.length
      · obtain ⟨ad,B0,m0,d0,B1,m1,d1,K2,n2,c2,rfl,hadb,⟨e0,e1,e2,e3,e4,e5,e6⟩,hkt⟩:=zi.kid (zi.ext H4.out (X1.out.trans hxw)) k hlt;have HKT:=Lib.hid hkt;have hsz:t.ks[k].sz < n/\t.ks[k].sz<=1000000:=by have:=HSZ.out k hlt; omega
        have HSTEP:Hid (wz 0 (t.ks.take (k+1))=max (wz 0 (t.ks.take k)) t.ks[k].lvl):=by
         have:wz 0 (t.ks.take (k+1))=max (wz 0 (t.ks.take k)) t.ks[k].lvl:=wbd _ _ _ hlt;exact this
        clear hkt hxw;generalize wz 0 (t.ks.take k)=mm at *;have hkid:=IH.out q t.ks[k] _ (wr.alloc (.cells #[.int .i64 t.ks[k].kind,.int .i64 t.ks[k].rel,.int .i64 t.ks[k].p.lv,.bool t.ks[k].p.neg,.slice B0 m0 d0,.slice B1 m1 d1,.slice K2 n2 c2] 63)) hsz.1 hsz.2 (vad HSM.out (List.getElem_mem hlt)) (HKT.out.ext ((Ext.refl wr).alloc _));have HKID:=Lib.hid hkid;clear hkid HKT;generalize t.ks[k].lvl=lk at *;go_wp2_with fail;refine HKID.out.mono ?_;rintro e w2 ⟨rfl,x2⟩;have X2:=Lib.hid ((HXW.out.alloc _).trans x2);clear x2 HKID e0 e1 e2 e3 e4 e5 e6;go_wp2_with fail
        go_roundw
        case rel=>exact ⟨k+1,by omega,by go_num,⟨by rw [HSTEP.out],X2.out⟩⟩
        case measure=>simp [intOf]; omega
      · have hke:k=t.ks.length:=by omega
        have HF:Hid (t.lvl=wz 0 (t.ks.take k)):=by
         rw [hke,List.take_length];exact HL.out
        clear hxw hke;generalize wz 0 (t.ks.take k)=mm at *;go_wp2_with fail;go_ret;exact ⟨by rw [HF.out]; rfl,X1.out.trans HXW.out⟩
 · have hlv:=HLV.out;rw [if_neg k2,if_neg k34] at hlv;have HL:=Lib.hid hlv;have q2:(kd == 2)=false:=by rw [hk2]; simpa using k2
   have q3:(kd == 3)=false:=by rw [hk3]; simp; omega
   have q4:(kd == 4)=false:=by rw [hk4]; simp; omega
   clear hlv HLV hk2 hk3 hk4 k2 k34;go_wp2_with fail;go_ret;exact ⟨by rw [HL.out]; rfl,X1.out⟩
theorem ucf {q:Nat->Prop} (t:Mx) (v:Value) (w:World) (hbig:t.sz<=1000000) (hsm:t.each wap) (h:MxV w q t v):Calls Tryz.prog 83 #[v] w (jo t.lvl w):=
 qcp (t.sz+1) q t v w (Nat.lt_succ_self _) hbig hsm h
/- Layer 38: the polynomials of a matrix, plain; lists that a call has made longer. -/
mutual
def Mx.pols : Mx -> List Pl
 | .mk k _ p ks=>if k=2 then [p.nf] else if k=3\/k=4 then zo ks else []
def zo : List Mx -> List Pl
 | []=>[]
 | t :: r=>t.pols ++ zo r
end
theorem ubj (a b:List Mx):zo (a ++ b)=zo a ++ zo b:=by
 induction a with
 | nil=>rfl
 | cons x r ih=>simp only [List.cons_append,zo,ih,List.append_assoc]
theorem ka7 (l:List Mx) (k:Nat) (hk:k < l.length):zo (l.take (k+1))=zo (l.take k) ++ l[k].pols:=by
 rw [List.take_succ_eq_append_getElem hk,ubj]; simp [zo]
theorem Mx.pols_eq (t:Mx):t.pols=if t.kind=2 then [t.p.nf] else if t.kind=3\/t.kind=4 then zo t.ks else []:=by
 cases t; rw [Mx.pols]; rfl
mutual
theorem Mx.pols_len : ∀ t : Mx, t.pols.length <= t.sz
 | .mk k r p ks=>by
   have:=kaz ks;rw [Mx.pols,Mx.sz]
   split
   · simp
   · split
     · omega
     · simp
theorem kaz : ∀ l : List Mx, (zo l).length <= zy l
 | []=>by simp [zo]
 | t :: r=>by
   have h1:=t.pols_len;have h2:=kaz r;rw [zo,zy,List.length_append]; omega
end
theorem vbk (l:List Mx) (k:Nat):zy (l.take k)<=zy l:=by
 have h:zy l=zy (l.take k)+zy (l.drop k):=by rw [<- ja4,List.take_append_drop]
 omega
def xab (base:Nat) (tv:Value) (l:List Pl) (w:World) (e:Ending) (w':World):Prop:=
 ∃ tv',e=.returned tv'/\kz base (fun _=>True) w' tv' l/\w.grownBy w' tv.ownBlock/\(∀ v ds,jb w v ds->jb w' v ds)/\(tv'.ownBlock=tv.ownBlock\/∀ R,tv'.ownBlock=some R->w.heap.size<=R)
theorem xab.congr {base:Nat} {tv:Value} {l l':List Pl} {w w':World} {e:Ending} (h:l=l') (hr:xab base tv l' w e w'):xab base tv l w e w':=by rw [h]; exact hr
theorem xab.late {base:Nat} {tv:Value} {l:List Pl} {w W w':World} {e:Ending} (hx:Ext w W) (h:xab base tv l W e w'):xab base tv l w e w':=by
 obtain ⟨tv',he,h1,h2,h3,h4⟩:=h;refine ⟨tv',he,h1,⟨h2.os.trans hx.below.os,h2.tape.trans hx.below.tape,h2.output.trans hx.below.output,Nat.le_trans hx.size h2.size,fun i hi hne=>(World.grownBy.block h2 i (Nat.lt_of_lt_of_le hi hx.size) hne).trans (hx.below.block i hi)⟩,fun v ds hv=>h3 v ds (hv.ext hx),?_⟩;rcases h4 with h4 | h4
 · exact .inl h4
 · exact .inr fun R hR=>Nat.le_trans hx.size (h4 R hR)
/- Layer 38: prenex.Polys. -/
set_option maxRecDepth 100000
set_option maxHeartbeats 8000000
theorem xab.trans {base:Nat} {tv tv1:Value} {l l':List Pl} {w w1 w2:World} {e:Ending} (h1:xab base tv l w (.returned tv1) w1) (h2:xab base tv1 l' w1 e w2):xab base tv l' w e w2:=by
 obtain ⟨tv',e1,a1,a2,a3,a4⟩:=h1;injection e1 with e1
 subst e1;obtain ⟨tv2,he,b1,b2,b3,b4⟩:=h2;have s1:=a2.size;refine ⟨tv2,he,b1,⟨b2.os.trans a2.os,b2.tape.trans a2.tape,b2.output.trans a2.output,Nat.le_trans a2.size b2.size,fun i hi hne=>?_⟩,fun v ds hv=>b3 v ds (a3 v ds hv),?_⟩
 · refine (World.grownBy.block b2 i (by omega) (fun e=>?_)).trans (World.grownBy.block a2 i hi hne);rcases a4 with a4 | a4
   · exact hne (e.trans a4)
   · have:=a4 i e.symm; omega
 · rcases b4 with b4 | b4
   · rcases a4 with a4 | a4
     · exact .inl (b4.trans a4)
     · exact .inr fun R hR=>a4 R (b4.symm.trans hR)
   · exact .inr fun R hR=>Nat.le_trans s1 (b4 R hR)
theorem xab.same {base:Nat} {tv:Value} {l:List Pl} {w W:World} (h:kz base (fun _=>True) w tv l) (hx:Ext w W):xab base tv l w (.returned tv) W:=
 ⟨tv,rfl,h.ext hx,⟨hx.below.os,hx.below.tape,hx.below.output,hx.size,fun i hi _=>hx.below.block i hi⟩,fun v ds hv=>hv.ext hx,.inl rfl⟩
def ucx (w0:World) (q:Nat->Prop) (n:Nat):Prop:=∀ (t:Mx) (v:Value) (l:List Pl) (tv:Value) (w:World),t.sz < n->t.each wap->MxV w0 q t v->Ext w0 w->kz w0.heap.size (fun _=>True) w tv l->l.length+t.sz<=1000000->Calls Tryz.prog 88 #[tv,v] w (xab w0.heap.size tv (l ++ t.pols) w)
theorem wcr (w0:World) (q:Nat->Prop) (n:Nat):ucx w0 q n:=by
 induction n with
 | zero=>intro t v l tv w h; omega
 | succ n ih =>
 intro t v l tv w hn hsm h hx0 hrow hlen;have hkl:t.ks.length<=1000000:=by have:=t.ks_len; omega
 have IH:=Lib.hid ih;have HSZ:=Lib.hid (fun k hk=>t.kid_le k hk);have HKS:Hid (∀ (k:Nat) (hk:k < t.ks.length),(zo (t.ks.take k)).length+t.ks[k].sz<=t.sz):=by
  have:∀ (k:Nat) (hk:k < t.ks.length),(zo (t.ks.take k)).length+t.ks[k].sz<=t.sz:=by
   intro k hk;have h1:=kaz (t.ks.take k);have h2:=jb6 t.ks k hk;have h3:=vbk t.ks (k+1);have h4:zy t.ks < t.sz:=by cases t; simp only [Mx.sz,Mx.ks]; omega
   omega
  exact this
 have HSM:=Lib.hid (Mx.each_ks hsm);have hps:=Mx.each_p hsm;obtain ⟨A0,n0,c0,A,n1,c1,K,c,rfl,hp,hl1,hl2,h4⟩:=h.open_;have HP:=Lib.hid hp;have H4:=Lib.hid h4;have HPO:=Lib.hid t.pols_eq;have HX0:=Lib.hid hx0;have HROW:=Lib.hid hrow;have hx0s:=hx0.size;obtain ⟨TA,Tc,rfl,-,-⟩:=hrow.len;obtain ⟨W,hW⟩:∃ W,w.alloc (.cells #[.int .i64 t.kind,.int .i64 t.rel,.int .i64 t.p.lv,.bool t.p.neg,.slice A0 n0 c0,.slice A n1 c1,.slice K t.ks.length c] 63)=W:=⟨_,rfl⟩;have hWx:Ext w W:=by rw [<- hW]; exact (Ext.refl w).alloc _
 have hWs:W.heap.size=w.heap.size+1:=by rw [<- hW]; simp
 have hbx:zt W w.heap.size t (.slice A0 n0 c0) (.slice A n1 c1) (.slice K t.ks.length c):=by rw [<- hW]; exact zt.new w t _ _ _ _
 have HWX:=Lib.hid hWx;have HBX:=Lib.hid hbx;have HKIND:=Lib.hid (xbl (w:=W) t (.slice A0 n0 c0) (.slice A n1 c1) (.slice K t.ks.length c));obtain ⟨b0,b1,b2,b3,b4,b5,b6⟩:=hbx;have hk2:=uam t.kind 2 (by omega) (by omega);have hk3:=uam t.kind 3 (by omega) (by omega);have hk4:=uam t.kind 4 (by omega) (by omega);clear h ih h4 hWx hp hsm hrow hx0;unfold mxV at *;go_enter Tryz.func88,Tryz.ntmps88;go_wp2_with fail;clear hW b0 b1 b2 b3 b4 b5 b6;refine HKIND.out.mono ?_;rintro e w1 ⟨rfl,x1⟩;generalize gar t.kind=kd at *;have X1:=Lib.hid (HWX.out.trans x1);obtain ⟨b0,b1,b2,b3,b4,b5,b6⟩:=HBX.out.ext x1 (by omega);have hs1:=x1.size;clear x1 HKIND HWX HBX
 by_cases k2:t.kind=2
 · have hlv:=HPO.out;rw [if_pos k2] at hlv;have q2:(kd == 2)=true:=by rw [hk2]; simpa using k2
   have HC:=Lib.hid (yaq _ (HP.out.ext (HX0.out.trans X1.out)) hps);unfold plV at HC;have HL:=Lib.hid hlv;clear k2 hk2 hk3 hk4 hlv HPO;generalize t.p.nf=P at *;have HAPP:Hid (∀ w2 C0 j0 f0 C1 n2 f1,PlV w2 (fun b=>w1.heap.size<=b) P (plV P (.slice C0 j0 f0) (.slice C1 n2 f1))->Ext w1 w2->∃ v4 w4,(Builtin.append_ #[24,24] 24 #[.slice TA l.length Tc,.slice (some ⟨w2.heap.size,0,none⟩) 1 1]).run Tryz.prog (w2.alloc (.cells #[.int .i64 P.lv,.bool P.neg,.slice C0 j0 f0,.slice C1 n2 f1] 35))=.ok v4 w4/\xab w0.heap.size (.slice TA l.length Tc) (l ++ t.pols) w (.returned v4) w4):=by
    intro w2 C0 j0 f0 C1 n2 f1 hpl hx2;have hxx:=X1.out.trans hx2;have hs2:=hxx.size;have hr2:=HROW.out.ext hxx;have hx1s:=X1.out.size;obtain ⟨v4,w4,hrun,g4,n4,r4,o4⟩:=hr2.push (by omega) (hpl.mono fun b hb=>⟨fun e=>by have:=(HROW.out.own e).2; omega,trivial⟩) (by omega) 24;refine ⟨v4,w4,hrun,xab.congr (by rw [HL.out]) (xab.late hxx ⟨v4,rfl,r4,g4,n4,?_⟩)⟩;rcases o4 with o4 | o4
    · exact .inl o4
    · right
      intro R hR;rw [o4] at hR;injection hR with hR
      omega
   go_wp2_with fail;refine HC.out.mono ?_;rintro e w2 ⟨v2,rfl,p2,x2⟩;obtain ⟨C0,j0,f0,C1,f1,rfl,-⟩:=id p2.open_;obtain ⟨v4,w4,hrun,hfin⟩:=HAPP.out w2 _ _ _ _ _ _ p2 x2;have HF:=Lib.hid hfin;unfold plV;clear x2 HC b0 b1 b2 b3 b4 b5 b6 p2 hfin HAPP
   go_wp2_with (at_builtin
                refine wpList_append_run rfl (.tmp 11) (.tmp 15) _ _ rfl _ _ _ _ rfl rfl hrun ?_)
   clear hrun;go_ret;exact HF.out
 by_cases k34:t.kind=3\/t.kind=4
 · have hlv:=HPO.out;rw [if_neg k2,if_pos k34] at hlv;have HL:=Lib.hid hlv;have q2:(kd == 2)=false:=by rw [hk2]; simpa using k2
   clear hlv HPO hk2 k2 HP;rcases k34 with k3 | k4
   · have q3:(kd == 3)=true:=by rw [hk3]; simpa using k3
     clear k3 hk3 hk4;go_wp2_with fail;clear b0 b1 b2 b3 b4 b5 b6
     go_loopw [0,23] (fun ov iv wr=>∃ (k:Nat),k<=t.ks.length/\iv=.int .i64 k/\Hid (xab w0.heap.size (.slice TA l.length Tc) (l ++ zo (t.ks.take k)) w (.returned ov) wr/\w.heap.size+1<=wr.heap.size)) (fun _ iv _=>t.ks.length - (intOf iv).toNat)
     case atStart=>exact ⟨0,Nat.zero_le _,rfl,⟨by simpa [zo] using xab.same HROW.out X1.out,by omega⟩⟩
     case round =>
      obtain ⟨k,hk,rfl,⟨hret,hws⟩⟩:=hrel;have HRET:=Lib.hid hret
      by_cases hlt:k < t.ks.length
      · obtain ⟨tv',e1,r1,g1,m1,o1⟩:=id hret;injection e1 with e1
        subst e1;have hxr:Ext w0 wr:=Below.grown HX0.out g1 HX0.out.size (fun g e=>(HROW.out.own e).1);obtain ⟨ad,B0,m0,d0,B1,m1',d1,K2,n2,c2,rfl,hadb,hnd,hkt⟩:=zi.kid H4.out k hlt;obtain ⟨e0,e1,e2,e3,e4,e5,e6⟩:=hnd.ext hxr (by rw [ja]; exact hadb);obtain ⟨TB,Td,rfl,-,-⟩:=r1.len;have hks:=HKS.out k hlt;have hxa:=(Ext.refl wr).alloc (.cells #[.int .i64 t.ks[k].kind,.int .i64 t.ks[k].rel,.int .i64 t.ks[k].p.lv,.bool t.ks[k].p.neg,.slice B0 m0 d0,.slice B1 m1' d1,.slice K2 n2 c2] 63);have hkid:=IH.out t.ks[k] _ (l ++ zo (t.ks.take k)) _ (wr.alloc (.cells #[.int .i64 t.ks[k].kind,.int .i64 t.ks[k].rel,.int .i64 t.ks[k].p.lv,.bool t.ks[k].p.neg,.slice B0 m0 d0,.slice B1 m1' d1,.slice K2 n2 c2] 63)) (by have:=HSZ.out k hlt; omega) (vad HSM.out (List.getElem_mem hlt)) hkt (hxr.trans hxa) (r1.ext hxa) (by rw [List.length_append]; omega);have HKID:=Lib.hid hkid;have HXA:=Lib.hid hxa;have HNX:Hid (l ++ zo (t.ks.take (k+1))=l ++ zo (t.ks.take k) ++ t.ks[k].pols):=by
         have:l ++ zo (t.ks.take (k+1))=l ++ zo (t.ks.take k) ++ t.ks[k].pols:=by rw [ka7 _ _ hlt,List.append_assoc]
         exact this
        clear hkid hxa hks hkt hnd hadb r1 g1 m1 o1 hret hxr;generalize t.ks[k].pols=pk at *;generalize l ++ zo (t.ks.take k)=lk at *;unfold mxV at HKID;go_wp2_with fail;refine HKID.out.mono ?_;rintro e w2 hr2;have hfin:=HRET.out.trans (hr2.late HXA.out);rw [<- HNX.out] at hfin;obtain ⟨tv2,rfl,-⟩:=id hr2;have hs2:w.heap.size+1<=w2.heap.size:=by
         obtain ⟨_,_,_,g,_,_⟩:=id hr2;have h1:=g.size;have h2:=HXA.out.size;omega
        obtain ⟨_,e9,r9,-⟩:=id hr2;injection e9 with e9
        subst e9;obtain ⟨TE,Te,rfl,-,-⟩:=r9.len;generalize (lk ++ pk).length=llen at *;have HFIN:=Lib.hid hfin;clear hr2 hfin r9 HKID HRET e0 e1 e2 e3 e4 e5 e6;go_wp2_with fail
        go_roundw
        case rel=>exact ⟨k+1,by omega,by go_num,⟨HFIN.out,hs2⟩⟩
        case measure=>simp [intOf]; omega
      · have hke:k=t.ks.length:=by omega
        subst hke;have hf:=HRET.out;rw [List.take_length,<- HL.out] at hf;have HF:=Lib.hid hf;obtain ⟨tv',e1,r1,-⟩:=id hf;injection e1 with e1
        subst e1;generalize l ++ t.pols=lf at *;obtain ⟨TB,Td,rfl,-,-⟩:=r1.len;clear hret HRET r1 hf;go_wp2_with fail;go_ret;exact HF.out
   · have q3:(kd == 3)=false:=by rw [hk3]; simp; omega
     have q4:(kd == 4)=true:=by rw [hk4]; simpa using k4
     clear k4 hk3 hk4;go_wp2_with fail;clear b0 b1 b2 b3 b4 b5 b6
     go_loopw [0,23] (fun ov iv wr=>∃ (k:Nat),k<=t.ks.length/\iv=.int .i64 k/\Hid (xab w0.heap.size (.slice TA l.length Tc) (l ++ zo (t.ks.take k)) w (.returned ov) wr/\w.heap.size+1<=wr.heap.size)) (fun _ iv _=>t.ks.length - (intOf iv).toNat)
     case atStart=>exact ⟨0,Nat.zero_le _,rfl,⟨by simpa [zo] using xab.same HROW.out X1.out,by omega⟩⟩
     case round =>
      obtain ⟨k,hk,rfl,⟨hret,hws⟩⟩:=hrel;have HRET:=Lib.hid hret
      by_cases hlt:k < t.ks.length
      · obtain ⟨tv',e1,r1,g1,m1,o1⟩:=id hret;injection e1 with e1
        subst e1;have hxr:Ext w0 wr:=Below.grown HX0.out g1 HX0.out.size (fun g e=>(HROW.out.own e).1);obtain ⟨ad,B0,m0,d0,B1,m1',d1,K2,n2,c2,rfl,hadb,hnd,hkt⟩:=zi.kid H4.out k hlt;obtain ⟨e0,e1,e2,e3,e4,e5,e6⟩:=hnd.ext hxr (by rw [ja]; exact hadb);obtain ⟨TB,Td,rfl,-,-⟩:=r1.len;have hks:=HKS.out k hlt;have hxa:=(Ext.refl wr).alloc (.cells #[.int .i64 t.ks[k].kind,.int .i64 t.ks[k].rel,.int .i64 t.ks[k].p.lv,.bool t.ks[k].p.neg,.slice B0 m0 d0,.slice B1 m1' d1,.slice K2 n2 c2] 63);have hkid:=IH.out t.ks[k] _ (l ++ zo (t.ks.take k)) _ (wr.alloc (.cells #[.int .i64 t.ks[k].kind,.int .i64 t.ks[k].rel,.int .i64 t.ks[k].p.lv,.bool t.ks[k].p.neg,.slice B0 m0 d0,.slice B1 m1' d1,.slice K2 n2 c2] 63)) (by have:=HSZ.out k hlt; omega) (vad HSM.out (List.getElem_mem hlt)) hkt (hxr.trans hxa) (r1.ext hxa) (by rw [List.length_append]; omega);have HKID:=Lib.hid hkid;have HXA:=Lib.hid hxa;have HNX:Hid (l ++ zo (t.ks.take (k+1))=l ++ zo (t.ks.take k) ++ t.ks[k].pols):=by
         have:l ++ zo (t.ks.take (k+1))=l ++ zo (t.ks.take k) ++ t.ks[k].pols:=by rw [ka7 _ _ hlt,List.append_assoc]
         exact this
        clear hkid hxa hks hkt hnd hadb r1 g1 m1 o1 hret hxr;generalize t.ks[k].pols=pk at *;generalize l ++ zo (t.ks.take k)=lk at *;unfold mxV at HKID;go_wp2_with fail;refine HKID.out.mono ?_;rintro e w2 hr2;have hfin:=HRET.out.trans (hr2.late HXA.out);rw [<- HNX.out] at hfin;obtain ⟨tv2,rfl,-⟩:=id hr2;have hs2:w.heap.size+1<=w2.heap.size:=by
         obtain ⟨_,_,_,g,_,_⟩:=id hr2;have h1:=g.size;have h2:=HXA.out.size;omega
        obtain ⟨_,e9,r9,-⟩:=id hr2;injection e9 with e9
        subst e9;obtain ⟨TE,Te,rfl,-,-⟩:=r9.len;generalize (lk ++ pk).length=llen at *;have HFIN:=Lib.hid hfin;clear hr2 hfin r9 HKID HRET e0 e1 e2 e3 e4 e5 e6;go_wp2_with fail
        go_roundw
        case rel=>exact ⟨k+1,by omega,by go_num,⟨HFIN.out,hs2⟩⟩
        case measure=>simp [intOf]; omega
      · have hke:k=t.ks.length:=by omega
        subst hke;have hf:=HRET.out;rw [List.take_length,<- HL.out] at hf;have HF:=Lib.hid hf;obtain ⟨tv',e1,r1,-⟩:=id hf;injection e1 with e1
        subst e1;generalize l ++ t.pols=lf at *;obtain ⟨TB,Td,rfl,-,-⟩:=r1.len;clear hret HRET r1 hf;go_wp2_with fail;go_ret;exact HF.out
 · have hlv:=HPO.out;rw [if_neg k2,if_neg k34] at hlv;have HF:=Lib.hid (xab.congr (show l ++ t.pols=l by rw [hlv,List.append_nil]) (xab.same HROW.out X1.out));have q2:(kd == 2)=false:=by rw [hk2]; simpa using k2
   have q3:(kd == 3)=false:=by rw [hk3]; simp; omega
   have q4:(kd == 4)=false:=by rw [hk4]; simp; omega
   clear hlv HPO hk2 hk3 hk4 k2 k34;go_wp2_with fail;go_ret;exact HF.out
theorem kbj {q:Nat->Prop} (t:Mx) (v:Value) (w:World) (hbig:t.sz<=1000000) (hsm:t.each wap) (h:MxV w q t v):Calls Tryz.prog 40 #[v] w fun e w'=>∃ tv,e=.returned tv/\kz w.heap.size (fun _=>True) w' tv t.pols/\Ext w w':=by
 have HH:=Lib.hid h;obtain ⟨A0,n0,c0,A,n1,c1,K,c,rfl,hp,hl1,hl2,h4⟩:=h.open_;obtain ⟨W,hW⟩:∃ W,w.alloc (.cells #[.int .i64 t.kind,.int .i64 t.rel,.int .i64 t.p.lv,.bool t.p.neg,.slice A0 n0 c0,.slice A n1 c1,.slice K t.ks.length c] 63)=W:=⟨_,rfl⟩;have hWx:Ext w W:=by rw [<- hW]; exact (Ext.refl w).alloc _
 obtain ⟨b0,b1,b2,b3,b4,b5,b6⟩:zt W w.heap.size t (.slice A0 n0 c0) (.slice A n1 c1) (.slice K t.ks.length c):=by rw [<- hW]; exact zt.new w t _ _ _ _
 have HWX:=Lib.hid hWx;have HC:=Lib.hid (wcr W q (t.sz+1) t _ [] (.slice none 0 0) W (Nat.lt_succ_self _) hsm (HH.out.ext hWx) (Ext.refl W) (kz.nil _ _ _) (by simpa using hbig));clear h hp h4 hWx;unfold mxV at *;go_enter Tryz.func40,Tryz.ntmps40;go_wp2_with fail;clear hW b0 b1 b2 b3 b4 b5 b6;refine HC.out.mono ?_;rintro e w2 ⟨tv,rfl,r2,g2,-,-⟩;have hx2:Ext W w2:=⟨g2.os,g2.tape,g2.output,g2.size,fun i hi=>g2.block i hi (by simp [Value.ownBlock])⟩;have HR:=Lib.hid r2;have X2:=Lib.hid (HWX.out.trans hx2);obtain ⟨TA,Tc,rfl,-,-⟩:=r2.len;clear r2 g2 hx2;go_wp2_with fail;go_ret;exact ⟨_,rfl,by simpa using HR.out.less HWX.out.size,X2.out⟩
theorem zce {q:Nat->Prop} (t:Mx) (v:Value) (w:World) (hbig:t.sz<=1000000) (hsm:t.small) (h:MxV w q t v):Calls Tryz.prog 40 #[v] w fun e w'=>∃ tv,e=.returned tv/\kz w.heap.size (fun _=>True) w' tv t.pols/\Ext w w':=
 kbj t v w hbig (Mx.small_bigN hsm) h
/- Layer 5: rational.Sign; layer 40: evaluate.At$1, Poly. -/
set_option maxRecDepth 100000
set_option maxHeartbeats 8000000
def sgQ (q:Rat):Int:=wa0 q 0
theorem wct {n:Int} {d:Nat} (h:0 < d):sgQ (mkRat n d)=sgI n:=by
 have:=zba (n1:=n) (d1:=d) (n2:=0) (d2:=1) h (by omega);unfold sgQ sgI;rw [show (mkRat 0 1:Rat)=0 by decide] at this;rw [<- this];simp
theorem zb4 (v:Value) (q:Rat) (L:Nat) (w:World) (h:qw w v q L) (hL:1<=L):Calls Tryz.prog 86 #[v] w (jo (sgQ q) w):=by
 have H:=Lib.hid h;obtain ⟨neg,s1,s2,ds,es,rfl,⟨A,c,rfl,-,-,-⟩,⟨B,b,rfl,-,-,-⟩,-⟩:=h;go_enter Tryz.func86,Tryz.ntmps86;go_wp2_with fail;refine (qac _ q L _ (H.out.ext ((Ext.refl w).alloc _)) hL).mono ?_;rintro e w1 ⟨xn,xd,n1,d1,rfl,in1,id1,hd1,hq1,y1⟩;obtain ⟨b5,A5,n5,c5,rfl⟩:=in1.unpack;obtain ⟨b6,A6,n6,c6,rfl⟩:=id1.unpack;have HQ:Hid (sgQ q=sgI n1):=by
  have:sgQ q=sgI n1:=by rw [hq1,wct hd1]
  exact this
 have Y1:=Lib.hid (Ext.trans ((Ext.refl w).alloc _) y1);have IN1:=Lib.hid in1;clear hd1 hq1 y1 in1 id1;go_wp2_with fail;refine (zam _ n1 L _ (IN1.out.ext (((Ext.refl w1).alloc _).alloc _))).mono ?_;rintro e w2 ⟨rfl,x2⟩;have X2:=Lib.hid (((Y1.out.alloc _).alloc _).trans x2);clear x2;go_wp2_with fail;go_ret;exact ⟨by rw [HQ.out]; rfl,X2.out⟩
theorem gcr {w:World} {q:Nat->Prop} {L:Nat} {xv:Value} {xs:List Rat} {B:Nat} (hL:1<=L) (hL2:L<=1099511627776) (hB:w.cell? ⟨B,0,none⟩=some xv) (hBl:B < w.heap.size) (hxs:RsV w L xv xs) (p:Pl) (v:Value) (heb:p.eb L<=1099511627776) (h:PlV w q p v) :
 Calls Tryz.prog 85 #[v,.pointer (some ⟨B,0,none⟩)] w (jo (sgQ (p.val (rho xs))) w):=by
 have HH:=Lib.hid h;have HXS:=Lib.hid hxs;obtain ⟨A0,n0,c0,A,c,rfl,hnat,hl1,hl2,h4⟩:=h.open_;obtain ⟨XA,Xc,rfl,-⟩:=id hxs;obtain ⟨W,hW⟩:∃ W,w.alloc (.cells #[.int .i64 p.lv,.bool p.neg,.slice A0 n0 c0,.slice A p.cs.length c] 35)=W:=⟨_,rfl⟩;have hWx:Ext w W:=by rw [<- hW]; exact (Ext.refl w).alloc _
 have hb:W.cell? ⟨B,0,none⟩=some (.slice XA xs.length Xc):=(hWx.cell (p:=⟨B,0,none⟩) hBl).trans hB;obtain ⟨b0,b1,b2,b3⟩:uf W w.heap.size p (.slice A0 n0 c0) (.slice A p.cs.length c):=by rw [<- hW]; exact uf.new w p _ _ _
 have HWX:=Lib.hid hWx;have HC:=Lib.hid (ub8 hL hL2 (HXS.out.ext hWx) p _ heb (HH.out.ext hWx));clear h hnat h4 hWx hxs hB;unfold plV at HC;generalize p.val (rho xs)=qq at *;unfold plV;go_enter Tryz.func85,Tryz.ntmps85;go_wp2_with fail;clear hW b0 b1 b2 b3 hb;refine HC.out.mono ?_;rintro e w1 ⟨v1,rfl,m1,x1⟩;obtain ⟨bq,A1,n1,c1,B1,k1,d1,rfl⟩:=m1.unpack;have hraw:=m1.raw;have hr:1<=rlen qq:=by
  have:=uw qq;omega
 have HS:=Lib.hid (zb4 _ qq _ w1 hraw hr);have X1:=Lib.hid (HWX.out.trans x1);clear m1 x1 hraw hr HC;go_wp2_with fail;refine HS.out.mono ?_;rintro e w2 ⟨rfl,x2⟩;have X2:=Lib.hid (X1.out.trans x2);clear x2;go_wp2_with fail;go_ret;exact ⟨rfl,X2.out⟩
end Go.Proofs.YtcfcjabgkfehlaaGreat
