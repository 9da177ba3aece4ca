/- Small matrices: their polynomials, and those of their normal forms. -/
import Derived.Test.YtcfcjabgkfehlaaGreatMf43
import Derived.Test.YtcfcjabgkfehlaaGreatMf29
import Derived.Test.YtcfcjabgkfehlaaGreatMf44
import Derived.Test.YtcfcjabgkfehlaaGreatMf42
import Derived.Test.YtcfcjabgkfehlaaGreatMf46
import Derived.Test.YtcfcjabgkfehlaaGreatMf41
set_option linter.unusedSimpArgs false
set_option linter.unusedVariables false
namespace Go.Proofs.YtcfcjabgkfehlaaGreat
open Go.RowKit
/- Layer 40: evaluate.At, Poly. -/
set_option maxRecDepth 100000
set_option maxHeartbeats 8000000
theorem yck {p:Pl} {D L K:Nat} (hdm:p.dm<=D) (hs:p.sz * (D+L+4)<=K):p.eb L<=K:=by
 have:=Pl.eb_sz L p D hdm;omega
theorem ubt {w:World} {q:Nat->Prop} {L:Nat} {xv:Value} {xs:List Rat} (hL:1<=L) (hL2:L<=1099511627776) (hxs:RsV w L xv xs) (t:Mx) (v:Value) (hbig:t.sz<=1000000) (hsm:t.each wap) (heach:t.each (fun p=>p.eb L<=1099511627776)) (h:MxV w q t v) :
 Calls Tryz.prog 39 #[v,xv] w (wbf (if t.lvl<=xs.length then (t.tv (rho xs),0) else (false,4)) w):=by
 have HH:=Lib.hid h;have HXS:=Lib.hid hxs;obtain ⟨A0,n0,c0,A,n1,c1,K,c,rfl,hp,hl1,hl2,h4⟩:=h.open_;obtain ⟨XA,Xc,rfl,-⟩:=id hxs;obtain ⟨W,hW⟩:∃ W,(w.alloc (.cells #[.int .i64 t.kind,.int .i64 t.rel,.int .i64 t.p.lv,.bool t.p.neg,.slice A0 n0 c0,.slice A n1 c1,.slice K t.ks.length c] 63)).alloc (.cells #[.slice XA xs.length Xc] 69)=W:=⟨_,rfl⟩;have hWx:Ext w W:=by rw [<- hW]; exact ((Ext.refl w).alloc _).alloc _
 have hWs:W.heap.size=w.heap.size+1+1:=by rw [<- hW]; simp
 have hbx:zt W w.heap.size t (.slice A0 n0 c0) (.slice A n1 c1) (.slice K t.ks.length c):=by rw [<- hW]; exact (zt.new w t _ _ _ _).ext ((Ext.refl _).alloc _) (by simp)
 have hxc:W.cell? ⟨w.heap.size+1,0,none⟩=some (.slice XA xs.length Xc):=by rw [<- hW]; simp [go_sem]
 have HWX:=Lib.hid hWx;have HBX:=Lib.hid hbx;have HXC:=Lib.hid hxc;have HLV:Hid (∀ W',Ext W W'->Calls Tryz.prog 83 #[mxV t (.slice A0 n0 c0) (.slice A n1 c1) (.slice K t.ks.length c)] W' (jo t.lvl W')):=by
  have:∀ W',Ext W W'->Calls Tryz.prog 83 #[mxV t (.slice A0 n0 c0) (.slice A n1 c1) (.slice K t.ks.length c)] W' (jo t.lvl W'):=fun W' hx=>ucf t _ W' hbig hsm (HH.out.ext (HWX.out.trans hx))
  exact this
 have HTR:Hid (∀ W',Ext W W'->Calls Tryz.prog 84 #[mxV t (.slice A0 n0 c0) (.slice A n1 c1) (.slice K t.ks.length c),.func (.func 85) #[] #[.pointer (some ⟨w.heap.size+1,0,none⟩)]] W' (jab (t.tv (rho xs)) W')):=by
  have:∀ W',Ext W W'->Calls Tryz.prog 84 #[mxV t (.slice A0 n0 c0) (.slice A n1 c1) (.slice K t.ks.length c),.func (.func 85) #[] #[.pointer (some ⟨w.heap.size+1,0,none⟩)]] W' (jab (t.tv (rho xs)) W'):=fun W' hx =>
   xcp (w0:=W) hL hL2 HXC.out (by omega) (HXS.out.ext HWX.out) (t.sz+1) t _ W' (Nat.lt_succ_self _) hbig heach (HH.out.ext HWX.out) hx
  exact this
 have HB:Hid (∀ W',Ext W W'->(Ext W W'/\W'.cell? ⟨w.heap.size,0,none⟩=some (.int .i64 t.kind)/\W'.cell? ⟨w.heap.size,1,none⟩=some (.int .i64 t.rel)/\W'.cell? ⟨w.heap.size,2,none⟩=some (.int .i64 t.p.lv)/\W'.cell? ⟨w.heap.size,3,none⟩=some (.bool t.p.neg)/\W'.cell? ⟨w.heap.size,4,none⟩=some (.slice A0 n0 c0)/\W'.cell? ⟨w.heap.size,5,none⟩=some (.slice A n1 c1)/\W'.cell? ⟨w.heap.size,6,none⟩=some (.slice K t.ks.length c)/\W'.cell? ⟨w.heap.size+1,0,none⟩=some (.slice XA xs.length Xc))):=by
  have:∀ W',Ext W W'->(Ext W W'/\W'.cell? ⟨w.heap.size,0,none⟩=some (.int .i64 t.kind)/\W'.cell? ⟨w.heap.size,1,none⟩=some (.int .i64 t.rel)/\W'.cell? ⟨w.heap.size,2,none⟩=some (.int .i64 t.p.lv)/\W'.cell? ⟨w.heap.size,3,none⟩=some (.bool t.p.neg)/\W'.cell? ⟨w.heap.size,4,none⟩=some (.slice A0 n0 c0)/\W'.cell? ⟨w.heap.size,5,none⟩=some (.slice A n1 c1)/\W'.cell? ⟨w.heap.size,6,none⟩=some (.slice K t.ks.length c)/\W'.cell? ⟨w.heap.size+1,0,none⟩=some (.slice XA xs.length Xc)):=fun W' hx=>by
   obtain ⟨c0,c1,c2,c3,c4,c5,c6⟩:=HBX.out.ext hx (by omega);exact ⟨hx,c0,c1,c2,c3,c4,c5,c6,(hx.cell (p:=⟨w.heap.size+1,0,none⟩) (by show w.heap.size+1 < _; omega)).trans HXC.out⟩
  exact this
 obtain ⟨b0,b1,b2,b3,b4,b5,b6⟩:=hbx;clear h hp h4 hWx hxs heach hsm;unfold mxV at HLV HTR;unfold mxV;generalize t.lvl=lv at *;generalize t.tv (rho xs)=tv at *;generalize hlen:xs.length=N at *;obtain ⟨rr,hrr⟩:∃ rr:Bool × Int,(if lv<=(N:Int) then (tv,(0:Int)) else (false,4))=rr:=⟨_,rfl⟩;rw [hrr];have HRR:=Lib.hid hrr;clear hrr;go_enter Tryz.func39,Tryz.ntmps39;go_wp2_with fail;clear hW b0 b1 b2 b3 b4 b5 b6 hxc;have y0:Ext W W.drew:=(Ext.refl W).drew;have Y0:=Lib.hid y0;clear y0
 go_region_held3 (fun W' => Ext W W' /\ W'.cell? ⟨w.heap.size, 0, none⟩ = some (.int .i64 t.kind) /\ W'.cell? ⟨w.heap.size, 1, none⟩ = some (.int .i64 t.rel) /\ W'.cell? ⟨w.heap.size, 2, none⟩ = some (.int .i64 t.p.lv) /\ W'.cell? ⟨w.heap.size, 3, none⟩ = some (.bool t.p.neg) /\ W'.cell? ⟨w.heap.size, 4, none⟩ = some (.slice A0 n0 c0) /\ W'.cell? ⟨w.heap.size, 5, none⟩ = some (.slice A n1 c1) /\ W'.cell? ⟨w.heap.size, 6, none⟩ = some (.slice K t.ks.length c) /\ W'.cell? ⟨w.heap.size + 1, 0, none⟩ = some (.slice XA N Xc))
  (first | with_reducible exact HB.out _ Y0.out | with_reducible exact HB.out _ y1)
  ((go_at_call 83
    refine (HLV.out _ Y0.out).mono ?_;rintro e v1 ⟨rfl,x1⟩
    have y1:Ext W v1:=Ext.trans Y0.out x1))
 all_goals
  have Y1:=Lib.hid y1;obtain ⟨-,b0,b1,b2,b3,b4,b5,b6,xc⟩:=HB.out _ Y1.out;clear y1 x1 HB Y0 HLV
  by_cases hle:lv<=N
  · have hgt:¬ ((N:Int) < lv):=by omega
    have HR:Hid (rr=(tv,0)):=Lib.hid (HRR.out.symm.trans (if_pos hle));clear hle HRR;go_wp2_with fail;refine (HTR.out _ Y1.out).mono ?_;rintro e w2 ⟨rfl,x2⟩;have X2:=Lib.hid ((HWX.out.trans Y1.out).trans x2);clear x2;go_wp2_with fail;exact bodyPost_ret (v:=.tuple #[.bool tv,.int .i64 0]) (by simp [results,Tryz.results39,go_sem]) rfl ⟨by rw [HR.out],X2.out⟩
  · have hgt:(N:Int) < lv:=by omega
    have HR:Hid (rr=(false,4)):=Lib.hid (HRR.out.symm.trans (if_neg hle));clear hle HRR;go_wp2_with fail;exact bodyPost_ret (v:=.tuple #[.bool false,.int .i64 4]) (by simp [results,Tryz.results39,go_sem]) rfl ⟨by rw [HR.out],HWX.out.trans Y1.out⟩
theorem kcp {w:World} {q:Nat->Prop} {L:Nat} {xv:Value} {xs:List Rat} (hL:1<=L) (hL2:L<=1099511627776) (hxs:RsV w L xv xs) (t:Mx) (v:Value) (hbig:t.sz<=1000000) (hsm:t.small) (heach:t.each (fun p=>p.eb L<=1099511627776)) (h:MxV w q t v) :
 Calls Tryz.prog 39 #[v,xv] w (wbf (if t.lvl<=xs.length then (t.tv (rho xs),0) else (false,4)) w):=
 ubt hL hL2 hxs t v hbig (Mx.small_bigN hsm) heach h
/- The polynomials of a matrix, one by one. -/
mutual
theorem Mx.pols_of {P : Pl -> Prop} : ∀ t : Mx, t.each P -> ∀ p ∈ t.pols, ∃ p0, P p0 /\ p = p0.nf
 | .mk k r p ks,h,x,hx=>by
   rw [Mx.each] at h;rw [Mx.pols] at hx
   split at hx
   · exact ⟨p,h.1,by simpa using hx⟩
   · split at hx
     · exact vbj ks h.2 x hx
     · simp at hx
theorem vbj {P : Pl -> Prop} : ∀ l : List Mx, jw P l -> ∀ p ∈ zo l, ∃ p0, P p0 /\ p = p0.nf
 | [],_,x,hx=>by rw [zo] at hx; simp at hx
 | t :: r,h,x,hx=>by
   rw [jw] at h;rw [zo] at hx;rcases List.mem_append.1 hx with hx | hx
   · exact t.pols_of h.1 x hx
   · exact vbj r h.2 x hx
end
/- Small matrices: what their polynomials cost. -/
theorem Mx.small_fit {t:Mx} (hs:t.small):t.each (fun p=>p.eb 3<=1099511627776):=
 Mx.each_mono (fun p hp=>yck (D:=4) hp.2 (by have:=hp.1; omega)) t (t.small_each hs)
/- Reference 40: Short, FewAt: points of a size that is looked at. -/
set_option maxRecDepth 100000
set_option maxHeartbeats 8000000
structure Fr where
 neg:Bool
 ds:List Nat
 es:List Nat
def Fr.q (x:Fr):Rat:=mkRat (sgn x.neg (val x.ds)) (val x.es)
def ya7 (w:World) (v:Value) (l:List Fr):Prop:=
 ∃ A c,v=.slice A l.length c/\l.length<=c/\c<=9223372036854775807/\∀ j (h:j < l.length),∃ ad A1 c1 A2 c2,A=some ad/\ad.block < w.heap.size/\(w.cell? (ad.add (j * 3))=some (.bool l[j].neg)/\w.cell? ⟨(ad.add (j * 3)).block,(ad.add (j * 3)).off+1,none⟩=some (.slice A1 l[j].ds.length c1)/\w.cell? ⟨(ad.add (j * 3)).block,(ad.add (j * 3)).off+2,none⟩=some (.slice A2 l[j].es.length c2))/\jb w (.slice A1 l[j].ds.length c1) l[j].ds/\jb w (.slice A2 l[j].es.length c2) l[j].es
def Fr.short (x:Fr):Bool:=decide (x.ds.length<=3) && decide (x.es.length<=3)
def kaf (l:List Fr):Bool:=decide (l.length<=8) && l.all Fr.short
theorem ya7.ext {w w':World} {v:Value} {l:List Fr} (h:ya7 w v l) (hx:Ext w w'):ya7 w' v l:=by
 obtain ⟨A,c,e,h1,h2,h3⟩:=h;refine ⟨A,c,e,h1,h2,fun j hj=>?_⟩;obtain ⟨ad,A1,c1,A2,c2,e,hb,⟨k0,k1,k2⟩,hr,hs⟩:=h3 j hj;have hb':(ad.add (j * 3)).block < w.heap.size:=by rw [ja]; exact hb
 exact ⟨ad,A1,c1,A2,c2,e,Nat.lt_of_lt_of_le hb hx.size,⟨(hx.cell hb').trans k0,(hx.cell (p:=⟨(ad.add (j * 3)).block,(ad.add (j * 3)).off+1,none⟩) hb').trans k1,(hx.cell (p:=⟨(ad.add (j * 3)).block,(ad.add (j * 3)).off+2,none⟩) hb').trans k2⟩,hr.ext hx,hs.ext hx⟩
theorem ya7.few {w:World} {v:Value} {l:List Fr} (h:ya7 w v l) (hf:kaf l=true):RsV w 3 v (l.map Fr.q):=by
 obtain ⟨A,c,e,h1,h2,h3⟩:=h;refine ⟨A,c,by rw [List.length_map]; exact e,by rw [List.length_map]; exact h1,h2,fun j hj=>?_⟩;rw [List.length_map] at hj;obtain ⟨ad,A1,c1,A2,c2,e,hb,hv,hr,hs⟩:=h3 j hj;have hall:l[j].short=true:=by
  unfold kaf at hf;simp only [Bool.and_eq_true,List.all_eq_true] at hf;exact hf.2 l[j] (List.getElem_mem hj)
 simp only [Fr.short,Bool.and_eq_true,decide_eq_true_eq] at hall;refine ⟨ad,_,A1,_,c1,A2,_,c2,e,hb,hv,?_⟩;rw [List.getElem_map];exact ⟨_,_,_,_,_,rfl,hr,hs,rfl,hall.1,hall.2⟩
theorem xcm (neg:Bool) (A1 A2:Option Addr) (n1 c1 n2 c2:Nat) (w:World):Calls Tryz.prog 82 #[.agg #[.bool neg,.slice A1 n1 c1,.slice A2 n2 c2]] w (jab (decide (n1<=3) && decide (n2<=3)) w):=by
 by_cases h1:n1<=3
 · have hv:(decide (n1<=3) && decide (n2<=3))=decide (n2<=3):=by simp [h1]
   rw [hv];have hd:decide ((n1:Int)<=3)=true:=by simp; omega
   have hd2:decide ((n2:Int)<=3)=decide (n2<=3):=by simp; omega
   have HD:=Lib.hid hd2;clear hv hd2;go_enter Tryz.func82,Tryz.ntmps82;go_wp2_with fail;go_ret;exact ⟨by first | rfl | (rw [<- HD.out]; rfl),(Ext.refl w).alloc _⟩
 · have hv:(decide (n1<=3) && decide (n2<=3))=false:=by simp [h1]
   rw [hv];have hd:decide ((n1:Int)<=3)=false:=by simp; omega
   clear hv;go_enter Tryz.func82,Tryz.ntmps82;go_wp2_with fail;go_ret;exact ⟨rfl,(Ext.refl w).alloc _⟩
theorem qb8 (l:List Fr) (k:Nat) (hk:k < l.length) (h:l[k].short=false):kaf l=false:=by
 unfold kaf;rw [Bool.and_eq_false_iff];refine .inr (List.all_eq_false.2 ⟨l[k],List.getElem_mem hk,?_⟩);rw [h]; simp
theorem jb8 {w:World} {v:Value} {l:List Fr} (h:ya7 w v l):Calls Tryz.prog 37 #[v] w (jab (kaf l) w):=by
 have H:=Lib.hid h;obtain ⟨A,c,rfl,h1,h2,-⟩:=h;have hlen:l.length<=9223372036854775807:=by omega
 go_enter Tryz.func37,Tryz.ntmps37;go_wp2_with fail
 go_loopw [6] (fun iv wr=>∃ k:Nat,k<=l.length/\k<=8/\iv=.int .i64 k/\Hid ((l.take k).all Fr.short=true/\Ext w wr)) (fun iv _=>l.length - (intOf iv).toNat)
 case atStart=>exact ⟨0,Nat.zero_le _,by omega,rfl,⟨by simp,Ext.refl w⟩⟩
 case round =>
  obtain ⟨k,hk,hk8,rfl,⟨hall,hx⟩⟩:=hrel;have HA:=Lib.hid hall;have HX:=Lib.hid hx;clear hall hx
  by_cases hlt:k < l.length
  · by_cases h8:8<=k
    · have hd8:decide ((8:Int)<=(k:Int))=true:=by simp; omega
      have HF:Hid (kaf l=false):=by
       have:kaf l=false:=by unfold kaf; simp; omega
       exact this
      go_wp2_with fail;go_ret;exact ⟨by rw [HF.out]; rfl,HX.out⟩
    · have hd8:decide ((8:Int)<=(k:Int))=false:=by simp; omega
      obtain ⟨A',c',e',-,-,h3⟩:=H.out.ext HX.out;injection e' with e1 e2 e3
      obtain ⟨ad,A1,c1,A2,c2,e4,hb,⟨a0,a1,a2⟩,hr1,hr2⟩:=h3 k hlt;obtain rfl:A=some ad:=e1.trans e4;clear h3 e1 e3 e4 hr1 hr2;have HOK:Hid (l[k].short=(decide (l[k].ds.length<=3) && decide (l[k].es.length<=3))):=rfl;have HBAD:Hid (l[k].short=false->kaf l=false):=qb8 l k hlt;have HTK:Hid ((l.take (k+1)).all Fr.short=((l.take k).all Fr.short && l[k].short)):=by
       have:(l.take (k+1)).all Fr.short=((l.take k).all Fr.short && l[k].short):=by rw [List.take_succ_eq_append_getElem hlt,List.all_append]; simp
       exact this
      generalize l[k].neg=ng at *;generalize l[k].ds.length=n1 at *;generalize l[k].es.length=n2 at *;generalize l[k].short=okk at *;have HS:=Lib.hid (xcm ng A1 A2 n1 c1 n2 c2 wr)
      by_cases hs:(decide (n1<=3) && decide (n2<=3))=true
      · rw [hs] at HS;have hok:okk=true:=by rw [HOK.out,hs]
        have HN:Hid ((l.take (k+1)).all Fr.short=true):=by
         have:(l.take (k+1)).all Fr.short=true:=by rw [HTK.out,HA.out,hok]; rfl
         exact this
        clear hs hok;go_wp2_with fail;refine HS.out.mono ?_;rintro e w2 ⟨rfl,x2⟩;have X2:=Lib.hid x2;clear x2 a0 a1 a2 HS;go_wp2_with fail
        go_roundw
        case rel=>exact ⟨k+1,by omega,by omega,by go_num,⟨HN.out,HX.out.trans X2.out⟩⟩
        case measure=>simp [intOf]; omega
      · have hs':(decide (n1<=3) && decide (n2<=3))=false:=by simpa using hs
        rw [hs'] at HS;have HF:Hid (kaf l=false):=by
         have:kaf l=false:=HBAD.out (by rw [HOK.out,hs']);exact this
        clear hs hs';go_wp2_with fail;refine HS.out.mono ?_;rintro e w2 ⟨rfl,x2⟩;have X2:=Lib.hid x2;clear x2 a0 a1 a2 HS;go_wp2_with fail;go_ret;exact ⟨by rw [HF.out]; rfl,HX.out.trans X2.out⟩
  · have HF:Hid (kaf l=true):=by
     have hke:k=l.length:=by omega
     have hA:=HA.out;rw [hke,List.take_length] at hA;have:kaf l=true:=by
      unfold kaf;rw [Bool.and_eq_true];exact ⟨by simp; omega,hA⟩
     exact this
    go_wp2_with fail;go_ret;exact ⟨by rw [HF.out]; rfl,HX.out⟩
/- Four fractions in an array. -/
def zb1 (w:World) (cs:List Value) (x0 x1 x2 x3:Fr):Prop:=
 ∃ A0 c0 B0 d0 A1 c1 B1 d1 A2 c2 B2 d2 A3 c3 B3 d3,cs=[.bool x0.neg,.slice A0 x0.ds.length c0,.slice B0 x0.es.length d0,.bool x1.neg,.slice A1 x1.ds.length c1,.slice B1 x1.es.length d1,.bool x2.neg,.slice A2 x2.ds.length c2,.slice B2 x2.es.length d2,.bool x3.neg,.slice A3 x3.ds.length c3,.slice B3 x3.es.length d3] /\
   (jb w (.slice A0 x0.ds.length c0) x0.ds/\jb w (.slice B0 x0.es.length d0) x0.es)/\(jb w (.slice A1 x1.ds.length c1) x1.ds/\jb w (.slice B1 x1.es.length d1) x1.es)/\(jb w (.slice A2 x2.ds.length c2) x2.ds/\jb w (.slice B2 x2.es.length d2) x2.es)/\(jb w (.slice A3 x3.ds.length c3) x3.ds/\jb w (.slice B3 x3.es.length d3) x3.es)
theorem zcz {w W:World} {cs:Array Value} {x0 x1 x2 x3:Fr} (h:zb1 w cs.toList x0 x1 x2 x3) {g:Nat} {T:TypeId} {fr:Nat × Nat} (hb:W.heap[g]?=some (.cells cs T fr)) (hx:Ext w W):ya7 W (.slice (some ⟨g,0,none⟩) 4 4) [x0,x1,x2,x3]:=by
 obtain ⟨A0,c0,B0,d0,A1,c1,B1,d1,A2,c2,B2,d2,A3,c3,B3,d3,e,⟨p0,q0⟩,⟨p1,q1⟩,⟨p2,q2⟩,⟨p3,q3⟩⟩:=h;have hg:g < W.heap.size:=(Array.getElem?_eq_some_iff.1 hb).1;have hc:∀ j u,cs.toList[j]?=some u->W.cell? ⟨g,j,none⟩=some u:=fun j u hu=>by
  simp only [World.cell?,hb];simpa using hu
 rw [e] at hc;refine ⟨some ⟨g,0,none⟩,4,rfl,Nat.le_refl _,by omega,fun j hj=>?_⟩;have hj':j < 4:=by simpa using hj
 rcases (by omega:j=0\/j=1\/j=2\/j=3) with rfl | rfl | rfl | rfl
 · exact ⟨⟨g,0,none⟩,A0,c0,B0,d0,rfl,hg,by rw [jq]; exact ⟨hc 0 _ rfl,hc 1 _ rfl,hc 2 _ rfl⟩,p0.ext hx,q0.ext hx⟩
 · exact ⟨⟨g,0,none⟩,A1,c1,B1,d1,rfl,hg,by rw [jq]; exact ⟨hc 3 _ rfl,hc 4 _ rfl,hc 5 _ rfl⟩,p1.ext hx,q1.ext hx⟩
 · exact ⟨⟨g,0,none⟩,A2,c2,B2,d2,rfl,hg,by rw [jq]; exact ⟨hc 6 _ rfl,hc 7 _ rfl,hc 8 _ rfl⟩,p2.ext hx,q2.ext hx⟩
 · exact ⟨⟨g,0,none⟩,A3,c3,B3,d3,rfl,hg,by rw [jq]; exact ⟨hc 9 _ rfl,hc 10 _ rfl,hc 11 _ rfl⟩,p3.ext hx,q3.ext hx⟩
end Go.Proofs.YtcfcjabgkfehlaaGreat
