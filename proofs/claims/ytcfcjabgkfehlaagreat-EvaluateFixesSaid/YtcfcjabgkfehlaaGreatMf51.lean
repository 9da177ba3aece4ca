/- Layer 22: recpoly.present. -/
import Derived.Test.YtcfcjabgkfehlaaGreatMf39
import Derived.Test.YtcfcjabgkfehlaaGreatMf48
import Derived.Test.YtcfcjabgkfehlaaGreatMf40
import Derived.Test.YtcfcjabgkfehlaaGreatWt
import Derived.Test.YtcfcjabgkfehlaaGreatMf35
import Derived.Test.YtcfcjabgkfehlaaGreatMf43
set_option linter.unusedSimpArgs false
set_option linter.unusedVariables false
namespace Go.Proofs.YtcfcjabgkfehlaaGreat
open Go.RowKit
/- Products of polynomials of one level, plain: as recpoly.mul goes. No program in sight. -/
/- Powers of canonical polynomials, plain. No program in sight. -/
/- Layer 38: what prenex.Of computes, plain. No program in sight. -/
theorem Pl.add_nr {p q:Pl} (hp:p.Can) (hq:q.Can):(p.add q).nr<=p.nr+q.nr:=by
 refine Nat.le_trans (Pl.ofS_nr _) ?_;rw [yaf,Pl.terms_nr p _ hp,Pl.terms_nr q _ hq];exact Nat.le_refl _
/- Layer 38, plain: negations of matrices; normal matrices. No program in sight. -/
theorem Mx.ext_ {a b:Mx} (h1:a.kind=b.kind) (h2:a.rel=b.rel) (h3:a.p=b.p) (h4:a.ks=b.ks):a=b:=by
 obtain ⟨k,r,p,ks⟩:=a;obtain ⟨k',r',p',ks'⟩:=b;simp only [Mx.kind,Mx.rel,Mx.p,Mx.ks] at h1 h2 h3 h4;rw [h1,h2,h3,h4]
/- Reference 38: Equal: equality of matrices, field by field. -/
set_option maxRecDepth 100000
set_option maxHeartbeats 8000000
def xcy (w0:World) (n:Nat):Prop:=∀ (p q:Mx) (v u:Value) (w:World),p.sz < n->p.sz<=1000000->p.each (fun r=>r.sz<=1099511627776)->MxV w0 (fun _=>True) p v->MxV w0 (fun _=>True) q u->Ext w0 w->Calls Tryz.prog 41 #[v,u] w (jab (eqB p q) w)
theorem gcv (w0:World) (n:Nat):xcy w0 n:=by
 induction n with
 | zero=>intro p q v u w h; omega
 | succ n ih =>
 intro p q v u w hn hsz hea h h' hx0;have IH:=Lib.hid ih;have HX0:=Lib.hid hx0;have HSZ:Hid (∀ k (hk:k < p.ks.length),p.ks[k].sz < n/\p.ks[k].sz<=1000000/\p.ks[k].each (fun r=>r.sz<=1099511627776)):=by
  have:∀ k (hk:k < p.ks.length),p.ks[k].sz < n/\p.ks[k].sz<=1000000/\p.ks[k].each (fun r=>r.sz<=1099511627776):=fun k hk=>by
   have:=p.kid_le k hk;exact ⟨by omega,by omega,vad (Mx.each_ks hea) (List.getElem_mem hk)⟩
  exact this
 have hkl:p.ks.length<=1000000:=by have:=p.ks_len; omega
 obtain ⟨A0,n0,c0,A,n1,c1,K,c,rfl,hp,hl1,hl2,h4⟩:=h.open_;obtain ⟨B0,m0,d0,B,m1,d1,K',d,rfl,hp',hl1',hl2',h4'⟩:=h'.open_;have H4:=Lib.hid h4;have H4':=Lib.hid h4';have HPS:Hid (p.p.sz<=1099511627776):=Lib.hid (Mx.each_p hea);have HP:=Lib.hid hp;have HP':=Lib.hid hp';obtain ⟨W,hW⟩:∃ W,(w.alloc (.cells #[.int .i64 p.kind,.int .i64 p.rel,.int .i64 p.p.lv,.bool p.p.neg,.slice A0 n0 c0,.slice A n1 c1,.slice K p.ks.length c] 63)).alloc (.cells #[.int .i64 q.kind,.int .i64 q.rel,.int .i64 q.p.lv,.bool q.p.neg,.slice B0 m0 d0,.slice B m1 d1,.slice K' q.ks.length d] 63)=W:=⟨_,rfl⟩;have hWx:Ext w W:=by rw [<- hW]; exact ((Ext.refl w).alloc _).alloc _
 have hWs:W.heap.size=w.heap.size+1+1:=by rw [<- hW]; simp
 have hbx:zt W w.heap.size p (.slice A0 n0 c0) (.slice A n1 c1) (.slice K p.ks.length c):=by rw [<- hW]; exact (zt.new w p _ _ _ _).ext ((Ext.refl _).alloc _) (by simp)
 have hby:zt W (w.heap.size+1) q (.slice B0 m0 d0) (.slice B m1 d1) (.slice K' q.ks.length d):=by
  rw [<- hW];have h1:=zt.new (w.alloc (.cells #[.int .i64 p.kind,.int .i64 p.rel,.int .i64 p.p.lv,.bool p.p.neg,.slice A0 n0 c0,.slice A n1 c1,.slice K p.ks.length c] 63)) q (.slice B0 m0 d0) (.slice B m1 d1) (.slice K' q.ks.length d) 63;simpa using h1
 have HWX:=Lib.hid hWx;have HBX:=Lib.hid hbx;have HBY:=Lib.hid hby;obtain ⟨b0,b1,b2,b3,b4,b5,b6⟩:=hbx;obtain ⟨e0,e1,e2,e3,e4,e5,e6⟩:=hby;clear h h' ih h4 h4' hx0 hp hp' hWx hea;obtain ⟨res,hres⟩:∃ res,eqB p q=res:=⟨_,rfl⟩;rw [hres];have HRES:=Lib.hid hres;clear hres;unfold mxV;go_enter Tryz.func41,Tryz.ntmps41
 by_cases hlv:p.kind=q.kind
 case neg =>
  have HF:Hid (res=false):=Lib.hid (HRES.out.symm.trans (xad fun e=>hlv (by rw [e])));have hlv2:(p.kind != q.kind)=true:=by simpa using hlv
  go_wp2_with fail;go_ret;exact ⟨by rw [HF.out]; rfl,HWX.out⟩
 have HLV:=Lib.hid hlv;rw [<- hlv] at e0 hW;rw [<- hlv];clear hlv
 by_cases hre:p.rel=q.rel
 case neg =>
  have HF:Hid (res=false):=Lib.hid (HRES.out.symm.trans (xad fun e=>hre (by rw [e])));have hre2:(p.rel != q.rel)=true:=by simpa using hre
  go_wp2_with fail;go_ret;exact ⟨by rw [HF.out]; rfl,HWX.out⟩
 have HRE:=Lib.hid hre;rw [<- hre] at e1 hW;rw [<- hre];clear hre
 by_cases hl:p.ks.length=q.ks.length
 case neg =>
  have HF:Hid (res=false):=Lib.hid (HRES.out.symm.trans (xad fun e=>hl (by rw [e])));go_wp2_with fail;go_ret;exact ⟨by rw [HF.out]; rfl,HWX.out⟩
 have HL:=Lib.hid hl;have HBY2:Hid (∀ w1,Ext W w1->w1.cell? ⟨w.heap.size+1,6,none⟩=some (.slice K' p.ks.length d)):=Lib.hid (fun w1 hx=>by rw [hl]; exact (HBY.out.ext hx (by omega)).2.2.2.2.2.2);rw [<- hl] at e6 hW hl1';rw [<- hl];clear hl;have hsp:=xb3 p.p q.p _ _ HPS.out (HP.out.ext (HX0.out.trans HWX.out)) (HP'.out.ext (HX0.out.trans HWX.out));unfold plV at hsp;have HSI:=Lib.hid hsp;clear hsp;go_wp2_with fail;clear hW b0 b1 b2 b3 b4 b5 b6 e0 e1 e2 e3 e4 e5 e6;refine HSI.out.mono ?_;rintro e w1 ⟨rfl,x1⟩;have b6:w1.cell? ⟨w.heap.size,6,none⟩=some (.slice K p.ks.length c):=(HBX.out.ext x1 (by omega)).2.2.2.2.2.2;have e6:=HBY2.out w1 x1;have X1:=Lib.hid (HWX.out.trans x1);have XW:=Lib.hid x1;have hws:=x1.size;clear x1 HSI
 by_cases hsi:p.p=q.p
 case neg =>
  have HF:Hid (res=false):=Lib.hid (HRES.out.symm.trans (xad fun e=>hsi (by rw [e])));rw [xad hsi];clear hsi;go_wp2_with fail;go_ret;exact ⟨by rw [HF.out]; rfl,X1.out⟩
 rw [qao hsi];have HND:=Lib.hid hsi;clear hsi;go_wp2_with fail;clear b6 e6
 go_loopw [38] (fun iv wr=>∃ k:Nat,k<=p.ks.length/\iv=.int .i64 k/\Hid (p.ks.take k=q.ks.take k/\Ext w1 wr)) (fun iv _=>p.ks.length - (intOf iv).toNat)
 case atStart=>exact ⟨0,Nat.zero_le _,rfl,⟨by simp,Ext.refl _⟩⟩
 case round =>
  obtain ⟨k,hk,rfl,⟨htk,hx⟩⟩:=hrel;have HX:=Lib.hid hx;have HT:=Lib.hid htk;have b6:wr.cell? ⟨w.heap.size,6,none⟩=some (.slice K p.ks.length c):=(HBX.out.ext (XW.out.trans hx) (by omega)).2.2.2.2.2.2;have e6:=HBY2.out wr (XW.out.trans hx);have hws2:=hx.size;clear hx htk
  by_cases hlt:k < p.ks.length
  · have hlt':k < q.ks.length:=by have:=HL.out; omega
    obtain ⟨ad,C0,j0,f0,C1,j1,f1,C2,j2,f2,hA,hadb,hnd,hkt⟩:=zi.kid H4.out k hlt;obtain ⟨ad',D0,i0,g0,D1,i1,g1,D2,i2,g2,hA',hadb',hnd',hkt'⟩:=zi.kid H4'.out k hlt';subst hA hA';have hxx:Ext w0 wr:=(HX0.out.trans X1.out).trans HX.out;have HNA:=Lib.hid (hnd.ext hxx (by rw [ja]; exact hadb));have HNB:=Lib.hid (hnd'.ext hxx (by rw [ja]; exact hadb'));have hb1:ad.block < wr.heap.size:=Nat.lt_of_lt_of_le hadb hxx.size;have hb2:ad'.block < wr.heap.size:=Nat.lt_of_lt_of_le hadb' hxx.size;have HKID:=Lib.hid (fun W' (hW':Ext wr W')=>IH.out p.ks[k] q.ks[k] _ _ W' (HSZ.out k hlt).1 (HSZ.out k hlt).2.1 (HSZ.out k hlt).2.2 hkt hkt' (hxx.trans hW'));have HSTEP:Hid (p.ks[k]=q.ks[k]->p.ks.take (k+1)=q.ks.take (k+1)):=Lib.hid (gay HT.out hlt hlt');have HNE:Hid (p.ks[k] ≠ q.ks[k]->res=false):=Lib.hid (fun hne=>HRES.out.symm.trans (xad fun e=>hne (by subst e; rfl)));unfold mxV at HKID;generalize p.ks[k]=pk at *;generalize q.ks[k]=qk at *;have HSS:Hid (∀ W2,Ext wr W2->(Ext wr W2/\W2.cell? ⟨w.heap.size,6,none⟩=some (.slice (some ad) p.ks.length c)/\W2.cell? ⟨w.heap.size+1,6,none⟩=some (.slice (some ad') p.ks.length d)/\W2.cell? (Addr.add ad (k * 7))=some (.int .i64 pk.kind)/\W2.cell? ⟨(Addr.add ad (k * 7)).block,(Addr.add ad (k * 7)).off+1,none⟩=some (.int .i64 pk.rel)/\W2.cell? ⟨(Addr.add ad (k * 7)).block,(Addr.add ad (k * 7)).off+2,none⟩=some (.int .i64 pk.p.lv)/\W2.cell? ⟨(Addr.add ad (k * 7)).block,(Addr.add ad (k * 7)).off+3,none⟩=some (.bool pk.p.neg)/\W2.cell? ⟨(Addr.add ad (k * 7)).block,(Addr.add ad (k * 7)).off+4,none⟩=some (.slice C0 j0 f0)/\W2.cell? ⟨(Addr.add ad (k * 7)).block,(Addr.add ad (k * 7)).off+5,none⟩=some (.slice C1 j1 f1)/\W2.cell? ⟨(Addr.add ad (k * 7)).block,(Addr.add ad (k * 7)).off+6,none⟩=some (.slice C2 j2 f2)/\W2.cell? (Addr.add ad' (k * 7))=some (.int .i64 qk.kind)/\W2.cell? ⟨(Addr.add ad' (k * 7)).block,(Addr.add ad' (k * 7)).off+1,none⟩=some (.int .i64 qk.rel)/\W2.cell? ⟨(Addr.add ad' (k * 7)).block,(Addr.add ad' (k * 7)).off+2,none⟩=some (.int .i64 qk.p.lv)/\W2.cell? ⟨(Addr.add ad' (k * 7)).block,(Addr.add ad' (k * 7)).off+3,none⟩=some (.bool qk.p.neg)/\W2.cell? ⟨(Addr.add ad' (k * 7)).block,(Addr.add ad' (k * 7)).off+4,none⟩=some (.slice D0 i0 g0)/\W2.cell? ⟨(Addr.add ad' (k * 7)).block,(Addr.add ad' (k * 7)).off+5,none⟩=some (.slice D1 i1 g1)/\W2.cell? ⟨(Addr.add ad' (k * 7)).block,(Addr.add ad' (k * 7)).off+6,none⟩=some (.slice D2 i2 g2))):=by
     have:∀ W2,Ext wr W2->(Ext wr W2/\W2.cell? ⟨w.heap.size,6,none⟩=some (.slice (some ad) p.ks.length c)/\W2.cell? ⟨w.heap.size+1,6,none⟩=some (.slice (some ad') p.ks.length d)/\W2.cell? (Addr.add ad (k * 7))=some (.int .i64 pk.kind)/\W2.cell? ⟨(Addr.add ad (k * 7)).block,(Addr.add ad (k * 7)).off+1,none⟩=some (.int .i64 pk.rel)/\W2.cell? ⟨(Addr.add ad (k * 7)).block,(Addr.add ad (k * 7)).off+2,none⟩=some (.int .i64 pk.p.lv)/\W2.cell? ⟨(Addr.add ad (k * 7)).block,(Addr.add ad (k * 7)).off+3,none⟩=some (.bool pk.p.neg)/\W2.cell? ⟨(Addr.add ad (k * 7)).block,(Addr.add ad (k * 7)).off+4,none⟩=some (.slice C0 j0 f0)/\W2.cell? ⟨(Addr.add ad (k * 7)).block,(Addr.add ad (k * 7)).off+5,none⟩=some (.slice C1 j1 f1)/\W2.cell? ⟨(Addr.add ad (k * 7)).block,(Addr.add ad (k * 7)).off+6,none⟩=some (.slice C2 j2 f2)/\W2.cell? (Addr.add ad' (k * 7))=some (.int .i64 qk.kind)/\W2.cell? ⟨(Addr.add ad' (k * 7)).block,(Addr.add ad' (k * 7)).off+1,none⟩=some (.int .i64 qk.rel)/\W2.cell? ⟨(Addr.add ad' (k * 7)).block,(Addr.add ad' (k * 7)).off+2,none⟩=some (.int .i64 qk.p.lv)/\W2.cell? ⟨(Addr.add ad' (k * 7)).block,(Addr.add ad' (k * 7)).off+3,none⟩=some (.bool qk.p.neg)/\W2.cell? ⟨(Addr.add ad' (k * 7)).block,(Addr.add ad' (k * 7)).off+4,none⟩=some (.slice D0 i0 g0)/\W2.cell? ⟨(Addr.add ad' (k * 7)).block,(Addr.add ad' (k * 7)).off+5,none⟩=some (.slice D1 i1 g1)/\W2.cell? ⟨(Addr.add ad' (k * 7)).block,(Addr.add ad' (k * 7)).off+6,none⟩=some (.slice D2 i2 g2)):=fun W2 hx2=>by
      obtain ⟨a0,a1,a2,a3,a4,a5,a6⟩:=HNA.out.ext hx2 (by rw [ja]; exact hb1);obtain ⟨a0',a1',a2',a3',a4',a5',a6'⟩:=HNB.out.ext hx2 (by rw [ja]; exact hb2);exact ⟨hx2,(hx2.cell (p:=⟨w.heap.size,6,none⟩) (by show w.heap.size < _; omega)).trans b6,(hx2.cell (p:=⟨w.heap.size+1,6,none⟩) (by show w.heap.size+1 < _; omega)).trans e6,a0,a1,a2,a3,a4,a5,a6,a0',a1',a2',a3',a4',a5',a6'⟩
     exact this
    clear hnd hnd' hkt hkt' hxx hadb hadb';have y0:Ext wr wr.drew:=(Ext.refl wr).drew;have Y0:=Lib.hid y0;clear y0;go_upto_region 6 with fail;clear b6 e6
    go_region_held3 (fun W2 => Ext wr W2 /\ W2.cell? ⟨w.heap.size, 6, none⟩ = some (.slice (some ad) p.ks.length c) /\ W2.cell? ⟨w.heap.size + 1, 6, none⟩ = some (.slice (some ad') p.ks.length d) /\ W2.cell? (Addr.add ad (k * 7)) = some (.int .i64 pk.kind) /\ W2.cell? ⟨(Addr.add ad (k * 7)).block, (Addr.add ad (k * 7)).off + 1, none⟩ = some (.int .i64 pk.rel) /\ W2.cell? ⟨(Addr.add ad (k * 7)).block, (Addr.add ad (k * 7)).off + 2, none⟩ = some (.int .i64 pk.p.lv) /\ W2.cell? ⟨(Addr.add ad (k * 7)).block, (Addr.add ad (k * 7)).off + 3, none⟩ = some (.bool pk.p.neg) /\ W2.cell? ⟨(Addr.add ad (k * 7)).block, (Addr.add ad (k * 7)).off + 4, none⟩ = some (.slice C0 j0 f0) /\ W2.cell? ⟨(Addr.add ad (k * 7)).block, (Addr.add ad (k * 7)).off + 5, none⟩ = some (.slice C1 j1 f1) /\ W2.cell? ⟨(Addr.add ad (k * 7)).block, (Addr.add ad (k * 7)).off + 6, none⟩ = some (.slice C2 j2 f2) /\ W2.cell? (Addr.add ad' (k * 7)) = some (.int .i64 qk.kind) /\ W2.cell? ⟨(Addr.add ad' (k * 7)).block, (Addr.add ad' (k * 7)).off + 1, none⟩ = some (.int .i64 qk.rel) /\ W2.cell? ⟨(Addr.add ad' (k * 7)).block, (Addr.add ad' (k * 7)).off + 2, none⟩ = some (.int .i64 qk.p.lv) /\ W2.cell? ⟨(Addr.add ad' (k * 7)).block, (Addr.add ad' (k * 7)).off + 3, none⟩ = some (.bool qk.p.neg) /\ W2.cell? ⟨(Addr.add ad' (k * 7)).block, (Addr.add ad' (k * 7)).off + 4, none⟩ = some (.slice D0 i0 g0) /\ W2.cell? ⟨(Addr.add ad' (k * 7)).block, (Addr.add ad' (k * 7)).off + 5, none⟩ = some (.slice D1 i1 g1) /\ W2.cell? ⟨(Addr.add ad' (k * 7)).block, (Addr.add ad' (k * 7)).off + 6, none⟩ = some (.slice D2 i2 g2))
     (first | with_reducible exact HSS.out _ Y0.out | with_reducible exact HSS.out _ y1)
     ((go_at_call 41
       refine (HKID.out _ Y0.out).mono ?_;rintro e v1 ⟨rfl,x1⟩
       have y1:Ext wr v1:=Ext.trans Y0.out x1))
    all_goals
     have X2:=Lib.hid (HX.out.trans y1);clear y1 x1 HKID HSS Y0
     by_cases hpq:pk=qk
     · have HT2:=Lib.hid (HSTEP.out hpq);rw [qao hpq];clear hpq;go_wp2_with fail
       go_roundw
       case rel=>exact ⟨k+1,by omega,by go_num,⟨HT2.out,X2.out⟩⟩
       case measure=>simp [intOf]; omega
     · have HF:=Lib.hid (HNE.out hpq);rw [xad hpq];clear hpq;go_wp2_with fail;go_ret;exact ⟨by rw [HF.out]; rfl,X1.out.trans X2.out⟩
  · have HF:Hid (res=true):=Lib.hid (HRES.out.symm.trans (qao (by
     have h1:=HT.out;rw [show k=p.ks.length by omega] at h1
     exact Mx.ext_ HLV.out HRE.out HND.out (va5 HL.out h1))))
    clear b6 e6;go_wp2_with fail;go_ret;exact ⟨by rw [HF.out]; rfl,X1.out.trans HX.out⟩
theorem jcp {w:World} {q1 q2:Nat->Prop} (p q:Mx) (v u:Value) (hsz:p.sz<=1000000) (hea:p.each (fun r=>r.sz<=1099511627776)) (h:MxV w q1 p v) (k:MxV w q2 q u):Calls Tryz.prog 41 #[v,u] w (jab (eqB p q) w):=
 gcv w (p.sz+1) p q v u w (Nat.lt_succ_self _) hsz hea (h.mono fun _ _=>trivial) (k.mono fun _ _=>trivial) (Ext.refl w)
end Go.Proofs.YtcfcjabgkfehlaaGreat
