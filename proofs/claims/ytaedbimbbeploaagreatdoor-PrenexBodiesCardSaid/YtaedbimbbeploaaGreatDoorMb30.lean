/- Equality of integers and of polynomials: cylinderref34.SameInt, cylinderref38.SamePoly, integer.Same, recpoly.same, Same. -/
import Derived.Test.YtaedbimbbeploaaGreatDoorMb24
import Derived.Test.YtaedbimbbeploaaGreatDoorMb9
import Derived.Test.YtaedbimbbeploaaGreatDoorMb13
import Derived.Test.YtaedbimbbeploaaGreatDoorRNorm
import Derived.Test.YtaedbimbbeploaaGreatDoorMb22
import Derived.Test.YtaedbimbbeploaaGreatDoorPNorm
set_option linter.unusedSimpArgs false
set_option linter.unusedVariables false
set_option maxRecDepth 100000
set_option maxHeartbeats 8000000
namespace Go.Proofs.YtaedbimbbeploaaGreatDoor
open Go.RowKit
noncomputable def eqB {α:Type} (a b:α):Bool:=@decide (a=b) (Classical.propDecidable _)
theorem gbx {α:Type} {a b:α}:eqB a b=true ↔ a=b:=by unfold eqB; exact @decide_eq_true_iff _ (Classical.propDecidable _)
theorem uan {α:Type} {a b:α} (h:a ≠ b):eqB a b=false:=by
 cases hb:eqB a b
 · rfl
 · exact absurd (gbx.1 hb) h
theorem ga1 {α:Type} {a b:α} (h:a=b):eqB a b=true:=gbx.2 h
theorem ube {α:Type} {l r:List α} {k:Nat} (h:l.take k=r.take k) (hl:k < l.length) (hr:k < r.length) (he:l[k]=r[k]):l.take (k+1)=r.take (k+1):=by
 rw [List.take_succ_eq_append_getElem hl,List.take_succ_eq_append_getElem hr,h,he]
theorem wbj {α:Type} {l r:List α} (h:l.length=r.length) (he:l.take l.length=r.take l.length):l=r:=by
 rw [List.take_length] at he;rw [he,h,List.take_length]
theorem qbt {w:World} (n1 n2:Bool) (s1 s2:Value) (ds es:List Nat) (h1:jb w s1 ds) (h2:jb w s2 es):Calls Tryz.prog 62 #[.agg #[.bool n1,s1],.agg #[.bool n2,s2]] w (qaj (eqB (n1,ds) (n2,es)) w):=by
 obtain ⟨A,c,rfl,a1,a2,a3⟩:=h1;obtain ⟨B,d,rfl,b1,b2,b3⟩:=h2;have H1:=Lib.hid a3;have H2:=Lib.hid b3;clear a3 b3;obtain ⟨W,hW⟩:∃ W,(w.alloc (.cells #[.bool n1,.slice A ds.length c] 25)).alloc (.cells #[.bool n2,.slice B es.length d] 25)=W:=⟨_,rfl⟩;have hWx:Ext w W:=by rw [<- hW]; exact ((Ext.refl w).alloc _).alloc _
 have q0:W.cell? ⟨w.heap.size,0,none⟩=some (.bool n1):=by rw [<- hW]; simp [go_sem]
 have q1:W.cell? ⟨w.heap.size,1,none⟩=some (.slice A ds.length c):=by rw [<- hW]; simp [go_sem]
 have q2:W.cell? ⟨w.heap.size+1,0,none⟩=some (.bool n2):=by rw [<- hW]; simp [go_sem]
 have q3:W.cell? ⟨w.heap.size+1,1,none⟩=some (.slice B es.length d):=by rw [<- hW]; simp [go_sem]
 have HWX:=Lib.hid hWx;clear hWx;obtain ⟨res,hres⟩:∃ res,eqB (n1,ds) (n2,es)=res:=⟨_,rfl⟩;rw [hres];have HRES:=Lib.hid hres;clear hres;go_enter Tryz.func62,Tryz.ntmps62
 by_cases hn:n1=n2
 case neg =>
  have HF:Hid (res=false):=Lib.hid (HRES.out.symm.trans (uan fun e=>hn (by injection e)));have h3:(n1 != n2)=true:=by simpa using hn
  have h4:((!n1) == n2)=true:=by cases n1 <;> cases n2 <;> simp_all
  go_wp2_with fail;go_ret;exact ⟨by rw [HF.out]; rfl,HWX.out⟩
 subst hn;have hneg:(n1 != n1)=false:=by simp
 have hneg2:((!n1) == n1)=false:=by cases n1 <;> rfl
 by_cases hl:ds.length=es.length
 case neg =>
  have HF:Hid (res=false):=Lib.hid (HRES.out.symm.trans (uan fun e=>hl (by injection e with _ e; rw [e])));go_wp2_with fail;go_ret;exact ⟨by rw [HF.out]; rfl,HWX.out⟩
 have HL:=Lib.hid hl;rw [<- hl] at q3 hW b1;rw [<- hl];clear hl;go_wp2_with fail;clear hW
 go_loopw [23] (fun iv wr=>∃ k n:Nat,k<=ds.length/\iv=.int .i64 k/\wr=W.drewN n/\Hid (ds.take k=es.take k)) (fun iv _=>ds.length - (intOf iv).toNat)
 case atStart=>exact ⟨0,0,Nat.zero_le _,rfl,rfl,Lib.hid (by simp)⟩
 case round =>
  obtain ⟨k,n,hk,rfl,rfl,HT⟩:=hrel
  by_cases hlt:k < ds.length
  · have hlt':k < es.length:=by have:=HL.out; omega
    obtain ⟨ad,rfl,hb,hcell,hd⟩:=(H1.out.ext HWX.out).at_ k hlt;obtain ⟨ad',rfl,hb',hcell',hd'⟩:=(H2.out.ext HWX.out).at_ k hlt'
    by_cases he:ds[k]=es[k]
    · have HT2:=Lib.hid (ube HT.out hlt hlt' he);rw [<- he] at hcell';clear he hd';generalize ds[k]=x at *;go_upto_region 6 with fail
      go_quiet (fail)
      go_wp2_with fail;exact ⟨⟨k+1,n+nq,by omega,by go_num,rfl,HT2⟩,by simp [intOf]; omega⟩
    · have HF:Hid (res=false):=Lib.hid (HRES.out.symm.trans (uan fun e=>he (by injection e with _ e; subst e; rfl)));generalize ds[k]=x at *;generalize es[k]=y at *;go_upto_region 6 with fail
      go_quiet (fail)
      go_wp2_with fail;go_ret;exact ⟨by rw [HF.out]; rfl,(HWX.out.drewN n).drewN nq⟩
  · have HF:Hid (res=true):=Lib.hid (HRES.out.symm.trans (ga1 (by
     have h1:=HT.out;rw [show k=ds.length by omega] at h1
     rw [wbj HL.out h1])))
    go_wp2_with fail;go_ret;exact ⟨by rw [HF.out]; rfl,HWX.out.drewN n⟩
theorem Pl.ext_ {p q:Pl} (h1:p.lv=q.lv) (h2:p.neg=q.neg) (h3:p.ds=q.ds) (h4:p.cs=q.cs):p=q:=by
 obtain ⟨l,n,d,c⟩:=p;obtain ⟨l',n',d',c'⟩:=q;simp only [Pl.lv,Pl.neg,Pl.ds,Pl.cs] at h1 h2 h3 h4;rw [h1,h2,h3,h4]
def wcz (w0:World) (n:Nat):Prop:=∀ (p q:Pl) (v u:Value) (w:World),p.sz < n->p.sz<=1099511627776->PlV w0 (fun _=>True) p v->PlV w0 (fun _=>True) q u->Ext w0 w->Calls Tryz.prog 23 #[v,u] w (qaj (eqB p q) w)
theorem kcz (w0:World) (n:Nat):wcz w0 n:=by
 induction n with
 | zero=>intro p q v u w h; omega
 | succ n ih =>
 intro p q v u w hn hsz h h' hx0;have IH:=Lib.hid ih;have HX0:=Lib.hid hx0;have HSZ:Hid (∀ k (hk:k < p.cs.length),p.cs[k].sz < n/\p.cs[k].sz<=1099511627776):=by
  have:∀ k (hk:k < p.cs.length),p.cs[k].sz < n/\p.cs[k].sz<=1099511627776:=fun k hk=>by have:=Pl.sz_kid (List.getElem_mem hk); omega
  exact this
 have hszl:=p.sz_len;obtain ⟨A0,n0,c0,A,c,rfl,hnat,hl1,hl2,h4⟩:=h.open_;obtain ⟨B0,m0,d0,B,d,rfl,hnat',hl1',hl2',h4'⟩:=h'.open_;have H4:=Lib.hid h4;have H4':=Lib.hid h4';have HN:=Lib.hid hnat;have HN':=Lib.hid hnat';obtain ⟨W,hW⟩:∃ W,(w.alloc (.cells #[.int .i64 p.lv,.bool p.neg,.slice A0 n0 c0,.slice A p.cs.length c] 42)).alloc (.cells #[.int .i64 q.lv,.bool q.neg,.slice B0 m0 d0,.slice B q.cs.length d] 42)=W:=⟨_,rfl⟩;have hWx:Ext w W:=by rw [<- hW]; exact ((Ext.refl w).alloc _).alloc _
 have hWs:W.heap.size=w.heap.size+1+1:=by rw [<- hW]; simp
 have hbx:zg W w.heap.size p (.slice A0 n0 c0) (.slice A p.cs.length c):=by rw [<- hW]; exact (zg.new w p _ _ _).ext ((Ext.refl _).alloc _) (by simp)
 have hby:zg W (w.heap.size+1) q (.slice B0 m0 d0) (.slice B q.cs.length d):=by
  rw [<- hW];have h1:=zg.new (w.alloc (.cells #[.int .i64 p.lv,.bool p.neg,.slice A0 n0 c0,.slice A p.cs.length c] 42)) q (.slice B0 m0 d0) (.slice B q.cs.length d) 42;simpa using h1
 have HWX:=Lib.hid hWx;have HBX:=Lib.hid hbx;have HBY:=Lib.hid hby;obtain ⟨b0,b1,b2,b3⟩:=hbx;obtain ⟨e0,e1,e2,e3⟩:=hby;clear h h' ih h4 h4' hx0 hnat hnat' hWx ;obtain ⟨res,hres⟩:∃ res,eqB p q=res:=⟨_,rfl⟩;rw [hres];have HRES:=Lib.hid hres;clear hres;unfold plV;go_enter Tryz.func23,Tryz.ntmps23
 by_cases hlv:p.lv=q.lv
 case neg =>
  have HF:Hid (res=false):=Lib.hid (HRES.out.symm.trans (uan fun e=>hlv (by rw [e])));have hlv2:(p.lv != q.lv)=true:=by simpa using hlv
  go_wp2_with fail;go_ret;exact ⟨by rw [HF.out]; rfl,HWX.out⟩
 by_cases hl:p.cs.length=q.cs.length
 case neg =>
  have HF:Hid (res=false):=Lib.hid (HRES.out.symm.trans (uan fun e=>hl (by rw [e])));have HL:=Lib.hid hlv;rw [<- hlv] at e0 hW;clear hlv;rw [<- HL.out];go_wp2_with fail;go_ret;exact ⟨by rw [HF.out]; rfl,HWX.out⟩
 have HLV:=Lib.hid hlv;have HL:=Lib.hid hl;rw [<- hlv] at e0 hW;rw [<- hl] at e3 hW hl1' HBY;rw [<- hlv,<- hl];clear hlv hl;have HSI:=Lib.hid (qbt p.neg q.neg _ _ p.ds q.ds (HN.out.ext (HX0.out.trans HWX.out)) (HN'.out.ext (HX0.out.trans HWX.out)));go_wp2_with fail;clear hW b0 b1 b2 b3 e0 e1 e2 e3;refine HSI.out.mono ?_;rintro e w1 ⟨rfl,x1⟩;obtain ⟨b0,b1,b2,b3⟩:=HBX.out.ext x1 (by omega);obtain ⟨e0,e1,e2,e3⟩:=HBY.out.ext x1 (by omega);have X1:=Lib.hid (HWX.out.trans x1);have hws:=x1.size;have HBX1:=Lib.hid (HBX.out.ext x1 (by omega));have HBY1:=Lib.hid (HBY.out.ext x1 (by omega));clear x1 HSI HN HN'
 by_cases hsi:(p.neg,p.ds)=(q.neg,q.ds)
 case neg =>
  have HF:Hid (res=false):=Lib.hid (HRES.out.symm.trans (uan fun e=>hsi (by rw [e])));rw [uan hsi];clear hsi;go_wp2_with fail;go_ret;exact ⟨by rw [HF.out]; rfl,X1.out⟩
 rw [ga1 hsi];have HND:=Lib.hid hsi;clear hsi;go_wp2_with fail;clear b0 b1 b2 b3 e0 e1 e2 e3
 go_loopw [31] (fun iv wr=>∃ k:Nat,k<=p.cs.length/\iv=.int .i64 k/\Hid (p.cs.take k=q.cs.take k/\Ext w1 wr)) (fun iv _=>p.cs.length - (intOf iv).toNat)
 case atStart=>exact ⟨0,Nat.zero_le _,rfl,⟨by simp,Ext.refl _⟩⟩
 case round =>
  obtain ⟨k,hk,rfl,⟨htk,hx⟩⟩:=hrel;have HX:=Lib.hid hx;have HT:=Lib.hid htk;obtain ⟨b0,b1,b2,b3⟩:=HBX1.out.ext hx (by omega);obtain ⟨e0,e1,e2,e3⟩:=HBY1.out.ext hx (by omega);have hws2:=hx.size;clear hx htk
  by_cases hlt:k < p.cs.length
  · have hlt':k < q.cs.length:=by have:=HL.out; omega
    obtain ⟨ad,C0,j0,f0,C1,j1,f1,rfl,hadb,hnd,hkt⟩:=jd.kid H4.out k hlt;obtain ⟨ad',D0,i0,g0,D1,i1,g1,rfl,hadb',hnd',hkt'⟩:=jd.kid H4'.out k hlt';have hxx:Ext w0 wr:=(HX0.out.trans X1.out).trans HX.out;have HNA:=Lib.hid (hnd.ext hxx (by rw [ja]; exact hadb));have HNB:=Lib.hid (hnd'.ext hxx (by rw [ja]; exact hadb'));have hb1:ad.block < wr.heap.size:=Nat.lt_of_lt_of_le hadb hxx.size;have hb2:ad'.block < wr.heap.size:=Nat.lt_of_lt_of_le hadb' hxx.size;have HKID:=Lib.hid (fun W' (hW':Ext wr W')=>IH.out p.cs[k] q.cs[k] _ _ W' (HSZ.out k hlt).1 (HSZ.out k hlt).2 hkt hkt' (hxx.trans hW'));have HSTEP:Hid (p.cs[k]=q.cs[k]->p.cs.take (k+1)=q.cs.take (k+1)):=Lib.hid (ube HT.out hlt hlt');have HNE:Hid (p.cs[k] ≠ q.cs[k]->res=false):=Lib.hid (fun hne=>HRES.out.symm.trans (uan fun e=>hne (by subst e; rfl)));unfold plV at HKID;generalize p.cs[k]=pk at *;generalize q.cs[k]=qk at *;have HSS:Hid (∀ W2,Ext wr W2->(Ext wr W2/\W2.cell? ⟨w.heap.size,3,none⟩=some (.slice (some ad) p.cs.length c)/\W2.cell? ⟨w.heap.size+1,3,none⟩=some (.slice (some ad') p.cs.length d)/\W2.cell? (Addr.add ad (k * 4))=some (.int .i64 pk.lv)/\W2.cell? ⟨(Addr.add ad (k * 4)).block,(Addr.add ad (k * 4)).off+1,none⟩=some (.bool pk.neg)/\W2.cell? ⟨(Addr.add ad (k * 4)).block,(Addr.add ad (k * 4)).off+2,none⟩=some (.slice C0 j0 f0)/\W2.cell? ⟨(Addr.add ad (k * 4)).block,(Addr.add ad (k * 4)).off+3,none⟩=some (.slice C1 j1 f1)/\W2.cell? (Addr.add ad' (k * 4))=some (.int .i64 qk.lv)/\W2.cell? ⟨(Addr.add ad' (k * 4)).block,(Addr.add ad' (k * 4)).off+1,none⟩=some (.bool qk.neg)/\W2.cell? ⟨(Addr.add ad' (k * 4)).block,(Addr.add ad' (k * 4)).off+2,none⟩=some (.slice D0 i0 g0)/\W2.cell? ⟨(Addr.add ad' (k * 4)).block,(Addr.add ad' (k * 4)).off+3,none⟩=some (.slice D1 i1 g1))):=by
     have:∀ W2,Ext wr W2->(Ext wr W2/\W2.cell? ⟨w.heap.size,3,none⟩=some (.slice (some ad) p.cs.length c)/\W2.cell? ⟨w.heap.size+1,3,none⟩=some (.slice (some ad') p.cs.length d)/\W2.cell? (Addr.add ad (k * 4))=some (.int .i64 pk.lv)/\W2.cell? ⟨(Addr.add ad (k * 4)).block,(Addr.add ad (k * 4)).off+1,none⟩=some (.bool pk.neg)/\W2.cell? ⟨(Addr.add ad (k * 4)).block,(Addr.add ad (k * 4)).off+2,none⟩=some (.slice C0 j0 f0)/\W2.cell? ⟨(Addr.add ad (k * 4)).block,(Addr.add ad (k * 4)).off+3,none⟩=some (.slice C1 j1 f1)/\W2.cell? (Addr.add ad' (k * 4))=some (.int .i64 qk.lv)/\W2.cell? ⟨(Addr.add ad' (k * 4)).block,(Addr.add ad' (k * 4)).off+1,none⟩=some (.bool qk.neg)/\W2.cell? ⟨(Addr.add ad' (k * 4)).block,(Addr.add ad' (k * 4)).off+2,none⟩=some (.slice D0 i0 g0)/\W2.cell? ⟨(Addr.add ad' (k * 4)).block,(Addr.add ad' (k * 4)).off+3,none⟩=some (.slice D1 i1 g1)):=fun W2 hx2=>by
      obtain ⟨a0,a1,a2,a3⟩:=HNA.out.ext hx2 (by rw [ja]; exact hb1);obtain ⟨a0',a1',a2',a3'⟩:=HNB.out.ext hx2 (by rw [ja]; exact hb2);exact ⟨hx2,(hx2.cell (p:=⟨w.heap.size,3,none⟩) (by show w.heap.size < _; omega)).trans b3,(hx2.cell (p:=⟨w.heap.size+1,3,none⟩) (by show w.heap.size+1 < _; omega)).trans e3,a0,a1,a2,a3,a0',a1',a2',a3'⟩
     exact this
    clear hnd hnd' hkt hkt' hxx hadb hadb';have y0:Ext wr wr.drew:=(Ext.refl wr).drew;have Y0:=Lib.hid y0;clear y0;go_upto_region 6 with fail;clear b0 b1 b2 b3 e0 e1 e2 e3
    go_region_held3 (fun W2 => Ext wr W2 /\ W2.cell? ⟨w.heap.size, 3, none⟩ = some (.slice (some ad) p.cs.length c) /\ W2.cell? ⟨w.heap.size + 1, 3, none⟩ = some (.slice (some ad') p.cs.length d) /\ W2.cell? (Addr.add ad (k * 4)) = some (.int .i64 pk.lv) /\ W2.cell? ⟨(Addr.add ad (k * 4)).block, (Addr.add ad (k * 4)).off + 1, none⟩ = some (.bool pk.neg) /\ W2.cell? ⟨(Addr.add ad (k * 4)).block, (Addr.add ad (k * 4)).off + 2, none⟩ = some (.slice C0 j0 f0) /\ W2.cell? ⟨(Addr.add ad (k * 4)).block, (Addr.add ad (k * 4)).off + 3, none⟩ = some (.slice C1 j1 f1) /\ W2.cell? (Addr.add ad' (k * 4)) = some (.int .i64 qk.lv) /\ W2.cell? ⟨(Addr.add ad' (k * 4)).block, (Addr.add ad' (k * 4)).off + 1, none⟩ = some (.bool qk.neg) /\ W2.cell? ⟨(Addr.add ad' (k * 4)).block, (Addr.add ad' (k * 4)).off + 2, none⟩ = some (.slice D0 i0 g0) /\ W2.cell? ⟨(Addr.add ad' (k * 4)).block, (Addr.add ad' (k * 4)).off + 3, none⟩ = some (.slice D1 i1 g1))
     (first | with_reducible exact HSS.out _ Y0.out | with_reducible exact HSS.out _ y1)
     ((go_at_call 23
       refine (HKID.out _ Y0.out).mono ?_;rintro e v1 ⟨rfl,x1⟩
       have y1:Ext wr v1:=Ext.trans Y0.out x1))
    all_goals
     have X2:=Lib.hid (HX.out.trans y1);clear y1 x1 HKID HSS Y0
     by_cases hpq:pk=qk
     · have HT2:=Lib.hid (HSTEP.out hpq);rw [ga1 hpq];clear hpq;go_wp2_with fail
       go_roundw
       case rel=>exact ⟨k+1,by omega,by go_num,⟨HT2.out,X2.out⟩⟩
       case measure=>simp [intOf]; omega
     · have HF:=Lib.hid (HNE.out hpq);rw [uan hpq];clear hpq;go_wp2_with fail;go_ret;exact ⟨by rw [HF.out]; rfl,X1.out.trans X2.out⟩
  · have HF:Hid (res=true):=Lib.hid (HRES.out.symm.trans (ga1 (by
     have h1:=HT.out;rw [show k=p.cs.length by omega] at h1;have h2:=wbj HL.out h1;have h3:=HND.out
     exact Pl.ext_ HLV.out (congrArg Prod.fst h3) (congrArg Prod.snd h3) h2)))
    clear b0 b1 b2 b3 e0 e1 e2 e3;go_wp2_with fail;go_ret;exact ⟨by rw [HF.out]; rfl,X1.out.trans HX.out⟩
theorem ycw {w:World} {q1 q2:Nat->Prop} (p q:Pl) (v u:Value) (hsz:p.sz<=1099511627776) (h:PlV w q1 p v) (k:PlV w q2 q u):Calls Tryz.prog 23 #[v,u] w (qaj (eqB p q) w):=
 kcz w (p.sz+1) p q v u w (Nat.lt_succ_self _) hsz (h.mono fun _ _=>trivial) (k.mono fun _ _=>trivial) (Ext.refl w)
/- Matrices: what holds of every polynomial in them. -/
mutual
def Mx.each (P : Pl -> Prop) : Mx -> Prop
 | .mk _ _ p ks=>P p/\xw P ks
def xw (P : Pl -> Prop) : List Mx -> Prop
 | []=>True
 | t :: r=>t.each P/\xw P r
end
theorem wa1 {P:Pl->Prop} {l:List Mx} {t:Mx} (h:xw P l) (ht:t ∈ l):t.each P:=by
 induction l with
 | nil=>cases ht
 | cons x r ih =>
   rw [xw] at h;rcases List.mem_cons.1 ht with rfl | ht
   · exact h.1
   · exact ih h.2 ht
theorem Mx.each_ks {P:Pl->Prop} {t:Mx} (h:t.each P):xw P t.ks:=by cases t; rw [Mx.each] at h; exact h.2
theorem Mx.each_p {P:Pl->Prop} {t:Mx} (h:t.each P):P t.p:=by cases t; rw [Mx.each] at h; exact h.1
mutual
theorem Mx.each_all {P : Pl -> Prop} (h : ∀ p, P p) : ∀ t : Mx, t.each P
 | .mk _ _ p ks=>by rw [Mx.each]; exact ⟨h p,kbh h ks⟩
theorem kbh {P : Pl -> Prop} (h : ∀ p, P p) : ∀ l : List Mx, xw P l
 | []=>by rw [xw]; trivial
 | t :: r=>by rw [xw]; exact ⟨t.each_all h,kbh h r⟩
end
mutual
theorem MxV.dig {w : World} {q : Nat -> Prop} : ∀ (t : Mx) (v : Value), MxV w q t v -> t.each Pl.dig
 | .mk k r p ks,v,h=>by
   unfold MxV at h;obtain ⟨s,A,K,c,e,h1,h2,h3,h4⟩:=h;rw [Mx.each];exact ⟨h1.dig,jg.dig ks K 0 h4⟩
theorem jg.dig {w : World} {q : Nat -> Prop} : ∀ (l : List Mx) (A : Option Addr) (j : Nat), jg w q l A j -> xw Pl.dig l
 | [],A,j,h=>by rw [xw]; trivial
 | t :: r,A,j,h=>by
   unfold jg at h;obtain ⟨⟨ad,s,B,K,e,hb,hpb,h1,h2⟩,h3⟩:=h;rw [xw];exact ⟨MxV.dig t _ h2,jg.dig r A (j+1) h3⟩
end
mutual
theorem Mx.nrm_sz : ∀ t : Mx, t.nrm.sz <= t.sz
 | .mk k r p ks=>by
   have:=wbw ks;rw [Mx.nrm,Mx.sz]
   split
   · rw [Mx.sz,qw]; omega
   · split
     · rw [Mx.sz,qw]; omega
     · split
       · rw [Mx.sz]; omega
       · rw [Mx.sz,qw]; omega
theorem wbw : ∀ l : List Mx, qw (vav l) <= qw l
 | []=>by rw [vav]; omega
 | t :: r=>by
   have h1:=t.nrm_sz;have h2:=wbw r;rw [vav,qw,qw]; omega
end
/- Small matrices: their polynomials, and those of their normal forms. -/
end Go.Proofs.YtaedbimbbeploaaGreatDoor
