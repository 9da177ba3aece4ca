/- Law 38: says: the tree of a formula says a folded matrix. -/
import Derived.Test.YtaedbimbbeploaaGreatDoorMb51
import Derived.Test.YtaedbimbbeploaaGreatDoorMb30
import Derived.Test.YtaedbimbbeploaaGreatDoorMb49
import Derived.Deep.RegionLaw
import Derived.Test.YtaedbimbbeploaaGreatDoorMb32
set_option linter.unusedSimpArgs false
set_option linter.unusedVariables false
set_option maxRecDepth 100000
set_option maxHeartbeats 8000000
namespace Go.Proofs.YtaedbimbbeploaaGreatDoor
open Go.RowKit
theorem jbh (nms:List ByteArray) (i:Nat) (n:Int):(jo nms i n).norm=jo nms i n:=by
 unfold jo
 split
 · simp only [Tm.norm,je]; rw [if_neg (by omega)]
 · rfl
theorem qbg {c : Int} {m : Mo} {nms : List ByteArray} : ∀ k t, kz c m nms k = some t -> t.norm = t
 | 0,t,e=>by
   unfold kz at e
   split at e
   · cases e
   · injection e with e; subst e; rfl
 | k+1,t,e=>by
   have ih:=qbg (c:=c) (m:=m) (nms:=nms) k;unfold kz at e
   split at e
   · exact ih t e
   · injection e with e
     subst e;cases hq:kz c m nms k with
     | none=>simp only [uav]; exact jbh _ _ _
     | some p=>simp only [uav,Tm.norm]; rw [ih p hq,jbh]
theorem vau (c:Int) (m:Mo) (nms:List ByteArray):(monT c m nms).norm=monT c m nms:=by
 unfold monT;cases hq:kz c m nms 4 with
 | none=>rfl
 | some t=>exact qbg 4 t hq
theorem gbe {nms : List ByteArray} : ∀ (l : Sp) (o : Option Tm), (∀ t, o = some t -> t.norm = t) -> ∀ t, l.foldl (jq nms) o = some t -> t.norm = t
 | [],o,ho,t,e=>ho t e
 | x :: r,o,ho,t,e=>by
   rw [List.foldl_cons] at e;refine gbe r _ (fun u hu=>?_) t e;cases o with
   | none =>
     simp only [jq] at hu;injection hu with hu
     subst hu
     split
     · simp only [Tm.norm,vau]
     · exact vau _ _ _
   | some a =>
     simp only [jq] at hu;injection hu with hu
     subst hu
     split
     · simp only [Tm.norm,vau,ho a rfl]
     · simp only [Tm.norm,vau,ho a rfl]
theorem vb6 (l:Sp) (nms:List ByteArray):(sumT l nms).norm=sumT l nms:=by
 unfold sumT uai;cases hq:l.foldl (jq nms) none with
 | none=>rfl
 | some t=>exact gbe l none (fun t e=>by cases e) t hq
theorem Tm.fold_all {P:ByteArray->Prop} {a:ByteArray->Int} (t:Tm):∀ acc:List ByteArray,t.allN P->(∀ s ∈ acc,P s)->∀ s ∈ t.fold (yj a) acc,P s:=by
 induction t with
 | num z=>intro acc _ h; exact h
 | name s =>
   intro acc h hx u hu;rw [Tm.fold,yj] at hu
   split at hu
   · rcases List.mem_append.1 hu with hu | hu
     · exact hx u hu
     · rw [List.mem_singleton.1 hu]; exact h
   · exact hx u hu
 | add x y ihx ihy=>intro acc h hx; rw [Tm.fold]; exact ihy _ h.2 (ihx _ h.1 hx)
 | sub x y ihx ihy=>intro acc h hx; rw [Tm.fold]; exact ihy _ h.2 (ihx _ h.1 hx)
 | mul x y ihx ihy=>intro acc h hx; rw [Tm.fold]; exact ihy _ h.2 (ihx _ h.1 hx)
 | neg x ihx=>intro acc h hx; rw [Tm.fold]; exact ihx _ h hx
 | pow x e ihx=>intro acc h hx; rw [Tm.fold]; exact ihx _ h hx
def xa8 (nms:List ByteArray) (P:Pl):Prop:=P.nf=P/\P.lv<=(nms.length:Int)/\P.sz<=10000000/\P.dm<=100000/\(sumT (jc (P.terms Mo.one)) nms).wt<=400
theorem xce {nms:List ByteArray} (hn:jy nms=true) {P:Pl} (h:xa8 nms P):wak (sumT (jc (P.terms Mo.one)) nms) nms=0/\xh (qab nms nms.length) (sumT (jc (P.terms Mo.one)) nms)=P:=by
 obtain ⟨h1,h2,-⟩:=h;have hd:=(of_decide_eq_true (show decide _=true from hn)).2;have hg:∀ k:Nat,k < nms.length->qab nms nms.length (nms.getD k ByteArray.empty)=(k:Int)+1:=fun k hk=>zbp (fun i h=>(hd i h).2) nms.length (Nat.le_refl _) k hk
 refine ⟨?_,by have:=zcq hg (p:=P) (by rw [h1]; exact h2); rw [h1] at this; exact this⟩;unfold wak;rw [hn,if_neg (by simp),if_neg];intro hany;obtain ⟨s,hs,he⟩:=List.any_eq_true.1 hany;have hall:=(va6 (P:=fun s=>qab nms nms.length s ≠ 0) (nms:=nms) (l:=jc (P.terms Mo.one)) (fun x hx k hk hp=>by
  have hkn:=gba (p:=P) (by rw [h1]; exact h2) x hx k hk hp
  rw [hg k hkn]; omega)).1
 have:=Tm.fold_all (a:=fun _=>0) _ [] hall (by simp) s hs;exact this (by simpa using he)
def vaq (nms:List ByteArray) (x:Mx):Prop:=∀ (v xv nv:Value) (w:World) (p q:Nat->Prop),wan 20 (x.bodyF nms).norm (x.bodyF nms).plain->TrV w p (x.bodyF nms).plain v->MxV w q x xv->SlR (fun _ (s:ByteArray) x=>x=.string s) w nv nms->Calls Tryz.prog 36 #[v,xv,nv] w (qaj true w)
theorem jak.seven {w:World} {ad:Addr} {m:Mx} {s A K:Value} (h:jak w (ad.add (1 * 7)) m s A K):w.cell? ⟨ad.block,ad.off+7,none⟩=some (.int .i64 m.kind)/\w.cell? ⟨ad.block,ad.off+7+1,none⟩=some (.int .i64 m.rel)/\w.cell? ⟨ad.block,ad.off+7+2,none⟩=some (.int .i64 m.p.lv)/\w.cell? ⟨ad.block,ad.off+7+3,none⟩=some (.bool m.p.neg)/\w.cell? ⟨ad.block,ad.off+7+4,none⟩=some s/\w.cell? ⟨ad.block,ad.off+7+5,none⟩=some A/\w.cell? ⟨ad.block,ad.off+7+6,none⟩=some K:=by
 obtain ⟨h0,h1,h2,h3,h4,h5,h6⟩:=h;exact ⟨by simpa [Addr.add] using h0,by simpa [Addr.add] using h1,by simpa [Addr.add] using h2,by simpa [Addr.add] using h3,by simpa [Addr.add] using h4,by simpa [Addr.add] using h5,by simpa [Addr.add] using h6⟩
theorem xb7 (nms:List ByteArray):vaq nms (wax true):=by
 intro v xv nv w p q hF hv hx hs;have HS:=Lib.hid hs;obtain ⟨A0,n0,c0,A,c,rfl,hnat,hl1,hl2,hat⟩:=hv.open_;obtain ⟨B0,j0,f0,B,j1,f1,K,f2,rfl,hpl,hl3,hl4,hxk⟩:=hx.open_;obtain ⟨NA,cn,rfl,hn1,hn2,-⟩:=hs;clear hnat hl1 hl2 hat hv hx hpl hl3 hl4 hxk hF;show Calls Tryz.prog 36 #[.agg #[.int .i64 8,.bool false,.slice A0 n0 c0,.string ⟨#[]⟩,.int .i64 0,.int .i64 0,.bool true,.bool false,.slice A 0 c],.agg #[.int .i64 1,.int .i64 0,.int .i64 0,.bool false,.slice B0 j0 f0,.slice B j1 f1,.slice K 0 f2],.slice NA nms.length cn] w (qaj true w);obtain ⟨W,hW⟩:∃ W,(w.alloc (.cells #[.int .i64 8,.bool false,.slice A0 n0 c0,.string ⟨#[]⟩,.int .i64 0,.int .i64 0,.bool true,.bool false,.slice A 0 c] 29)).alloc (.cells #[.int .i64 1,.int .i64 0,.int .i64 0,.bool false,.slice B0 j0 f0,.slice B j1 f1,.slice K 0 f2] 45)=W:=⟨_,rfl⟩;have hWx:Ext w W:=by rw [<- hW]; exact ((Ext.refl w).alloc _).alloc _
 have hWs:W.heap.size=w.heap.size+1+1:=by rw [<- hW]; simp
 have hb:W.cell? ⟨w.heap.size,0,none⟩=some (.int .i64 8)/\W.cell? ⟨w.heap.size,1,none⟩=some (.bool false)/\W.cell? ⟨w.heap.size,2,none⟩=some (.slice A0 n0 c0)/\W.cell? ⟨w.heap.size,3,none⟩=some (.string ⟨#[]⟩)/\W.cell? ⟨w.heap.size,4,none⟩=some (.int .i64 0)/\W.cell? ⟨w.heap.size,5,none⟩=some (.int .i64 0)/\W.cell? ⟨w.heap.size,6,none⟩=some (.bool true)/\W.cell? ⟨w.heap.size,7,none⟩=some (.bool false)/\W.cell? ⟨w.heap.size,8,none⟩=some (.slice A 0 c)/\W.cell? ⟨w.heap.size+1,0,none⟩=some (.int .i64 1)/\W.cell? ⟨w.heap.size+1,1,none⟩=some (.int .i64 0)/\W.cell? ⟨w.heap.size+1,2,none⟩=some (.int .i64 0)/\W.cell? ⟨w.heap.size+1,3,none⟩=some (.bool false)/\W.cell? ⟨w.heap.size+1,4,none⟩=some (.slice B0 j0 f0)/\W.cell? ⟨w.heap.size+1,5,none⟩=some (.slice B j1 f1)/\W.cell? ⟨w.heap.size+1,6,none⟩=some (.slice K 0 f2):=by rw [<- hW]; refine ⟨?_,?_,?_,?_,?_,?_,?_,?_,?_,?_,?_,?_,?_,?_,?_,?_⟩ <;> simp [go_sem]
 have HWX:=Lib.hid hWx;have HB:Hid (∀ W',Ext W W'->(W'.cell? ⟨w.heap.size,0,none⟩=some (.int .i64 8)/\W'.cell? ⟨w.heap.size,1,none⟩=some (.bool false)/\W'.cell? ⟨w.heap.size,2,none⟩=some (.slice A0 n0 c0)/\W'.cell? ⟨w.heap.size,3,none⟩=some (.string ⟨#[]⟩)/\W'.cell? ⟨w.heap.size,4,none⟩=some (.int .i64 0)/\W'.cell? ⟨w.heap.size,5,none⟩=some (.int .i64 0)/\W'.cell? ⟨w.heap.size,6,none⟩=some (.bool true)/\W'.cell? ⟨w.heap.size,7,none⟩=some (.bool false)/\W'.cell? ⟨w.heap.size,8,none⟩=some (.slice A 0 c)/\W'.cell? ⟨w.heap.size+1,0,none⟩=some (.int .i64 1)/\W'.cell? ⟨w.heap.size+1,1,none⟩=some (.int .i64 0)/\W'.cell? ⟨w.heap.size+1,2,none⟩=some (.int .i64 0)/\W'.cell? ⟨w.heap.size+1,3,none⟩=some (.bool false)/\W'.cell? ⟨w.heap.size+1,4,none⟩=some (.slice B0 j0 f0)/\W'.cell? ⟨w.heap.size+1,5,none⟩=some (.slice B j1 f1)/\W'.cell? ⟨w.heap.size+1,6,none⟩=some (.slice K 0 f2))):=Lib.hid (by
  intro W' hx;have k:∀ j,W'.cell? ⟨w.heap.size,j,none⟩=W.cell? ⟨w.heap.size,j,none⟩:=fun j=>hx.cell (p:=⟨w.heap.size,j,none⟩) (by show w.heap.size < _; omega)
  have k':∀ j,W'.cell? ⟨w.heap.size+1,j,none⟩=W.cell? ⟨w.heap.size+1,j,none⟩:=fun j=>hx.cell (p:=⟨w.heap.size+1,j,none⟩) (by show w.heap.size+1 < _; omega)
  obtain ⟨b0,b1,b2,b3,b4,b5,b6,b7,b8,d0,d1,d2,d3,d4,d5,d6⟩:=hb
  exact ⟨(k 0).trans b0,(k 1).trans b1,(k 2).trans b2,(k 3).trans b3,(k 4).trans b4,(k 5).trans b5,(k 6).trans b6,(k 7).trans b7,(k 8).trans b8,(k' 0).trans d0,(k' 1).trans d1,(k' 2).trans d2,(k' 3).trans d3,(k' 4).trans d4,(k' 5).trans d5,(k' 6).trans d6⟩)
 obtain ⟨b0,b1,b2,b3,b4,b5,b6,b7,b8,d0,d1,d2,d3,d4,d5,d6⟩:=hb;clear hWx;go_enter Tryz.func36,Tryz.ntmps36;go_wp2_with fail;go_ret;exact ⟨rfl,HWX.out⟩
theorem xb0 (nms:List ByteArray):vaq nms (wax false):=by
 intro v xv nv w p q hF hv hx hs;have HS:=Lib.hid hs;obtain ⟨A0,n0,c0,A,c,rfl,hnat,hl1,hl2,hat⟩:=hv.open_;obtain ⟨B0,j0,f0,B,j1,f1,K,f2,rfl,hpl,hl3,hl4,hxk⟩:=hx.open_;obtain ⟨NA,cn,rfl,hn1,hn2,-⟩:=hs;clear hnat hl1 hl2 hat hv hx hpl hl3 hl4 hxk hF;show Calls Tryz.prog 36 #[.agg #[.int .i64 8,.bool false,.slice A0 n0 c0,.string ⟨#[]⟩,.int .i64 0,.int .i64 0,.bool false,.bool false,.slice A 0 c],.agg #[.int .i64 0,.int .i64 0,.int .i64 0,.bool false,.slice B0 j0 f0,.slice B j1 f1,.slice K 0 f2],.slice NA nms.length cn] w (qaj true w);obtain ⟨W,hW⟩:∃ W,(w.alloc (.cells #[.int .i64 8,.bool false,.slice A0 n0 c0,.string ⟨#[]⟩,.int .i64 0,.int .i64 0,.bool false,.bool false,.slice A 0 c] 29)).alloc (.cells #[.int .i64 0,.int .i64 0,.int .i64 0,.bool false,.slice B0 j0 f0,.slice B j1 f1,.slice K 0 f2] 45)=W:=⟨_,rfl⟩;have hWx:Ext w W:=by rw [<- hW]; exact ((Ext.refl w).alloc _).alloc _
 have hWs:W.heap.size=w.heap.size+1+1:=by rw [<- hW]; simp
 have hb:W.cell? ⟨w.heap.size,0,none⟩=some (.int .i64 8)/\W.cell? ⟨w.heap.size,1,none⟩=some (.bool false)/\W.cell? ⟨w.heap.size,2,none⟩=some (.slice A0 n0 c0)/\W.cell? ⟨w.heap.size,3,none⟩=some (.string ⟨#[]⟩)/\W.cell? ⟨w.heap.size,4,none⟩=some (.int .i64 0)/\W.cell? ⟨w.heap.size,5,none⟩=some (.int .i64 0)/\W.cell? ⟨w.heap.size,6,none⟩=some (.bool false)/\W.cell? ⟨w.heap.size,7,none⟩=some (.bool false)/\W.cell? ⟨w.heap.size,8,none⟩=some (.slice A 0 c)/\W.cell? ⟨w.heap.size+1,0,none⟩=some (.int .i64 0)/\W.cell? ⟨w.heap.size+1,1,none⟩=some (.int .i64 0)/\W.cell? ⟨w.heap.size+1,2,none⟩=some (.int .i64 0)/\W.cell? ⟨w.heap.size+1,3,none⟩=some (.bool false)/\W.cell? ⟨w.heap.size+1,4,none⟩=some (.slice B0 j0 f0)/\W.cell? ⟨w.heap.size+1,5,none⟩=some (.slice B j1 f1)/\W.cell? ⟨w.heap.size+1,6,none⟩=some (.slice K 0 f2):=by rw [<- hW]; refine ⟨?_,?_,?_,?_,?_,?_,?_,?_,?_,?_,?_,?_,?_,?_,?_,?_⟩ <;> simp [go_sem]
 have HWX:=Lib.hid hWx;have HB:Hid (∀ W',Ext W W'->(W'.cell? ⟨w.heap.size,0,none⟩=some (.int .i64 8)/\W'.cell? ⟨w.heap.size,1,none⟩=some (.bool false)/\W'.cell? ⟨w.heap.size,2,none⟩=some (.slice A0 n0 c0)/\W'.cell? ⟨w.heap.size,3,none⟩=some (.string ⟨#[]⟩)/\W'.cell? ⟨w.heap.size,4,none⟩=some (.int .i64 0)/\W'.cell? ⟨w.heap.size,5,none⟩=some (.int .i64 0)/\W'.cell? ⟨w.heap.size,6,none⟩=some (.bool false)/\W'.cell? ⟨w.heap.size,7,none⟩=some (.bool false)/\W'.cell? ⟨w.heap.size,8,none⟩=some (.slice A 0 c)/\W'.cell? ⟨w.heap.size+1,0,none⟩=some (.int .i64 0)/\W'.cell? ⟨w.heap.size+1,1,none⟩=some (.int .i64 0)/\W'.cell? ⟨w.heap.size+1,2,none⟩=some (.int .i64 0)/\W'.cell? ⟨w.heap.size+1,3,none⟩=some (.bool false)/\W'.cell? ⟨w.heap.size+1,4,none⟩=some (.slice B0 j0 f0)/\W'.cell? ⟨w.heap.size+1,5,none⟩=some (.slice B j1 f1)/\W'.cell? ⟨w.heap.size+1,6,none⟩=some (.slice K 0 f2))):=Lib.hid (by
  intro W' hx;have k:∀ j,W'.cell? ⟨w.heap.size,j,none⟩=W.cell? ⟨w.heap.size,j,none⟩:=fun j=>hx.cell (p:=⟨w.heap.size,j,none⟩) (by show w.heap.size < _; omega)
  have k':∀ j,W'.cell? ⟨w.heap.size+1,j,none⟩=W.cell? ⟨w.heap.size+1,j,none⟩:=fun j=>hx.cell (p:=⟨w.heap.size+1,j,none⟩) (by show w.heap.size+1 < _; omega)
  obtain ⟨b0,b1,b2,b3,b4,b5,b6,b7,b8,d0,d1,d2,d3,d4,d5,d6⟩:=hb
  exact ⟨(k 0).trans b0,(k 1).trans b1,(k 2).trans b2,(k 3).trans b3,(k 4).trans b4,(k 5).trans b5,(k 6).trans b6,(k 7).trans b7,(k 8).trans b8,(k' 0).trans d0,(k' 1).trans d1,(k' 2).trans d2,(k' 3).trans d3,(k' 4).trans d4,(k' 5).trans d5,(k' 6).trans d6⟩)
 obtain ⟨b0,b1,b2,b3,b4,b5,b6,b7,b8,d0,d1,d2,d3,d4,d5,d6⟩:=hb;clear hWx;go_enter Tryz.func36,Tryz.ntmps36;go_wp2_with fail;go_ret;exact ⟨rfl,HWX.out⟩
/- Law 38: says of a conjunction or disjunction. -/
set_option maxRecDepth 100000
set_option maxHeartbeats 8000000
theorem qb7 {nms:List ByteArray} {k:Int} {a b:Mx} (hk:k=3\/k=4) (iha:vaq nms a) (ihb:vaq nms b):vaq nms (gab k a b):=by
 intro v xv nv w p q hF hv hx hs;have HS:=Lib.hid hs;obtain ⟨kk,hkk,hsh,hfa,hfb⟩:∃ kk,((k=3/\kk=11)\/(k=4/\kk=12))/\((gab k a b).bodyF nms).plain=.mk { nd0 with kind:=kk } [(a.bodyF nms).plain,(b.bodyF nms).plain]/\wan 20 (a.bodyF nms).norm (a.bodyF nms).plain/\wan 20 (b.bodyF nms).norm (b.bodyF nms).plain:=by
  rcases hk with rfl | rfl
  · obtain ⟨-,x,y,hxy,hfa,hfb⟩:=hF;injection hxy with h1 h2
    injection h2 with h2 _
    subst h1 h2;exact ⟨11,.inl ⟨rfl,rfl⟩,rfl,hfa,hfb⟩
  · obtain ⟨-,x,y,hxy,hfa,hfb⟩:=hF;injection hxy with h1 h2
    injection h2 with h2 _
    subst h1 h2;exact ⟨12,.inr ⟨rfl,rfl⟩,rfl,hfa,hfb⟩
 rw [hsh] at hv;obtain ⟨A0,n0,c0,A,c,rfl,hnat,hl1,hl2,hat⟩:=hv.open_;obtain ⟨B0,j0,f0,B,j1,f1,K,f2,rfl,hpl,hl3,hl4,hxk⟩:=hx.open_;obtain ⟨NA,cn,rfl,hn1,hn2,-⟩:=hs
 change ui w p [(a.bodyF nms).plain,(b.bodyF nms).plain] A 0 at hat
 change jg w q [a,b] K 0 at hxk
 obtain ⟨ad,C0,m0,g0,C1,m1,g1,rfl,hadb,hka,hta⟩:=hat.kid0 (by simp);obtain ⟨ad2,D0,m2,g2,D1,m3,g3,hA,-,hkb,htb⟩:=hat.kid 1 (by simp);injection hA with hA
 subst hA;obtain ⟨ad',E0,i0,o0,E1,i1,o1,E2,i2,o2,rfl,hadb',hma,hxa⟩:=hxk.kid 0 (by simp);obtain ⟨ad2,F0,i3,o3,F1,i4,o4,F2,i5,o5,hA,-,hmb,hxb⟩:=hxk.kid 1 (by simp);injection hA with hA
 subst hA;rw [Nat.zero_mul,Addr.add_zero'] at hma;simp only [List.getElem_cons_zero,List.getElem_cons_succ] at hka hta hkb htb hma hxa hmb hxb;have HIA:=Lib.hid (fun (W':World) (hx:Ext w W')=>iha _ _ _ W' p q hfa (hta.ext hx) (hxa.ext hx) (SlR.ext HS.out (fun _ _ h=>h) hx));have HIB:=Lib.hid (fun (W':World) (hx:Ext w W')=>ihb _ _ _ W' p q hfb (htb.ext hx) (hxb.ext hx) (SlR.ext HS.out (fun _ _ h=>h) hx));have hkb9:=fun (W':World) (hx:Ext w W')=>(hkb.ext hx (by rw [ja]; exact hadb)).nine
 have hmb7:=fun (W':World) (hx:Ext w W')=>(hmb.ext hx (by rw [ja]; exact hadb')).seven
 have HKA:=Lib.hid (fun (W':World) (hx:Ext w W')=>hka.ext hx hadb);have HMA:=Lib.hid (fun (W':World) (hx:Ext w W')=>hma.ext hx hadb');have HKB:=Lib.hid hkb9;have HMB:=Lib.hid hmb7;clear hnat hl1 hl2 hat hv hx hpl hl3 hl4 hxk hfa hfb hka hta hkb htb hma hxa hmb hxb hkb9 hmb7 iha ihb hsh hF hk;unfold ndV mxV at HIA HIB;generalize (a.bodyF nms).plain.d=da at *;generalize (b.bodyF nms).plain.d=db at *;show Calls Tryz.prog 36 #[.agg #[.int .i64 kk,.bool false,.slice A0 n0 c0,.string ⟨#[]⟩,.int .i64 0,.int .i64 0,.bool false,.bool false,.slice (some ad) 2 c],.agg #[.int .i64 k,.int .i64 0,.int .i64 0,.bool false,.slice B0 j0 f0,.slice B j1 f1,.slice (some ad') 2 f2],.slice NA nms.length cn] w (qaj true w);obtain ⟨W,hW⟩:∃ W,(w.alloc (.cells #[.int .i64 kk,.bool false,.slice A0 n0 c0,.string ⟨#[]⟩,.int .i64 0,.int .i64 0,.bool false,.bool false,.slice (some ad) 2 c] 29)).alloc (.cells #[.int .i64 k,.int .i64 0,.int .i64 0,.bool false,.slice B0 j0 f0,.slice B j1 f1,.slice (some ad') 2 f2] 45)=W:=⟨_,rfl⟩;have hWx:Ext w W:=by rw [<- hW]; exact ((Ext.refl w).alloc _).alloc _
 have hWs:W.heap.size=w.heap.size+1+1:=by rw [<- hW]; simp
 have hb:W.cell? ⟨w.heap.size,0,none⟩=some (.int .i64 kk)/\W.cell? ⟨w.heap.size,1,none⟩=some (.bool false)/\W.cell? ⟨w.heap.size,2,none⟩=some (.slice A0 n0 c0)/\W.cell? ⟨w.heap.size,3,none⟩=some (.string ⟨#[]⟩)/\W.cell? ⟨w.heap.size,4,none⟩=some (.int .i64 0)/\W.cell? ⟨w.heap.size,5,none⟩=some (.int .i64 0)/\W.cell? ⟨w.heap.size,6,none⟩=some (.bool false)/\W.cell? ⟨w.heap.size,7,none⟩=some (.bool false)/\W.cell? ⟨w.heap.size,8,none⟩=some (.slice (some ad) 2 c)/\W.cell? ⟨w.heap.size+1,0,none⟩=some (.int .i64 k)/\W.cell? ⟨w.heap.size+1,1,none⟩=some (.int .i64 0)/\W.cell? ⟨w.heap.size+1,2,none⟩=some (.int .i64 0)/\W.cell? ⟨w.heap.size+1,3,none⟩=some (.bool false)/\W.cell? ⟨w.heap.size+1,4,none⟩=some (.slice B0 j0 f0)/\W.cell? ⟨w.heap.size+1,5,none⟩=some (.slice B j1 f1)/\W.cell? ⟨w.heap.size+1,6,none⟩=some (.slice (some ad') 2 f2):=by rw [<- hW]; refine ⟨?_,?_,?_,?_,?_,?_,?_,?_,?_,?_,?_,?_,?_,?_,?_,?_⟩ <;> simp [go_sem]
 have HWX:=Lib.hid hWx;have HB:Hid (∀ W',Ext W W'->(W'.cell? ⟨w.heap.size,0,none⟩=some (.int .i64 kk)/\W'.cell? ⟨w.heap.size,1,none⟩=some (.bool false)/\W'.cell? ⟨w.heap.size,2,none⟩=some (.slice A0 n0 c0)/\W'.cell? ⟨w.heap.size,3,none⟩=some (.string ⟨#[]⟩)/\W'.cell? ⟨w.heap.size,4,none⟩=some (.int .i64 0)/\W'.cell? ⟨w.heap.size,5,none⟩=some (.int .i64 0)/\W'.cell? ⟨w.heap.size,6,none⟩=some (.bool false)/\W'.cell? ⟨w.heap.size,7,none⟩=some (.bool false)/\W'.cell? ⟨w.heap.size,8,none⟩=some (.slice (some ad) 2 c)/\W'.cell? ⟨w.heap.size+1,0,none⟩=some (.int .i64 k)/\W'.cell? ⟨w.heap.size+1,1,none⟩=some (.int .i64 0)/\W'.cell? ⟨w.heap.size+1,2,none⟩=some (.int .i64 0)/\W'.cell? ⟨w.heap.size+1,3,none⟩=some (.bool false)/\W'.cell? ⟨w.heap.size+1,4,none⟩=some (.slice B0 j0 f0)/\W'.cell? ⟨w.heap.size+1,5,none⟩=some (.slice B j1 f1)/\W'.cell? ⟨w.heap.size+1,6,none⟩=some (.slice (some ad') 2 f2))):=Lib.hid (by
  intro W' hx;have k:∀ j,W'.cell? ⟨w.heap.size,j,none⟩=W.cell? ⟨w.heap.size,j,none⟩:=fun j=>hx.cell (p:=⟨w.heap.size,j,none⟩) (by show w.heap.size < _; omega)
  have k':∀ j,W'.cell? ⟨w.heap.size+1,j,none⟩=W.cell? ⟨w.heap.size+1,j,none⟩:=fun j=>hx.cell (p:=⟨w.heap.size+1,j,none⟩) (by show w.heap.size+1 < _; omega)
  obtain ⟨b0,b1,b2,b3,b4,b5,b6,b7,b8,d0,d1,d2,d3,d4,d5,d6⟩:=hb
  exact ⟨(k 0).trans b0,(k 1).trans b1,(k 2).trans b2,(k 3).trans b3,(k 4).trans b4,(k 5).trans b5,(k 6).trans b6,(k 7).trans b7,(k 8).trans b8,(k' 0).trans d0,(k' 1).trans d1,(k' 2).trans d2,(k' 3).trans d3,(k' 4).trans d4,(k' 5).trans d5,(k' 6).trans d6⟩)
 obtain ⟨b0,b1,b2,b3,b4,b5,b6,b7,b8,d0,d1,d2,d3,d4,d5,d6⟩:=hb;clear hWx;rcases hkk with ⟨rfl,rfl⟩ | ⟨rfl,rfl⟩
 all_goals
  have Y0:=Lib.hid ((Ext.refl W).drew);go_enter Tryz.func36,Tryz.ntmps36;go_upto_region 14 with fail;clear hW b0 b1 b2 b3 b4 b5 b6 b7 b8 d0 d1 d2 d3 d4 d5 d6;refine wp_region_held_drew (S:=fun wr=>Ext W wr) (by kernel_rfl) Y0.out (fun hHeld=>?_);refine tk 0 ?_;refine tk 1 ?_ (hy:=Or.inl ⟨by rfl,by intro w' hSw; obtain ⟨b0,b1,b2,b3,b4,b5,b6,b7,b8,d0,d1,d2,d3,d4,d5,d6⟩:=HB.out w' hSw; go_simp; (try (with_reducible rfl))⟩);refine tk 2 ?_;refine tk 3 ?_;refine tk 4 ?_;refine tk 5 ?_;refine tk 6 ?_ (hy:=Or.inl ⟨by rfl,by intro w' hSw; obtain ⟨b0,b1,b2,b3,b4,b5,b6,b7,b8,d0,d1,d2,d3,d4,d5,d6⟩:=HB.out w' hSw; go_simp; (try (with_reducible rfl))⟩);refine tk 7 ?_;refine tk 8 ?_ (hy:=Or.inl ⟨by rfl,by intro w' hSw; obtain ⟨k0,k1,k2,k3,k4,k5,k6,k7,k8⟩:=HKA.out w' (HWX.out.trans hSw); go_simp; (try (with_reducible rfl))⟩);refine tk 9 ?_;refine tk 10 ?_ (hy:=Or.inl ⟨by rfl,by intro w' hSw; obtain ⟨b0,b1,b2,b3,b4,b5,b6,b7,b8,d0,d1,d2,d3,d4,d5,d6⟩:=HB.out w' hSw; go_simp; (try (with_reducible rfl))⟩);refine tk 11 ?_;refine tk 12 ?_ (hy:=Or.inl ⟨by rfl,by intro w' hSw; obtain ⟨k0,k1,k2,k3,k4,k5,k6⟩:=HMA.out w' (HWX.out.trans hSw); go_simp; (try (with_reducible rfl))⟩);refine tk 13 ?_;refine wpAnyH_ready (rs:=[14]) (by kernel_rfl) (by simp) ?_;refine AllReadyH.cons rfl (fun K hK=>?_) AllReadyH.nil;go_simp
  go_at_call 36
  refine (HIA.out _ (HWX.out.trans Y0.out)).mono ?_;rintro e w3 ⟨rfl,y3⟩;have z1:Ext W w3:=Y0.out.trans y3;refine hK.out _ _ z1 (fun hHeld=>?_);clear hK K
  try simp only [Act.put,List.getElem_toArray,List.getElem_cons_zero,List.getElem_cons_succ,List.setIfInBounds_toArray,List.set_cons_zero,List.set_cons_succ]
  refine tk 15 ?_;refine tk 16 ?_;refine tk 17 ?_;refine tk 18 ?_ (hy:=Or.inl ⟨by rfl,by intro w' hSw; obtain ⟨b0,b1,b2,b3,b4,b5,b6,b7,b8,d0,d1,d2,d3,d4,d5,d6⟩:=HB.out w' hSw; go_simp; (try (with_reducible rfl))⟩);refine tk 19 ?_;refine tk 20 ?_ (hy:=Or.inl ⟨by rfl,by intro w' hSw; obtain ⟨k0,k1,k2,k3,k4,k5,k6,k7,k8⟩:=HKB.out w' (HWX.out.trans hSw); go_simp; (try (with_reducible rfl))⟩);refine tk 21 ?_;refine tk 22 ?_ (hy:=Or.inl ⟨by rfl,by intro w' hSw; obtain ⟨b0,b1,b2,b3,b4,b5,b6,b7,b8,d0,d1,d2,d3,d4,d5,d6⟩:=HB.out w' hSw; go_simp; (try (with_reducible rfl))⟩);refine tk 23 ?_;refine tk 24 ?_ (hy:=Or.inl ⟨by rfl,by intro w' hSw; obtain ⟨k0,k1,k2,k3,k4,k5,k6⟩:=HMB.out w' (HWX.out.trans hSw); go_simp; (try (with_reducible rfl))⟩);refine tk 25 ?_;refine wpAnyH_ready (rs:=[26]) (by kernel_rfl) (by simp) ?_;refine AllReadyH.cons rfl (fun K hK=>?_) AllReadyH.nil;go_simp
  go_at_call 36
  refine (HIB.out _ (HWX.out.trans z1)).mono ?_;rintro e w4 ⟨rfl,y4⟩;have z2:Ext W w4:=Ext.trans z1 y4;refine hK.out _ _ z2 (fun hHeld=>?_);clear hK K
  try simp only [Act.put,List.getElem_toArray,List.getElem_cons_zero,List.getElem_cons_succ,List.setIfInBounds_toArray,List.set_cons_zero,List.set_cons_succ]
  refine tk 27 ?_;refine tk 28 ?_;refine wpAnyH_done (by kernel_rfl) ?_ _;go_wp2_with fail;go_ret;exact ⟨rfl,HWX.out.trans z2⟩
/- Law 38: says of an atom. -/
set_option maxRecDepth 100000
set_option maxHeartbeats 8000000
theorem ucq {nms:List ByteArray} (hn:jy nms=true) {r:Int} {P:Pl} (hr:zad r=r) (hA:xa8 nms P):vaq nms (ubc r P):=by
 intro v xv nv w p q hF hv hx hs;have HS:=Lib.hid hs;obtain ⟨A0,n0,c0,A,c,rfl,hnat,hl1,hl2,hat⟩:=hv.open_;obtain ⟨B0,j0,f0,B,j1,f1,K,f2,rfl,hpl,hl3,hl4,hxk⟩:=hx.open_;obtain ⟨NA,cn,rfl,hn1,hn2,-⟩:=hs;obtain ⟨-,-,-,-,x,y,hxy,hfa,-⟩:=hF;obtain ⟨rfl,rfl⟩:(sumT (jc (P.terms Mo.one)) nms).plain=x/\(Tm.num 0).plain=y:=by
  injection hxy with h1 h2
  injection h2 with h2 _
  exact ⟨h1,h2⟩
 change ui w p [(sumT (jc (P.terms Mo.one)) nms).plain,(Tm.num 0).plain] A 0 at hat
 change PlV w q P (plV P (.slice B0 j0 f0) (.slice B j1 f1)) at hpl
 obtain ⟨B0',j0',f0',B',f1',e,-⟩:=id hpl.open_;unfold plV at e;simp only [Value.agg.injEq,Array.mk.injEq,List.cons.injEq,and_true,true_and,Value.slice.injEq] at e;obtain ⟨-,⟨-,rfl,-⟩⟩:=e;obtain ⟨herr,hpol⟩:=xce hn hA;obtain ⟨-,-,hsz,hdm,hwt⟩:=hA;have hbd:=qbw (nms:=nms) (l:=jc (P.terms Mo.one)) (fun x hx=>(jr hx).1);rw [va7] at hbd;rw [vb6] at hfa;have hszT:=(va6 (P:=fun _=>True) (nms:=nms) (l:=jc (P.terms Mo.one)) (fun _ _ _ _ _=>trivial)).2;have hln:=Pl.terms_len P Mo.one;have hsl:=xaq (P.terms Mo.one);obtain ⟨ad,C0,m0,g0,C1,m1,g1,rfl,hadb,hka,hta⟩:=hat.kid0 (by simp);obtain ⟨ad2,D0,m2,g2,D1,m3,g3,hA,-,hkb,htb⟩:=hat.kid 1 (by simp);injection hA with hA
 subst hA;simp only [List.getElem_cons_zero,List.getElem_cons_succ] at hka hta hkb htb;obtain rfl:m2=0:=by
  obtain ⟨A0',n0',c0',A',c',e,⟨_,_,e2,_⟩,-⟩:=htb.open_;unfold ndV at e;simp only [Value.agg.injEq,Array.mk.injEq,List.cons.injEq,and_true,true_and] at e;rw [<- e.1] at e2;simp only [Value.slice.injEq] at e2;rw [e2.2.1];show (dg (0:Int).natAbs).length=0;simp [qm]
 obtain ⟨t,ht⟩:∃ t,sumT (jc (P.terms Mo.one)) nms=t:=⟨_,rfl⟩;rw [ht] at herr hpol hwt hbd hfa hszT hka hta;have HOF:=Lib.hid (fun (W':World) (hx:Ext w W')=>jb2 (L:=20) (by omega) t _ hfa _ W' (hta.ext hx));have HPO:=Lib.hid (fun (W':World) (u:Value) (hx:Ext w W') (hu:TmV W' 20 t u)=>ub9 (L:=20) (by omega) t hu (SlR.ext HS.out (fun _ _ h=>h) hx) hwt (by omega) (by
  have:=t.free_len (fun _=>0) [];unfold Tm.names1;simp only [List.length_nil] at this
  omega))
 unfold ycp at HPO;rw [herr,if_pos rfl,hpol] at HPO;have HSP:=Lib.hid (fun (W':World) (u:Value) (q':Nat->Prop) (hx:Ext w W') (hu:PlV W' q' P u)=>ycw P P u _ (by omega) hu (hpl.ext hx));rw [ga1 rfl] at HSP;have HPD:=Lib.hid (fun (W':World) (hx:Ext w W')=>wb1 (L:=20) (by omega) hfa (hta.ext hx) (hpl.ext hx) (by omega) (by omega) hbd.1 hbd.2);have hkb9:=fun (W':World) (hx:Ext w W')=>(hkb.ext hx (by rw [ja]; exact hadb)).nine
 have HKA:=Lib.hid (fun (W':World) (hx:Ext w W')=>hka.ext hx hadb);have HKB:=Lib.hid hkb9;clear hnat hl1 hl2 hat hv hx hpl hl3 hl4 hxk hfa hxy hka hta hkb htb hkb9 hwt hbd herr hpol hsz hdm hszT hln hsl ht hn;unfold ndV plV at HPD;unfold ndV at HOF;unfold plV at HSP;generalize t.plain.d=da at *;have hrr:yan (zad r)=r:=by
  rw [hr];unfold yan;rw [if_neg];intro h;unfold zad at hr;rw [if_pos h] at hr;omega
 show Calls Tryz.prog 36 #[.agg #[.int .i64 9,.bool false,.slice A0 n0 c0,.string ⟨#[]⟩,.int .i64 0,.int .i64 (yan (zad r)),.bool false,.bool false,.slice (some ad) 2 c],.agg #[.int .i64 2,.int .i64 r,.int .i64 P.lv,.bool P.neg,.slice B0 j0 f0,.slice B P.cs.length f1,.slice K 0 f2],.slice NA nms.length cn] w (qaj true w);rw [hrr];clear hrr hr;obtain ⟨W,hW⟩:∃ W,(w.alloc (.cells #[.int .i64 9,.bool false,.slice A0 n0 c0,.string ⟨#[]⟩,.int .i64 0,.int .i64 r,.bool false,.bool false,.slice (some ad) 2 c] 29)).alloc (.cells #[.int .i64 2,.int .i64 r,.int .i64 P.lv,.bool P.neg,.slice B0 j0 f0,.slice B P.cs.length f1,.slice K 0 f2] 45)=W:=⟨_,rfl⟩;have hWx:Ext w W:=by rw [<- hW]; exact ((Ext.refl w).alloc _).alloc _
 have hWs:W.heap.size=w.heap.size+1+1:=by rw [<- hW]; simp
 have hb:W.cell? ⟨w.heap.size,0,none⟩=some (.int .i64 9)/\W.cell? ⟨w.heap.size,1,none⟩=some (.bool false)/\W.cell? ⟨w.heap.size,2,none⟩=some (.slice A0 n0 c0)/\W.cell? ⟨w.heap.size,3,none⟩=some (.string ⟨#[]⟩)/\W.cell? ⟨w.heap.size,4,none⟩=some (.int .i64 0)/\W.cell? ⟨w.heap.size,5,none⟩=some (.int .i64 r)/\W.cell? ⟨w.heap.size,6,none⟩=some (.bool false)/\W.cell? ⟨w.heap.size,7,none⟩=some (.bool false)/\W.cell? ⟨w.heap.size,8,none⟩=some (.slice (some ad) 2 c)/\W.cell? ⟨w.heap.size+1,0,none⟩=some (.int .i64 2)/\W.cell? ⟨w.heap.size+1,1,none⟩=some (.int .i64 r)/\W.cell? ⟨w.heap.size+1,2,none⟩=some (.int .i64 P.lv)/\W.cell? ⟨w.heap.size+1,3,none⟩=some (.bool P.neg)/\W.cell? ⟨w.heap.size+1,4,none⟩=some (.slice B0 j0 f0)/\W.cell? ⟨w.heap.size+1,5,none⟩=some (.slice B P.cs.length f1)/\W.cell? ⟨w.heap.size+1,6,none⟩=some (.slice K 0 f2):=by rw [<- hW]; refine ⟨?_,?_,?_,?_,?_,?_,?_,?_,?_,?_,?_,?_,?_,?_,?_,?_⟩ <;> simp [go_sem]
 have HWX:=Lib.hid hWx;have HB:Hid (∀ W',Ext W W'->(W'.cell? ⟨w.heap.size,0,none⟩=some (.int .i64 9)/\W'.cell? ⟨w.heap.size,1,none⟩=some (.bool false)/\W'.cell? ⟨w.heap.size,2,none⟩=some (.slice A0 n0 c0)/\W'.cell? ⟨w.heap.size,3,none⟩=some (.string ⟨#[]⟩)/\W'.cell? ⟨w.heap.size,4,none⟩=some (.int .i64 0)/\W'.cell? ⟨w.heap.size,5,none⟩=some (.int .i64 r)/\W'.cell? ⟨w.heap.size,6,none⟩=some (.bool false)/\W'.cell? ⟨w.heap.size,7,none⟩=some (.bool false)/\W'.cell? ⟨w.heap.size,8,none⟩=some (.slice (some ad) 2 c)/\W'.cell? ⟨w.heap.size+1,0,none⟩=some (.int .i64 2)/\W'.cell? ⟨w.heap.size+1,1,none⟩=some (.int .i64 r)/\W'.cell? ⟨w.heap.size+1,2,none⟩=some (.int .i64 P.lv)/\W'.cell? ⟨w.heap.size+1,3,none⟩=some (.bool P.neg)/\W'.cell? ⟨w.heap.size+1,4,none⟩=some (.slice B0 j0 f0)/\W'.cell? ⟨w.heap.size+1,5,none⟩=some (.slice B P.cs.length f1)/\W'.cell? ⟨w.heap.size+1,6,none⟩=some (.slice K 0 f2))):=Lib.hid (by
  intro W' hx;have k:∀ j,W'.cell? ⟨w.heap.size,j,none⟩=W.cell? ⟨w.heap.size,j,none⟩:=fun j=>hx.cell (p:=⟨w.heap.size,j,none⟩) (by show w.heap.size < _; omega)
  have k':∀ j,W'.cell? ⟨w.heap.size+1,j,none⟩=W.cell? ⟨w.heap.size+1,j,none⟩:=fun j=>hx.cell (p:=⟨w.heap.size+1,j,none⟩) (by show w.heap.size+1 < _; omega)
  obtain ⟨b0,b1,b2,b3,b4,b5,b6,b7,b8,d0,d1,d2,d3,d4,d5,d6⟩:=hb
  exact ⟨(k 0).trans b0,(k 1).trans b1,(k 2).trans b2,(k 3).trans b3,(k 4).trans b4,(k 5).trans b5,(k 6).trans b6,(k 7).trans b7,(k 8).trans b8,(k' 0).trans d0,(k' 1).trans d1,(k' 2).trans d2,(k' 3).trans d3,(k' 4).trans d4,(k' 5).trans d5,(k' 6).trans d6⟩)
 obtain ⟨b0,b1,b2,b3,b4,b5,b6,b7,b8,d0,d1,d2,d3,d4,d5,d6⟩:=hb;clear hWx;obtain ⟨k0,k1,k2,k3,k4,k5,k6,k7,k8⟩:=HKA.out W HWX.out;obtain ⟨l0,l1,l2,l3,l4,l5,l6,l7,l8⟩:=HKB.out W HWX.out
 change W.cell? ⟨ad.block,ad.off+9,none⟩=some (.int .i64 1) at l0
 go_enter Tryz.func36,Tryz.ntmps36;go_wp2_with fail;clear hW b0 b1 b2 b3 b4 b5 b6 b7 b8 d0 d1 d2 d3 d4 d5 d6 k0 k1 k2 k3 k4 k5 k6 k7 k8 l0 l1 l2 l3 l4 l5 l6 l7 l8;refine (HOF.out W HWX.out).mono ?_;rintro e w1 ⟨v1,rfl,t1,x1⟩;obtain ⟨T1,u1',rfl⟩:=t1.iface;have HP1:=Lib.hid (HPO.out w1 _ (HWX.out.trans x1) t1);have X1:=Lib.hid x1;clear x1 t1 HOF HPO;go_wp2_with fail;refine HP1.out.mono ?_;rintro e w2 ⟨v2,rfl,p2,x2⟩;obtain ⟨G0,q0,u0,G,u1,rfl,-⟩:=id p2.open_;obtain ⟨V,hV⟩:∃ V,w2.alloc (.cells #[.int .i64 P.lv,.bool P.neg,.slice G0 q0 u0,.slice G P.cs.length u1] 42)=V:=⟨_,rfl⟩;have hVx:Ext w2 V:=by rw [<- hV]; exact (Ext.refl w2).alloc _
 have hVs:V.heap.size=w2.heap.size+1:=by rw [<- hV]; simp
 have hb4:zg V w2.heap.size P (.slice G0 q0 u0) (.slice G P.cs.length u1):=by rw [<- hV]; exact zg.new w2 P _ _ _
 have XV:=Lib.hid (X1.out.trans (x2.trans hVx));have HPV:=Lib.hid (p2.ext hVx);have HB4:Hid (∀ W',Ext V W'->zg W' w2.heap.size P (.slice G0 q0 u0) (.slice G P.cs.length u1)):=Lib.hid (fun W' hx=>hb4.ext hx (by omega));clear x2 p2 hVx hb4 HP1;unfold plV at HPV;unfold plV;have HSS:Hid (∀ W',Ext V W'->(Ext V W'/\W'.cell? ⟨w2.heap.size,0,none⟩=some (.int .i64 P.lv)/\W'.cell? ⟨w2.heap.size,1,none⟩=some (.bool P.neg)/\W'.cell? ⟨w2.heap.size,2,none⟩=some (.slice G0 q0 u0)/\W'.cell? ⟨w2.heap.size,3,none⟩=some (.slice G P.cs.length u1)/\W'.cell? ⟨w.heap.size,8,none⟩=some (.slice (some ad) 2 c)/\W'.cell? ⟨w.heap.size+1,2,none⟩=some (.int .i64 P.lv)/\W'.cell? ⟨w.heap.size+1,3,none⟩=some (.bool P.neg)/\W'.cell? ⟨w.heap.size+1,4,none⟩=some (.slice B0 j0 f0)/\W'.cell? ⟨w.heap.size+1,5,none⟩=some (.slice B P.cs.length f1)/\W'.cell? ad=some (.int .i64 da.kind)/\W'.cell? ⟨ad.block,ad.off+1,none⟩=some (.bool da.neg)/\W'.cell? ⟨ad.block,ad.off+2,none⟩=some (.slice C0 m0 g0)/\W'.cell? ⟨ad.block,ad.off+3,none⟩=some (.string da.name)/\W'.cell? ⟨ad.block,ad.off+4,none⟩=some (.int .i64 da.exp)/\W'.cell? ⟨ad.block,ad.off+5,none⟩=some (.int .i64 da.rel)/\W'.cell? ⟨ad.block,ad.off+6,none⟩=some (.bool da.truth)/\W'.cell? ⟨ad.block,ad.off+7,none⟩=some (.bool da.all)/\W'.cell? ⟨ad.block,ad.off+8,none⟩=some (.slice C1 m1 g1))):=Lib.hid (fun W' hx=>by
  obtain ⟨z0,z1,z2,z3⟩:=HB4.out W' hx;obtain ⟨-,-,-,-,-,-,-,-,b8,-,-,d2,d3,d4,d5,-⟩:=HB.out W' (XV.out.trans hx);obtain ⟨k0,k1,k2,k3,k4,k5,k6,k7,k8⟩:=HKA.out W' (HWX.out.trans (XV.out.trans hx))
  exact ⟨hx,z0,z1,z2,z3,b8,d2,d3,d4,d5,k0,k1,k2,k3,k4,k5,k6,k7,k8⟩)
 have Y0:=Lib.hid ((Ext.refl V).drew);go_upto_region 10 with fail;clear hV
 go_region_held3 (fun W' => Ext V W' /\ W'.cell? ⟨w2.heap.size, 0, none⟩ = some (.int .i64 P.lv) /\ W'.cell? ⟨w2.heap.size, 1, none⟩ = some (.bool P.neg) /\ W'.cell? ⟨w2.heap.size, 2, none⟩ = some (.slice G0 q0 u0) /\ W'.cell? ⟨w2.heap.size, 3, none⟩ = some (.slice G P.cs.length u1) /\ W'.cell? ⟨w.heap.size, 8, none⟩ = some (.slice (some ad) 2 c) /\ W'.cell? ⟨w.heap.size + 1, 2, none⟩ = some (.int .i64 P.lv) /\ W'.cell? ⟨w.heap.size + 1, 3, none⟩ = some (.bool P.neg) /\ W'.cell? ⟨w.heap.size + 1, 4, none⟩ = some (.slice B0 j0 f0) /\ W'.cell? ⟨w.heap.size + 1, 5, none⟩ = some (.slice B P.cs.length f1) /\ W'.cell? ad = some (.int .i64 da.kind) /\ W'.cell? ⟨ad.block, ad.off + 1, none⟩ = some (.bool da.neg) /\ W'.cell? ⟨ad.block, ad.off + 2, none⟩ = some (.slice C0 m0 g0) /\ W'.cell? ⟨ad.block, ad.off + 3, none⟩ = some (.string da.name) /\ W'.cell? ⟨ad.block, ad.off + 4, none⟩ = some (.int .i64 da.exp) /\ W'.cell? ⟨ad.block, ad.off + 5, none⟩ = some (.int .i64 da.rel) /\ W'.cell? ⟨ad.block, ad.off + 6, none⟩ = some (.bool da.truth) /\ W'.cell? ⟨ad.block, ad.off + 7, none⟩ = some (.bool da.all) /\ W'.cell? ⟨ad.block, ad.off + 8, none⟩ = some (.slice C1 m1 g1))
  (first | with_reducible exact HSS.out _ Y0.out | with_reducible exact HSS.out _ z1 | with_reducible exact HSS.out _ z2)
  ((first
    | (go_at_call 23
       refine (HSP.out _ _ _ (HWX.out.trans (XV.out.trans Y0.out)) (HPV.out.ext Y0.out)).mono ?_;rintro e w3 ⟨rfl,y3⟩
       have z1:Ext V w3:=Y0.out.trans y3)
    | (go_at_call 88
       refine (HPD.out _ (HWX.out.trans (XV.out.trans z1))).mono ?_;rintro e w4 ⟨rfl,y4⟩
       have z2:Ext V w4:=Ext.trans z1 y4)))
 all_goals
  have Z2:=Lib.hid z2;clear z1 z2;go_wp2_with fail;go_ret;exact ⟨rfl,HWX.out.trans (XV.out.trans Z2.out)⟩
/- Law 38: the tree of a folded matrix's formula says it. -/
theorem vcq {nms:List ByteArray} (hn:jy nms=true) {x:Mx} (h:FN x):x.each (xa8 nms)->vaq nms x:=by
 induction h with
 | tr b =>
   intro _;cases b
   · exact xb0 nms
   · exact xb7 nms
 | «at» r p =>
   intro he;exact ucq hn (qbf r) (Mx.each_p he)
 | join k a b hk ha hb iha ihb =>
   intro he;have hks:=Mx.each_ks he;have h1:=wa1 hks (t:=a) (by simp [gab,Mx.ks]);have h2:=wa1 hks (t:=b) (by simp [gab,Mx.ks]);exact qb7 hk (iha h1) (ihb h2)
end Go.Proofs.YtaedbimbbeploaaGreatDoor
