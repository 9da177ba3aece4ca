/- Layer 22: recpoly.mul at any two canonical polynomials. -/
import Derived.Test.YtheefiaoimbeiaaGreatDoorMt29
import Derived.Test.YtheefiaoimbeiaaGreatDoorMt23
import Derived.Test.YtheefiaoimbeiaaGreatDoorMt20
import Derived.Test.YtheefiaoimbeiaaGreatDoorMt21
import Derived.Test.YtheefiaoimbeiaaGreatDoorMt27
import Derived.Test.YtheefiaoimbeiaaGreatDoorMt18
import Derived.Test.YtheefiaoimbeiaaGreatDoorMt9
set_option linter.unusedSimpArgs false
set_option linter.unusedVariables false

namespace Go.Proofs.YtheefiaoimbeiaaGreatDoor
open Go.RowKit
theorem wbd : ∀ {cs : List Pl} {c : Pl}, c ∈ cs -> c.sz <= wad cs
 | [],c,h=>by cases h
 | x :: r,c,h=>by
   rw [wad];rcases List.mem_cons.1 h with rfl | h
   · omega
   · have:=wbd h; omega
theorem Pl.cs_sz {p c:Pl} (h:c ∈ p.cs):c.sz < p.sz:=by
 obtain ⟨l,n,d,cs⟩:=p;have:=wbd (cs:=cs) h;rw [Pl.sz]; omega
theorem Fit.cs {p c:Pl} {E D:Nat} (hp:Fit p E D) (h:c ∈ p.cs):Fit c E D:=by
 obtain ⟨l,n,d,cs⟩:=p
 by_cases hl:0 < l
 · exact hp.kid hl h
 · have hc:=hp.can;unfold Pl.Can at hc;rcases hc with hc | hc
   · have h2:c ∈ cs:=h;rw [hc.2.1] at h2;cases h2
   · omega
theorem xcy {w0:World} {E D F G:Nat} (hE:E<=900) (hF:F<=900) (hD:D+G<=17592186044000) (n:Nat):∀ (p q:Pl) (E' D' F' G':Nat),(E'=E/\D'=D/\F'=F/\G'=G)\/(E'=F/\D'=G/\F'=E/\G'=D)->p.sz+q.sz < n->Fit p E' D'->Fit q F' G'->∀ (v u:Value) (w:World),PlV w0 (fun _=>True) p v->PlV w0 (fun _=>True) q u->Ext w0 w ->
 Calls Tryz.prog 131 #[v,u] w (ji (fun i=>w.heap.size<=i) (p.mul q) w):=by
 induction n with
 | zero=>intro p q E' D' F' G' _ h; omega
 | succ n ih =>
 intro p q E' D' F' G' hcase hn hp hq v u w hv hu hx;have hE':E'<=900:=by omega
 have hF':F'<=900:=by omega
 have hD':D'+G'<=17592186044000:=by omega
 by_cases h:p.lv=q.lv/\0 < p.lv
 · exact zcg p q v u hp hq hE' hF' hD' hv hu hx h.1 h.2 (fun a ha b hb x y hax hby W' hW'=>ih a b E' D' F' G' hcase (by have:=Pl.cs_sz ha; have:=Pl.cs_sz hb; omega) (hp.cs ha) (hq.cs hb) x y W' hax hby hW')
 · refine qbs p q v u hp hq (by omega) (by omega) (by omega) hv hu hx (fun he=>?_) (fun a ha x hax W' hW'=>ih a q E' D' F' G' hcase (by have:=Pl.cs_sz ha; omega) (hp.cs ha) hq x u W' hax hu hW') (fun a ha x hax W' hW'=>ih a p F' G' E' D' (by omega) (by have:=Pl.cs_sz ha; omega) (hq.cs ha) hp x v W' hax hv hW');have:=hp.can.lv_nonneg.1;have h3:¬ 0 < p.lv:=fun h0=>h ⟨he,h0⟩
   omega
theorem mul_any {w:World} {qa qb:Nat->Prop} {E D F G:Nat} (p q:Pl) (v u:Value) (hp:Fit p E D) (hq:Fit q F G) (hE:E<=900) (hF:F<=900) (hD:D+G<=17592186044000) (h:PlV w qa p v) (k:PlV w qb q u) :
 Calls Tryz.prog 131 #[v,u] w (ji (fun i=>w.heap.size<=i) (p.mul q) w):=
 xcy hE hF hD (p.sz+q.sz+1) p q E D F G (.inl ⟨rfl,rfl,rfl,rfl⟩) (Nat.lt_succ_self _) hp hq v u w (h.mono fun _ _=>trivial) (k.mono fun _ _=>trivial) (Ext.refl w)
end Go.Proofs.YtheefiaoimbeiaaGreatDoor

/- Layer 22: recpoly.Mul at canonical polynomials. -/
set_option maxRecDepth 100000
set_option maxHeartbeats 8000000
namespace Go.Proofs.YtheefiaoimbeiaaGreatDoor
open Go.RowKit
theorem zck {w:World} {p q:Pl} {E D F G:Nat} {q0:Nat->Prop} (v0:Value) {q1:Nat->Prop} (v1:Value) (h0:PlV w q0 p v0) (h1:PlV w q1 q v1) (hp:Fit p E D) (hq:Fit q F G) (hE:E+F<=900) (hD:D+G<=8796093022000):Calls Tryz.prog 102 #[v0,v1] w (ji (fun b=>w.heap.size<=b) (p.mul q) w):=by
 have H0:=Lib.hid h0;obtain ⟨A0,n0,c0,B0,d0,rfl,-,-,-,-⟩:=h0.open_;clear h0;have H1:=Lib.hid h1;obtain ⟨A1,n1,c1,B1,d1,rfl,-,-,-,-⟩:=h1.open_;clear h1;obtain ⟨W,hW⟩:=n_m (((w.alloc (.cells #[.int .i64 (p).lv,.bool (p).neg,.slice A0 n0 c0,.slice B0 (p).cs.length d0] 44)).alloc (.cells #[.int .i64 (q).lv,.bool (q).neg,.slice A1 n1 c1,.slice B1 (q).cs.length d1] 44)).alloc (.cells #[.int .i64 0,.bool false,.slice none 0 0,.slice none 0 0] 44));have hWx:Ext w W:=by rw [<- hW]; exact (((Ext.refl w).alloc _).alloc _).alloc _
 have hWs:W.heap.size=w.heap.size+1+1+1:=by rw [<- hW]; simp
 have HX0:=Lib.hid hWx;have HS:Hid (∀ W',Ext W W'->(Ext w W'/\W'.cell? ⟨w.heap.size,0,none⟩=some (.int .i64 (p).lv)/\W'.cell? ⟨w.heap.size,1,none⟩=some (.bool (p).neg)/\W'.cell? ⟨w.heap.size,2,none⟩=some (.slice A0 n0 c0)/\W'.cell? ⟨w.heap.size,3,none⟩=some (.slice B0 (p).cs.length d0)/\W'.cell? ⟨w.heap.size+1,0,none⟩=some (.int .i64 (q).lv)/\W'.cell? ⟨w.heap.size+1,1,none⟩=some (.bool (q).neg)/\W'.cell? ⟨w.heap.size+1,2,none⟩=some (.slice A1 n1 c1)/\W'.cell? ⟨w.heap.size+1,3,none⟩=some (.slice B1 (q).cs.length d1))):=by
  have:∀ W',Ext W W'->(Ext w W'/\W'.cell? ⟨w.heap.size,0,none⟩=some (.int .i64 (p).lv)/\W'.cell? ⟨w.heap.size,1,none⟩=some (.bool (p).neg)/\W'.cell? ⟨w.heap.size,2,none⟩=some (.slice A0 n0 c0)/\W'.cell? ⟨w.heap.size,3,none⟩=some (.slice B0 (p).cs.length d0)/\W'.cell? ⟨w.heap.size+1,0,none⟩=some (.int .i64 (q).lv)/\W'.cell? ⟨w.heap.size+1,1,none⟩=some (.bool (q).neg)/\W'.cell? ⟨w.heap.size+1,2,none⟩=some (.slice A1 n1 c1)/\W'.cell? ⟨w.heap.size+1,3,none⟩=some (.slice B1 (q).cs.length d1)):=fun W' hx=>by
   obtain ⟨hc,hf⟩:=hx.cells;refine ⟨hWx.trans hx,?_,?_,?_,?_,?_,?_,?_,?_⟩ <;> (rw [hc _ _ (by omega),<- hW]; simp [go_sem])
  exact this
 have HZ:Hid (yh W (w.heap.size+1+1)):=by
  have:yh W (w.heap.size+1+1):=by
   rw [<- hW];refine ⟨⟨?_,?_,?_,?_⟩,fun i=>?_⟩ <;> simp [go_sem]
  exact this
 have HS2:Hid (∀ W'' u0 u1 u2 u3,Ext W W''->∀ W',W'=(((W''.setCell ⟨w.heap.size+1+1,0,none⟩ u0).setCell ⟨w.heap.size+1+1,1,none⟩ u1).setCell ⟨w.heap.size+1+1,2,none⟩ u2).setCell ⟨w.heap.size+1+1,3,none⟩ u3->(Ext w W'/\W'.cell? ⟨w.heap.size,0,none⟩=some (.int .i64 (p).lv)/\W'.cell? ⟨w.heap.size,1,none⟩=some (.bool (p).neg)/\W'.cell? ⟨w.heap.size,2,none⟩=some (.slice A0 n0 c0)/\W'.cell? ⟨w.heap.size,3,none⟩=some (.slice B0 (p).cs.length d0)/\W'.cell? ⟨w.heap.size+1,0,none⟩=some (.int .i64 (q).lv)/\W'.cell? ⟨w.heap.size+1,1,none⟩=some (.bool (q).neg)/\W'.cell? ⟨w.heap.size+1,2,none⟩=some (.slice A1 n1 c1)/\W'.cell? ⟨w.heap.size+1,3,none⟩=some (.slice B1 (q).cs.length d1))):=by
  have:∀ W'' u0 u1 u2 u3,Ext W W''->∀ W',W'=(((W''.setCell ⟨w.heap.size+1+1,0,none⟩ u0).setCell ⟨w.heap.size+1+1,1,none⟩ u1).setCell ⟨w.heap.size+1+1,2,none⟩ u2).setCell ⟨w.heap.size+1+1,3,none⟩ u3->(Ext w W'/\W'.cell? ⟨w.heap.size,0,none⟩=some (.int .i64 (p).lv)/\W'.cell? ⟨w.heap.size,1,none⟩=some (.bool (p).neg)/\W'.cell? ⟨w.heap.size,2,none⟩=some (.slice A0 n0 c0)/\W'.cell? ⟨w.heap.size,3,none⟩=some (.slice B0 (p).cs.length d0)/\W'.cell? ⟨w.heap.size+1,0,none⟩=some (.int .i64 (q).lv)/\W'.cell? ⟨w.heap.size+1,1,none⟩=some (.bool (q).neg)/\W'.cell? ⟨w.heap.size+1,2,none⟩=some (.slice A1 n1 c1)/\W'.cell? ⟨w.heap.size+1,3,none⟩=some (.slice B1 (q).cs.length d1)):=fun W'' u0 u1 u2 u3 hx W' hW'=>by
   obtain ⟨s1,k0,k1,k2,k3,k4,k5,k6,k7⟩:=HS.out W'' hx;rw [hW'];refine ⟨(((s1.setCell (by simp; try omega) _).setCell (by simp; try omega) _).setCell (by simp; try omega) _).setCell (by simp; try omega) _,?_,?_,?_,?_,?_,?_,?_,?_⟩ <;> rw [World.cell?_setCell_other _ _ _ _ (by simp; try omega),World.cell?_setCell_other _ _ _ _ (by simp; try omega),World.cell?_setCell_other _ _ _ _ (by simp; try omega),World.cell?_setCell_other _ _ _ _ (by simp; try omega)] <;> assumption
  exact this
 have HFP:=Lib.hid hp;have HFQ:=Lib.hid hq;clear hp hq;have HSZ:Hid ((p.mul q).sz<=1099511627776):=Lib.hid (((HFP.out.mul HFQ.out)).copy (by omega));have HDM:Hid ((p.mul q).dm<=35184372088832):=Lib.hid (Nat.le_trans ((HFP.out.mul HFQ.out)).dm (by omega));have HFR:=Lib.hid ((HFP.out.mul HFQ.out));obtain ⟨-,b0,b1,b2,b3,b4,b5,b6,b7⟩:=HS.out W (Ext.refl W);clear hWx;unfold plV at *;go_enter Tryz.func102,Tryz.ntmps102;go_wp2_with fail;clear hW b0 b1 b2 b3 b4 b5 b6 b7;have yy0:Ext W W.drew:=(Ext.refl W).drew;have Y0:=Lib.hid yy0;clear yy0
 go_region_held3 (fun W' => Ext w W' /\ W'.cell? ⟨w.heap.size, 0, none⟩ = some (.int .i64 (p).lv) /\ W'.cell? ⟨w.heap.size, 1, none⟩ = some (.bool (p).neg) /\ W'.cell? ⟨w.heap.size, 2, none⟩ = some (.slice A0 n0 c0) /\ W'.cell? ⟨w.heap.size, 3, none⟩ = some (.slice B0 (p).cs.length d0) /\ W'.cell? ⟨w.heap.size + 1, 0, none⟩ = some (.int .i64 (q).lv) /\ W'.cell? ⟨w.heap.size + 1, 1, none⟩ = some (.bool (q).neg) /\ W'.cell? ⟨w.heap.size + 1, 2, none⟩ = some (.slice A1 n1 c1) /\ W'.cell? ⟨w.heap.size + 1, 3, none⟩ = some (.slice B1 (q).cs.length d1))
  (first | with_reducible exact HS.out _ Y0.out | with_reducible exact HS.out _ yy1 | with_reducible exact HS.out _ yy2 | with_reducible exact HS.out _ yy3 | with_reducible exact HS.out _ yy4 | exact HS2.out _ _ _ _ _ yy4 _ rfl)
  (first
    | (go_at_call 97
       (fail_if_success have _:=yy1)
       refine (yab _ (H0.out.ext (HX0.out.trans Y0.out)) HFP.out.can).mono ?_;rintro e w1 ⟨z1,rfl,m1,x1⟩;obtain ⟨C1,i1,j1,D1,k1,rfl,-⟩:=id m1.open_;have yy1:Ext W w1:=Ext.trans Y0.out x1
       unfold plV)
    | (go_at_call 97
       refine (yab _ (H1.out.ext (HX0.out.trans yy1)) HFQ.out.can).mono ?_;rintro e w2 ⟨z2,rfl,m2,x2⟩;obtain ⟨C2,i2,j2,D2,k2,rfl,-⟩:=id m2.open_;have yy2:Ext W w2:=Ext.trans yy1 x2
       replace m1:=m1.ext x2
       unfold plV)
    | (go_at_call 131
       refine (mul_any p q _ _ HFP.out HFQ.out (by omega) (by omega) (by omega) m1 m2).mono ?_;rintro e w3 ⟨z3,rfl,m3,x3⟩;obtain ⟨C3,i3,j3,D3,k3,rfl,-⟩:=id m3.open_;have yy3:Ext W w3:=Ext.trans yy2 x3
       replace m1:=m1.ext x3
       replace m2:=m2.ext x3
       unfold plV)
    | (go_at_call 95
       refine (jap _ _ (Pl.mul_can _ _) HSZ.out HDM.out m3).mono ?_;rintro e w4 ⟨z4,rfl,m4,x4⟩;obtain ⟨C4,i4,j4,D4,k4,rfl,-⟩:=id m4.open_;have yy4:Ext W w4:=Ext.trans yy3 x4
       replace m1:=m1.ext x4
       replace m2:=m2.ext x4
       replace m3:=m3.ext x4
       obtain ⟨⟨r0,r1,r2,r3⟩,rf⟩:=HZ.out.ext yy4 (by omega)
       unfold plV))
 have hzn:=HZ.out.ext yy4 (by omega);have hsn:=(yy4:Ext W _).size;have hsp:=(yy3:Ext W _).size;have HF:=Lib.hid (qi (q':=fun b=>w.heap.size<=b) (HX0.out.trans yy4) (by omega) hzn m4 (fun b _ hb=>⟨by omega,by omega⟩));clear m4 x4 m3 x3 m2 x2 m1 x1 yy4 yy3 yy2 yy1 HS2 HS HZ
 try unfold plV
 go_wp2_with fail;exact bodyPost_ret (by simp [results,Tryz.results102,go_sem,r0,r1,r2,r3,plV]) rfl HF.out
end Go.Proofs.YtheefiaoimbeiaaGreatDoor

/- Layer 22: recpoly.Pow at a canonical polynomial, recpoly.Var. -/
set_option maxRecDepth 100000
set_option maxHeartbeats 8000000
namespace Go.Proofs.YtheefiaoimbeiaaGreatDoor
open Go.RowKit
theorem xbq (a b:Nat) (ha:a < 9223372036854775808) (hb:b < 9223372036854775808):bits .and .i64 (a:Int) (b:Int)=((a &&& b:Nat):Int):=by
 have h1:=Nat.and_le_left (n:=a) (m:=b);show IntKind.i64.wrap ((BitVec.ofInt 64 a &&& BitVec.ofInt 64 b).toNat:Nat)=_;rw [BitVec.toNat_and,BitVec.toNat_ofInt,BitVec.toNat_ofInt,show ((a:Int) % ((2 ^ 64:Nat):Int)).toNat=a by omega,show ((b:Int) % ((2 ^ 64:Nat):Int)).toNat=b by omega,IntKind.wrap_i64];omega
def kbn (n:Int) (b e:Nat):Prop:=(n<=0/\e=0)\/(0 < n/\((∃ j,b=2 ^ j/\e=n.toNat / 2 ^ (j+1))\/(b=0/\e=n.toNat)))
theorem kbn.next {n:Int} {b e j:Nat} (h:0 < n) (hb:b=2 ^ j) (he:e=n.toNat / 2 ^ (j+1)):kbn n (b / 2) (2 * e+n.toNat / 2 ^ j % 2)/\2 * e+n.toNat / 2 ^ j % 2<=n.toNat/\e<=n.toNat:=by
 have h1:=qck n.toNat j;have h2:n.toNat / 2 ^ j<=n.toNat:=Nat.div_le_self _ _;refine ⟨.inr ⟨h,?_⟩,by omega,by omega⟩;cases j with
 | zero=>exact .inr ⟨by rw [hb],by rw [Nat.pow_zero,Nat.div_one] at h1; omega⟩
 | succ j=>exact .inl ⟨j,by rw [hb,Nat.pow_succ]; omega,by omega⟩
theorem yh.far {W W':World} {g:Nat} (h:yh W g) (hh:W'.heap[g]?=W.heap[g]?) (hf:∀ a,W'.frozen? a=W.frozen? a):yh W' g:=by
 obtain ⟨⟨z0,z1,z2,z3⟩,zf⟩:=h;have k:∀ i,W'.cell? ⟨g,i,none⟩=W.cell? ⟨g,i,none⟩:=fun i=>World.cell?_of_block (a:=⟨g,i,none⟩) hh
 exact ⟨⟨(k _).trans z0,(k _).trans z1,(k _).trans z2,(k _).trans z3⟩,fun i=>(hf _).trans (zf i)⟩
structure jau (w : World) (g : Nat) (p r : Pl) (wr : World) : Prop where
 ext:Ext w wr
 zero:yh wr (w.heap.size+1)
 lt:g < wr.heap.size
 old:w.heap.size+1 < g
 fr:∀ i,wr.frozen? ⟨g,i,none⟩=false
 bp:∃ A0 n0 c0 A1 c1,ql wr w.heap.size p (.slice A0 n0 c0) (.slice A1 p.cs.length c1)/\PlV wr (fun b=>b ≠ g) p (plV p (.slice A0 n0 c0) (.slice A1 p.cs.length c1))
 br:∃ A0 n0 c0 A1 c1,ql wr g r (.slice A0 n0 c0) (.slice A1 r.cs.length c1)/\PlV wr (fun b=>b ≠ g) r (plV r (.slice A0 n0 c0) (.slice A1 r.cs.length c1))
theorem jau.go {w wr w':World} {g:Nat} {p r:Pl} (h:jau w g p r wr) (x:Ext wr w'):jau w g p r w':=by
 obtain ⟨h1,h2,h3,h4,h5,⟨A0,n0,c0,A1,c1,h6,h7⟩,⟨B0,m0,d0,B1,d1,h8,h9⟩⟩:=h;exact ⟨h1.trans x,h2.ext x (by omega),Nat.lt_of_lt_of_le h3 x.size,h4,fun i=>(x.frozen (p:=⟨g,i,none⟩) h3).trans (h5 i),⟨A0,n0,c0,A1,c1,h6.ext x (by omega),h7.ext x⟩,⟨B0,m0,d0,B1,d1,h8.ext x h3,h9.ext x⟩⟩
theorem jau.put {w wr w':World} {g:Nat} {p r r':Pl} {A0 A1:Option Addr} {n0 c0 c1:Nat} (h:jau w g p r wr) (x:Ext wr w') (k:PlV w' (fun b=>wr.heap.size<=b) r' (plV r' (.slice A0 n0 c0) (.slice A1 r'.cs.length c1))) :
 jau w g p r' ((((w'.setCell ⟨g,0,none⟩ (.int .i64 r'.lv)).setCell ⟨g,1,none⟩ (.bool r'.neg)).setCell ⟨g,2,none⟩ (.slice A0 n0 c0)).setCell ⟨g,3,none⟩ (.slice A1 r'.cs.length c1)):=by
 have hlt:=h.lt;obtain ⟨h1,h2,h3,h4,h5,⟨E0,j0,e0,E1,e1,h6,h7⟩,⟨B0,m0,d0,B1,d1,h8,h9⟩⟩:=h.go x;have hh:∀ k,k ≠ g->((((w'.setCell ⟨g,0,none⟩ (.int .i64 r'.lv)).setCell ⟨g,1,none⟩ (.bool r'.neg)).setCell ⟨g,2,none⟩ (.slice A0 n0 c0)).setCell ⟨g,3,none⟩ (.slice A1 r'.cs.length c1)).heap[k]?=w'.heap[k]?:=fun k hk=>jam _ _ _ _ _ _ k hk
 refine ⟨(((h1.setCell (by show _<=g; omega) _).setCell (by show _<=g; omega) _).setCell (by show _<=g; omega) _).setCell (by show _<=g; omega) _,h2.far (hh _ (by omega)) (fun a=>by simp only [World.frozen?_setCell]),by simp [World.setCell]; exact h3,h4,fun i=>by simp only [World.frozen?_setCell]; exact h5 i,
  ⟨E0,j0,e0,E1,e1,h6.turn (hh _ (by omega)),h8.keep _ _ _ _ h7 (fun b _ hb=>⟨hb,hb⟩)⟩,⟨A0,n0,c0,A1,c1,h8.set,h8.keep _ _ _ _ k (fun b _ hb=>⟨by omega,by omega⟩)⟩⟩
theorem wcj {w:World} {q0:Nat->Prop} {p:Pl} {E D:Nat} {n:Int} (v0:Value) (h0:PlV w q0 p v0) (hp:Fit p E D) (hE:(n.toNat+1) * E<=900) (hD:(n.toNat+1) * D<=4398046511000) (hn:n<=1000000) :
 Calls Tryz.prog 104 #[v0,.int .i64 n] w (ji (fun b=>w.heap.size<=b) (p.pow n.toNat) w):=by
 have hE1:E<=900:=Nat.le_trans (Nat.le_mul_of_pos_left E (Nat.succ_pos n.toNat)) hE;have hD1:D<=4398046511000:=Nat.le_trans (Nat.le_mul_of_pos_left D (Nat.succ_pos n.toNat)) hD;have HF:Hid (∀ k,k<=n.toNat->Fit (p.pow k) 900 4398046511001):=Lib.hid fun k hk=>(hp.pow_le (Nat.le_trans hk (Nat.le_succ _))).mono hE (Nat.add_le_add_right hD 1)
 have HP:=Lib.hid (hp.mono hE1 hD1);have H0:=Lib.hid h0;obtain ⟨A0,n0,c0,B0,d0,rfl,-,-,-,-⟩:=h0.open_;obtain ⟨W,hW⟩:=n_m ((w.alloc (.cells #[.int .i64 p.lv,.bool p.neg,.slice A0 n0 c0,.slice B0 p.cs.length d0] 44)).alloc (.cells #[.int .i64 0,.bool false,.slice none 0 0,.slice none 0 0] 44));have hWx:Ext w W:=by rw [<- hW]; exact ((Ext.refl w).alloc _).alloc _
 have hWs:W.heap.size=w.heap.size+1+1:=by rw [<- hW]; simp
 have hbx:ql W w.heap.size p (.slice A0 n0 c0) (.slice B0 p.cs.length d0):=by rw [<- hW]; exact (ql.new w p _ _ _).ext ((Ext.refl _).alloc _) (by simp)
 have hz:yh W (w.heap.size+1):=by
  have:=yh.new (w.alloc (.cells #[.int .i64 p.lv,.bool p.neg,.slice A0 n0 c0,.slice B0 p.cs.length d0] 44)) 44;rw [hW] at this;simpa using this
 have hfr:∀ i,W.frozen? ⟨w.heap.size,i,none⟩=false:=fun i=>by rw [<- hW]; simp [go_sem]
 have HWX:=Lib.hid hWx;have HBX:=Lib.hid hbx;have HZ:=Lib.hid hz;have HFR:=Lib.hid hfr;have HCA:=Lib.hid (yab _ (PlV.turn_ (q:=fun b=>q0 b/\b < w.heap.size) hWx.size (fun _ _ h=>h.ext hWx) (fun b hb hq=>⟨⟨hq,hb⟩,hWx.below.block b hb⟩) H0.out) hp.can);obtain ⟨b0,b1,b2,b3⟩:=hbx;clear h0 hp hE hD hWx hz hfr hE1 hD1;unfold plV at HCA;unfold plV;go_enter Tryz.func104,Tryz.ntmps104;go_wp2_with fail;clear hW b0 b1 b2 b3;refine HCA.out.mono ?_;rintro e w1 ⟨v1,rfl,m1,x1⟩;obtain ⟨C0,j0,f0,C1,f1,rfl,-⟩:=id m1.open_;have hs1:=x1.size;have hb1:=HBX.out.ext x1 (by omega);have fr:∀ i,w1.frozen? ⟨w.heap.size,i,none⟩=false:=fun i=>(x1.frozen (p:=⟨w.heap.size,i,none⟩) (by show w.heap.size < _; omega)).trans (HFR.out i)
 obtain ⟨W1,hW1⟩:=n_m (((((w1.setCell ⟨w.heap.size,0,none⟩ (.int .i64 p.lv)).setCell ⟨w.heap.size,1,none⟩ (.bool p.neg)).setCell ⟨w.heap.size,2,none⟩ (.slice C0 j0 f0)).setCell ⟨w.heap.size,3,none⟩ (.slice C1 p.cs.length f1)));have X1:Hid (Ext w W1):=Lib.hid (by rw [<- hW1]; exact ((((HWX.out.trans x1).setCell (Nat.le_refl _) _).setCell (Nat.le_refl _) _).setCell (Nat.le_refl _) _).setCell (Nat.le_refl _) _);have HB1:Hid (ql W1 w.heap.size p (.slice C0 j0 f0) (.slice C1 p.cs.length f1)):=Lib.hid (by rw [<- hW1]; exact ql.set hb1);have HP1:Hid (PlV W1 (fun b=>b < w.heap.size\/w.heap.size+1 < b/\b < W1.heap.size) p (plV p (.slice C0 j0 f0) (.slice C1 p.cs.length f1))):=Lib.hid (by
  rw [<- hW1]
  exact hb1.keep _ _ _ _ m1 (fun b hb hq=>by (have:((((w1.setCell ⟨w.heap.size,0,none⟩ (.int .i64 p.lv)).setCell ⟨w.heap.size,1,none⟩ (.bool p.neg)).setCell ⟨w.heap.size,2,none⟩ (.slice C0 j0 f0)).setCell ⟨w.heap.size,3,none⟩ (.slice C1 p.cs.length f1)).heap.size=w1.heap.size:=by simp [World.setCell]); refine ⟨?_,?_⟩ <;> rcases hq with ⟨-,hq⟩ | hq <;> omega))
 have HZ1:Hid (yh W1 (w.heap.size+1)):=Lib.hid (by
  have h1:=HZ.out.ext x1 (by omega);rw [<- hW1]
  exact h1.far (jam _ _ _ _ _ _ _ (by omega)) (fun a=>by simp only [World.frozen?_setCell]))
 have hs2:W1.heap.size=w1.heap.size:=by rw [<- hW1]; simp [World.setCell]
 obtain ⟨b0,b1,b2,b3⟩:=hb1;clear m1 x1 HCA;unfold plV;go_wp2_with fail;clear hW1 b0 b1 b2 b3 fr;refine (of_int 1 W1 (by omega) (by omega)).mono ?_;rintro e w2 ⟨z2,rfl,⟨y2,rfl,m2⟩,x2⟩;obtain ⟨C2,k2,rfl,-⟩:=id m2;have hs3:=x2.size;have HI2:=Lib.hid (kbb m2 (show (dg (1:Int).natAbs).length<=1 from zh (by decide)));have X2:=Lib.hid x2;clear m2 x2;go_wp2_with fail;refine (jax _ HI2.out (by omega)).mono ?_;rintro e w3 ⟨v3,rfl,m3,x3⟩;obtain ⟨C3,j3,f3,D3,e3,rfl,-⟩:=id m3.open_;have hs4:=x3.size;obtain ⟨W3,hW3⟩:=n_m ((w3.alloc (Obj.cells #[.int .i64 (Pl.const 1).lv,.bool (Pl.const 1).neg,.slice C3 j3 f3,.slice D3 (Pl.const 1).cs.length e3] 44)));have HJ:Hid (jau w w3.heap.size p (p.pow 0) W3):=Lib.hid (by
  have x4:Ext w3 W3:=by rw [<- hW3]; exact (Ext.refl w3).alloc _
  have xx:Ext W1 W3:=(X2.out.trans x3).trans x4;have hs5:W3.heap.size=w3.heap.size+1:=by rw [<- hW3]; simp
  have m4:PlV W3 (fun b=>b ≠ w3.heap.size) (Pl.const 1) (plV (Pl.const 1) (.slice C3 j3 f3) (.slice D3 (Pl.const 1).cs.length e3)):=
   PlV.turn_ (by omega) (fun _ _ h=>h.ext x4) (fun b hb _=>⟨by omega,x4.below.block b hb⟩) m3
  exact ⟨X1.out.trans xx,HZ1.out.ext xx (by omega),by omega,by omega,fun i=>by rw [<- hW3]; simp [go_sem],⟨C0,j0,f0,C1,f1,HB1.out.ext xx (by omega),(PlV.ext HP1.out xx).mono (fun b hb=>by omega)⟩,⟨C3,j3,f3,D3,e3,by rw [<- hW3]; exact ql.new w3 (Pl.const 1) _ _ _,m4⟩⟩)
 clear m3 x3 X2 HI2 X1 HZ1 HP1 HB1 HZ HBX HWX HFR H0;unfold plV;generalize hg:w3.heap.size=g at *;go_wp2_with fail;clear hW3 hg hs1 hs2 hs3 hs4 hWs
 go_loopw [6] (fun hv wr=>∃ m:Nat,hv=.int .i64 m/\Hid ((∃ k,m=2 ^ k)/\jau w g p (p.pow 0) wr)/\1<=m/\(m<=n.toNat\/m=1)/\(n<=0->m=1)) (fun hv _=>n.toNat+1 - (intOf hv).toNat)
 case atStart=>exact ⟨1,rfl,⟨⟨0,rfl⟩,HJ.out⟩,Nat.le_refl _,.inr rfl,fun _=>rfl⟩
 case round =>
  obtain ⟨m,rfl,hh0,hm1,hm2,hm3⟩:=hrel;have HH:=Lib.hid hh0.out;clear hh0
  by_cases hgo:0 < n/\m<=n.toNat / 2
  · obtain ⟨h0,hle⟩:=hgo;have hle':(m:Int)<=n / 2:=by omega
    have hw:IntKind.i64.wrap ((m:Int) * 2)=((m * 2:Nat):Int):=by rw [IntKind.wrap_i64]; omega
    have HL:=Lib.hid hle;clear hle;go_wp2_with fail
    go_roundw
    case rel =>
     obtain ⟨⟨k,hk⟩,hj⟩:=HH.out;have hle:=HL.out;exact ⟨m * 2,by rw [Int.natCast_mul]; rfl,⟨⟨k+1,by rw [hk,Nat.pow_succ]⟩,hj⟩,by omega,.inl (by omega),fun h=>by omega⟩
    case measure=>have hle:=HL.out; simp [intOf]; omega
  · have HE:Hid (kbn n m 0):=Lib.hid (by
     by_cases h0:0 < n
     · obtain ⟨⟨k,hk⟩,-⟩:=HH.out;have hle:¬ m<=n.toNat / 2:=fun e=>hgo ⟨h0,e⟩
       refine .inr ⟨h0,.inl ⟨k,hk,(Nat.div_eq_of_lt ?_).symm⟩⟩;rw [Nat.pow_succ,<- hk];omega
     · exact .inl ⟨by omega,rfl⟩)
    have hmn:m<=n.toNat+1:=by omega
    have HM:=Lib.hid hmn
    by_cases h0:0 < n
    focus
     have hle':¬ (m:Int)<=n / 2:=by omega
     clear hgo hm1 hm2 hm3 hmn;go_wp2_with fail;clear hle'
    rotate_left
    focus
     clear hgo hm1 hm2 hm3 hmn;go_wp2_with fail
    all_goals
     go_loopw [7] (fun tv wr=>∃ b e:Nat,tv=.int .i64 b/\Hid (kbn n b e/\jau w g p (p.pow e) wr)/\b<=n.toNat+1) (fun tv _=>(intOf tv).toNat)
     case atStart=>exact ⟨m,0,rfl,⟨HE.out,HH.out.2⟩,HM.out⟩
     case round =>
      obtain ⟨b,e,rfl,hh1,hb⟩:=hrel;have HJ1:=Lib.hid hh1.out.2;have hpe:=hh1.out.1;clear hh1 HE HH HM HJ;obtain ⟨B0,m0,d0,B1,d1,hb4,hpl⟩:=HJ1.out.br;have HPL:=Lib.hid hpl;have HB4:=Lib.hid hb4;have HLT:=Lib.hid HJ1.out.lt;clear hpl
      by_cases hdo:0 < n/\0 < b
      · first
        | (exfalso; omega)
        | (obtain ⟨hn0,hb0⟩:=hdo
           obtain ⟨j,hbj,hej⟩:∃ j,b=2 ^ j/\e=n.toNat / 2 ^ (j+1):=by
            rcases hpe with ⟨h,-⟩ | ⟨-,h | ⟨h,-⟩⟩
            · omega
            · exact h
            · omega
           have HNX:=Lib.hid (kbn.next hn0 hbj hej);have hbn:b<=1000001:=by omega
           obtain ⟨c,hc⟩:=n_m (b / 2);have hq:(b:Int) / 2=(c:Int):=by omega
           have hcb:c < b:=by omega
           rw [hc] at HNX;clear hc;have hand0:bits .and .i64 n (b:Int)=((b * (n.toNat / 2 ^ j % 2):Nat):Int):=by
            have h1:=xbq n.toNat b (by omega) (by omega);rw [show ((n.toNat:Nat):Int)=n by omega] at h1;rw [h1,hbj,uct]
           have hbt:n.toNat / 2 ^ j % 2 < 2:=Nat.mod_lt _ (by decide);clear hbj hej hpe;generalize n.toNat / 2 ^ j % 2=bt at *;obtain ⟨r0,r1,r2,r3⟩:=hb4;go_wp2_with fail;clear r0 r1 r2 r3;refine (mul_any _ _ _ _ (HF.out e HNX.out.2.2) (HF.out e HNX.out.2.2) (by omega) (by omega) (by omega) HPL.out HPL.out).mono ?_;rintro _ w5 ⟨v5,rfl,m5,x5⟩;rw [Pl.pow_twice] at m5;obtain ⟨C5,j5,f5,D5,k5,rfl,-⟩:=id m5.open_;have HJ5:=Lib.hid (jau.put HJ1.out x5 m5);have fr:=(HJ1.out.go x5).fr;obtain ⟨r0,r1,r2,r3⟩:=HB4.out.ext x5 HLT.out;obtain ⟨W5,hW5⟩:=n_m (((((w5.setCell ⟨g,0,none⟩ (.int .i64 (p.pow (2 * e)).lv)).setCell ⟨g,1,none⟩ (.bool (p.pow (2 * e)).neg)).setCell ⟨g,2,none⟩ (.slice C5 j5 f5)).setCell ⟨g,3,none⟩ (.slice D5 (p.pow (2 * e)).cs.length k5)));rw [hW5] at HJ5;clear m5 x5;unfold plV;rcases (show bt=0\/bt=1 by omega) with rfl | rfl
           · have hand:bits .and .i64 n (b:Int)=0:=by rw [hand0]; simp
             clear hand0;go_wp2_with fail
             go_roundw
             case rel=>exact ⟨c,2 * e,rfl,⟨HNX.out.1,HJ5.out⟩,by omega⟩
             case measure=>simp [intOf]; omega
           · have hand:bits .and .i64 n (b:Int)=(b:Int):=by rw [hand0]; simp
             have hne:((b:Int) != 0)=true:=by simp; omega
             clear hand0;obtain ⟨E0,i0,g0,E1,g1,hb6,hpl6⟩:=HJ5.out.br;obtain ⟨F0,i7,g7,F1,g8,hb7,hpl7⟩:=HJ5.out.bp;have HB6:=Lib.hid hb6;have HPL6:=Lib.hid hpl6;have HPL7:=Lib.hid hpl7;obtain ⟨s0,s1,s2,s3⟩:=hb6;obtain ⟨t0,t1,t2,t3⟩:=hb7;clear hpl6 hpl7;go_wp2_with fail;clear hW5 s0 s1 s2 s3 t0 t1 t2 t3 r0 r1 r2 r3 fr;refine (mul_any _ _ _ _ (HF.out (2 * e) (by have:=HNX.out.2.1; omega)) HP.out (by omega) (by omega) (by omega) HPL6.out HPL7.out).mono ?_;rintro _ w6 ⟨v6,rfl,m6,x6⟩;rw [show (p.pow (2 * e)).mul p=p.pow (2 * e+1) from rfl] at m6;obtain ⟨C6,j6,f6,D6,k6,rfl,-⟩:=id m6.open_;have HJ6:=Lib.hid (jau.put HJ5.out x6 m6);have fr:=(HJ5.out.go x6).fr;obtain ⟨r0,r1,r2,r3⟩:=HB6.out.ext x6 HJ5.out.lt;obtain ⟨W6,hW6⟩:=n_m (((((w6.setCell ⟨g,0,none⟩ (.int .i64 (p.pow (2 * e+1)).lv)).setCell ⟨g,1,none⟩ (.bool (p.pow (2 * e+1)).neg)).setCell ⟨g,2,none⟩ (.slice C6 j6 f6)).setCell ⟨g,3,none⟩ (.slice D6 (p.pow (2 * e+1)).cs.length k6)));rw [hW6] at HJ6;clear m6 x6;unfold plV;go_wp2_with fail
             go_roundw
             case rel=>exact ⟨c,2 * e+1,rfl,⟨HNX.out.1,HJ6.out⟩,by omega⟩
             case measure=>simp [intOf]; omega)
      · have HEQ:Hid (p.pow e=p.pow n.toNat):=Lib.hid (by
         rcases hpe with ⟨h1,h2⟩ | ⟨h1,⟨j,h2,-⟩ | ⟨h2,h3⟩⟩
         · rw [h2,show n.toNat=0 by omega]
         · have:0 < b:=by rw [h2]; exact Nat.pow_pos (by decide)
           exact absurd ⟨h1,this⟩ hdo
         · rw [h3])
        have hex:n<=0\/(0 < n/\b=0):=by omega
        clear hdo hpe;rw [HEQ.out] at HPL hb4 HJ1;have HSZ:Hid ((p.pow n.toNat).sz<=1099511627776):=Lib.hid ((HF.out n.toNat (Nat.le_refl _)).copy (by omega));have HDM:Hid ((p.pow n.toNat).dm<=35184372088832):=Lib.hid (Nat.le_trans (HF.out n.toNat (Nat.le_refl _)).dm (by omega));have HCN:=Lib.hid (Pl.pow_can p n.toNat);clear HEQ HB4;obtain ⟨r0,r1,r2,r3⟩:=hb4;rcases hex with h1 | ⟨h1,rfl⟩
        all_goals first
          | (exfalso; omega)
          | (go_wp2_with fail
             clear r0 r1 r2 r3;refine (jap _ _ HCN.out HSZ.out HDM.out HPL.out).mono ?_;rintro _ w5 ⟨v5,rfl,m5,x5⟩;obtain ⟨C5,j5,f5,D5,k5,rfl,-⟩:=id m5.open_;have hzn:=HJ1.out.zero.ext x5 (by have:=HJ1.out.old; have:=HJ1.out.lt; omega);have hsx:=HJ1.out.lt;have hso:=HJ1.out.old;have HFN:=Lib.hid (qi (q':=fun b=>w.heap.size<=b) (HJ1.out.ext.trans x5) (by omega) hzn m5 (fun b _ hb=>⟨by omega,by omega⟩));obtain ⟨⟨r0,r1,r2,r3⟩,rf⟩:=hzn;clear m5 x5;unfold plV;go_wp2_with fail
             exact bodyPost_ret (by simp [results,Tryz.results104,go_sem,r0,r1,r2,r3,plV]) rfl HFN.out)
end Go.Proofs.YtheefiaoimbeiaaGreatDoor

/- Layer 38: builder.poly at sums, differences, products. -/
set_option maxRecDepth 100000
set_option maxHeartbeats 8000000
namespace Go.Proofs.YtheefiaoimbeiaaGreatDoor
open Go.RowKit
attribute [local go_sem] xaa xy gaa zaa kaa jaa yaa yt qy qaa uaa yad qm vaa ut
section
variable {w0:World} {L gb bl:Nat} {g:ByteArray->Int}
theorem xce {a b:Tm} (iha:jab w0 L gb bl g a) (ihb:jab w0 L gb bl g b):jab w0 L gb bl g (.add a b):=by
 intro v W hx0 h hp hw;obtain ⟨hwa,hwb⟩:=zb1 hw;obtain ⟨x,y,rfl,hx,hy⟩:=h;have HPB:=Lib.hid hp;have HXW:=Lib.hid hx0;have HFA:=Lib.hid ((vag g a hwa).fit400 (by omega));have HFB:=Lib.hid ((vag g b hwb).fit400 (by omega));have HA:=Lib.hid (fun W' (k:Ext W W')=>iha x W' (hx0.trans k) hx (hp.ext k) hwa);have HB:=Lib.hid (fun W' (k:Ext W W')=>ihb y W' (hx0.trans k) hy (hp.ext k) hwb);obtain ⟨T,x,rfl⟩:=hx.iface;obtain ⟨U,y,rfl⟩:=hy.iface;rw [show yl g (.add a b)=(yl g a).add (yl g b) from rfl];clear hx hy iha ihb hp hx0 hw hwa hwb;generalize yl g a=p at *;generalize yl g b=q at *;obtain ⟨W1,hW⟩:=n_m ((W.alloc (.cells #[.int .i64 0,.bool false,.slice none 0 0,.slice none 0 0] 44)).alloc (.cells #[Value.iface T x,Value.iface U y] 175));have HX0:Hid (Ext W W1):=Lib.hid (by rw [<- hW]; exact ((Ext.refl W).alloc _).alloc _);have hs0:W1.heap.size=W.heap.size+2:=by rw [<- hW]; simp
 have HZ:Hid (yh W1 W.heap.size):=Lib.hid (by rw [<- hW]; exact (yh.new W _).ext ((Ext.refl _).alloc _) (by simp));have HS:Hid (∀ W',Ext W1 W'->(Ext W W'/\W'.cell? ⟨W.heap.size+1,0,none⟩=some (Value.iface T x)/\W'.cell? ⟨W.heap.size+1,1,none⟩=some (Value.iface U y))):=by
  intro W' hx;obtain ⟨hc,hf⟩:=hx.cells;refine ⟨HX0.out.trans hx,?_,?_⟩ <;> (rw [hc _ _ (by omega),<- hW]; simp [go_sem])
 have HS2:Hid (∀ W'' u0 u1 u2 u3,Ext W1 W''->∀ W',W'=(((W''.setCell ⟨W.heap.size,0,none⟩ u0).setCell ⟨W.heap.size,1,none⟩ u1).setCell ⟨W.heap.size,2,none⟩ u2).setCell ⟨W.heap.size,3,none⟩ u3->(Ext W W'/\W'.cell? ⟨W.heap.size+1,0,none⟩=some (Value.iface T x)/\W'.cell? ⟨W.heap.size+1,1,none⟩=some (Value.iface U y))):=by
  intro W'' u0 u1 u2 u3 hx W' hW';obtain ⟨s1,k0,k1⟩:=HS.out W'' hx;rw [hW'];refine ⟨(((s1.setCell (by simp) _).setCell (by simp) _).setCell (by simp) _).setCell (by simp) _,?_,?_⟩ <;> rw [World.cell?_setCell_other _ _ _ _ (by simp; try omega),World.cell?_setCell_other _ _ _ _ (by simp; try omega),World.cell?_setCell_other _ _ _ _ (by simp; try omega),World.cell?_setCell_other _ _ _ _ (by simp; try omega)] <;> assumption
 go_enter Tryz.func66,Tryz.ntmps66;go_wp2_with fail;clear hW;have yy0:Ext W1 W1.drew:=(Ext.refl W1).drew;have Y0:=Lib.hid yy0;clear yy0
 go_region_held3 (fun W' => Ext W W' /\ W'.cell? ⟨W.heap.size + 1, 0, none⟩ = some (Value.iface T x) /\ W'.cell? ⟨W.heap.size + 1, 1, none⟩ = some (Value.iface U y))
  (first | with_reducible exact HS.out _ Y0.out | with_reducible exact HS.out _ yy1 | with_reducible exact HS.out _ yy2 | with_reducible exact HS.out _ yy3 | with_reducible exact HS2.out _ _ _ _ _ yy3 _ rfl)
  (first
    | (go_at_call 66
       (fail_if_success have _:=yy1)
       refine (HA.out _ (HX0.out.trans Y0.out)).mono ?_;rintro e w1 ⟨z1,rfl,m1,x1⟩;obtain ⟨C1,i1,j1,D1,k1,rfl,-⟩:=id m1.open_;have yy1:Ext W1 w1:=Ext.trans Y0.out x1
       unfold plV)
    | (go_at_call 66
       refine (HB.out _ (HX0.out.trans yy1)).mono ?_;rintro e w2 ⟨z2,rfl,m2,x2⟩;obtain ⟨C2,i2,j2,D2,k2,rfl,-⟩:=id m2.open_;have yy2:Ext W1 w2:=Ext.trans yy1 x2
       replace m1:=m1.ext x2
       unfold plV)
    | (go_at_call 101
       refine (yck _ _ m1 m2 HFA.out HFB.out (by omega) (by omega)).mono ?_;rintro e w3 ⟨z3,rfl,m3,x3⟩;obtain ⟨C3,i3,j3,D3,k3,rfl,-⟩:=id m3.open_;have yy3:Ext W1 w3:=Ext.trans yy2 x3;obtain ⟨⟨r0,r1,r2,r3⟩,rf⟩:=HZ.out.ext yy3 (by omega)
       unfold plV))
 have hzn:=HZ.out.ext yy3 (by omega);have hsn:=(yy3:Ext W1 _).size;have hsp:=(yy2:Ext W1 _).size;have HF:=Lib.hid (qi (q':=fun b=>W.heap.size<=b) (HX0.out.trans yy3) (by omega) hzn m3 (fun b _ hb=>⟨by omega,by omega⟩));clear m1 m2 m3 x1 x2 x3 yy1 yy2 yy3 HS HS2 HZ
 try unfold plV
 go_wp2_with fail;exact bodyPost_ret (by simp [results,Tryz.results66,go_sem,r0,r1,r2,r3,plV]) rfl HF.out
theorem jcd {a b:Tm} (iha:jab w0 L gb bl g a) (ihb:jab w0 L gb bl g b):jab w0 L gb bl g (.sub a b):=by
 intro v W hx0 h hp hw;obtain ⟨hwa,hwb⟩:=zb1 hw;obtain ⟨x,y,rfl,hx,hy⟩:=h;have HPB:=Lib.hid hp;have HXW:=Lib.hid hx0;have HFA:=Lib.hid ((vag g a hwa).fit400 (by omega));have HFB:=Lib.hid ((vag g b hwb).fit400 (by omega));have HA:=Lib.hid (fun W' (k:Ext W W')=>iha x W' (hx0.trans k) hx (hp.ext k) hwa);have HB:=Lib.hid (fun W' (k:Ext W W')=>ihb y W' (hx0.trans k) hy (hp.ext k) hwb);obtain ⟨T,x,rfl⟩:=hx.iface;obtain ⟨U,y,rfl⟩:=hy.iface;rw [show yl g (.sub a b)=(yl g a).add (yl g b).opp from rfl];clear hx hy iha ihb hp hx0 hw hwa hwb;generalize yl g a=p at *;generalize yl g b=q at *;obtain ⟨W1,hW⟩:=n_m ((W.alloc (.cells #[.int .i64 0,.bool false,.slice none 0 0,.slice none 0 0] 44)).alloc (.cells #[Value.iface T x,Value.iface U y] 176));have HX0:Hid (Ext W W1):=Lib.hid (by rw [<- hW]; exact ((Ext.refl W).alloc _).alloc _);have hs0:W1.heap.size=W.heap.size+2:=by rw [<- hW]; simp
 have HZ:Hid (yh W1 W.heap.size):=Lib.hid (by rw [<- hW]; exact (yh.new W _).ext ((Ext.refl _).alloc _) (by simp));have HS:Hid (∀ W',Ext W1 W'->(Ext W W'/\W'.cell? ⟨W.heap.size+1,0,none⟩=some (Value.iface T x)/\W'.cell? ⟨W.heap.size+1,1,none⟩=some (Value.iface U y))):=by
  intro W' hx;obtain ⟨hc,hf⟩:=hx.cells;refine ⟨HX0.out.trans hx,?_,?_⟩ <;> (rw [hc _ _ (by omega),<- hW]; simp [go_sem])
 have HS2:Hid (∀ W'' u0 u1 u2 u3,Ext W1 W''->∀ W',W'=(((W''.setCell ⟨W.heap.size,0,none⟩ u0).setCell ⟨W.heap.size,1,none⟩ u1).setCell ⟨W.heap.size,2,none⟩ u2).setCell ⟨W.heap.size,3,none⟩ u3->(Ext W W'/\W'.cell? ⟨W.heap.size+1,0,none⟩=some (Value.iface T x)/\W'.cell? ⟨W.heap.size+1,1,none⟩=some (Value.iface U y))):=by
  intro W'' u0 u1 u2 u3 hx W' hW';obtain ⟨s1,k0,k1⟩:=HS.out W'' hx;rw [hW'];refine ⟨(((s1.setCell (by simp) _).setCell (by simp) _).setCell (by simp) _).setCell (by simp) _,?_,?_⟩ <;> rw [World.cell?_setCell_other _ _ _ _ (by simp; try omega),World.cell?_setCell_other _ _ _ _ (by simp; try omega),World.cell?_setCell_other _ _ _ _ (by simp; try omega),World.cell?_setCell_other _ _ _ _ (by simp; try omega)] <;> assumption
 go_enter Tryz.func66,Tryz.ntmps66;go_wp2_with fail;clear hW;have yy0:Ext W1 W1.drew:=(Ext.refl W1).drew;have Y0:=Lib.hid yy0;clear yy0
 go_region_held3 (fun W' => Ext W W' /\ W'.cell? ⟨W.heap.size + 1, 0, none⟩ = some (Value.iface T x) /\ W'.cell? ⟨W.heap.size + 1, 1, none⟩ = some (Value.iface U y))
  (first | with_reducible exact HS.out _ Y0.out | with_reducible exact HS.out _ yy1 | with_reducible exact HS.out _ yy2 | with_reducible exact HS.out _ yy3 | with_reducible exact HS2.out _ _ _ _ _ yy3 _ rfl)
  (first
    | (go_at_call 66
       (fail_if_success have _:=yy1)
       refine (HA.out _ (HX0.out.trans Y0.out)).mono ?_;rintro e w1 ⟨z1,rfl,m1,x1⟩;obtain ⟨C1,i1,j1,D1,k1,rfl,-⟩:=id m1.open_;have yy1:Ext W1 w1:=Ext.trans Y0.out x1
       unfold plV)
    | (go_at_call 66
       refine (HB.out _ (HX0.out.trans yy1)).mono ?_;rintro e w2 ⟨z2,rfl,m2,x2⟩;obtain ⟨C2,i2,j2,D2,k2,rfl,-⟩:=id m2.open_;have yy2:Ext W1 w2:=Ext.trans yy1 x2
       replace m1:=m1.ext x2
       unfold plV)
    | (go_at_call 65
       refine (zbn _ _ m1 m2 HFA.out HFB.out (by omega) (by omega)).mono ?_;rintro e w3 ⟨z3,rfl,m3,x3⟩;obtain ⟨C3,i3,j3,D3,k3,rfl,-⟩:=id m3.open_;have yy3:Ext W1 w3:=Ext.trans yy2 x3;obtain ⟨⟨r0,r1,r2,r3⟩,rf⟩:=HZ.out.ext yy3 (by omega)
       unfold plV))
 have hzn:=HZ.out.ext yy3 (by omega);have hsn:=(yy3:Ext W1 _).size;have hsp:=(yy2:Ext W1 _).size;have HF:=Lib.hid (qi (q':=fun b=>W.heap.size<=b) (HX0.out.trans yy3) (by omega) hzn m3 (fun b _ hb=>⟨by omega,by omega⟩));clear m1 m2 m3 x1 x2 x3 yy1 yy2 yy3 HS HS2 HZ
 try unfold plV
 go_wp2_with fail;exact bodyPost_ret (by simp [results,Tryz.results66,go_sem,r0,r1,r2,r3,plV]) rfl HF.out
theorem zce {a b:Tm} (iha:jab w0 L gb bl g a) (ihb:jab w0 L gb bl g b):jab w0 L gb bl g (.mul a b):=by
 intro v W hx0 h hp hw;obtain ⟨hwa,hwb⟩:=gbt hw;obtain ⟨x,y,rfl,hx,hy⟩:=h;have HPB:=Lib.hid hp;have HXW:=Lib.hid hx0;have HFA:=Lib.hid ((vag g a hwa).fit400 (by omega));have HFB:=Lib.hid ((vag g b hwb).fit400 (by omega));have HA:=Lib.hid (fun W' (k:Ext W W')=>iha x W' (hx0.trans k) hx (hp.ext k) hwa);have HB:=Lib.hid (fun W' (k:Ext W W')=>ihb y W' (hx0.trans k) hy (hp.ext k) hwb);obtain ⟨T,x,rfl⟩:=hx.iface;obtain ⟨U,y,rfl⟩:=hy.iface;rw [show yl g (.mul a b)=(yl g a).mul (yl g b) from rfl];clear hx hy iha ihb hp hx0 hw hwa hwb;generalize yl g a=p at *;generalize yl g b=q at *;obtain ⟨W1,hW⟩:=n_m ((W.alloc (.cells #[.int .i64 0,.bool false,.slice none 0 0,.slice none 0 0] 44)).alloc (.cells #[Value.iface T x,Value.iface U y] 177));have HX0:Hid (Ext W W1):=Lib.hid (by rw [<- hW]; exact ((Ext.refl W).alloc _).alloc _);have hs0:W1.heap.size=W.heap.size+2:=by rw [<- hW]; simp
 have HZ:Hid (yh W1 W.heap.size):=Lib.hid (by rw [<- hW]; exact (yh.new W _).ext ((Ext.refl _).alloc _) (by simp));have HS:Hid (∀ W',Ext W1 W'->(Ext W W'/\W'.cell? ⟨W.heap.size+1,0,none⟩=some (Value.iface T x)/\W'.cell? ⟨W.heap.size+1,1,none⟩=some (Value.iface U y))):=by
  intro W' hx;obtain ⟨hc,hf⟩:=hx.cells;refine ⟨HX0.out.trans hx,?_,?_⟩ <;> (rw [hc _ _ (by omega),<- hW]; simp [go_sem])
 have HS2:Hid (∀ W'' u0 u1 u2 u3,Ext W1 W''->∀ W',W'=(((W''.setCell ⟨W.heap.size,0,none⟩ u0).setCell ⟨W.heap.size,1,none⟩ u1).setCell ⟨W.heap.size,2,none⟩ u2).setCell ⟨W.heap.size,3,none⟩ u3->(Ext W W'/\W'.cell? ⟨W.heap.size+1,0,none⟩=some (Value.iface T x)/\W'.cell? ⟨W.heap.size+1,1,none⟩=some (Value.iface U y))):=by
  intro W'' u0 u1 u2 u3 hx W' hW';obtain ⟨s1,k0,k1⟩:=HS.out W'' hx;rw [hW'];refine ⟨(((s1.setCell (by simp) _).setCell (by simp) _).setCell (by simp) _).setCell (by simp) _,?_,?_⟩ <;> rw [World.cell?_setCell_other _ _ _ _ (by simp; try omega),World.cell?_setCell_other _ _ _ _ (by simp; try omega),World.cell?_setCell_other _ _ _ _ (by simp; try omega),World.cell?_setCell_other _ _ _ _ (by simp; try omega)] <;> assumption
 go_enter Tryz.func66,Tryz.ntmps66;go_wp2_with fail;clear hW;have yy0:Ext W1 W1.drew:=(Ext.refl W1).drew;have Y0:=Lib.hid yy0;clear yy0
 go_region_held3 (fun W' => Ext W W' /\ W'.cell? ⟨W.heap.size + 1, 0, none⟩ = some (Value.iface T x) /\ W'.cell? ⟨W.heap.size + 1, 1, none⟩ = some (Value.iface U y))
  (first | with_reducible exact HS.out _ Y0.out | with_reducible exact HS.out _ yy1 | with_reducible exact HS.out _ yy2 | with_reducible exact HS.out _ yy3 | with_reducible exact HS2.out _ _ _ _ _ yy3 _ rfl)
  (first
    | (go_at_call 66
       (fail_if_success have _:=yy1)
       refine (HA.out _ (HX0.out.trans Y0.out)).mono ?_;rintro e w1 ⟨z1,rfl,m1,x1⟩;obtain ⟨C1,i1,j1,D1,k1,rfl,-⟩:=id m1.open_;have yy1:Ext W1 w1:=Ext.trans Y0.out x1
       unfold plV)
    | (go_at_call 66
       refine (HB.out _ (HX0.out.trans yy1)).mono ?_;rintro e w2 ⟨z2,rfl,m2,x2⟩;obtain ⟨C2,i2,j2,D2,k2,rfl,-⟩:=id m2.open_;have yy2:Ext W1 w2:=Ext.trans yy1 x2
       replace m1:=m1.ext x2
       unfold plV)
    | (go_at_call 102
       refine (zck _ _ m1 m2 HFA.out HFB.out (by omega) (by omega)).mono ?_;rintro e w3 ⟨z3,rfl,m3,x3⟩;obtain ⟨C3,i3,j3,D3,k3,rfl,-⟩:=id m3.open_;have yy3:Ext W1 w3:=Ext.trans yy2 x3;obtain ⟨⟨r0,r1,r2,r3⟩,rf⟩:=HZ.out.ext yy3 (by omega)
       unfold plV))
 have hzn:=HZ.out.ext yy3 (by omega);have hsn:=(yy3:Ext W1 _).size;have hsp:=(yy2:Ext W1 _).size;have HF:=Lib.hid (qi (q':=fun b=>W.heap.size<=b) (HX0.out.trans yy3) (by omega) hzn m3 (fun b _ hb=>⟨by omega,by omega⟩));clear m1 m2 m3 x1 x2 x3 yy1 yy2 yy3 HS HS2 HZ
 try unfold plV
 go_wp2_with fail;exact bodyPost_ret (by simp [results,Tryz.results66,go_sem,r0,r1,r2,r3,plV]) rfl HF.out
end
end Go.Proofs.YtheefiaoimbeiaaGreatDoor

/- Layer 22: recpoly.Var. -/
set_option maxRecDepth 100000
set_option maxHeartbeats 8000000
namespace Go.Proofs.YtheefiaoimbeiaaGreatDoor
open Go.RowKit
theorem zcm (n:Int) (w:World):Calls Tryz.prog 100 #[.int .i64 n] w (ji (fun b=>w.heap.size<=b) (Pl.var n) w):=by
 obtain ⟨W,hW⟩:=n_m (w.alloc (.cells #[.int .i64 0,.bool false,.slice none 0 0,.slice none 0 0] 44));have hWx:Ext w W:=by rw [<- hW]; exact (Ext.refl w).alloc _
 have hz:yh W w.heap.size:=by rw [<- hW]; exact yh.new w _
 have hs:=hWx.size;have hs1:W.heap.size=w.heap.size+1:=by rw [<- hW]; simp
 have HWX:=Lib.hid hWx;have HZ:=Lib.hid hz;have HL:=Lib.hid (jav n W);clear hWx hz
 by_cases h:1<=n/\n<=4
 · have hv:Pl.var n=.mk n false [] [Pl.zero,Pl.const 1]:=if_pos h;rw [hv];rw [decide_eq_true h.1,decide_eq_true h.2] at HL;clear hv;go_enter Tryz.func100,Tryz.ntmps100;go_wp2_with fail;clear hW;refine HL.out.mono ?_;rintro e w1 ⟨rfl,rfl⟩;go_wp2_with fail;refine (of_int 1 w1 (by omega) (by omega)).mono ?_;rintro e w2 ⟨z2,rfl,⟨y2,rfl,m2⟩,x2⟩;obtain ⟨C2,k2,rfl,-⟩:=id m2;have hzn:=HZ.out.ext x2 (by omega);have hs2:=x2.size
   have HF:Hid (∀ W2:World,Ext w2 W2->(∀ j,j < 8->W2.cell? ⟨w2.heap.size,j,none⟩=#[Value.int .i64 0,.bool false,.slice none 0 0,.slice none 0 0,.int .i64 0,.bool (decide ((1:Int) < 0)),.slice C2 (dg (1:Int).natAbs).length k2,.slice none 0 0][j]?)->w2.heap.size < W2.heap.size ->
    PlV W2 (fun b=>b=w2.heap.size) (.mk n false [] [Pl.zero,Pl.const 1]) (plV (.mk n false [] [Pl.zero,Pl.const 1]) (.slice none 0 0) (.slice (some ⟨w2.heap.size,0,none⟩) 2 2))):=by
    refine Lib.hid ?_;intro W2 hx hc hlt;refine PlV.mk (t:=.mk n false [] [Pl.zero,Pl.const 1]) (A:=some ⟨w2.heap.size,0,none⟩) (c:=2) (ja.nil W2) (Nat.le_refl 2) (by decide) ?_;refine ⟨⟨⟨w2.heap.size,0,none⟩,.slice none 0 0,.slice none 0 0,rfl,hlt,rfl,⟨hc 0 (by omega),hc 1 (by omega),hc 2 (by omega),hc 3 (by omega)⟩,Pl.zero_v _ _ none 0 (by decide)⟩,⟨⟨w2.heap.size,0,none⟩,.slice C2 (dg (1:Int).natAbs).length k2,.slice none 0 0,rfl,hlt,rfl,⟨?_,hc 5 (by omega),hc 6 (by omega),hc 7 (by omega)⟩,xbf _ (m2.ext hx)⟩,trivial⟩;rw [yx];exact hc 4 (by omega)
   obtain ⟨W2,hW2⟩:=n_m (w2.alloc (.cells #[.int .i64 0,.bool false,.slice none 0 0,.slice none 0 0,.int .i64 0,.bool false,.slice C2 (dg 1).length k2,.slice none 0 0] 44));have hx2:Ext w2 W2:=by rw [<- hW2]; exact (Ext.refl w2).alloc _
   have hpl:=HF.out W2 hx2 (fun j hj=>by
    rcases (show j=0\/j=1\/j=2\/j=3\/j=4\/j=5\/j=6\/j=7 by omega) with rfl | rfl | rfl | rfl | rfl | rfl | rfl | rfl <;> (rw [<- hW2]; simp [go_sem])) (by rw [<- hW2]; simp)
   have hzn2:=hzn.ext hx2 (by omega);have HFN:=Lib.hid (qi (q':=fun b=>w.heap.size<=b) ((HWX.out.trans x2).trans hx2) (Nat.le_refl _) hzn2 hpl (fun b _ hb=>⟨by omega,by omega⟩));obtain ⟨⟨z0,z1,z2',z3⟩,zf⟩:=hzn2;clear x2 m2 hzn hpl hx2 HF;go_wp2_with fail;exact bodyPost_ret (by simp [results,Tryz.results100,go_sem,z0,z1,z2',z3,plV,Pl.lv,Pl.neg,Pl.cs]) rfl HFN.out
 · have hv:Pl.var n=Pl.zero:=if_neg h;rw [hv];have HL2:Hid (Calls Tryz.prog 132 #[.int .i64 n] W fun e w'=>e=.returned (.bool false)/\w'=W):=by
    rw [show (decide (1<=n) && decide (n<=4))=false by simp; omega] at HL;exact HL
   have HFN:=Lib.hid (qi (q':=fun b=>w.heap.size<=b) HWX.out (Nat.le_refl _) HZ.out (Pl.zero_v W (fun b=>w.heap.size<=b/\b ≠ w.heap.size) none 0 (by decide)) (fun b _ hb=>⟨hb.2,hb.1⟩));obtain ⟨⟨z0,z1,z2',z3⟩,zf⟩:=HZ.out;clear hv HL h;go_enter Tryz.func100,Tryz.ntmps100;go_wp2_with fail;clear hW;refine HL2.out.mono ?_;rintro e w1 ⟨rfl,rfl⟩;go_wp2_with fail;exact bodyPost_ret (by simp [results,Tryz.results100,go_sem,z0,z1,z2',z3,plV,Pl.zero,Pl.lv,Pl.neg,Pl.cs]) rfl HFN.out
end Go.Proofs.YtheefiaoimbeiaaGreatDoor

/- Layer 38: builder.poly at names. -/
set_option maxRecDepth 100000
set_option maxHeartbeats 8000000
namespace Go.Proofs.YtheefiaoimbeiaaGreatDoor
open Go.RowKit
attribute [local go_sem] xaa xy gaa zaa kaa jaa yaa yt qy qaa uaa yad qm vaa ut
section
variable {w0:World} {L gb bl:Nat} {g:ByteArray->Int}
theorem gaz {s:ByteArray}:jab w0 L gb bl g (.name s):=by
 intro v W hx0 h hp hw;obtain rfl:=h;obtain ⟨W1,hW⟩:=n_m ((W.alloc (.cells #[.int .i64 0,.bool false,.slice none 0 0,.slice none 0 0] 44)).alloc (.cells #[.string s] 73));have hWx:Ext W W1:=by rw [<- hW]; exact ((Ext.refl W).alloc _).alloc _
 have hs0:W1.heap.size=W.heap.size+2:=by rw [<- hW]; simp
 have HX0:=Lib.hid hWx;have HZ:Hid (yh W1 W.heap.size):=Lib.hid (by rw [<- hW]; exact (yh.new W _).ext ((Ext.refl _).alloc _) (by simp));have d0:W1.cell? ⟨W.heap.size+1,0,none⟩=some (.string s):=by rw [<- hW]; simp [go_sem]
 have hgl:gb < W.heap.size:=hp.2.1;have HP:=Lib.hid hp;have HS:Hid (∀ W',Ext W1 W'->(Ext W W'/\W'.cell? ⟨gb,2,none⟩=some (.map (some bl))/\W'.cell? ⟨W.heap.size+1,0,none⟩=some (.string s))):=by
  intro W' hx;exact ⟨HX0.out.trans hx,(HP.out.ext (HX0.out.trans hx)).1,(hx.cell (p:=⟨W.heap.size+1,0,none⟩) (by show W.heap.size+1 < _; omega)).trans d0⟩
 have HS2:Hid (∀ W'' u0 u1 u2 u3,Ext W1 W''->∀ W',W'=(((W''.setCell ⟨W.heap.size,0,none⟩ u0).setCell ⟨W.heap.size,1,none⟩ u1).setCell ⟨W.heap.size,2,none⟩ u2).setCell ⟨W.heap.size,3,none⟩ u3->(Ext W W'/\W'.cell? ⟨gb,2,none⟩=some (.map (some bl))/\W'.cell? ⟨W.heap.size+1,0,none⟩=some (.string s))):=by
  intro W'' u0 u1 u2 u3 hx W' hW';obtain ⟨s1,k0,k1⟩:=HS.out W'' hx;rw [hW'];refine ⟨(((s1.setCell (by simp) _).setCell (by simp) _).setCell (by simp) _).setCell (by simp) _,?_,?_⟩ <;> rw [World.cell?_setCell_other _ _ _ _ (by simp; try omega),World.cell?_setCell_other _ _ _ _ (by simp; try omega),World.cell?_setCell_other _ _ _ _ (by simp; try omega),World.cell?_setCell_other _ _ _ _ (by simp; try omega)] <;> assumption
 have hlook:=(hp.2.2.ext (hWx.drew)).look s;rw [show yl g (.name s)=Pl.var (g s) from rfl];clear hx0 hp hw hWx;generalize g s=n at *;go_enter Tryz.func66,Tryz.ntmps66;go_wp2_with fail;clear hW d0;have yy0:Ext W1 W1.drew:=(Ext.refl W1).drew;have Y0:=Lib.hid yy0;clear yy0
 go_region_held3 (fun W' => Ext W W' /\ W'.cell? ⟨gb, 2, none⟩ = some (.map (some bl)) /\ W'.cell? ⟨W.heap.size + 1, 0, none⟩ = some (.string s))
  (first | with_reducible exact HS.out _ Y0.out | with_reducible exact HS.out _ yy3 | with_reducible exact HS2.out _ _ _ _ _ yy3 _ rfl)
  ((go_at_call 100
    refine (zcm n _).mono ?_;rintro e w3 ⟨z3,rfl,m3,x3⟩;obtain ⟨C3,i3,j3,D3,k3,rfl,-⟩:=id m3.open_;have yy3:Ext W1 w3:=Ext.trans Y0.out x3;obtain ⟨⟨r0,r1,r2,r3⟩,rf⟩:=HZ.out.ext yy3 (by omega)
    unfold plV))
 all_goals
  have hzn:=HZ.out.ext yy3 (by omega);have hsn:=(yy3:Ext W1 _).size;have hsp:=Y0.out.size;have HF:=Lib.hid (qi (q':=fun b=>W.heap.size<=b) (HX0.out.trans yy3) (by omega) hzn m3 (fun b _ hb=>⟨by omega,by omega⟩));clear m3 x3 yy3 HS HS2 HZ hlook
  try unfold plV
  go_wp2_with fail;exact bodyPost_ret (by simp [results,Tryz.results66,go_sem,r0,r1,r2,r3,plV]) rfl HF.out
end
end Go.Proofs.YtheefiaoimbeiaaGreatDoor

/- Layer 38: builder.poly at numbers, negatives, powers; at any term. -/
set_option maxRecDepth 100000
set_option maxHeartbeats 8000000
namespace Go.Proofs.YtheefiaoimbeiaaGreatDoor
open Go.RowKit
attribute [local go_sem] xaa xy gaa zaa kaa jaa yaa yt qy qaa uaa yad qm vaa ut
section
variable {w0:World} {L gb bl:Nat} {g:ByteArray->Int}
theorem ucd (hL:L<=1000000000000) {z:Int}:jab w0 L gb bl g (.num z):=by
 intro v W hx0 h hp hw;obtain ⟨x,rfl,hx⟩:=h;have HX:=Lib.hid (hx.ext hx0);obtain ⟨b1,A1,n1,c1,rfl⟩:=hx.unpack;rw [show yl g (.num z)=Pl.const z from rfl];clear hx hx0 hp hw;go_enter Tryz.func66,Tryz.ntmps66;go_wp2_with fail;obtain ⟨W1,hW⟩:=n_m ((W.alloc (.cells #[.int .i64 0,.bool false,.slice none 0 0,.slice none 0 0] 44)).alloc (.cells #[.bool b1,.slice A1 n1 c1] 110));have hWx:Ext W W1:=by rw [<- hW]; exact ((Ext.refl W).alloc _).alloc _
 have hWs:W1.heap.size=W.heap.size+1+1:=by rw [<- hW]; simp
 have hZ:yh W1 W.heap.size:=by rw [<- hW]; exact (yh.new W _).ext ((Ext.refl _).alloc _) (by simp)
 rw [hW];clear hW;refine (jax _ (HX.out.ext hWx) (by omega)).mono ?_;rintro e w3 ⟨z3,rfl,m3,y3⟩;obtain ⟨C3,i3,j3,D3,k3,rfl,-⟩:=id m3.open_;have hzn:=hZ.ext y3 (by omega);have hsn:=y3.size;have HF:=Lib.hid (qi (q':=fun b=>W.heap.size<=b) (hWx.trans y3) (Nat.le_refl _) hzn m3 (fun b _ hb=>⟨by omega,by omega⟩));obtain ⟨⟨r0,r1,r2,r3⟩,rf⟩:=hzn;clear hZ hWx hWs y3 m3;unfold plV;go_wp2_with fail;exact bodyPost_ret (by simp [results,Tryz.results66,go_sem,r0,r1,r2,r3,plV]) rfl HF.out
theorem wcd {a:Tm} (iha:jab w0 L gb bl g a):jab w0 L gb bl g (.neg a):=by
 intro v W hx0 h hp hw;have hwa:a.wt<=400:=hw;obtain ⟨x,rfl,hx⟩:=h;have HFA:=Lib.hid ((vag g a hwa).fit400 (by omega));have HA:=Lib.hid (fun W' (k:Ext W W')=>iha x W' (hx0.trans k) hx (hp.ext k) hwa);obtain ⟨T,x,rfl⟩:=hx.iface;rw [show yl g (.neg a)=(yl g a).opp from rfl];clear hx iha hp hx0 hw hwa;generalize yl g a=p at *;go_enter Tryz.func66,Tryz.ntmps66;go_wp2_with fail;obtain ⟨W1,hW⟩:=n_m ((W.alloc (.cells #[.int .i64 0,.bool false,.slice none 0 0,.slice none 0 0] 44)).alloc (.cells #[.iface T x] 171));have hWx:Ext W W1:=by rw [<- hW]; exact ((Ext.refl W).alloc _).alloc _
 have hWs:W1.heap.size=W.heap.size+1+1:=by rw [<- hW]; simp
 have hZ:yh W1 W.heap.size:=by rw [<- hW]; exact (yh.new W _).ext ((Ext.refl _).alloc _) (by simp)
 rw [hW];clear hW;refine (HA.out _ hWx).mono ?_;rintro e w1 ⟨z1,rfl,m1,x1⟩;have M1:=Lib.hid m1;have X1:=Lib.hid x1;have HWX:=Lib.hid hWx;have HZ:=Lib.hid hZ;have HWS:=Lib.hid hWs;obtain ⟨C1,i1,j1,D1,k1,rfl,-⟩:=id m1.open_;clear m1 x1 hWx hZ hWs;unfold plV at M1 ⊢;go_wp2_with fail;refine (ucc _ M1.out HFA.out (by omega) (by omega)).mono ?_;rintro e w3 ⟨z3,rfl,m3,x3⟩;have hWx:=HWX.out;have hZ:=HZ.out;have hWs:=HWS.out;have y3:=X1.out.trans x3;obtain ⟨C3,i3,j3,D3,k3,rfl,-⟩:=id m3.open_;have hzn:=hZ.ext y3 (by omega);have hsn:=y3.size;have hs1:=X1.out.size;have HF:=Lib.hid (qi (q':=fun b=>W.heap.size<=b) (hWx.trans y3) (Nat.le_refl _) hzn m3 (fun b _ hb=>⟨by omega,by omega⟩));obtain ⟨⟨r0,r1,r2,r3⟩,rf⟩:=hzn;clear hZ hWx hWs y3 m3
 try unfold plV
 go_wp2_with fail;exact bodyPost_ret (by simp [results,Tryz.results66,go_sem,r0,r1,r2,r3,plV]) rfl HF.out
theorem vcd {a:Tm} {n:Int} (iha:jab w0 L gb bl g a):jab w0 L gb bl g (.pow a n):=by
 intro v W hx0 h hp hw;obtain ⟨hw1,hwa,hn1,hn2,hn3⟩:=gbc hw;have hmul:(n.toNat+1) * a.wt.toNat<=800:=by
  have h0:=a.wt_bd;rw [hw1] at hw;obtain ⟨m,hm⟩:∃ m:Nat,jc n 1=m:=⟨(jc n 1).toNat,by omega⟩;obtain ⟨k,hk⟩:∃ k:Nat,a.wt=k:=⟨a.wt.toNat,by omega⟩;rw [hm,hk] at hw;have h1:m * k<=400:=by exact_mod_cast hw
  rw [hk,Int.toNat_natCast];have h2:n.toNat * k<=m * k:=Nat.mul_le_mul_right _ (by omega);rw [Nat.succ_mul];omega
 obtain ⟨x,rfl,hx⟩:=h;have hfit:=(vag g a hwa).fit;have HFA:=Lib.hid hfit;have HA:=Lib.hid (fun W' (k:Ext W W')=>iha x W' (hx0.trans k) hx (hp.ext k) hwa);obtain ⟨T,x,rfl⟩:=hx.iface;rw [show yl g (.pow a n)=(yl g a).pow n.toNat from rfl];have hmul2:(n.toNat+1) * (a.wt.toNat+1)<=1300:=by rw [Nat.mul_add]; omega
 clear hx iha hp hx0 hw hw1 hfit;generalize yl g a=p at *;generalize a.wt.toNat=k at *;have HM1:=Lib.hid hmul;have HM2:=Lib.hid hmul2;have hn:n<=400:=by omega
 clear hmul hmul2 hwa hn1 hn2 hn3;obtain ⟨W1,hW⟩:=n_m ((W.alloc (.cells #[.int .i64 0,.bool false,.slice none 0 0,.slice none 0 0] 44)).alloc (.cells #[.iface T x,.int .i64 n] 173));have HX0:Hid (Ext W W1):=Lib.hid (by rw [<- hW]; exact ((Ext.refl W).alloc _).alloc _);have hs0:W1.heap.size=W.heap.size+2:=by rw [<- hW]; simp
 have HZ:Hid (yh W1 W.heap.size):=Lib.hid (by rw [<- hW]; exact (yh.new W _).ext ((Ext.refl _).alloc _) (by simp));have HS:Hid (∀ W',Ext W1 W'->(Ext W W'/\W'.cell? ⟨W.heap.size+1,0,none⟩=some (.iface T x)/\W'.cell? ⟨W.heap.size+1,1,none⟩=some (.int .i64 n))):=by
  intro W' hx;obtain ⟨hc,hf⟩:=hx.cells;refine ⟨HX0.out.trans hx,?_,?_⟩ <;> (rw [hc _ _ (by omega),<- hW]; simp [go_sem])
 have HS2:Hid (∀ W'' u0 u1 u2 u3,Ext W1 W''->∀ W',W'=(((W''.setCell ⟨W.heap.size,0,none⟩ u0).setCell ⟨W.heap.size,1,none⟩ u1).setCell ⟨W.heap.size,2,none⟩ u2).setCell ⟨W.heap.size,3,none⟩ u3->(Ext W W'/\W'.cell? ⟨W.heap.size+1,0,none⟩=some (.iface T x)/\W'.cell? ⟨W.heap.size+1,1,none⟩=some (.int .i64 n))):=by
  intro W'' u0 u1 u2 u3 hx W' hW';obtain ⟨s1,k0,k1⟩:=HS.out W'' hx;rw [hW'];refine ⟨(((s1.setCell (by simp) _).setCell (by simp) _).setCell (by simp) _).setCell (by simp) _,?_,?_⟩ <;> rw [World.cell?_setCell_other _ _ _ _ (by simp; try omega),World.cell?_setCell_other _ _ _ _ (by simp; try omega),World.cell?_setCell_other _ _ _ _ (by simp; try omega),World.cell?_setCell_other _ _ _ _ (by simp; try omega)] <;> assumption
 go_enter Tryz.func66,Tryz.ntmps66;go_wp2_with fail;clear hW;have yy0:Ext W1 W1.drew:=(Ext.refl W1).drew;have Y0:=Lib.hid yy0;clear yy0
 go_region_held3 (fun W' => Ext W W' /\ W'.cell? ⟨W.heap.size + 1, 0, none⟩ = some (.iface T x) /\ W'.cell? ⟨W.heap.size + 1, 1, none⟩ = some (.int .i64 n))
  (first | with_reducible exact HS.out _ Y0.out | with_reducible exact HS.out _ yy1 | with_reducible exact HS.out _ yy3 | with_reducible exact HS2.out _ _ _ _ _ yy3 _ rfl)
  (first
    | (go_at_call 66
       refine (HA.out _ (HX0.out.trans Y0.out)).mono ?_;rintro e w1 ⟨z1,rfl,m1,x1⟩;obtain ⟨C1,i1,j1,D1,k1,rfl,-⟩:=id m1.open_;have yy1:Ext W1 w1:=Ext.trans Y0.out x1
       unfold plV)
    | (go_at_call 104
       refine (wcj _ m1 HFA.out (by have:=HM1.out; omega) (by have:=HM2.out; omega) (by omega)).mono ?_;rintro e w3 ⟨z3,rfl,m3,x3⟩;obtain ⟨C3,i3,j3,D3,k3,rfl,-⟩:=id m3.open_;have yy3:Ext W1 w3:=Ext.trans yy1 x3;obtain ⟨⟨r0,r1,r2,r3⟩,rf⟩:=HZ.out.ext yy3 (by omega)
       unfold plV))
 all_goals
  have hzn:=HZ.out.ext yy3 (by omega);have hsn:=(yy3:Ext W1 _).size;have hsp:=(yy1:Ext W1 _).size;have HF:=Lib.hid (qi (q':=fun b=>W.heap.size<=b) (HX0.out.trans yy3) (by omega) hzn m3 (fun b _ hb=>⟨by omega,by omega⟩));clear m1 m3 x1 x3 yy1 yy3 HS HS2 HZ
  try unfold plV
  go_wp2_with fail;exact bodyPost_ret (by simp [results,Tryz.results66,go_sem,r0,r1,r2,r3,plV]) rfl HF.out
theorem xb8 (hL:L<=1000000000000) (t:Tm):jab w0 L gb bl g t:=by
 induction t with
 | num z=>exact ucd hL
 | name s=>exact gaz
 | add a b iha ihb=>exact xce iha ihb
 | sub a b iha ihb=>exact jcd iha ihb
 | mul a b iha ihb=>exact zce iha ihb
 | neg a iha=>exact wcd iha
 | pow a n iha=>exact vcd iha
end
end Go.Proofs.YtheefiaoimbeiaaGreatDoor

/- Layer 40: evaluate.At, Poly. -/
namespace Go.Proofs.YtheefiaoimbeiaaGreatDoor
open Go.RowKit
theorem jc2 {p:Pl} {D L K:Nat} (hdm:p.dm<=D) (hs:p.sz * (D+L+4)<=K):p.eb L<=K:=by
 have:=Pl.eb_sz L p D hdm;omega
end Go.Proofs.YtheefiaoimbeiaaGreatDoor
