/- Layer 22: recpoly.mul at any two canonical polynomials. -/
import Derived.Test.YtcepajijiabkmaaGreatMp22
set_option linter.unusedSimpArgs false
set_option linter.unusedVariables false
namespace Go.Proofs.YtcepajijiabkmaaGreat
open Lib (hid)
open Go.RowKit
theorem gbo : ∀ {cs : List Pl} {c : Pl}, c ∈ cs -> c.sz <= vk cs
 | [],c,h=>by cases h
 | x :: r,c,h=>by
   rw [vk];rcases pQ.1 h with rfl | h
   · omega
   · have:=gbo h; omega
theorem Pl.KV {p c:Pl} (h:c ∈ p.cs):c.sz < p.sz:=by
 obtain ⟨l,n,d,cs⟩:=p;have:=gbo (cs:=cs) h;rw [Pl.sz]; omega
theorem Fit.cs {p c:Pl} {E D:Nat} (hp:Fit p E D) (h:c ∈ p.cs):Fit c E D:=by
 obtain ⟨l,n,d,cs⟩:=p
 by_cases hl:0 < l
 · exact hp.kid hl h
 · have hc:=hp.can;unfold Pl.Can at hc;rcases hc with hc | hc
   · have h2:c ∈ cs:=h;rw [hc.2.1] at h2;cases h2
   · omega
theorem uda {w0:World} {E D F G:Nat} (hE:E<=900) (hF:F<=900) (hD:D+G<=17592186044000) (n:Nat):∀ (p q:Pl) (E' D' F' G':Nat),(E'=E/\D'=D/\F'=F/\G'=G)\/(E'=F/\D'=G/\F'=E/\G'=D)->p.sz+q.sz < n->Fit p E' D'->Fit q F' G'->∀ (v u:Value) (w:World),PlV w0 (fun _=>True) p v->PlV w0 (fun _=>True) q u->Ext w0 w ->
 Calls Tryz.prog 40 #[v,u] w (uf (fun i=>w.heap.size<=i) (p.mul q) w):=by
 induction n with
 | zero=>intro p q E' D' F' G' _ h; omega
 | succ n ih =>
 intro p q E' D' F' G' wZ hn hp hq v u w hv hu hx;have hE':E'<=900:=by omega
 have hF':F'<=900:=by omega
 have hD':D'+G'<=17592186044000:=by omega
 by_cases h:p.lv=q.lv/\0 < p.lv
 · exact jcw p q v u hp hq hE' hF' hD' hv hu hx h.1 h.2 (fun a ha b hb x y vP zD W' bJ=>ih a b E' D' F' G' wZ (by have:=Pl.KV ha; have:=Pl.KV hb; omega) (hp.cs ha) (hq.cs hb) x y W' vP zD bJ)
 · refine wb9 p q v u hp hq (by omega) (by omega) (by omega) hv hu hx (fun he=>?_) (fun a ha x vP W' bJ=>ih a q E' D' F' G' wZ (by have:=Pl.KV ha; omega) (hp.cs ha) hq x u W' vP hu bJ) (fun a ha x vP W' bJ=>ih a p F' G' E' D' (by omega) (by have:=Pl.KV ha; omega) (hq.cs ha) hp x v W' vP hv bJ);have:=hp.can.qq.1;have h3:¬ 0 < p.lv:=fun h0=>h ⟨he,h0⟩
   omega
theorem mul_any {w:World} {qa qb:Nat->Prop} {E D F G:Nat} (p q:Pl) (v u:Value) (hp:Fit p E D) (hq:Fit q F G) (hE:E<=900) (hF:F<=900) (hD:D+G<=17592186044000) (h:PlV w qa p v) (k:PlV w qb q u) :
 Calls Tryz.prog 40 #[v,u] w (uf (fun i=>w.heap.size<=i) (p.mul q) w):=
 uda hE hF hD (p.sz+q.sz+1) p q E D F G (.inl ⟨rfl,rfl,rfl,rfl⟩) (tx _) hp hq v u w (h.mono fun _ _=>trivial) (k.mono fun _ _=>trivial) (Ext.refl w)
theorem Fit.copy {p:Pl} {E D:Nat} (h:Fit p E D) (hE:E<=1000):p.sz<=1099511627776:=py h.sz (py (Pc (show E+2<=1002 by omega) 4) (by decide))
theorem jb9 {w:World} {qa qb:Nat->Prop} {p q:Pl} {A0 A1 B0 B1:Option Addr} {n0 c0 c1 m0 d0 d1:Nat} (hp:PlV w qa p (plV p (.slice A0 n0 c0) (.slice A1 p.cs.length c1))) (hq:PlV w qb q (plV q (.slice B0 m0 d0) (.slice B1 q.cs.length d1))) (T:TypeId) :
 jd (w.alloc (.cells #[.int .i64 p.lv,.bool p.neg,.slice A0 n0 c0,.slice A1 p.cs.length c1,.int .i64 q.lv,.bool q.neg,.slice B0 m0 d0,.slice B1 q.cs.length d1] T)) (fun _=>True) [p,q] (some ⟨w.heap.size,0,none⟩) 0:=by
 refine ⟨⟨⟨w.heap.size,0,none⟩,_,_,rfl,by simp,trivial,?_,(hp.ext ((Ext.refl w).alloc _)).mono fun _ _=>trivial⟩,⟨⟨w.heap.size,0,none⟩,_,_,rfl,by simp,trivial,?_,(hq.ext ((Ext.refl w).alloc _)).mono fun _ _=>trivial⟩,trivial⟩
 · refine ⟨?_,?_,?_,?_⟩ <;> simp [go_sem,zu]
 · refine ⟨?_,?_,?_,?_⟩ <;> simp [go_sem,zu]
theorem ycb {w:World} {qa:Nat->Prop} {p q:Pl} {A:Option Addr} {c E D:Nat} (hp:Fit p E D) (hq:Fit q E D) (hE:E<=1000000) (hD:D+1<=17592186044000) (bZ:2<=c) (dO:c<=9223372036854775807) (h:jd w qa [p,q] A 0) :
 Calls Tryz.prog 37 #[.slice A 2 c] w (uf (fun b=>w.heap.size<=b) (p.add q) w):=by
 have h1:=xcb (E:=E) (D:=D+1) [p,q] A c hE hD (fun x hx=>by
  simp only [pQ,sM,or_false] at hx;rcases hx with rfl | rfl
  · exact ⟨hp.can,hp.ex⟩
  · exact ⟨hq.can,hq.ex⟩) (by
  have:=hp.nr; have:=hq.nr;rw [lnr,lnr,lnr,se];have:2<=B32:=by decide
  have:=sE (B32 ^ D) this
  omega) (by simp) bZ dO h
 rw [wc1] at h1;exact h1
set_option maxRecDepth 100000
set_option maxHeartbeats 8000000
theorem wc0 {w:World} {p q:Pl} {E D:Nat} {q0:Nat->Prop} (v0:Value) {q1:Nat->Prop} (v1:Value) (h0:PlV w q0 p v0) (h1:PlV w q1 q v1) (hp:Fit p E D) (hq:Fit q E D) (hE:E<=500) (hD:D+2<=8796093022000):Calls Tryz.prog 24 #[v0,v1] w (uf (fun b=>w.heap.size<=b) (p.add q) w):=by
 have H0:=hid h0;obtain ⟨A0,n0,c0,B0,d0,rfl,-,-,-,-⟩:=h0.open_;clear h0;have H1:=hid h1;obtain ⟨A1,n1,c1,B1,d1,rfl,-,-,-,-⟩:=h1.open_;clear h1;obtain ⟨W,hW⟩:=n_m (((w.alloc (.cells #[.int .i64 (p).lv,.bool (p).neg,.slice A0 n0 c0,.slice B0 (p).cs.length d0] 33)).alloc (.cells #[.int .i64 (q).lv,.bool (q).neg,.slice A1 n1 c1,.slice B1 (q).cs.length d1] 33)).alloc (.cells #[.int .i64 0,.bool false,.slice none 0 0,.slice none 0 0] 33));have ai:Ext w W:=by rw [<- hW]; exact (((Ext.refl w).alloc _).alloc _).alloc _
 have dG:W.heap.size=w.heap.size+1+1+1:=by rw [<- hW]; simp
 have ay:=hid ai;have HS:Hid (∀ W',Ext W W'->(Ext w W'/\W'.cell? ⟨w.heap.size,0,none⟩=some (.int .i64 (p).lv)/\W'.cell? ⟨w.heap.size,1,none⟩=some (.bool (p).neg)/\W'.cell? ⟨w.heap.size,2,none⟩=some (.slice A0 n0 c0)/\W'.cell? ⟨w.heap.size,3,none⟩=some (.slice B0 (p).cs.length d0)/\W'.cell? ⟨w.heap.size+1,0,none⟩=some (.int .i64 (q).lv)/\W'.cell? ⟨w.heap.size+1,1,none⟩=some (.bool (q).neg)/\W'.cell? ⟨w.heap.size+1,2,none⟩=some (.slice A1 n1 c1)/\W'.cell? ⟨w.heap.size+1,3,none⟩=some (.slice B1 (q).cs.length d1))):=by
  have:∀ W',Ext W W'->(Ext w W'/\W'.cell? ⟨w.heap.size,0,none⟩=some (.int .i64 (p).lv)/\W'.cell? ⟨w.heap.size,1,none⟩=some (.bool (p).neg)/\W'.cell? ⟨w.heap.size,2,none⟩=some (.slice A0 n0 c0)/\W'.cell? ⟨w.heap.size,3,none⟩=some (.slice B0 (p).cs.length d0)/\W'.cell? ⟨w.heap.size+1,0,none⟩=some (.int .i64 (q).lv)/\W'.cell? ⟨w.heap.size+1,1,none⟩=some (.bool (q).neg)/\W'.cell? ⟨w.heap.size+1,2,none⟩=some (.slice A1 n1 c1)/\W'.cell? ⟨w.heap.size+1,3,none⟩=some (.slice B1 (q).cs.length d1)):=fun W' hx=>by
   obtain ⟨hc,hf⟩:=hx.cells;refine ⟨ai.trans hx,?_,?_,?_,?_,?_,?_,?_,?_⟩ <;> (rw [hc _ _ (by omega),<- hW]; simp [go_sem])
  exact this
 have HZ:Hid (jf W (w.heap.size+1+1)):=by
  have:jf W (w.heap.size+1+1):=by
   rw [<- hW];refine ⟨⟨?_,?_,?_,?_⟩,fun i=>?_⟩ <;> simp [go_sem]
  exact this
 have aY:Hid (∀ W'' u0 u1 u2 u3,Ext W W''->∀ W',W'=(((W''.setCell ⟨w.heap.size+1+1,0,none⟩ u0).setCell ⟨w.heap.size+1+1,1,none⟩ u1).setCell ⟨w.heap.size+1+1,2,none⟩ u2).setCell ⟨w.heap.size+1+1,3,none⟩ u3->(Ext w W'/\W'.cell? ⟨w.heap.size,0,none⟩=some (.int .i64 (p).lv)/\W'.cell? ⟨w.heap.size,1,none⟩=some (.bool (p).neg)/\W'.cell? ⟨w.heap.size,2,none⟩=some (.slice A0 n0 c0)/\W'.cell? ⟨w.heap.size,3,none⟩=some (.slice B0 (p).cs.length d0)/\W'.cell? ⟨w.heap.size+1,0,none⟩=some (.int .i64 (q).lv)/\W'.cell? ⟨w.heap.size+1,1,none⟩=some (.bool (q).neg)/\W'.cell? ⟨w.heap.size+1,2,none⟩=some (.slice A1 n1 c1)/\W'.cell? ⟨w.heap.size+1,3,none⟩=some (.slice B1 (q).cs.length d1))):=by
  have:∀ W'' u0 u1 u2 u3,Ext W W''->∀ W',W'=(((W''.setCell ⟨w.heap.size+1+1,0,none⟩ u0).setCell ⟨w.heap.size+1+1,1,none⟩ u1).setCell ⟨w.heap.size+1+1,2,none⟩ u2).setCell ⟨w.heap.size+1+1,3,none⟩ u3->(Ext w W'/\W'.cell? ⟨w.heap.size,0,none⟩=some (.int .i64 (p).lv)/\W'.cell? ⟨w.heap.size,1,none⟩=some (.bool (p).neg)/\W'.cell? ⟨w.heap.size,2,none⟩=some (.slice A0 n0 c0)/\W'.cell? ⟨w.heap.size,3,none⟩=some (.slice B0 (p).cs.length d0)/\W'.cell? ⟨w.heap.size+1,0,none⟩=some (.int .i64 (q).lv)/\W'.cell? ⟨w.heap.size+1,1,none⟩=some (.bool (q).neg)/\W'.cell? ⟨w.heap.size+1,2,none⟩=some (.slice A1 n1 c1)/\W'.cell? ⟨w.heap.size+1,3,none⟩=some (.slice B1 (q).cs.length d1)):=fun W'' u0 u1 u2 u3 hx W' bJ=>by
   obtain ⟨s1,k0,k1,k2,k3,k4,k5,k6,k7⟩:=HS.out W'' hx;rw [bJ];refine ⟨(((s1.setCell (by simp; try omega) _).setCell (by simp; try omega) _).setCell (by simp; try omega) _).setCell (by simp; try omega) _,?_,?_,?_,?_,?_,?_,?_,?_⟩ <;> rw [ph _ _ _ _ (by simp; try omega),ph _ _ _ _ (by simp; try omega),ph _ _ _ _ (by simp; try omega),ph _ _ _ _ (by simp; try omega)] <;> assumption
  exact this
 have oq:=hid hp;have qH:=hid hq;clear hp hq;have jD:Hid ((p.add q).sz<=1099511627776):=hid (((oq.out.add qH.out)).copy (by omega));have oQ:Hid ((p.add q).dm<=35184372088832):=hid (py ((oq.out.add qH.out)).dm (by omega));have rq:=hid ((oq.out.add qH.out));obtain ⟨-,b0,b1,b2,b3,b4,b5,b6,b7⟩:=HS.out W (Ext.refl W);clear ai;unfold plV at *;go_enter Tryz.func24,Tryz.ntmps24;go_wp2_with fail;clear hW b0 b1 b2 b3 b4 b5 b6 b7;have pO:Ext W W.drew:=(Ext.refl W).drew;have Y0:=hid pO;clear pO
 go_region_held3 (fun W' => Ext w W' /\ W'.cell? ⟨w.heap.size, 0, none⟩ = some (.int .i64 (p).lv) /\ W'.cell? ⟨w.heap.size, 1, none⟩ = some (.bool (p).neg) /\ W'.cell? ⟨w.heap.size, 2, none⟩ = some (.slice A0 n0 c0) /\ W'.cell? ⟨w.heap.size, 3, none⟩ = some (.slice B0 (p).cs.length d0) /\ W'.cell? ⟨w.heap.size + 1, 0, none⟩ = some (.int .i64 (q).lv) /\ W'.cell? ⟨w.heap.size + 1, 1, none⟩ = some (.bool (q).neg) /\ W'.cell? ⟨w.heap.size + 1, 2, none⟩ = some (.slice A1 n1 c1) /\ W'.cell? ⟨w.heap.size + 1, 3, none⟩ = some (.slice B1 (q).cs.length d1))
  (first | with_reducible exact HS.out _ Y0.out | with_reducible exact HS.out _ gI | with_reducible exact HS.out _ iO | with_reducible exact HS.out _ mG | with_reducible exact HS.out _ pM | with_reducible exact HS.out _ (iO.alloc _) | exact aY.out _ _ _ _ _ pM _ rfl)
  (first
    | (go_at_call 38
       (fail_if_success have _:=gI)
       refine (ut _ (H0.out.ext (ay.out.trans Y0.out)) oq.out.can).mono ?_;rintro e w1 ⟨z1,rfl,m1,x1⟩;obtain ⟨C1,i1,j1,D1,k1,rfl,-⟩:=id m1.open_;have gI:Ext W w1:=Ext.trans Y0.out x1
       unfold plV)
    | (go_at_call 38
       refine (ut _ (H1.out.ext (ay.out.trans gI)) qH.out.can).mono ?_;rintro e w2 ⟨z2,rfl,m2,x2⟩;obtain ⟨C2,i2,j2,D2,k2,rfl,-⟩:=id m2.open_;have iO:Ext W w2:=Ext.trans gI x2
       replace m1:=m1.ext x2
       unfold plV)
    | (go_at_call 37
       refine (ycb oq.out qH.out (by omega) (by omega) (pj 2) (by decide) (jb9 m1 m2 _)).mono ?_;rintro e w3 ⟨z3,rfl,m3,x3⟩;obtain ⟨C3,i3,j3,D3,k3,rfl,-⟩:=id m3.open_;have mG:Ext W w3:=Ext.trans (iO.alloc _) x3
       replace m1:=m1.ext (((Ext.refl _).alloc _).trans x3)
       replace m2:=m2.ext (((Ext.refl _).alloc _).trans x3)
       unfold plV)
    | (go_at_call 29
       refine (zah _ _ (Pl.yk _ _) jD.out oQ.out m3).mono ?_;rintro e w4 ⟨z4,rfl,m4,x4⟩;obtain ⟨C4,i4,j4,D4,k4,rfl,-⟩:=id m4.open_;have pM:Ext W w4:=Ext.trans mG x4
       replace m1:=m1.ext x4
       replace m2:=m2.ext x4
       replace m3:=m3.ext x4
       obtain ⟨⟨r0,r1,r2,r3⟩,rf⟩:=HZ.out.ext pM (by omega)
       unfold plV))
 have aQ:=HZ.out.ext pM (by omega);have BG:=(pM:Ext W _).size;have oZ:=(mG:Ext W _).size;have HF:=hid (qf (q':=fun b=>w.heap.size<=b) (ay.out.trans pM) (by omega) aQ m4 (fun b _ hb=>⟨by omega,by omega⟩));clear m4 x4 m3 x3 m2 x2 m1 x1 pM mG iO gI aY HS HZ
 try unfold plV
 go_wp2_with fail;exact bodyPost_ret (by simp [results,Tryz.results24,go_sem,r0,r1,r2,r3,plV]) rfl HF.out
theorem vaq {w:World} {p q:Pl} {E D:Nat} {q0:Nat->Prop} (v0:Value) {q1:Nat->Prop} (v1:Value) (h0:PlV w q0 p v0) (h1:PlV w q1 q v1) (hp:Fit p E D) (hq:Fit q E D) (hE:E<=500) (hD:D+2<=8796093022000):Calls Tryz.prog 14 #[v0,v1] w (uf (fun b=>w.heap.size<=b) (p.add q.z8) w):=by
 have H0:=hid h0;obtain ⟨A0,n0,c0,B0,d0,rfl,-,-,-,-⟩:=h0.open_;clear h0;have H1:=hid h1;obtain ⟨A1,n1,c1,B1,d1,rfl,-,-,-,-⟩:=h1.open_;clear h1;obtain ⟨W,hW⟩:=n_m (((w.alloc (.cells #[.int .i64 (p).lv,.bool (p).neg,.slice A0 n0 c0,.slice B0 (p).cs.length d0] 33)).alloc (.cells #[.int .i64 (q).lv,.bool (q).neg,.slice A1 n1 c1,.slice B1 (q).cs.length d1] 33)).alloc (.cells #[.int .i64 0,.bool false,.slice none 0 0,.slice none 0 0] 33));have ai:Ext w W:=by rw [<- hW]; exact (((Ext.refl w).alloc _).alloc _).alloc _
 have dG:W.heap.size=w.heap.size+1+1+1:=by rw [<- hW]; simp
 have ay:=hid ai;have HS:Hid (∀ W',Ext W W'->(Ext w W'/\W'.cell? ⟨w.heap.size,0,none⟩=some (.int .i64 (p).lv)/\W'.cell? ⟨w.heap.size,1,none⟩=some (.bool (p).neg)/\W'.cell? ⟨w.heap.size,2,none⟩=some (.slice A0 n0 c0)/\W'.cell? ⟨w.heap.size,3,none⟩=some (.slice B0 (p).cs.length d0)/\W'.cell? ⟨w.heap.size+1,0,none⟩=some (.int .i64 (q).lv)/\W'.cell? ⟨w.heap.size+1,1,none⟩=some (.bool (q).neg)/\W'.cell? ⟨w.heap.size+1,2,none⟩=some (.slice A1 n1 c1)/\W'.cell? ⟨w.heap.size+1,3,none⟩=some (.slice B1 (q).cs.length d1))):=by
  have:∀ W',Ext W W'->(Ext w W'/\W'.cell? ⟨w.heap.size,0,none⟩=some (.int .i64 (p).lv)/\W'.cell? ⟨w.heap.size,1,none⟩=some (.bool (p).neg)/\W'.cell? ⟨w.heap.size,2,none⟩=some (.slice A0 n0 c0)/\W'.cell? ⟨w.heap.size,3,none⟩=some (.slice B0 (p).cs.length d0)/\W'.cell? ⟨w.heap.size+1,0,none⟩=some (.int .i64 (q).lv)/\W'.cell? ⟨w.heap.size+1,1,none⟩=some (.bool (q).neg)/\W'.cell? ⟨w.heap.size+1,2,none⟩=some (.slice A1 n1 c1)/\W'.cell? ⟨w.heap.size+1,3,none⟩=some (.slice B1 (q).cs.length d1)):=fun W' hx=>by
   obtain ⟨hc,hf⟩:=hx.cells;refine ⟨ai.trans hx,?_,?_,?_,?_,?_,?_,?_,?_⟩ <;> (rw [hc _ _ (by omega),<- hW]; simp [go_sem])
  exact this
 have HZ:Hid (jf W (w.heap.size+1+1)):=by
  have:jf W (w.heap.size+1+1):=by
   rw [<- hW];refine ⟨⟨?_,?_,?_,?_⟩,fun i=>?_⟩ <;> simp [go_sem]
  exact this
 have aY:Hid (∀ W'' u0 u1 u2 u3,Ext W W''->∀ W',W'=(((W''.setCell ⟨w.heap.size+1+1,0,none⟩ u0).setCell ⟨w.heap.size+1+1,1,none⟩ u1).setCell ⟨w.heap.size+1+1,2,none⟩ u2).setCell ⟨w.heap.size+1+1,3,none⟩ u3->(Ext w W'/\W'.cell? ⟨w.heap.size,0,none⟩=some (.int .i64 (p).lv)/\W'.cell? ⟨w.heap.size,1,none⟩=some (.bool (p).neg)/\W'.cell? ⟨w.heap.size,2,none⟩=some (.slice A0 n0 c0)/\W'.cell? ⟨w.heap.size,3,none⟩=some (.slice B0 (p).cs.length d0)/\W'.cell? ⟨w.heap.size+1,0,none⟩=some (.int .i64 (q).lv)/\W'.cell? ⟨w.heap.size+1,1,none⟩=some (.bool (q).neg)/\W'.cell? ⟨w.heap.size+1,2,none⟩=some (.slice A1 n1 c1)/\W'.cell? ⟨w.heap.size+1,3,none⟩=some (.slice B1 (q).cs.length d1))):=by
  have:∀ W'' u0 u1 u2 u3,Ext W W''->∀ W',W'=(((W''.setCell ⟨w.heap.size+1+1,0,none⟩ u0).setCell ⟨w.heap.size+1+1,1,none⟩ u1).setCell ⟨w.heap.size+1+1,2,none⟩ u2).setCell ⟨w.heap.size+1+1,3,none⟩ u3->(Ext w W'/\W'.cell? ⟨w.heap.size,0,none⟩=some (.int .i64 (p).lv)/\W'.cell? ⟨w.heap.size,1,none⟩=some (.bool (p).neg)/\W'.cell? ⟨w.heap.size,2,none⟩=some (.slice A0 n0 c0)/\W'.cell? ⟨w.heap.size,3,none⟩=some (.slice B0 (p).cs.length d0)/\W'.cell? ⟨w.heap.size+1,0,none⟩=some (.int .i64 (q).lv)/\W'.cell? ⟨w.heap.size+1,1,none⟩=some (.bool (q).neg)/\W'.cell? ⟨w.heap.size+1,2,none⟩=some (.slice A1 n1 c1)/\W'.cell? ⟨w.heap.size+1,3,none⟩=some (.slice B1 (q).cs.length d1)):=fun W'' u0 u1 u2 u3 hx W' bJ=>by
   obtain ⟨s1,k0,k1,k2,k3,k4,k5,k6,k7⟩:=HS.out W'' hx;rw [bJ];refine ⟨(((s1.setCell (by simp; try omega) _).setCell (by simp; try omega) _).setCell (by simp; try omega) _).setCell (by simp; try omega) _,?_,?_,?_,?_,?_,?_,?_,?_⟩ <;> rw [ph _ _ _ _ (by simp; try omega),ph _ _ _ _ (by simp; try omega),ph _ _ _ _ (by simp; try omega),ph _ _ _ _ (by simp; try omega)] <;> assumption
  exact this
 have oq:=hid hp;have qH:=hid hq;clear hp hq;have PE:Hid ((dg (-1:Int).natAbs).length<=1):=hid (by rw [show (-1:Int).natAbs=1 from rfl,va3 (by decide) (by decide)]; exact pj 1);have PK:Hid (Fit (q.mul (Pl.const (-1))) E (D+1)):=hid qH.out.z8;have jD:Hid ((p.add (q.mul (Pl.const (-1)))).sz<=1099511627776):=hid ((((oq.out.mono (pj _) (r6 _)).add PK.out)).copy (by omega));have oQ:Hid ((p.add (q.mul (Pl.const (-1)))).dm<=35184372088832):=hid (py (((oq.out.mono (pj _) (r6 _)).add PK.out)).dm (by omega));have rq:=hid (((oq.out.mono (pj _) (r6 _)).add PK.out));obtain ⟨-,b0,b1,b2,b3,b4,b5,b6,b7⟩:=HS.out W (Ext.refl W);clear ai;unfold plV at *;go_enter Tryz.func14,Tryz.ntmps14;go_wp2_with fail;clear hW b0 b1 b2 b3 b4 b5 b6 b7;have pO:Ext W W.drew:=(Ext.refl W).drew;have Y0:=hid pO;clear pO
 go_region_held3 (fun W' => Ext w W' /\ W'.cell? ⟨w.heap.size, 0, none⟩ = some (.int .i64 (p).lv) /\ W'.cell? ⟨w.heap.size, 1, none⟩ = some (.bool (p).neg) /\ W'.cell? ⟨w.heap.size, 2, none⟩ = some (.slice A0 n0 c0) /\ W'.cell? ⟨w.heap.size, 3, none⟩ = some (.slice B0 (p).cs.length d0) /\ W'.cell? ⟨w.heap.size + 1, 0, none⟩ = some (.int .i64 (q).lv) /\ W'.cell? ⟨w.heap.size + 1, 1, none⟩ = some (.bool (q).neg) /\ W'.cell? ⟨w.heap.size + 1, 2, none⟩ = some (.slice A1 n1 c1) /\ W'.cell? ⟨w.heap.size + 1, 3, none⟩ = some (.slice B1 (q).cs.length d1))
  (first | with_reducible exact HS.out _ Y0.out | with_reducible exact HS.out _ gI | with_reducible exact HS.out _ iO | with_reducible exact HS.out _ mG | with_reducible exact HS.out _ pM | with_reducible exact HS.out _ WJ | with_reducible exact HS.out _ Jt | with_reducible exact HS.out _ (pM.alloc _) | exact aY.out _ _ _ _ _ Jt _ rfl)
  (first
    | (go_at_call 38
       (fail_if_success have _:=gI)
       refine (ut _ (H0.out.ext (ay.out.trans Y0.out)) oq.out.can).mono ?_;rintro e w1 ⟨z1,rfl,m1,x1⟩;obtain ⟨C1,i1,j1,D1,k1,rfl,-⟩:=id m1.open_;have gI:Ext W w1:=Ext.trans Y0.out x1
       unfold plV)
    | (go_at_call 38
       refine (ut _ (H1.out.ext (ay.out.trans gI)) qH.out.can).mono ?_;rintro e w2 ⟨z2,rfl,m2,x2⟩;obtain ⟨C2,i2,j2,D2,k2,rfl,-⟩:=id m2.open_;have iO:Ext W w2:=Ext.trans gI x2
       replace m1:=m1.ext x2
       unfold plV)
    | (go_at_call 11
       refine (of_int (-1) _ (by omega) (by omega)).mono ?_;rintro e w3 ⟨z3,rfl,⟨y3,rfl,m3⟩,x3⟩;obtain ⟨C3,k3,rfl,-⟩:=id m3;have mG:Ext W w3:=Ext.trans iO x3
       replace m1:=m1.ext x3
       replace m2:=m2.ext x3)
    | (go_at_call 39
       refine (wbn _ _ m2 (yau m3 PE.out) qH.out (by omega) (by omega)).mono ?_;rintro e w4 ⟨z4,rfl,m4,x4⟩;obtain ⟨C4,i4,j4,D4,k4,rfl,-⟩:=id m4.open_;have pM:Ext W w4:=Ext.trans mG x4
       replace m1:=m1.ext x4
       replace m2:=m2.ext x4
       replace m3:=m3.ext x4
       unfold plV)
    | (go_at_call 37
       refine (ycb (oq.out.mono (pj _) (r6 _)) PK.out (by omega) (by omega) (pj 2) (by decide) (jb9 m1 m4 _)).mono ?_;rintro e w5 ⟨z5,rfl,m5,x5⟩;obtain ⟨C5,i5,j5,D5,k5,rfl,-⟩:=id m5.open_;have WJ:Ext W w5:=Ext.trans (pM.alloc _) x5
       replace m1:=m1.ext (((Ext.refl _).alloc _).trans x5)
       replace m2:=m2.ext (((Ext.refl _).alloc _).trans x5)
       replace m3:=m3.ext (((Ext.refl _).alloc _).trans x5)
       replace m4:=m4.ext (((Ext.refl _).alloc _).trans x5)
       unfold plV)
    | (go_at_call 29
       refine (zah _ _ (Pl.yk _ _) jD.out oQ.out m5).mono ?_;rintro e w6 ⟨z6,rfl,m6,x6⟩;obtain ⟨C6,i6,j6,D6,k6,rfl,-⟩:=id m6.open_;have Jt:Ext W w6:=Ext.trans WJ x6
       replace m1:=m1.ext x6
       replace m2:=m2.ext x6
       replace m3:=m3.ext x6
       replace m4:=m4.ext x6
       replace m5:=m5.ext x6
       obtain ⟨⟨r0,r1,r2,r3⟩,rf⟩:=HZ.out.ext Jt (by omega)
       unfold plV))
 have aQ:=HZ.out.ext Jt (by omega);have BG:=(Jt:Ext W _).size;have oZ:=(WJ:Ext W _).size;have HF:=hid (qf (q':=fun b=>w.heap.size<=b) (ay.out.trans Jt) (by omega) aQ m6 (fun b _ hb=>⟨by omega,by omega⟩));clear m6 x6 m5 x5 m4 x4 m3 x3 m2 x2 m1 x1 Jt WJ pM mG iO gI aY HS HZ
 try unfold plV
 go_wp2_with fail;exact bodyPost_ret (by simp [results,Tryz.results14,go_sem,r0,r1,r2,r3,plV]) rfl HF.out
theorem jal {w:World} {p q:Pl} {E D F G:Nat} {q0:Nat->Prop} (v0:Value) {q1:Nat->Prop} (v1:Value) (h0:PlV w q0 p v0) (h1:PlV w q1 q v1) (hp:Fit p E D) (hq:Fit q F G) (hE:E+F<=900) (hD:D+G<=8796093022000):Calls Tryz.prog 15 #[v0,v1] w (uf (fun b=>w.heap.size<=b) (p.mul q) w):=by
 have H0:=hid h0;obtain ⟨A0,n0,c0,B0,d0,rfl,-,-,-,-⟩:=h0.open_;clear h0;have H1:=hid h1;obtain ⟨A1,n1,c1,B1,d1,rfl,-,-,-,-⟩:=h1.open_;clear h1;obtain ⟨W,hW⟩:=n_m (((w.alloc (.cells #[.int .i64 (p).lv,.bool (p).neg,.slice A0 n0 c0,.slice B0 (p).cs.length d0] 33)).alloc (.cells #[.int .i64 (q).lv,.bool (q).neg,.slice A1 n1 c1,.slice B1 (q).cs.length d1] 33)).alloc (.cells #[.int .i64 0,.bool false,.slice none 0 0,.slice none 0 0] 33));have ai:Ext w W:=by rw [<- hW]; exact (((Ext.refl w).alloc _).alloc _).alloc _
 have dG:W.heap.size=w.heap.size+1+1+1:=by rw [<- hW]; simp
 have ay:=hid ai;have HS:Hid (∀ W',Ext W W'->(Ext w W'/\W'.cell? ⟨w.heap.size,0,none⟩=some (.int .i64 (p).lv)/\W'.cell? ⟨w.heap.size,1,none⟩=some (.bool (p).neg)/\W'.cell? ⟨w.heap.size,2,none⟩=some (.slice A0 n0 c0)/\W'.cell? ⟨w.heap.size,3,none⟩=some (.slice B0 (p).cs.length d0)/\W'.cell? ⟨w.heap.size+1,0,none⟩=some (.int .i64 (q).lv)/\W'.cell? ⟨w.heap.size+1,1,none⟩=some (.bool (q).neg)/\W'.cell? ⟨w.heap.size+1,2,none⟩=some (.slice A1 n1 c1)/\W'.cell? ⟨w.heap.size+1,3,none⟩=some (.slice B1 (q).cs.length d1))):=by
  have:∀ W',Ext W W'->(Ext w W'/\W'.cell? ⟨w.heap.size,0,none⟩=some (.int .i64 (p).lv)/\W'.cell? ⟨w.heap.size,1,none⟩=some (.bool (p).neg)/\W'.cell? ⟨w.heap.size,2,none⟩=some (.slice A0 n0 c0)/\W'.cell? ⟨w.heap.size,3,none⟩=some (.slice B0 (p).cs.length d0)/\W'.cell? ⟨w.heap.size+1,0,none⟩=some (.int .i64 (q).lv)/\W'.cell? ⟨w.heap.size+1,1,none⟩=some (.bool (q).neg)/\W'.cell? ⟨w.heap.size+1,2,none⟩=some (.slice A1 n1 c1)/\W'.cell? ⟨w.heap.size+1,3,none⟩=some (.slice B1 (q).cs.length d1)):=fun W' hx=>by
   obtain ⟨hc,hf⟩:=hx.cells;refine ⟨ai.trans hx,?_,?_,?_,?_,?_,?_,?_,?_⟩ <;> (rw [hc _ _ (by omega),<- hW]; simp [go_sem])
  exact this
 have HZ:Hid (jf W (w.heap.size+1+1)):=by
  have:jf W (w.heap.size+1+1):=by
   rw [<- hW];refine ⟨⟨?_,?_,?_,?_⟩,fun i=>?_⟩ <;> simp [go_sem]
  exact this
 have aY:Hid (∀ W'' u0 u1 u2 u3,Ext W W''->∀ W',W'=(((W''.setCell ⟨w.heap.size+1+1,0,none⟩ u0).setCell ⟨w.heap.size+1+1,1,none⟩ u1).setCell ⟨w.heap.size+1+1,2,none⟩ u2).setCell ⟨w.heap.size+1+1,3,none⟩ u3->(Ext w W'/\W'.cell? ⟨w.heap.size,0,none⟩=some (.int .i64 (p).lv)/\W'.cell? ⟨w.heap.size,1,none⟩=some (.bool (p).neg)/\W'.cell? ⟨w.heap.size,2,none⟩=some (.slice A0 n0 c0)/\W'.cell? ⟨w.heap.size,3,none⟩=some (.slice B0 (p).cs.length d0)/\W'.cell? ⟨w.heap.size+1,0,none⟩=some (.int .i64 (q).lv)/\W'.cell? ⟨w.heap.size+1,1,none⟩=some (.bool (q).neg)/\W'.cell? ⟨w.heap.size+1,2,none⟩=some (.slice A1 n1 c1)/\W'.cell? ⟨w.heap.size+1,3,none⟩=some (.slice B1 (q).cs.length d1))):=by
  have:∀ W'' u0 u1 u2 u3,Ext W W''->∀ W',W'=(((W''.setCell ⟨w.heap.size+1+1,0,none⟩ u0).setCell ⟨w.heap.size+1+1,1,none⟩ u1).setCell ⟨w.heap.size+1+1,2,none⟩ u2).setCell ⟨w.heap.size+1+1,3,none⟩ u3->(Ext w W'/\W'.cell? ⟨w.heap.size,0,none⟩=some (.int .i64 (p).lv)/\W'.cell? ⟨w.heap.size,1,none⟩=some (.bool (p).neg)/\W'.cell? ⟨w.heap.size,2,none⟩=some (.slice A0 n0 c0)/\W'.cell? ⟨w.heap.size,3,none⟩=some (.slice B0 (p).cs.length d0)/\W'.cell? ⟨w.heap.size+1,0,none⟩=some (.int .i64 (q).lv)/\W'.cell? ⟨w.heap.size+1,1,none⟩=some (.bool (q).neg)/\W'.cell? ⟨w.heap.size+1,2,none⟩=some (.slice A1 n1 c1)/\W'.cell? ⟨w.heap.size+1,3,none⟩=some (.slice B1 (q).cs.length d1)):=fun W'' u0 u1 u2 u3 hx W' bJ=>by
   obtain ⟨s1,k0,k1,k2,k3,k4,k5,k6,k7⟩:=HS.out W'' hx;rw [bJ];refine ⟨(((s1.setCell (by simp; try omega) _).setCell (by simp; try omega) _).setCell (by simp; try omega) _).setCell (by simp; try omega) _,?_,?_,?_,?_,?_,?_,?_,?_⟩ <;> rw [ph _ _ _ _ (by simp; try omega),ph _ _ _ _ (by simp; try omega),ph _ _ _ _ (by simp; try omega),ph _ _ _ _ (by simp; try omega)] <;> assumption
  exact this
 have oq:=hid hp;have qH:=hid hq;clear hp hq;have jD:Hid ((p.mul q).sz<=1099511627776):=hid (((oq.out.mul qH.out)).copy (by omega));have oQ:Hid ((p.mul q).dm<=35184372088832):=hid (py ((oq.out.mul qH.out)).dm (by omega));have rq:=hid ((oq.out.mul qH.out));obtain ⟨-,b0,b1,b2,b3,b4,b5,b6,b7⟩:=HS.out W (Ext.refl W);clear ai;unfold plV at *;go_enter Tryz.func15,Tryz.ntmps15;go_wp2_with fail;clear hW b0 b1 b2 b3 b4 b5 b6 b7;have pO:Ext W W.drew:=(Ext.refl W).drew;have Y0:=hid pO;clear pO
 go_region_held3 (fun W' => Ext w W' /\ W'.cell? ⟨w.heap.size, 0, none⟩ = some (.int .i64 (p).lv) /\ W'.cell? ⟨w.heap.size, 1, none⟩ = some (.bool (p).neg) /\ W'.cell? ⟨w.heap.size, 2, none⟩ = some (.slice A0 n0 c0) /\ W'.cell? ⟨w.heap.size, 3, none⟩ = some (.slice B0 (p).cs.length d0) /\ W'.cell? ⟨w.heap.size + 1, 0, none⟩ = some (.int .i64 (q).lv) /\ W'.cell? ⟨w.heap.size + 1, 1, none⟩ = some (.bool (q).neg) /\ W'.cell? ⟨w.heap.size + 1, 2, none⟩ = some (.slice A1 n1 c1) /\ W'.cell? ⟨w.heap.size + 1, 3, none⟩ = some (.slice B1 (q).cs.length d1))
  (first | with_reducible exact HS.out _ Y0.out | with_reducible exact HS.out _ gI | with_reducible exact HS.out _ iO | with_reducible exact HS.out _ mG | with_reducible exact HS.out _ pM | exact aY.out _ _ _ _ _ pM _ rfl)
  (first
    | (go_at_call 38
       (fail_if_success have _:=gI)
       refine (ut _ (H0.out.ext (ay.out.trans Y0.out)) oq.out.can).mono ?_;rintro e w1 ⟨z1,rfl,m1,x1⟩;obtain ⟨C1,i1,j1,D1,k1,rfl,-⟩:=id m1.open_;have gI:Ext W w1:=Ext.trans Y0.out x1
       unfold plV)
    | (go_at_call 38
       refine (ut _ (H1.out.ext (ay.out.trans gI)) qH.out.can).mono ?_;rintro e w2 ⟨z2,rfl,m2,x2⟩;obtain ⟨C2,i2,j2,D2,k2,rfl,-⟩:=id m2.open_;have iO:Ext W w2:=Ext.trans gI x2
       replace m1:=m1.ext x2
       unfold plV)
    | (go_at_call 40
       refine (mul_any p q _ _ oq.out qH.out (by omega) (by omega) (by omega) m1 m2).mono ?_;rintro e w3 ⟨z3,rfl,m3,x3⟩;obtain ⟨C3,i3,j3,D3,k3,rfl,-⟩:=id m3.open_;have mG:Ext W w3:=Ext.trans iO x3
       replace m1:=m1.ext x3
       replace m2:=m2.ext x3
       unfold plV)
    | (go_at_call 29
       refine (zah _ _ (Pl.q8 _ _) jD.out oQ.out m3).mono ?_;rintro e w4 ⟨z4,rfl,m4,x4⟩;obtain ⟨C4,i4,j4,D4,k4,rfl,-⟩:=id m4.open_;have pM:Ext W w4:=Ext.trans mG x4
       replace m1:=m1.ext x4
       replace m2:=m2.ext x4
       replace m3:=m3.ext x4
       obtain ⟨⟨r0,r1,r2,r3⟩,rf⟩:=HZ.out.ext pM (by omega)
       unfold plV))
 have aQ:=HZ.out.ext pM (by omega);have BG:=(pM:Ext W _).size;have oZ:=(mG:Ext W _).size;have HF:=hid (qf (q':=fun b=>w.heap.size<=b) (ay.out.trans pM) (by omega) aQ m4 (fun b _ hb=>⟨by omega,by omega⟩));clear m4 x4 m3 x3 m2 x2 m1 x1 pM mG iO gI aY HS HZ
 try unfold plV
 go_wp2_with fail;exact bodyPost_ret (by simp [results,Tryz.results15,go_sem,r0,r1,r2,r3,plV]) rfl HF.out
end Go.Proofs.YtcepajijiabkmaaGreat
