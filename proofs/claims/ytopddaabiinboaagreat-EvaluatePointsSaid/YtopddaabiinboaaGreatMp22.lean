/- Layer 34: formula.PlainTerm, formula.Plain. -/
import Derived.Test.YtopddaabiinboaaGreatMp9
import Derived.Test.YtopddaabiinboaaGreatMp14
import Derived.Test.YtopddaabiinboaaGreatMp5
set_option linter.unusedSimpArgs false
set_option linter.unusedVariables false

set_option maxRecDepth 100000
set_option maxHeartbeats 8000000
namespace Go.Proofs.YtopddaabiinboaaGreat
open Go.RowKit
attribute [local go_sem] gdg jde jdh vdg ydh zdh udg gdb kde wdg qdh wgt uc9 xdh wdb
def nd0:Nd:={ kind:=0,neg:=false,ds:=[],name:=⟨#[]⟩,exp:=0,rel:=0,truth:=false,all:=false }
def Tm.plain : Tm -> Tr
 | .num z=>.mk { nd0 with kind:=1,neg:=decide (z < 0),ds:=dg z.natAbs } []
 | .name s=>.mk { nd0 with kind:=2,name:=s } []
 | .add a b=>.mk { nd0 with kind:=3 } [a.plain,b.plain]
 | .sub a b=>.mk { nd0 with kind:=4 } [a.plain,b.plain]
 | .mul a b=>.mk { nd0 with kind:=5 } [a.plain,b.plain]
 | .neg a=>.mk { nd0 with kind:=6 } [a.plain]
 | .pow a e=>.mk { nd0 with kind:=7,exp:=wc8 e 0 } [a.plain]
def yg2 (r:Int):Int:=if r < 1\/6 < r then 3 else r
def Fm.plain : Fm -> Tr
 | .truth b=>.mk { nd0 with kind:=8,truth:=b } []
 | .atom l r k=>.mk { nd0 with kind:=9,rel:=yg2 r } [l.plain,k.plain]
 | .not f=>.mk { nd0 with kind:=10 } [f.plain]
 | .and f g=>.mk { nd0 with kind:=11 } [f.plain,g.plain]
 | .or f g=>.mk { nd0 with kind:=12 } [f.plain,g.plain]
 | .imp f g=>.mk { nd0 with kind:=13 } [f.plain,g.plain]
 | .iff f g=>.mk { nd0 with kind:=14 } [f.plain,g.plain]
 | .quant a s f=>.mk { nd0 with kind:=15,all:=a,name:=s } [f.plain]
def gc4 (t:Tr) (w:World) (e:Ending) (w':World):Prop:=∃ v,e=.returned v/\TrO w' w.heap.size w'.heap.size t v/\Ext w w'
def jc5 (w:World) (g:Nat):Prop:=(w.cell? ⟨g,0,none⟩=some (.int .i64 0)/\w.cell? ⟨g,1,none⟩=some (.bool false)/\w.cell? ⟨g,2,none⟩=some (.slice none 0 0)/\w.cell? ⟨g,3,none⟩=some (.string ⟨#[]⟩)/\w.cell? ⟨g,4,none⟩=some (.int .i64 0)/\w.cell? ⟨g,5,none⟩=some (.int .i64 0)/\w.cell? ⟨g,6,none⟩=some (.bool false)/\w.cell? ⟨g,7,none⟩=some (.bool false)/\w.cell? ⟨g,8,none⟩=some (.slice none 0 0))/\∀ i,w.frozen? ⟨g,i,none⟩=false
theorem jc5.ext {w w':World} {g:Nat} (h:jc5 w g) (hx:Ext w w') (hg:g < w.heap.size):jc5 w' g:=by
 obtain ⟨⟨h0,h1,h2,h3,h4,h5,h6,h7,h8⟩,hf⟩:=h;have k:∀ i,w'.cell? ⟨g,i,none⟩=w.cell? ⟨g,i,none⟩:=fun i=>hx.cell (p:=⟨g,i,none⟩) hg
 exact ⟨⟨(k _).trans h0,(k _).trans h1,(k _).trans h2,(k _).trans h3,(k _).trans h4,(k _).trans h5,(k _).trans h6,(k _).trans h7,(k _).trans h8⟩,fun i=>(hx.frozen (p:=⟨g,i,none⟩) hg).trans (hf i)⟩
theorem wc9 (w:World) (t:TypeId):jc5 (w.alloc (.cells #[.int .i64 0,.bool false,.slice none 0 0,.string ⟨#[]⟩,.int .i64 0,.int .i64 0,.bool false,.bool false,.slice none 0 0] t)) w.heap.size:=by
 refine ⟨⟨?_,?_,?_,?_,?_,?_,?_,?_,?_⟩,fun i=>?_⟩ <;> simp [go_sem] <;> rfl
def set9 (W:World) (g:Nat) (u0 u1 u2 u3 u4 u5 u6 u7 u8:Value):World:=
 ((((((((W.setCell ⟨g,0,none⟩ u0).setCell ⟨g,1,none⟩ u1).setCell ⟨g,2,none⟩ u2).setCell ⟨g,3,none⟩ u3).setCell ⟨g,4,none⟩ u4).setCell ⟨g,5,none⟩ u5).setCell ⟨g,6,none⟩ u6).setCell ⟨g,7,none⟩ u7).setCell ⟨g,8,none⟩ u8
theorem uc6 (W:World) (g:Nat) (u0 u1 u2 u3 u4 u5 u6 u7 u8:Value) (a:Addr) (h:a.block ≠ g):(set9 W g u0 u1 u2 u3 u4 u5 u6 u7 u8).cell? a=W.cell? a:=by
 unfold set9;have k:∀ (W:World) i u,(W.setCell ⟨g,i,none⟩ u).cell? a=W.cell? a:=fun W i u=>World.cell?_setCell_other _ _ _ _ (fun e=>h (by rw [<- e]))
 simp only [k]
theorem vdd {w W:World} {g:Nat} (hx:Ext w W) (hg:w.heap.size<=g) (u0 u1 u2 u3 u4 u5 u6 u7 u8:Value):Ext w (set9 W g u0 u1 u2 u3 u4 u5 u6 u7 u8):=by
 unfold set9;exact ((((((((hx.setCell hg _).setCell hg _).setCell hg _).setCell hg _).setCell hg _).setCell hg _).setCell hg _).setCell hg _).setCell hg _
theorem TrO.box {w:World} {t:Tr} {v:Value} {lo hi:Nat} (h:TrO w lo hi t v) {a:Addr} {u:Value} (ha:w.cell? a=some u) (hu:gc6 u=false) (hp:¬ (lo<=a.block/\a.block < hi)) (u':Value):TrO (w.setCell a u') lo hi t v:=
 TrO.turn (by simp) (fun _ _ h=>h.box ha hu u') t v lo hi lo hi (Nat.le_refl _) (Nat.le_refl _) (fun i h1 h2 _=>Below.heap_setCell w a u' i (fun e=>hp (by omega))) h
theorem TrO.set9 {W:World} {g lo hi:Nat} {t:Tr} {v:Value} (hz:jc5 W g) (hp:¬ (lo<=g/\g < hi)) (h:TrO W lo hi t v) (u0 u1 u2 u3 u4 u5 u6 u7 u8:Value):TrO (set9 W g u0 u1 u2 u3 u4 u5 u6 u7 u8) lo hi t v:=by
 obtain ⟨⟨h0,h1,h2,h3,h4,h5,h6,h7,h8⟩,-⟩:=hz;unfold Go.Proofs.YtopddaabiinboaaGreat.set9;have o:∀ (W:World) (i j:Nat) (u:Value) (x:Option Value),i ≠ j->W.cell? ⟨g,i,none⟩=x->(W.setCell ⟨g,j,none⟩ u).cell? ⟨g,i,none⟩=x:=fun W i j u x hij h=>by
  rw [World.cell?_setCell_other _ _ _ _ (by intro e; injection e; omega)]; exact h
 have k0:=TrO.box h h0 rfl hp u0;have k1:=TrO.box k0 (o _ 1 0 _ _ (by omega) h1) rfl hp u1;have k2:=TrO.box k1 (o _ 2 1 _ _ (by omega) (o _ 2 0 _ _ (by omega) h2)) rfl hp u2;have k3:=TrO.box k2 (o _ 3 2 _ _ (by omega) (o _ 3 1 _ _ (by omega) (o _ 3 0 _ _ (by omega) h3))) rfl hp u3;have k4:=TrO.box k3 (o _ 4 3 _ _ (by omega) (o _ 4 2 _ _ (by omega) (o _ 4 1 _ _ (by omega) (o _ 4 0 _ _ (by omega) h4)))) rfl hp u4;have k5:=TrO.box k4 (o _ 5 4 _ _ (by omega) (o _ 5 3 _ _ (by omega) (o _ 5 2 _ _ (by omega) (o _ 5 1 _ _ (by omega) (o _ 5 0 _ _ (by omega) h5))))) rfl hp u5;have k6:=TrO.box k5 (o _ 6 5 _ _ (by omega) (o _ 6 4 _ _ (by omega) (o _ 6 3 _ _ (by omega) (o _ 6 2 _ _ (by omega) (o _ 6 1 _ _ (by omega) (o _ 6 0 _ _ (by omega) h6)))))) rfl hp u6;have k7:=TrO.box k6 (o _ 7 6 _ _ (by omega) (o _ 7 5 _ _ (by omega) (o _ 7 4 _ _ (by omega) (o _ 7 3 _ _ (by omega) (o _ 7 2 _ _ (by omega) (o _ 7 1 _ _ (by omega) (o _ 7 0 _ _ (by omega) h7))))))) rfl hp u7;have k8:=TrO.box k7 (o _ 8 7 _ _ (by omega) (o _ 8 6 _ _ (by omega) (o _ 8 5 _ _ (by omega) (o _ 8 4 _ _ (by omega) (o _ 8 3 _ _ (by omega) (o _ 8 2 _ _ (by omega) (o _ 8 1 _ _ (by omega) (o _ 8 0 _ _ (by omega) h8)))))))) rfl hp u8;exact k8
theorem gif (W:World) (g:Nat) (u0 u1 u2 u3 u4 u5 u6 u7 u8:Value):(set9 W g u0 u1 u2 u3 u4 u5 u6 u7 u8).heap.size=W.heap.size:=by
 unfold set9; simp
theorem zdb {w W:World} {g B hi:Nat} {t:Tr} {u0 u1 u2 u3 u4 u5 u6 u7 u8:Value} (hx:Ext w W) (hg:w.heap.size<=g) (hB:g < B) (hh:hi<=W.heap.size) (hz:jc5 W g) (h:TrO W B hi t (.agg #[u0,u1,u2,u3,u4,u5,u6,u7,u8])) :
 gc4 t w (.returned (.agg #[u0,u1,u2,u3,u4,u5,u6,u7,u8])) (set9 W g u0 u1 u2 u3 u4 u5 u6 u7 u8):=
 ⟨_,rfl,(TrO.set9 hz (by omega) h _ _ _ _ _ _ _ _ _).mono (by omega) (by rw [gif]; exact hh),vdd hx hg _ _ _ _ _ _ _ _ _⟩
theorem wdh (w:World) (lo m:Nat) (T:TypeId) (a b:Tr) (s1 K1 s2 K2:Value) (ha:TrO w lo m a (ndV a.d s1 K1)) (hb:TrO w m w.heap.size b (ndV b.d s2 K2)) (h1:lo<=m) (h2:m<=w.heap.size) :
 ∃ g,(some ⟨w.heap.size,0,none⟩:Option Addr)=some ⟨g,0,none⟩/\lo<=g/\g < w.heap.size+1/\g < (w.alloc (.cells #[.int .i64 a.d.kind,.bool a.d.neg,s1,.string a.d.name,.int .i64 a.d.exp,.int .i64 a.d.rel,.bool a.d.truth,.bool a.d.all,K1,.int .i64 b.d.kind,.bool b.d.neg,s2,.string b.d.name,.int .i64 b.d.exp,.int .i64 b.d.rel,.bool b.d.truth,.bool b.d.all,K2] T)).heap.size/\(∀ o,(w.alloc (.cells #[.int .i64 a.d.kind,.bool a.d.neg,s1,.string a.d.name,.int .i64 a.d.exp,.int .i64 a.d.rel,.bool a.d.truth,.bool a.d.all,K1,.int .i64 b.d.kind,.bool b.d.neg,s2,.string b.d.name,.int .i64 b.d.exp,.int .i64 b.d.rel,.bool b.d.truth,.bool b.d.all,K2] T)).frozen? ⟨g,o,none⟩=false)/\gde (w.alloc (.cells #[.int .i64 a.d.kind,.bool a.d.neg,s1,.string a.d.name,.int .i64 a.d.exp,.int .i64 a.d.rel,.bool a.d.truth,.bool a.d.all,K1,.int .i64 b.d.kind,.bool b.d.neg,s2,.string b.d.name,.int .i64 b.d.exp,.int .i64 b.d.rel,.bool b.d.truth,.bool b.d.all,K2] T)) lo g [a,b] g 0:=by
 have hx:=(Ext.refl w).alloc (.cells #[.int .i64 a.d.kind,.bool a.d.neg,s1,.string a.d.name,.int .i64 a.d.exp,.int .i64 a.d.rel,.bool a.d.truth,.bool a.d.all,K1,.int .i64 b.d.kind,.bool b.d.neg,s2,.string b.d.name,.int .i64 b.d.exp,.int .i64 b.d.rel,.bool b.d.truth,.bool b.d.all,K2] T);refine ⟨w.heap.size,rfl,by omega,by omega,by simp,fun o=>by simp [go_sem] <;> rfl,?_⟩;unfold gde;refine ⟨m,s1,K1,h1,h2,?_,ha.ext hx,?_⟩
 · refine ⟨?_,?_,?_,?_,?_,?_,?_,?_,?_⟩ <;> simp [go_sem]
 · unfold gde;refine ⟨w.heap.size,s2,K2,h2,Nat.le_refl _,?_,hb.ext hx,by unfold gde; trivial⟩;refine ⟨?_,?_,?_,?_,?_,?_,?_,?_,?_⟩ <;> simp [go_sem]
theorem qgz (w:World) (lo:Nat) (T:TypeId) (a:Tr) (s1 K1:Value) (ha:TrO w lo w.heap.size a (ndV a.d s1 K1)) (h1:lo<=w.heap.size) :
 ∃ g,(some ⟨w.heap.size,0,none⟩:Option Addr)=some ⟨g,0,none⟩/\lo<=g/\g < w.heap.size+1/\g < (w.alloc (.cells #[.int .i64 a.d.kind,.bool a.d.neg,s1,.string a.d.name,.int .i64 a.d.exp,.int .i64 a.d.rel,.bool a.d.truth,.bool a.d.all,K1] T)).heap.size/\(∀ o,(w.alloc (.cells #[.int .i64 a.d.kind,.bool a.d.neg,s1,.string a.d.name,.int .i64 a.d.exp,.int .i64 a.d.rel,.bool a.d.truth,.bool a.d.all,K1] T)).frozen? ⟨g,o,none⟩=false)/\gde (w.alloc (.cells #[.int .i64 a.d.kind,.bool a.d.neg,s1,.string a.d.name,.int .i64 a.d.exp,.int .i64 a.d.rel,.bool a.d.truth,.bool a.d.all,K1] T)) lo g [a] g 0:=by
 have hx:=(Ext.refl w).alloc (.cells #[.int .i64 a.d.kind,.bool a.d.neg,s1,.string a.d.name,.int .i64 a.d.exp,.int .i64 a.d.rel,.bool a.d.truth,.bool a.d.all,K1] T);refine ⟨w.heap.size,rfl,by omega,by omega,by simp,fun o=>by simp [go_sem] <;> rfl,?_⟩;unfold gde;refine ⟨w.heap.size,s1,K1,h1,Nat.le_refl _,?_,ha.ext hx,by unfold gde; trivial⟩;refine ⟨?_,?_,?_,?_,?_,?_,?_,?_,?_⟩ <;> simp [go_sem]
theorem gi7 {w0 w:World} {L:Nat} {a b:Tm} {v:Value} (h:TmV w0 L (.add a b) v) (hx0:Ext w0 w) (iha:∀ (v:Value) (w:World),Ext w0 w->TmV w0 L a v->Calls Tryz.prog 163 #[v] w (gc4 a.plain w)) (ihb:∀ (v:Value) (w:World),Ext w0 w->TmV w0 L b v->Calls Tryz.prog 163 #[v] w (gc4 b.plain w)) :
 Calls Tryz.prog 163 #[v] w (gc4 (Tm.add a b).plain w):=by
 have IHA:=Lib.hid iha;have IHB:=Lib.hid ihb;obtain ⟨x,y,rfl,hx,hy⟩:=h;have HX:=Lib.hid hx;obtain ⟨T,x,rfl⟩:=hx.iface;have HY:=Lib.hid hy;obtain ⟨U,y,rfl⟩:=hy.iface;clear hx hy iha ihb;go_enter Tryz.func163,Tryz.ntmps163;go_wp2_with fail;obtain ⟨W,hW⟩:=n_m ((w.alloc (.cells #[.int .i64 0,.bool false,.slice none 0 0,.string ⟨#[]⟩,.int .i64 0,.int .i64 0,.bool false,.bool false,.slice none 0 0] 194)).alloc (.cells #[.iface T x,.iface U y] 199));have hWx:Ext w W:=by rw [<- hW]; exact ((Ext.refl w).alloc _).alloc _
 have hWs:W.heap.size=w.heap.size+1+1:=by rw [<- hW]; simp
 have hZ:jc5 W w.heap.size:=by rw [<- hW]; exact (wc9 w _).ext ((Ext.refl _).alloc _) (by simp)
 have HB:Hid (∀ W',Ext W W'->(Ext w W'/\W'.cell? ⟨w.heap.size+1,0,none⟩=some (.iface T x)/\W'.cell? ⟨w.heap.size+1,1,none⟩=some (.iface U y))):=by
  intro W' hx;obtain ⟨hc,hf⟩:=hx.cells;refine ⟨hWx.trans hx,?_,?_⟩ <;> (rw [hc _ _ (by omega),<- hW]; simp [go_sem])
 have HB2:Hid (∀ W',Ext W W'->∀ o u0 u1 u2 u3 u4 u5 u6 u7 u8 W2,W2=set9 (W'.alloc o) w.heap.size u0 u1 u2 u3 u4 u5 u6 u7 u8->(Ext w W2/\W2.cell? ⟨w.heap.size+1,0,none⟩=some (.iface T x)/\W2.cell? ⟨w.heap.size+1,1,none⟩=some (.iface U y))):=by
  intro W' hx o u0 u1 u2 u3 u4 u5 u6 u7 u8 W2 e;obtain ⟨k0,k1,k2⟩:=HB.out _ (hx.alloc o);rw [e];exact ⟨vdd k0 (Nat.le_refl _) _ _ _ _ _ _ _ _ _,(uc6 _ _ _ _ _ _ _ _ _ _ _ _ (by simp)).trans k1,(uc6 _ _ _ _ _ _ _ _ _ _ _ _ (by simp)).trans k2⟩
 have HZ:=Lib.hid hZ;have HWX:=Lib.hid hWx;have HWS:=Lib.hid hWs;have HX0:=Lib.hid hx0;rw [hW];clear hW hZ hWx hWs hx0;have y0:Ext W W.drew:=(Ext.refl W).drew;have Y0:=Lib.hid y0;clear y0
 go_region_held3 (fun W' => Ext w W' /\ W'.cell? ⟨w.heap.size + 1, 0, none⟩ = some (.iface T x) /\ W'.cell? ⟨w.heap.size + 1, 1, none⟩ = some (.iface U y))
  (first | with_reducible exact HB.out _ Y0.out | with_reducible exact HB.out _ y1 | with_reducible exact HB.out _ y2 | with_reducible exact HB.out _ (y2.alloc _) | exact HB2.out _ y2 _ _ _ _ _ _ _ _ _ _ _ rfl)
  (first
    | (go_at_call_of 163 (Value.iface T x)
       refine (IHA.out _ _ (HX0.out.trans (HWX.out.trans Y0.out)) HX.out).mono ?_;rintro e v1 ⟨z1,rfl,m1,x1⟩;obtain ⟨A0,n0,c0,A1,c1,rfl,-⟩:=m1.open_;unfold ndV
       have y1:Ext W v1:=Ext.trans Y0.out x1)
    | (go_at_call_of 163 (Value.iface U y)
       refine (IHB.out _ _ (HX0.out.trans (HWX.out.trans y1)) HY.out).mono ?_;rintro e v2 ⟨z2,rfl,m2,x2⟩;obtain ⟨B0,k0,d0,B1,d1,rfl,-⟩:=m2.open_;unfold ndV;have y2:Ext W v2:=Ext.trans (y1) x2;have hz2:jc5 v2 w.heap.size:=HZ.out.ext y2 (by have:=HWS.out; omega);have hza:∀ o,jc5 (v2.alloc o) w.heap.size:=fun o=>hz2.ext ((Ext.refl v2).alloc o) (by have:=y2.size; have:=HWS.out; omega)
       have r0:=fun o=>(hza o).1.1
       have r1:=fun o=>(hza o).1.2.1
       have r2:=fun o=>(hza o).1.2.2.1
       have r3:=fun o=>(hza o).1.2.2.2.1
       have r4:=fun o=>(hza o).1.2.2.2.2.1
       have r5:=fun o=>(hza o).1.2.2.2.2.2.1
       have r6:=fun o=>(hza o).1.2.2.2.2.2.2.1
       have r7:=fun o=>(hza o).1.2.2.2.2.2.2.2.1
       have r8:=fun o=>(hza o).1.2.2.2.2.2.2.2.2
       have rf:=fun o i=>(hza o).2 i
       have HZA:=Lib.hid hza;clear hz2 hza
       have hv2:w.heap.size+1 < v2.heap.size:=by have:=y2.size; have:=HWS.out; omega))
 have HF:Hid (gc4 (Tm.add a b).plain w (.returned (ndV { nd0 with kind:=3 } (.slice none 0 0) (.slice (some ⟨v2.heap.size,0,none⟩) 2 2))) (set9 (v2.alloc (.cells #[.int .i64 a.plain.d.kind,.bool a.plain.d.neg,.slice A0 n0 c0,.string a.plain.d.name,.int .i64 a.plain.d.exp,.int .i64 a.plain.d.rel,.bool a.plain.d.truth,.bool a.plain.d.all,.slice A1 a.plain.ks.length c1,.int .i64 b.plain.d.kind,.bool b.plain.d.neg,.slice B0 k0 d0,.string b.plain.d.name,.int .i64 b.plain.d.exp,.int .i64 b.plain.d.rel,.bool b.plain.d.truth,.bool b.plain.d.all,.slice B1 b.plain.ks.length d1] 194)) w.heap.size (.int .i64 (3)) (.bool false) (.slice none 0 0) (.string ⟨#[]⟩) (.int .i64 (0)) (.int .i64 (0)) (.bool false) (.bool false) (.slice (some ⟨v2.heap.size,0,none⟩) 2 2))):=
  zdb (B := W.heap.size) ((HWX.out.trans y2).alloc _) (Nat.le_refl _) (by have := HWS.out; omega) (hi := v2.heap.size + 1) (by simp) (HZA.out _)
   (TrO.mk (t := (Tm.add a b).plain) (c := 2) (vc2.nil _) (by simp [Tm.plain, Tr.ks]) (by simp)
     (.inr (wdh v2 W.heap.size v1.heap.size _ a.plain b.plain _ _ _ _ (m1.ext x2) m2 y1.size x2.size)))
 clear HZ HWX HWS HX0 IHA IHB HX HY m1 x1 y1 m2 x2 y2 HZA HB HB2 Y0;go_wp2_with fail;exact bodyPost_ret (v:=ndV { nd0 with kind:=3 } (.slice none 0 0) (.slice (some ⟨v2.heap.size,0,none⟩) 2 2)) (by simp [results,Tryz.results163,go_sem,r0,r1,r2,r3,r4,r5,r6,r7,r8,ndV,nd0]) rfl HF.out
theorem wi6 {w0 w:World} {L:Nat} {a b:Tm} {v:Value} (h:TmV w0 L (.sub a b) v) (hx0:Ext w0 w) (iha:∀ (v:Value) (w:World),Ext w0 w->TmV w0 L a v->Calls Tryz.prog 163 #[v] w (gc4 a.plain w)) (ihb:∀ (v:Value) (w:World),Ext w0 w->TmV w0 L b v->Calls Tryz.prog 163 #[v] w (gc4 b.plain w)) :
 Calls Tryz.prog 163 #[v] w (gc4 (Tm.sub a b).plain w):=by
 have IHA:=Lib.hid iha;have IHB:=Lib.hid ihb;obtain ⟨x,y,rfl,hx,hy⟩:=h;have HX:=Lib.hid hx;obtain ⟨T,x,rfl⟩:=hx.iface;have HY:=Lib.hid hy;obtain ⟨U,y,rfl⟩:=hy.iface;clear hx hy iha ihb;go_enter Tryz.func163,Tryz.ntmps163;go_wp2_with fail;obtain ⟨W,hW⟩:=n_m ((w.alloc (.cells #[.int .i64 0,.bool false,.slice none 0 0,.string ⟨#[]⟩,.int .i64 0,.int .i64 0,.bool false,.bool false,.slice none 0 0] 194)).alloc (.cells #[.iface T x,.iface U y] 200));have hWx:Ext w W:=by rw [<- hW]; exact ((Ext.refl w).alloc _).alloc _
 have hWs:W.heap.size=w.heap.size+1+1:=by rw [<- hW]; simp
 have hZ:jc5 W w.heap.size:=by rw [<- hW]; exact (wc9 w _).ext ((Ext.refl _).alloc _) (by simp)
 have HB:Hid (∀ W',Ext W W'->(Ext w W'/\W'.cell? ⟨w.heap.size+1,0,none⟩=some (.iface T x)/\W'.cell? ⟨w.heap.size+1,1,none⟩=some (.iface U y))):=by
  intro W' hx;obtain ⟨hc,hf⟩:=hx.cells;refine ⟨hWx.trans hx,?_,?_⟩ <;> (rw [hc _ _ (by omega),<- hW]; simp [go_sem])
 have HB2:Hid (∀ W',Ext W W'->∀ o u0 u1 u2 u3 u4 u5 u6 u7 u8 W2,W2=set9 (W'.alloc o) w.heap.size u0 u1 u2 u3 u4 u5 u6 u7 u8->(Ext w W2/\W2.cell? ⟨w.heap.size+1,0,none⟩=some (.iface T x)/\W2.cell? ⟨w.heap.size+1,1,none⟩=some (.iface U y))):=by
  intro W' hx o u0 u1 u2 u3 u4 u5 u6 u7 u8 W2 e;obtain ⟨k0,k1,k2⟩:=HB.out _ (hx.alloc o);rw [e];exact ⟨vdd k0 (Nat.le_refl _) _ _ _ _ _ _ _ _ _,(uc6 _ _ _ _ _ _ _ _ _ _ _ _ (by simp)).trans k1,(uc6 _ _ _ _ _ _ _ _ _ _ _ _ (by simp)).trans k2⟩
 have HZ:=Lib.hid hZ;have HWX:=Lib.hid hWx;have HWS:=Lib.hid hWs;have HX0:=Lib.hid hx0;rw [hW];clear hW hZ hWx hWs hx0;have y0:Ext W W.drew:=(Ext.refl W).drew;have Y0:=Lib.hid y0;clear y0
 go_region_held3 (fun W' => Ext w W' /\ W'.cell? ⟨w.heap.size + 1, 0, none⟩ = some (.iface T x) /\ W'.cell? ⟨w.heap.size + 1, 1, none⟩ = some (.iface U y))
  (first | with_reducible exact HB.out _ Y0.out | with_reducible exact HB.out _ y1 | with_reducible exact HB.out _ y2 | with_reducible exact HB.out _ (y2.alloc _) | exact HB2.out _ y2 _ _ _ _ _ _ _ _ _ _ _ rfl)
  (first
    | (go_at_call_of 163 (Value.iface T x)
       refine (IHA.out _ _ (HX0.out.trans (HWX.out.trans Y0.out)) HX.out).mono ?_;rintro e v1 ⟨z1,rfl,m1,x1⟩;obtain ⟨A0,n0,c0,A1,c1,rfl,-⟩:=m1.open_;unfold ndV
       have y1:Ext W v1:=Ext.trans Y0.out x1)
    | (go_at_call_of 163 (Value.iface U y)
       refine (IHB.out _ _ (HX0.out.trans (HWX.out.trans y1)) HY.out).mono ?_;rintro e v2 ⟨z2,rfl,m2,x2⟩;obtain ⟨B0,k0,d0,B1,d1,rfl,-⟩:=m2.open_;unfold ndV;have y2:Ext W v2:=Ext.trans (y1) x2;have hz2:jc5 v2 w.heap.size:=HZ.out.ext y2 (by have:=HWS.out; omega);have hza:∀ o,jc5 (v2.alloc o) w.heap.size:=fun o=>hz2.ext ((Ext.refl v2).alloc o) (by have:=y2.size; have:=HWS.out; omega)
       have r0:=fun o=>(hza o).1.1
       have r1:=fun o=>(hza o).1.2.1
       have r2:=fun o=>(hza o).1.2.2.1
       have r3:=fun o=>(hza o).1.2.2.2.1
       have r4:=fun o=>(hza o).1.2.2.2.2.1
       have r5:=fun o=>(hza o).1.2.2.2.2.2.1
       have r6:=fun o=>(hza o).1.2.2.2.2.2.2.1
       have r7:=fun o=>(hza o).1.2.2.2.2.2.2.2.1
       have r8:=fun o=>(hza o).1.2.2.2.2.2.2.2.2
       have rf:=fun o i=>(hza o).2 i
       have HZA:=Lib.hid hza;clear hz2 hza
       have hv2:w.heap.size+1 < v2.heap.size:=by have:=y2.size; have:=HWS.out; omega))
 have HF:Hid (gc4 (Tm.sub a b).plain w (.returned (ndV { nd0 with kind:=4 } (.slice none 0 0) (.slice (some ⟨v2.heap.size,0,none⟩) 2 2))) (set9 (v2.alloc (.cells #[.int .i64 a.plain.d.kind,.bool a.plain.d.neg,.slice A0 n0 c0,.string a.plain.d.name,.int .i64 a.plain.d.exp,.int .i64 a.plain.d.rel,.bool a.plain.d.truth,.bool a.plain.d.all,.slice A1 a.plain.ks.length c1,.int .i64 b.plain.d.kind,.bool b.plain.d.neg,.slice B0 k0 d0,.string b.plain.d.name,.int .i64 b.plain.d.exp,.int .i64 b.plain.d.rel,.bool b.plain.d.truth,.bool b.plain.d.all,.slice B1 b.plain.ks.length d1] 194)) w.heap.size (.int .i64 (4)) (.bool false) (.slice none 0 0) (.string ⟨#[]⟩) (.int .i64 (0)) (.int .i64 (0)) (.bool false) (.bool false) (.slice (some ⟨v2.heap.size,0,none⟩) 2 2))):=
  zdb (B := W.heap.size) ((HWX.out.trans y2).alloc _) (Nat.le_refl _) (by have := HWS.out; omega) (hi := v2.heap.size + 1) (by simp) (HZA.out _)
   (TrO.mk (t := (Tm.sub a b).plain) (c := 2) (vc2.nil _) (by simp [Tm.plain, Tr.ks]) (by simp)
     (.inr (wdh v2 W.heap.size v1.heap.size _ a.plain b.plain _ _ _ _ (m1.ext x2) m2 y1.size x2.size)))
 clear HZ HWX HWS HX0 IHA IHB HX HY m1 x1 y1 m2 x2 y2 HZA HB HB2 Y0;go_wp2_with fail;exact bodyPost_ret (v:=ndV { nd0 with kind:=4 } (.slice none 0 0) (.slice (some ⟨v2.heap.size,0,none⟩) 2 2)) (by simp [results,Tryz.results163,go_sem,r0,r1,r2,r3,r4,r5,r6,r7,r8,ndV,nd0]) rfl HF.out
theorem ji7 {w0 w:World} {L:Nat} {a b:Tm} {v:Value} (h:TmV w0 L (.mul a b) v) (hx0:Ext w0 w) (iha:∀ (v:Value) (w:World),Ext w0 w->TmV w0 L a v->Calls Tryz.prog 163 #[v] w (gc4 a.plain w)) (ihb:∀ (v:Value) (w:World),Ext w0 w->TmV w0 L b v->Calls Tryz.prog 163 #[v] w (gc4 b.plain w)) :
 Calls Tryz.prog 163 #[v] w (gc4 (Tm.mul a b).plain w):=by
 have IHA:=Lib.hid iha;have IHB:=Lib.hid ihb;obtain ⟨x,y,rfl,hx,hy⟩:=h;have HX:=Lib.hid hx;obtain ⟨T,x,rfl⟩:=hx.iface;have HY:=Lib.hid hy;obtain ⟨U,y,rfl⟩:=hy.iface;clear hx hy iha ihb;go_enter Tryz.func163,Tryz.ntmps163;go_wp2_with fail;obtain ⟨W,hW⟩:=n_m ((w.alloc (.cells #[.int .i64 0,.bool false,.slice none 0 0,.string ⟨#[]⟩,.int .i64 0,.int .i64 0,.bool false,.bool false,.slice none 0 0] 194)).alloc (.cells #[.iface T x,.iface U y] 201));have hWx:Ext w W:=by rw [<- hW]; exact ((Ext.refl w).alloc _).alloc _
 have hWs:W.heap.size=w.heap.size+1+1:=by rw [<- hW]; simp
 have hZ:jc5 W w.heap.size:=by rw [<- hW]; exact (wc9 w _).ext ((Ext.refl _).alloc _) (by simp)
 have HB:Hid (∀ W',Ext W W'->(Ext w W'/\W'.cell? ⟨w.heap.size+1,0,none⟩=some (.iface T x)/\W'.cell? ⟨w.heap.size+1,1,none⟩=some (.iface U y))):=by
  intro W' hx;obtain ⟨hc,hf⟩:=hx.cells;refine ⟨hWx.trans hx,?_,?_⟩ <;> (rw [hc _ _ (by omega),<- hW]; simp [go_sem])
 have HB2:Hid (∀ W',Ext W W'->∀ o u0 u1 u2 u3 u4 u5 u6 u7 u8 W2,W2=set9 (W'.alloc o) w.heap.size u0 u1 u2 u3 u4 u5 u6 u7 u8->(Ext w W2/\W2.cell? ⟨w.heap.size+1,0,none⟩=some (.iface T x)/\W2.cell? ⟨w.heap.size+1,1,none⟩=some (.iface U y))):=by
  intro W' hx o u0 u1 u2 u3 u4 u5 u6 u7 u8 W2 e;obtain ⟨k0,k1,k2⟩:=HB.out _ (hx.alloc o);rw [e];exact ⟨vdd k0 (Nat.le_refl _) _ _ _ _ _ _ _ _ _,(uc6 _ _ _ _ _ _ _ _ _ _ _ _ (by simp)).trans k1,(uc6 _ _ _ _ _ _ _ _ _ _ _ _ (by simp)).trans k2⟩
 have HZ:=Lib.hid hZ;have HWX:=Lib.hid hWx;have HWS:=Lib.hid hWs;have HX0:=Lib.hid hx0;rw [hW];clear hW hZ hWx hWs hx0;have y0:Ext W W.drew:=(Ext.refl W).drew;have Y0:=Lib.hid y0;clear y0
 go_region_held3 (fun W' => Ext w W' /\ W'.cell? ⟨w.heap.size + 1, 0, none⟩ = some (.iface T x) /\ W'.cell? ⟨w.heap.size + 1, 1, none⟩ = some (.iface U y))
  (first | with_reducible exact HB.out _ Y0.out | with_reducible exact HB.out _ y1 | with_reducible exact HB.out _ y2 | with_reducible exact HB.out _ (y2.alloc _) | exact HB2.out _ y2 _ _ _ _ _ _ _ _ _ _ _ rfl)
  (first
    | (go_at_call_of 163 (Value.iface T x)
       refine (IHA.out _ _ (HX0.out.trans (HWX.out.trans Y0.out)) HX.out).mono ?_;rintro e v1 ⟨z1,rfl,m1,x1⟩;obtain ⟨A0,n0,c0,A1,c1,rfl,-⟩:=m1.open_;unfold ndV
       have y1:Ext W v1:=Ext.trans Y0.out x1)
    | (go_at_call_of 163 (Value.iface U y)
       refine (IHB.out _ _ (HX0.out.trans (HWX.out.trans y1)) HY.out).mono ?_;rintro e v2 ⟨z2,rfl,m2,x2⟩;obtain ⟨B0,k0,d0,B1,d1,rfl,-⟩:=m2.open_;unfold ndV;have y2:Ext W v2:=Ext.trans (y1) x2;have hz2:jc5 v2 w.heap.size:=HZ.out.ext y2 (by have:=HWS.out; omega);have hza:∀ o,jc5 (v2.alloc o) w.heap.size:=fun o=>hz2.ext ((Ext.refl v2).alloc o) (by have:=y2.size; have:=HWS.out; omega)
       have r0:=fun o=>(hza o).1.1
       have r1:=fun o=>(hza o).1.2.1
       have r2:=fun o=>(hza o).1.2.2.1
       have r3:=fun o=>(hza o).1.2.2.2.1
       have r4:=fun o=>(hza o).1.2.2.2.2.1
       have r5:=fun o=>(hza o).1.2.2.2.2.2.1
       have r6:=fun o=>(hza o).1.2.2.2.2.2.2.1
       have r7:=fun o=>(hza o).1.2.2.2.2.2.2.2.1
       have r8:=fun o=>(hza o).1.2.2.2.2.2.2.2.2
       have rf:=fun o i=>(hza o).2 i
       have HZA:=Lib.hid hza;clear hz2 hza
       have hv2:w.heap.size+1 < v2.heap.size:=by have:=y2.size; have:=HWS.out; omega))
 have HF:Hid (gc4 (Tm.mul a b).plain w (.returned (ndV { nd0 with kind:=5 } (.slice none 0 0) (.slice (some ⟨v2.heap.size,0,none⟩) 2 2))) (set9 (v2.alloc (.cells #[.int .i64 a.plain.d.kind,.bool a.plain.d.neg,.slice A0 n0 c0,.string a.plain.d.name,.int .i64 a.plain.d.exp,.int .i64 a.plain.d.rel,.bool a.plain.d.truth,.bool a.plain.d.all,.slice A1 a.plain.ks.length c1,.int .i64 b.plain.d.kind,.bool b.plain.d.neg,.slice B0 k0 d0,.string b.plain.d.name,.int .i64 b.plain.d.exp,.int .i64 b.plain.d.rel,.bool b.plain.d.truth,.bool b.plain.d.all,.slice B1 b.plain.ks.length d1] 194)) w.heap.size (.int .i64 (5)) (.bool false) (.slice none 0 0) (.string ⟨#[]⟩) (.int .i64 (0)) (.int .i64 (0)) (.bool false) (.bool false) (.slice (some ⟨v2.heap.size,0,none⟩) 2 2))):=
  zdb (B := W.heap.size) ((HWX.out.trans y2).alloc _) (Nat.le_refl _) (by have := HWS.out; omega) (hi := v2.heap.size + 1) (by simp) (HZA.out _)
   (TrO.mk (t := (Tm.mul a b).plain) (c := 2) (vc2.nil _) (by simp [Tm.plain, Tr.ks]) (by simp)
     (.inr (wdh v2 W.heap.size v1.heap.size _ a.plain b.plain _ _ _ _ (m1.ext x2) m2 y1.size x2.size)))
 clear HZ HWX HWS HX0 IHA IHB HX HY m1 x1 y1 m2 x2 y2 HZA HB HB2 Y0;go_wp2_with fail;exact bodyPost_ret (v:=ndV { nd0 with kind:=5 } (.slice none 0 0) (.slice (some ⟨v2.heap.size,0,none⟩) 2 2)) (by simp [results,Tryz.results163,go_sem,r0,r1,r2,r3,r4,r5,r6,r7,r8,ndV,nd0]) rfl HF.out
theorem qi7 {w0 w:World} {L:Nat} {a:Tm} {v:Value} (h:TmV w0 L (.neg a) v) (hx0:Ext w0 w) (iha:∀ (v:Value) (w:World),Ext w0 w->TmV w0 L a v->Calls Tryz.prog 163 #[v] w (gc4 a.plain w)) :
 Calls Tryz.prog 163 #[v] w (gc4 (Tm.neg a).plain w):=by
 have IHA:=Lib.hid iha;obtain ⟨x,rfl,hx⟩:=h;have HX:=Lib.hid hx;obtain ⟨T,x,rfl⟩:=hx.iface;clear hx iha;go_enter Tryz.func163,Tryz.ntmps163;go_wp2_with fail;obtain ⟨W,hW⟩:=n_m ((w.alloc (.cells #[.int .i64 0,.bool false,.slice none 0 0,.string ⟨#[]⟩,.int .i64 0,.int .i64 0,.bool false,.bool false,.slice none 0 0] 194)).alloc (.cells #[.iface T x] 197));have hWx:Ext w W:=by rw [<- hW]; exact ((Ext.refl w).alloc _).alloc _
 have hWs:W.heap.size=w.heap.size+1+1:=by rw [<- hW]; simp
 have hZ:jc5 W w.heap.size:=by rw [<- hW]; exact (wc9 w _).ext ((Ext.refl _).alloc _) (by simp)
 have HZ:=Lib.hid hZ;have HWX:=Lib.hid hWx;have HWS:=Lib.hid hWs;have HX0:=Lib.hid hx0;rw [hW];have b0:W.cell? ⟨w.heap.size+1,0,none⟩=some (.iface T x):=by rw [<- hW]; simp [go_sem]
 clear hW hZ hWx hWs hx0;go_wp2_with fail;refine (IHA.out _ _ (HX0.out.trans HWX.out) HX.out).mono ?_;rintro e v1 ⟨z1,rfl,m1,x1⟩;obtain ⟨A0,n0,c0,A1,c1,rfl,-⟩:=m1.open_;unfold ndV;have y1:Ext W v1:=Ext.trans (Ext.refl W) x1;have hz2:jc5 v1 w.heap.size:=HZ.out.ext y1 (by have:=HWS.out; omega);have hza:∀ o,jc5 (v1.alloc o) w.heap.size:=fun o=>hz2.ext ((Ext.refl v1).alloc o) (by have:=y1.size; have:=HWS.out; omega)
 have r0:=fun o=>(hza o).1.1
 have r1:=fun o=>(hza o).1.2.1
 have r2:=fun o=>(hza o).1.2.2.1
 have r3:=fun o=>(hza o).1.2.2.2.1
 have r4:=fun o=>(hza o).1.2.2.2.2.1
 have r5:=fun o=>(hza o).1.2.2.2.2.2.1
 have r6:=fun o=>(hza o).1.2.2.2.2.2.2.1
 have r7:=fun o=>(hza o).1.2.2.2.2.2.2.2.1
 have r8:=fun o=>(hza o).1.2.2.2.2.2.2.2.2
 have rf:=fun o i=>(hza o).2 i
 have HZA:=Lib.hid hza;clear hz2 hza;have hv2:w.heap.size+1 < v1.heap.size:=by have:=y1.size; have:=HWS.out; omega
 clear b0
 have HF:Hid (gc4 (Tm.neg a).plain w (.returned (ndV { nd0 with kind:=6 } (.slice none 0 0) (.slice (some ⟨v1.heap.size,0,none⟩) 1 1))) (set9 (v1.alloc (.cells #[.int .i64 a.plain.d.kind,.bool a.plain.d.neg,.slice A0 n0 c0,.string a.plain.d.name,.int .i64 a.plain.d.exp,.int .i64 a.plain.d.rel,.bool a.plain.d.truth,.bool a.plain.d.all,.slice A1 a.plain.ks.length c1] 194)) w.heap.size (.int .i64 (6)) (.bool false) (.slice none 0 0) (.string ⟨#[]⟩) (.int .i64 (0)) (.int .i64 (0)) (.bool false) (.bool false) (.slice (some ⟨v1.heap.size,0,none⟩) 1 1))):=
  zdb (B := W.heap.size) ((HWX.out.trans y1).alloc _) (Nat.le_refl _) (by have := HWS.out; omega) (hi := v1.heap.size + 1) (by simp) (HZA.out _)
   (TrO.mk (t := (Tm.neg a).plain) (c := 1) (vc2.nil _) (by simp [Tm.plain, Tr.ks]) (by simp)
     (.inr (qgz v1 W.heap.size _ a.plain _ _ m1 y1.size)))
 clear HZ HWX HWS HX0 IHA HX m1 x1 y1 HZA;go_wp2_with fail;exact bodyPost_ret (v:=ndV { nd0 with kind:=6 } (.slice none 0 0) (.slice (some ⟨v1.heap.size,0,none⟩) 1 1)) (by simp [results,Tryz.results163,go_sem,r0,r1,r2,r3,r4,r5,r6,r7,r8,ndV,nd0]) rfl HF.out
theorem zi7 {w0 w:World} {L:Nat} {a:Tm} {n:Int} {v:Value} (h:TmV w0 L (.pow a n) v) (hx0:Ext w0 w) (iha:∀ (v:Value) (w:World),Ext w0 w->TmV w0 L a v->Calls Tryz.prog 163 #[v] w (gc4 a.plain w)) :
 Calls Tryz.prog 163 #[v] w (gc4 (Tm.pow a n).plain w):=by
 have IHA:=Lib.hid iha;obtain ⟨x,rfl,hx⟩:=h;have HX:=Lib.hid hx;obtain ⟨T,x,rfl⟩:=hx.iface;clear hx iha
 by_cases hlt:n < 0
 · have hm:wc8 n 0=0:=if_pos hlt;have hif:(if n < 0 then (0:Int) else n)=0:=if_pos hlt;have hde:decide (n < 0)=true:=by simpa using hlt
   have hma:max n 0=0:=by omega
   have hpl:(Tm.pow a n).plain=.mk { nd0 with kind:=7,exp:=0 } [a.plain]:=by show Tr.mk { nd0 with kind:=7,exp:=wc8 n 0 } [a.plain]=_; rw [hm]
   rw [hpl];clear hm hpl;go_enter Tryz.func163,Tryz.ntmps163;go_wp2_with fail;obtain ⟨W,hW⟩:=n_m ((w.alloc (.cells #[.int .i64 0,.bool false,.slice none 0 0,.string ⟨#[]⟩,.int .i64 0,.int .i64 0,.bool false,.bool false,.slice none 0 0] 194)).alloc (.cells #[.iface T x,.int .i64 n] 204));have hWx:Ext w W:=by rw [<- hW]; exact ((Ext.refl w).alloc _).alloc _
   have hWs:W.heap.size=w.heap.size+1+1:=by rw [<- hW]; simp
   have hZ:jc5 W w.heap.size:=by rw [<- hW]; exact (wc9 w _).ext ((Ext.refl _).alloc _) (by simp)
   have HB:Hid (∀ W',Ext W W'->(Ext w W'/\W'.cell? ⟨w.heap.size+1,0,none⟩=some (.iface T x)/\W'.cell? ⟨w.heap.size+1,1,none⟩=some (.int .i64 n))):=by
    intro W' hx;obtain ⟨hc,hf⟩:=hx.cells;refine ⟨hWx.trans hx,?_,?_⟩ <;> (rw [hc _ _ (by omega),<- hW]; simp [go_sem])
   have HB2:Hid (∀ W',Ext W W'->∀ o u0 u1 u2 u3 u4 u5 u6 u7 u8 W2,W2=set9 (W'.alloc o) w.heap.size u0 u1 u2 u3 u4 u5 u6 u7 u8->(Ext w W2/\W2.cell? ⟨w.heap.size+1,0,none⟩=some (.iface T x)/\W2.cell? ⟨w.heap.size+1,1,none⟩=some (.int .i64 n))):=by
    intro W' hx o u0 u1 u2 u3 u4 u5 u6 u7 u8 W2 e;obtain ⟨k0,k1,k2⟩:=HB.out _ (hx.alloc o);rw [e];exact ⟨vdd k0 (Nat.le_refl _) _ _ _ _ _ _ _ _ _,(uc6 _ _ _ _ _ _ _ _ _ _ _ _ (by simp)).trans k1,(uc6 _ _ _ _ _ _ _ _ _ _ _ _ (by simp)).trans k2⟩
   have HZ:=Lib.hid hZ;have HWX:=Lib.hid hWx;have HWS:=Lib.hid hWs;have HX0:=Lib.hid hx0;rw [hW];clear hW hZ hWx hWs hx0;have y0:Ext W W.drew:=(Ext.refl W).drew;have Y0:=Lib.hid y0;clear y0
   go_region_held3 (fun W' => Ext w W' /\ W'.cell? ⟨w.heap.size + 1, 0, none⟩ = some (.iface T x) /\ W'.cell? ⟨w.heap.size + 1, 1, none⟩ = some (.int .i64 n))
    (first | with_reducible exact HB.out _ Y0.out | with_reducible exact HB.out _ y1 | with_reducible exact HB.out _ (y1.alloc _) | exact HB2.out _ y1 _ _ _ _ _ _ _ _ _ _ _ rfl)
    (first
      | (go_at_call_of 163 (Value.iface T x)
         refine (IHA.out _ _ (HX0.out.trans (HWX.out.trans Y0.out)) HX.out).mono ?_;rintro e v1 ⟨z1,rfl,m1,x1⟩;obtain ⟨A0,n0,c0,A1,c1,rfl,-⟩:=m1.open_;unfold ndV;have y1:Ext W v1:=Ext.trans Y0.out x1;have hz2:jc5 v1 w.heap.size:=HZ.out.ext y1 (by have:=HWS.out; omega);have hza:∀ o,jc5 (v1.alloc o) w.heap.size:=fun o=>hz2.ext ((Ext.refl v1).alloc o) (by have:=y1.size; have:=HWS.out; omega)
         have r0:=fun o=>(hza o).1.1
         have r1:=fun o=>(hza o).1.2.1
         have r2:=fun o=>(hza o).1.2.2.1
         have r3:=fun o=>(hza o).1.2.2.2.1
         have r4:=fun o=>(hza o).1.2.2.2.2.1
         have r5:=fun o=>(hza o).1.2.2.2.2.2.1
         have r6:=fun o=>(hza o).1.2.2.2.2.2.2.1
         have r7:=fun o=>(hza o).1.2.2.2.2.2.2.2.1
         have r8:=fun o=>(hza o).1.2.2.2.2.2.2.2.2
         have rf:=fun o i=>(hza o).2 i
         have HZA:=Lib.hid hza;clear hz2 hza
         have hv2:w.heap.size+1 < v1.heap.size:=by have:=y1.size; have:=HWS.out; omega))
   all_goals
    have HF:Hid (gc4 (Tr.mk { nd0 with kind:=7,exp:=0 } [a.plain]) w (.returned (ndV { nd0 with kind:=7,exp:=0 } (.slice none 0 0) (.slice (some ⟨v1.heap.size,0,none⟩) 1 1))) (set9 (v1.alloc (.cells #[.int .i64 a.plain.d.kind,.bool a.plain.d.neg,.slice A0 n0 c0,.string a.plain.d.name,.int .i64 a.plain.d.exp,.int .i64 a.plain.d.rel,.bool a.plain.d.truth,.bool a.plain.d.all,.slice A1 a.plain.ks.length c1] 194)) w.heap.size (.int .i64 (7)) (.bool false) (.slice none 0 0) (.string ⟨#[]⟩) (.int .i64 (0)) (.int .i64 (0)) (.bool false) (.bool false) (.slice (some ⟨v1.heap.size,0,none⟩) 1 1))):=
     zdb (B := W.heap.size) ((HWX.out.trans y1).alloc _) (Nat.le_refl _) (by have := HWS.out; omega) (hi := v1.heap.size + 1) (by simp) (HZA.out _)
      (TrO.mk (t := (Tr.mk { nd0 with kind := 7, exp := 0 } [a.plain])) (c := 1) (vc2.nil _) (by simp [Tm.plain, Tr.ks]) (by simp)
        (.inr (qgz v1 W.heap.size _ a.plain _ _ m1 y1.size)))
    clear HZ HWX HWS HX0 IHA HX m1 x1 y1 HZA HB HB2 Y0;go_wp2_with fail;exact bodyPost_ret (v:=ndV { nd0 with kind:=7,exp:=0 } (.slice none 0 0) (.slice (some ⟨v1.heap.size,0,none⟩) 1 1)) (by simp [results,Tryz.results163,go_sem,r0,r1,r2,r3,r4,r5,r6,r7,r8,ndV,nd0]) rfl HF.out
 · have hm:wc8 n 0=n:=if_neg hlt;have hge:0<=n:=by omega
   have hif:(if n < 0 then (0:Int) else n)=n:=if_neg hlt;have hde:decide (n < 0)=false:=by simpa using hlt
   have hma:max n 0=n:=by omega
   have hpl:(Tm.pow a n).plain=.mk { nd0 with kind:=7,exp:=n } [a.plain]:=by show Tr.mk { nd0 with kind:=7,exp:=wc8 n 0 } [a.plain]=_; rw [hm]
   rw [hpl];clear hm hlt hpl;go_enter Tryz.func163,Tryz.ntmps163;go_wp2_with fail;obtain ⟨W,hW⟩:=n_m ((w.alloc (.cells #[.int .i64 0,.bool false,.slice none 0 0,.string ⟨#[]⟩,.int .i64 0,.int .i64 0,.bool false,.bool false,.slice none 0 0] 194)).alloc (.cells #[.iface T x,.int .i64 n] 204));have hWx:Ext w W:=by rw [<- hW]; exact ((Ext.refl w).alloc _).alloc _
   have hWs:W.heap.size=w.heap.size+1+1:=by rw [<- hW]; simp
   have hZ:jc5 W w.heap.size:=by rw [<- hW]; exact (wc9 w _).ext ((Ext.refl _).alloc _) (by simp)
   have HB:Hid (∀ W',Ext W W'->(Ext w W'/\W'.cell? ⟨w.heap.size+1,0,none⟩=some (.iface T x)/\W'.cell? ⟨w.heap.size+1,1,none⟩=some (.int .i64 n))):=by
    intro W' hx;obtain ⟨hc,hf⟩:=hx.cells;refine ⟨hWx.trans hx,?_,?_⟩ <;> (rw [hc _ _ (by omega),<- hW]; simp [go_sem])
   have HB2:Hid (∀ W',Ext W W'->∀ o u0 u1 u2 u3 u4 u5 u6 u7 u8 W2,W2=set9 (W'.alloc o) w.heap.size u0 u1 u2 u3 u4 u5 u6 u7 u8->(Ext w W2/\W2.cell? ⟨w.heap.size+1,0,none⟩=some (.iface T x)/\W2.cell? ⟨w.heap.size+1,1,none⟩=some (.int .i64 n))):=by
    intro W' hx o u0 u1 u2 u3 u4 u5 u6 u7 u8 W2 e;obtain ⟨k0,k1,k2⟩:=HB.out _ (hx.alloc o);rw [e];exact ⟨vdd k0 (Nat.le_refl _) _ _ _ _ _ _ _ _ _,(uc6 _ _ _ _ _ _ _ _ _ _ _ _ (by simp)).trans k1,(uc6 _ _ _ _ _ _ _ _ _ _ _ _ (by simp)).trans k2⟩
   have HZ:=Lib.hid hZ;have HWX:=Lib.hid hWx;have HWS:=Lib.hid hWs;have HX0:=Lib.hid hx0;rw [hW];clear hW hZ hWx hWs hx0;have y0:Ext W W.drew:=(Ext.refl W).drew;have Y0:=Lib.hid y0;clear y0
   go_region_held3 (fun W' => Ext w W' /\ W'.cell? ⟨w.heap.size + 1, 0, none⟩ = some (.iface T x) /\ W'.cell? ⟨w.heap.size + 1, 1, none⟩ = some (.int .i64 n))
    (first | with_reducible exact HB.out _ Y0.out | with_reducible exact HB.out _ y1 | with_reducible exact HB.out _ (y1.alloc _) | exact HB2.out _ y1 _ _ _ _ _ _ _ _ _ _ _ rfl)
    (first
      | (go_at_call_of 163 (Value.iface T x)
         refine (IHA.out _ _ (HX0.out.trans (HWX.out.trans Y0.out)) HX.out).mono ?_;rintro e v1 ⟨z1,rfl,m1,x1⟩;obtain ⟨A0,n0,c0,A1,c1,rfl,-⟩:=m1.open_;unfold ndV;have y1:Ext W v1:=Ext.trans Y0.out x1;have hz2:jc5 v1 w.heap.size:=HZ.out.ext y1 (by have:=HWS.out; omega);have hza:∀ o,jc5 (v1.alloc o) w.heap.size:=fun o=>hz2.ext ((Ext.refl v1).alloc o) (by have:=y1.size; have:=HWS.out; omega)
         have r0:=fun o=>(hza o).1.1
         have r1:=fun o=>(hza o).1.2.1
         have r2:=fun o=>(hza o).1.2.2.1
         have r3:=fun o=>(hza o).1.2.2.2.1
         have r4:=fun o=>(hza o).1.2.2.2.2.1
         have r5:=fun o=>(hza o).1.2.2.2.2.2.1
         have r6:=fun o=>(hza o).1.2.2.2.2.2.2.1
         have r7:=fun o=>(hza o).1.2.2.2.2.2.2.2.1
         have r8:=fun o=>(hza o).1.2.2.2.2.2.2.2.2
         have rf:=fun o i=>(hza o).2 i
         have HZA:=Lib.hid hza;clear hz2 hza
         have hv2:w.heap.size+1 < v1.heap.size:=by have:=y1.size; have:=HWS.out; omega))
   all_goals
    have HF:Hid (gc4 (Tr.mk { nd0 with kind:=7,exp:=n } [a.plain]) w (.returned (ndV { nd0 with kind:=7,exp:=n } (.slice none 0 0) (.slice (some ⟨v1.heap.size,0,none⟩) 1 1))) (set9 (v1.alloc (.cells #[.int .i64 a.plain.d.kind,.bool a.plain.d.neg,.slice A0 n0 c0,.string a.plain.d.name,.int .i64 a.plain.d.exp,.int .i64 a.plain.d.rel,.bool a.plain.d.truth,.bool a.plain.d.all,.slice A1 a.plain.ks.length c1] 194)) w.heap.size (.int .i64 (7)) (.bool false) (.slice none 0 0) (.string ⟨#[]⟩) (.int .i64 (n)) (.int .i64 (0)) (.bool false) (.bool false) (.slice (some ⟨v1.heap.size,0,none⟩) 1 1))):=
     zdb (B := W.heap.size) ((HWX.out.trans y1).alloc _) (Nat.le_refl _) (by have := HWS.out; omega) (hi := v1.heap.size + 1) (by simp) (HZA.out _)
      (TrO.mk (t := (Tr.mk { nd0 with kind := 7, exp := n } [a.plain])) (c := 1) (vc2.nil _) (by simp [Tm.plain, Tr.ks]) (by simp)
        (.inr (qgz v1 W.heap.size _ a.plain _ _ m1 y1.size)))
    clear HZ HWX HWS HX0 IHA HX m1 x1 y1 HZA HB HB2 Y0;go_wp2_with fail;exact bodyPost_ret (v:=ndV { nd0 with kind:=7,exp:=n } (.slice none 0 0) (.slice (some ⟨v1.heap.size,0,none⟩) 1 1)) (by simp [results,Tryz.results163,go_sem,r0,r1,r2,r3,r4,r5,r6,r7,r8,ndV,nd0]) rfl HF.out
theorem ui7 {w0 w:World} {L:Nat} {f g:Fm} {v:Value} (h:FmV w0 L (.and f g) v) (hx0:Ext w0 w) (ihf:∀ (v:Value) (w:World),Ext w0 w->FmV w0 L f v->Calls Tryz.prog 116 #[v] w (gc4 f.plain w)) (ihg:∀ (v:Value) (w:World),Ext w0 w->FmV w0 L g v->Calls Tryz.prog 116 #[v] w (gc4 g.plain w)) :
 Calls Tryz.prog 116 #[v] w (gc4 (Fm.and f g).plain w):=by
 have IHF:=Lib.hid ihf;have IHG:=Lib.hid ihg;obtain ⟨x,y,rfl,hx,hy⟩:=h;have HX:=Lib.hid hx;obtain ⟨T,x,rfl⟩:=hx.iface;have HY:=Lib.hid hy;obtain ⟨U,y,rfl⟩:=hy.iface;clear hx hy ihf ihg;go_enter Tryz.func116,Tryz.ntmps116;go_wp2_with fail;obtain ⟨W,hW⟩:=n_m ((w.alloc (.cells #[.int .i64 0,.bool false,.slice none 0 0,.string ⟨#[]⟩,.int .i64 0,.int .i64 0,.bool false,.bool false,.slice none 0 0] 194)).alloc (.cells #[.iface T x,.iface U y] 160));have hWx:Ext w W:=by rw [<- hW]; exact ((Ext.refl w).alloc _).alloc _
 have hWs:W.heap.size=w.heap.size+1+1:=by rw [<- hW]; simp
 have hZ:jc5 W w.heap.size:=by rw [<- hW]; exact (wc9 w _).ext ((Ext.refl _).alloc _) (by simp)
 have HB:Hid (∀ W',Ext W W'->(Ext w W'/\W'.cell? ⟨w.heap.size+1,0,none⟩=some (.iface T x)/\W'.cell? ⟨w.heap.size+1,1,none⟩=some (.iface U y))):=by
  intro W' hx;obtain ⟨hc,hf⟩:=hx.cells;refine ⟨hWx.trans hx,?_,?_⟩ <;> (rw [hc _ _ (by omega),<- hW]; simp [go_sem])
 have HB2:Hid (∀ W',Ext W W'->∀ o u0 u1 u2 u3 u4 u5 u6 u7 u8 W2,W2=set9 (W'.alloc o) w.heap.size u0 u1 u2 u3 u4 u5 u6 u7 u8->(Ext w W2/\W2.cell? ⟨w.heap.size+1,0,none⟩=some (.iface T x)/\W2.cell? ⟨w.heap.size+1,1,none⟩=some (.iface U y))):=by
  intro W' hx o u0 u1 u2 u3 u4 u5 u6 u7 u8 W2 e;obtain ⟨k0,k1,k2⟩:=HB.out _ (hx.alloc o);rw [e];exact ⟨vdd k0 (Nat.le_refl _) _ _ _ _ _ _ _ _ _,(uc6 _ _ _ _ _ _ _ _ _ _ _ _ (by simp)).trans k1,(uc6 _ _ _ _ _ _ _ _ _ _ _ _ (by simp)).trans k2⟩
 have HZ:=Lib.hid hZ;have HWX:=Lib.hid hWx;have HWS:=Lib.hid hWs;have HX0:=Lib.hid hx0;rw [hW];clear hW hZ hWx hWs hx0;have y0:Ext W W.drew:=(Ext.refl W).drew;have Y0:=Lib.hid y0;clear y0
 go_region_held3 (fun W' => Ext w W' /\ W'.cell? ⟨w.heap.size + 1, 0, none⟩ = some (.iface T x) /\ W'.cell? ⟨w.heap.size + 1, 1, none⟩ = some (.iface U y))
  (first | with_reducible exact HB.out _ Y0.out | with_reducible exact HB.out _ y1 | with_reducible exact HB.out _ y2 | with_reducible exact HB.out _ (y2.alloc _) | exact HB2.out _ y2 _ _ _ _ _ _ _ _ _ _ _ rfl)
  (first
    | (go_at_call_of 116 (Value.iface T x)
       refine (IHF.out _ _ (HX0.out.trans (HWX.out.trans Y0.out)) HX.out).mono ?_;rintro e v1 ⟨z1,rfl,m1,x1⟩;obtain ⟨A0,n0,c0,A1,c1,rfl,-⟩:=m1.open_;unfold ndV
       have y1:Ext W v1:=Ext.trans Y0.out x1)
    | (go_at_call_of 116 (Value.iface U y)
       refine (IHG.out _ _ (HX0.out.trans (HWX.out.trans y1)) HY.out).mono ?_;rintro e v2 ⟨z2,rfl,m2,x2⟩;obtain ⟨B0,k0,d0,B1,d1,rfl,-⟩:=m2.open_;unfold ndV;have y2:Ext W v2:=Ext.trans (y1) x2;have hz2:jc5 v2 w.heap.size:=HZ.out.ext y2 (by have:=HWS.out; omega);have hza:∀ o,jc5 (v2.alloc o) w.heap.size:=fun o=>hz2.ext ((Ext.refl v2).alloc o) (by have:=y2.size; have:=HWS.out; omega)
       have r0:=fun o=>(hza o).1.1
       have r1:=fun o=>(hza o).1.2.1
       have r2:=fun o=>(hza o).1.2.2.1
       have r3:=fun o=>(hza o).1.2.2.2.1
       have r4:=fun o=>(hza o).1.2.2.2.2.1
       have r5:=fun o=>(hza o).1.2.2.2.2.2.1
       have r6:=fun o=>(hza o).1.2.2.2.2.2.2.1
       have r7:=fun o=>(hza o).1.2.2.2.2.2.2.2.1
       have r8:=fun o=>(hza o).1.2.2.2.2.2.2.2.2
       have rf:=fun o i=>(hza o).2 i
       have HZA:=Lib.hid hza;clear hz2 hza
       have hv2:w.heap.size+1 < v2.heap.size:=by have:=y2.size; have:=HWS.out; omega))
 have HF:Hid (gc4 (Fm.and f g).plain w (.returned (ndV { nd0 with kind:=11 } (.slice none 0 0) (.slice (some ⟨v2.heap.size,0,none⟩) 2 2))) (set9 (v2.alloc (.cells #[.int .i64 f.plain.d.kind,.bool f.plain.d.neg,.slice A0 n0 c0,.string f.plain.d.name,.int .i64 f.plain.d.exp,.int .i64 f.plain.d.rel,.bool f.plain.d.truth,.bool f.plain.d.all,.slice A1 f.plain.ks.length c1,.int .i64 g.plain.d.kind,.bool g.plain.d.neg,.slice B0 k0 d0,.string g.plain.d.name,.int .i64 g.plain.d.exp,.int .i64 g.plain.d.rel,.bool g.plain.d.truth,.bool g.plain.d.all,.slice B1 g.plain.ks.length d1] 194)) w.heap.size (.int .i64 (11)) (.bool false) (.slice none 0 0) (.string ⟨#[]⟩) (.int .i64 (0)) (.int .i64 (0)) (.bool false) (.bool false) (.slice (some ⟨v2.heap.size,0,none⟩) 2 2))):=
  zdb (B := W.heap.size) ((HWX.out.trans y2).alloc _) (Nat.le_refl _) (by have := HWS.out; omega) (hi := v2.heap.size + 1) (by simp) (HZA.out _)
   (TrO.mk (t := (Fm.and f g).plain) (c := 2) (vc2.nil _) (by simp [Fm.plain, Tr.ks]) (by simp)
     (.inr (wdh v2 W.heap.size v1.heap.size _ f.plain g.plain _ _ _ _ (m1.ext x2) m2 y1.size x2.size)))
 clear HZ HWX HWS HX0 IHF IHG HX HY m1 x1 y1 m2 x2 y2 HZA HB HB2 Y0;go_wp2_with fail;exact bodyPost_ret (v:=ndV { nd0 with kind:=11 } (.slice none 0 0) (.slice (some ⟨v2.heap.size,0,none⟩) 2 2)) (by simp [results,Tryz.results116,go_sem,r0,r1,r2,r3,r4,r5,r6,r7,r8,ndV,nd0]) rfl HF.out
theorem vja {w0 w:World} {L:Nat} {f g:Fm} {v:Value} (h:FmV w0 L (.or f g) v) (hx0:Ext w0 w) (ihf:∀ (v:Value) (w:World),Ext w0 w->FmV w0 L f v->Calls Tryz.prog 116 #[v] w (gc4 f.plain w)) (ihg:∀ (v:Value) (w:World),Ext w0 w->FmV w0 L g v->Calls Tryz.prog 116 #[v] w (gc4 g.plain w)) :
 Calls Tryz.prog 116 #[v] w (gc4 (Fm.or f g).plain w):=by
 have IHF:=Lib.hid ihf;have IHG:=Lib.hid ihg;obtain ⟨x,y,rfl,hx,hy⟩:=h;have HX:=Lib.hid hx;obtain ⟨T,x,rfl⟩:=hx.iface;have HY:=Lib.hid hy;obtain ⟨U,y,rfl⟩:=hy.iface;clear hx hy ihf ihg;go_enter Tryz.func116,Tryz.ntmps116;go_wp2_with fail;obtain ⟨W,hW⟩:=n_m ((w.alloc (.cells #[.int .i64 0,.bool false,.slice none 0 0,.string ⟨#[]⟩,.int .i64 0,.int .i64 0,.bool false,.bool false,.slice none 0 0] 194)).alloc (.cells #[.iface T x,.iface U y] 161));have hWx:Ext w W:=by rw [<- hW]; exact ((Ext.refl w).alloc _).alloc _
 have hWs:W.heap.size=w.heap.size+1+1:=by rw [<- hW]; simp
 have hZ:jc5 W w.heap.size:=by rw [<- hW]; exact (wc9 w _).ext ((Ext.refl _).alloc _) (by simp)
 have HB:Hid (∀ W',Ext W W'->(Ext w W'/\W'.cell? ⟨w.heap.size+1,0,none⟩=some (.iface T x)/\W'.cell? ⟨w.heap.size+1,1,none⟩=some (.iface U y))):=by
  intro W' hx;obtain ⟨hc,hf⟩:=hx.cells;refine ⟨hWx.trans hx,?_,?_⟩ <;> (rw [hc _ _ (by omega),<- hW]; simp [go_sem])
 have HB2:Hid (∀ W',Ext W W'->∀ o u0 u1 u2 u3 u4 u5 u6 u7 u8 W2,W2=set9 (W'.alloc o) w.heap.size u0 u1 u2 u3 u4 u5 u6 u7 u8->(Ext w W2/\W2.cell? ⟨w.heap.size+1,0,none⟩=some (.iface T x)/\W2.cell? ⟨w.heap.size+1,1,none⟩=some (.iface U y))):=by
  intro W' hx o u0 u1 u2 u3 u4 u5 u6 u7 u8 W2 e;obtain ⟨k0,k1,k2⟩:=HB.out _ (hx.alloc o);rw [e];exact ⟨vdd k0 (Nat.le_refl _) _ _ _ _ _ _ _ _ _,(uc6 _ _ _ _ _ _ _ _ _ _ _ _ (by simp)).trans k1,(uc6 _ _ _ _ _ _ _ _ _ _ _ _ (by simp)).trans k2⟩
 have HZ:=Lib.hid hZ;have HWX:=Lib.hid hWx;have HWS:=Lib.hid hWs;have HX0:=Lib.hid hx0;rw [hW];clear hW hZ hWx hWs hx0;have y0:Ext W W.drew:=(Ext.refl W).drew;have Y0:=Lib.hid y0;clear y0
 go_region_held3 (fun W' => Ext w W' /\ W'.cell? ⟨w.heap.size + 1, 0, none⟩ = some (.iface T x) /\ W'.cell? ⟨w.heap.size + 1, 1, none⟩ = some (.iface U y))
  (first | with_reducible exact HB.out _ Y0.out | with_reducible exact HB.out _ y1 | with_reducible exact HB.out _ y2 | with_reducible exact HB.out _ (y2.alloc _) | exact HB2.out _ y2 _ _ _ _ _ _ _ _ _ _ _ rfl)
  (first
    | (go_at_call_of 116 (Value.iface T x)
       refine (IHF.out _ _ (HX0.out.trans (HWX.out.trans Y0.out)) HX.out).mono ?_;rintro e v1 ⟨z1,rfl,m1,x1⟩;obtain ⟨A0,n0,c0,A1,c1,rfl,-⟩:=m1.open_;unfold ndV
       have y1:Ext W v1:=Ext.trans Y0.out x1)
    | (go_at_call_of 116 (Value.iface U y)
       refine (IHG.out _ _ (HX0.out.trans (HWX.out.trans y1)) HY.out).mono ?_;rintro e v2 ⟨z2,rfl,m2,x2⟩;obtain ⟨B0,k0,d0,B1,d1,rfl,-⟩:=m2.open_;unfold ndV;have y2:Ext W v2:=Ext.trans (y1) x2;have hz2:jc5 v2 w.heap.size:=HZ.out.ext y2 (by have:=HWS.out; omega);have hza:∀ o,jc5 (v2.alloc o) w.heap.size:=fun o=>hz2.ext ((Ext.refl v2).alloc o) (by have:=y2.size; have:=HWS.out; omega)
       have r0:=fun o=>(hza o).1.1
       have r1:=fun o=>(hza o).1.2.1
       have r2:=fun o=>(hza o).1.2.2.1
       have r3:=fun o=>(hza o).1.2.2.2.1
       have r4:=fun o=>(hza o).1.2.2.2.2.1
       have r5:=fun o=>(hza o).1.2.2.2.2.2.1
       have r6:=fun o=>(hza o).1.2.2.2.2.2.2.1
       have r7:=fun o=>(hza o).1.2.2.2.2.2.2.2.1
       have r8:=fun o=>(hza o).1.2.2.2.2.2.2.2.2
       have rf:=fun o i=>(hza o).2 i
       have HZA:=Lib.hid hza;clear hz2 hza
       have hv2:w.heap.size+1 < v2.heap.size:=by have:=y2.size; have:=HWS.out; omega))
 have HF:Hid (gc4 (Fm.or f g).plain w (.returned (ndV { nd0 with kind:=12 } (.slice none 0 0) (.slice (some ⟨v2.heap.size,0,none⟩) 2 2))) (set9 (v2.alloc (.cells #[.int .i64 f.plain.d.kind,.bool f.plain.d.neg,.slice A0 n0 c0,.string f.plain.d.name,.int .i64 f.plain.d.exp,.int .i64 f.plain.d.rel,.bool f.plain.d.truth,.bool f.plain.d.all,.slice A1 f.plain.ks.length c1,.int .i64 g.plain.d.kind,.bool g.plain.d.neg,.slice B0 k0 d0,.string g.plain.d.name,.int .i64 g.plain.d.exp,.int .i64 g.plain.d.rel,.bool g.plain.d.truth,.bool g.plain.d.all,.slice B1 g.plain.ks.length d1] 194)) w.heap.size (.int .i64 (12)) (.bool false) (.slice none 0 0) (.string ⟨#[]⟩) (.int .i64 (0)) (.int .i64 (0)) (.bool false) (.bool false) (.slice (some ⟨v2.heap.size,0,none⟩) 2 2))):=
  zdb (B := W.heap.size) ((HWX.out.trans y2).alloc _) (Nat.le_refl _) (by have := HWS.out; omega) (hi := v2.heap.size + 1) (by simp) (HZA.out _)
   (TrO.mk (t := (Fm.or f g).plain) (c := 2) (vc2.nil _) (by simp [Fm.plain, Tr.ks]) (by simp)
     (.inr (wdh v2 W.heap.size v1.heap.size _ f.plain g.plain _ _ _ _ (m1.ext x2) m2 y1.size x2.size)))
 clear HZ HWX HWS HX0 IHF IHG HX HY m1 x1 y1 m2 x2 y2 HZA HB HB2 Y0;go_wp2_with fail;exact bodyPost_ret (v:=ndV { nd0 with kind:=12 } (.slice none 0 0) (.slice (some ⟨v2.heap.size,0,none⟩) 2 2)) (by simp [results,Tryz.results116,go_sem,r0,r1,r2,r3,r4,r5,r6,r7,r8,ndV,nd0]) rfl HF.out
theorem ki7 {w0 w:World} {L:Nat} {f g:Fm} {v:Value} (h:FmV w0 L (.imp f g) v) (hx0:Ext w0 w) (ihf:∀ (v:Value) (w:World),Ext w0 w->FmV w0 L f v->Calls Tryz.prog 116 #[v] w (gc4 f.plain w)) (ihg:∀ (v:Value) (w:World),Ext w0 w->FmV w0 L g v->Calls Tryz.prog 116 #[v] w (gc4 g.plain w)) :
 Calls Tryz.prog 116 #[v] w (gc4 (Fm.imp f g).plain w):=by
 have IHF:=Lib.hid ihf;have IHG:=Lib.hid ihg;obtain ⟨x,y,rfl,hx,hy⟩:=h;have HX:=Lib.hid hx;obtain ⟨T,x,rfl⟩:=hx.iface;have HY:=Lib.hid hy;obtain ⟨U,y,rfl⟩:=hy.iface;clear hx hy ihf ihg;go_enter Tryz.func116,Tryz.ntmps116;go_wp2_with fail;obtain ⟨W,hW⟩:=n_m ((w.alloc (.cells #[.int .i64 0,.bool false,.slice none 0 0,.string ⟨#[]⟩,.int .i64 0,.int .i64 0,.bool false,.bool false,.slice none 0 0] 194)).alloc (.cells #[.iface T x,.iface U y] 162));have hWx:Ext w W:=by rw [<- hW]; exact ((Ext.refl w).alloc _).alloc _
 have hWs:W.heap.size=w.heap.size+1+1:=by rw [<- hW]; simp
 have hZ:jc5 W w.heap.size:=by rw [<- hW]; exact (wc9 w _).ext ((Ext.refl _).alloc _) (by simp)
 have HB:Hid (∀ W',Ext W W'->(Ext w W'/\W'.cell? ⟨w.heap.size+1,0,none⟩=some (.iface T x)/\W'.cell? ⟨w.heap.size+1,1,none⟩=some (.iface U y))):=by
  intro W' hx;obtain ⟨hc,hf⟩:=hx.cells;refine ⟨hWx.trans hx,?_,?_⟩ <;> (rw [hc _ _ (by omega),<- hW]; simp [go_sem])
 have HB2:Hid (∀ W',Ext W W'->∀ o u0 u1 u2 u3 u4 u5 u6 u7 u8 W2,W2=set9 (W'.alloc o) w.heap.size u0 u1 u2 u3 u4 u5 u6 u7 u8->(Ext w W2/\W2.cell? ⟨w.heap.size+1,0,none⟩=some (.iface T x)/\W2.cell? ⟨w.heap.size+1,1,none⟩=some (.iface U y))):=by
  intro W' hx o u0 u1 u2 u3 u4 u5 u6 u7 u8 W2 e;obtain ⟨k0,k1,k2⟩:=HB.out _ (hx.alloc o);rw [e];exact ⟨vdd k0 (Nat.le_refl _) _ _ _ _ _ _ _ _ _,(uc6 _ _ _ _ _ _ _ _ _ _ _ _ (by simp)).trans k1,(uc6 _ _ _ _ _ _ _ _ _ _ _ _ (by simp)).trans k2⟩
 have HZ:=Lib.hid hZ;have HWX:=Lib.hid hWx;have HWS:=Lib.hid hWs;have HX0:=Lib.hid hx0;rw [hW];clear hW hZ hWx hWs hx0;have y0:Ext W W.drew:=(Ext.refl W).drew;have Y0:=Lib.hid y0;clear y0
 go_region_held3 (fun W' => Ext w W' /\ W'.cell? ⟨w.heap.size + 1, 0, none⟩ = some (.iface T x) /\ W'.cell? ⟨w.heap.size + 1, 1, none⟩ = some (.iface U y))
  (first | with_reducible exact HB.out _ Y0.out | with_reducible exact HB.out _ y1 | with_reducible exact HB.out _ y2 | with_reducible exact HB.out _ (y2.alloc _) | exact HB2.out _ y2 _ _ _ _ _ _ _ _ _ _ _ rfl)
  (first
    | (go_at_call_of 116 (Value.iface T x)
       refine (IHF.out _ _ (HX0.out.trans (HWX.out.trans Y0.out)) HX.out).mono ?_;rintro e v1 ⟨z1,rfl,m1,x1⟩;obtain ⟨A0,n0,c0,A1,c1,rfl,-⟩:=m1.open_;unfold ndV
       have y1:Ext W v1:=Ext.trans Y0.out x1)
    | (go_at_call_of 116 (Value.iface U y)
       refine (IHG.out _ _ (HX0.out.trans (HWX.out.trans y1)) HY.out).mono ?_;rintro e v2 ⟨z2,rfl,m2,x2⟩;obtain ⟨B0,k0,d0,B1,d1,rfl,-⟩:=m2.open_;unfold ndV;have y2:Ext W v2:=Ext.trans (y1) x2;have hz2:jc5 v2 w.heap.size:=HZ.out.ext y2 (by have:=HWS.out; omega);have hza:∀ o,jc5 (v2.alloc o) w.heap.size:=fun o=>hz2.ext ((Ext.refl v2).alloc o) (by have:=y2.size; have:=HWS.out; omega)
       have r0:=fun o=>(hza o).1.1
       have r1:=fun o=>(hza o).1.2.1
       have r2:=fun o=>(hza o).1.2.2.1
       have r3:=fun o=>(hza o).1.2.2.2.1
       have r4:=fun o=>(hza o).1.2.2.2.2.1
       have r5:=fun o=>(hza o).1.2.2.2.2.2.1
       have r6:=fun o=>(hza o).1.2.2.2.2.2.2.1
       have r7:=fun o=>(hza o).1.2.2.2.2.2.2.2.1
       have r8:=fun o=>(hza o).1.2.2.2.2.2.2.2.2
       have rf:=fun o i=>(hza o).2 i
       have HZA:=Lib.hid hza;clear hz2 hza
       have hv2:w.heap.size+1 < v2.heap.size:=by have:=y2.size; have:=HWS.out; omega))
 have HF:Hid (gc4 (Fm.imp f g).plain w (.returned (ndV { nd0 with kind:=13 } (.slice none 0 0) (.slice (some ⟨v2.heap.size,0,none⟩) 2 2))) (set9 (v2.alloc (.cells #[.int .i64 f.plain.d.kind,.bool f.plain.d.neg,.slice A0 n0 c0,.string f.plain.d.name,.int .i64 f.plain.d.exp,.int .i64 f.plain.d.rel,.bool f.plain.d.truth,.bool f.plain.d.all,.slice A1 f.plain.ks.length c1,.int .i64 g.plain.d.kind,.bool g.plain.d.neg,.slice B0 k0 d0,.string g.plain.d.name,.int .i64 g.plain.d.exp,.int .i64 g.plain.d.rel,.bool g.plain.d.truth,.bool g.plain.d.all,.slice B1 g.plain.ks.length d1] 194)) w.heap.size (.int .i64 (13)) (.bool false) (.slice none 0 0) (.string ⟨#[]⟩) (.int .i64 (0)) (.int .i64 (0)) (.bool false) (.bool false) (.slice (some ⟨v2.heap.size,0,none⟩) 2 2))):=
  zdb (B := W.heap.size) ((HWX.out.trans y2).alloc _) (Nat.le_refl _) (by have := HWS.out; omega) (hi := v2.heap.size + 1) (by simp) (HZA.out _)
   (TrO.mk (t := (Fm.imp f g).plain) (c := 2) (vc2.nil _) (by simp [Fm.plain, Tr.ks]) (by simp)
     (.inr (wdh v2 W.heap.size v1.heap.size _ f.plain g.plain _ _ _ _ (m1.ext x2) m2 y1.size x2.size)))
 clear HZ HWX HWS HX0 IHF IHG HX HY m1 x1 y1 m2 x2 y2 HZA HB HB2 Y0;go_wp2_with fail;exact bodyPost_ret (v:=ndV { nd0 with kind:=13 } (.slice none 0 0) (.slice (some ⟨v2.heap.size,0,none⟩) 2 2)) (by simp [results,Tryz.results116,go_sem,r0,r1,r2,r3,r4,r5,r6,r7,r8,ndV,nd0]) rfl HF.out
theorem vi7 {w0 w:World} {L:Nat} {f g:Fm} {v:Value} (h:FmV w0 L (.iff f g) v) (hx0:Ext w0 w) (ihf:∀ (v:Value) (w:World),Ext w0 w->FmV w0 L f v->Calls Tryz.prog 116 #[v] w (gc4 f.plain w)) (ihg:∀ (v:Value) (w:World),Ext w0 w->FmV w0 L g v->Calls Tryz.prog 116 #[v] w (gc4 g.plain w)) :
 Calls Tryz.prog 116 #[v] w (gc4 (Fm.iff f g).plain w):=by
 have IHF:=Lib.hid ihf;have IHG:=Lib.hid ihg;obtain ⟨x,y,rfl,hx,hy⟩:=h;have HX:=Lib.hid hx;obtain ⟨T,x,rfl⟩:=hx.iface;have HY:=Lib.hid hy;obtain ⟨U,y,rfl⟩:=hy.iface;clear hx hy ihf ihg;go_enter Tryz.func116,Tryz.ntmps116;go_wp2_with fail;obtain ⟨W,hW⟩:=n_m ((w.alloc (.cells #[.int .i64 0,.bool false,.slice none 0 0,.string ⟨#[]⟩,.int .i64 0,.int .i64 0,.bool false,.bool false,.slice none 0 0] 194)).alloc (.cells #[.iface T x,.iface U y] 163));have hWx:Ext w W:=by rw [<- hW]; exact ((Ext.refl w).alloc _).alloc _
 have hWs:W.heap.size=w.heap.size+1+1:=by rw [<- hW]; simp
 have hZ:jc5 W w.heap.size:=by rw [<- hW]; exact (wc9 w _).ext ((Ext.refl _).alloc _) (by simp)
 have HB:Hid (∀ W',Ext W W'->(Ext w W'/\W'.cell? ⟨w.heap.size+1,0,none⟩=some (.iface T x)/\W'.cell? ⟨w.heap.size+1,1,none⟩=some (.iface U y))):=by
  intro W' hx;obtain ⟨hc,hf⟩:=hx.cells;refine ⟨hWx.trans hx,?_,?_⟩ <;> (rw [hc _ _ (by omega),<- hW]; simp [go_sem])
 have HB2:Hid (∀ W',Ext W W'->∀ o u0 u1 u2 u3 u4 u5 u6 u7 u8 W2,W2=set9 (W'.alloc o) w.heap.size u0 u1 u2 u3 u4 u5 u6 u7 u8->(Ext w W2/\W2.cell? ⟨w.heap.size+1,0,none⟩=some (.iface T x)/\W2.cell? ⟨w.heap.size+1,1,none⟩=some (.iface U y))):=by
  intro W' hx o u0 u1 u2 u3 u4 u5 u6 u7 u8 W2 e;obtain ⟨k0,k1,k2⟩:=HB.out _ (hx.alloc o);rw [e];exact ⟨vdd k0 (Nat.le_refl _) _ _ _ _ _ _ _ _ _,(uc6 _ _ _ _ _ _ _ _ _ _ _ _ (by simp)).trans k1,(uc6 _ _ _ _ _ _ _ _ _ _ _ _ (by simp)).trans k2⟩
 have HZ:=Lib.hid hZ;have HWX:=Lib.hid hWx;have HWS:=Lib.hid hWs;have HX0:=Lib.hid hx0;rw [hW];clear hW hZ hWx hWs hx0;have y0:Ext W W.drew:=(Ext.refl W).drew;have Y0:=Lib.hid y0;clear y0
 go_region_held3 (fun W' => Ext w W' /\ W'.cell? ⟨w.heap.size + 1, 0, none⟩ = some (.iface T x) /\ W'.cell? ⟨w.heap.size + 1, 1, none⟩ = some (.iface U y))
  (first | with_reducible exact HB.out _ Y0.out | with_reducible exact HB.out _ y1 | with_reducible exact HB.out _ y2 | with_reducible exact HB.out _ (y2.alloc _) | exact HB2.out _ y2 _ _ _ _ _ _ _ _ _ _ _ rfl)
  (first
    | (go_at_call_of 116 (Value.iface T x)
       refine (IHF.out _ _ (HX0.out.trans (HWX.out.trans Y0.out)) HX.out).mono ?_;rintro e v1 ⟨z1,rfl,m1,x1⟩;obtain ⟨A0,n0,c0,A1,c1,rfl,-⟩:=m1.open_;unfold ndV
       have y1:Ext W v1:=Ext.trans Y0.out x1)
    | (go_at_call_of 116 (Value.iface U y)
       refine (IHG.out _ _ (HX0.out.trans (HWX.out.trans y1)) HY.out).mono ?_;rintro e v2 ⟨z2,rfl,m2,x2⟩;obtain ⟨B0,k0,d0,B1,d1,rfl,-⟩:=m2.open_;unfold ndV;have y2:Ext W v2:=Ext.trans (y1) x2;have hz2:jc5 v2 w.heap.size:=HZ.out.ext y2 (by have:=HWS.out; omega);have hza:∀ o,jc5 (v2.alloc o) w.heap.size:=fun o=>hz2.ext ((Ext.refl v2).alloc o) (by have:=y2.size; have:=HWS.out; omega)
       have r0:=fun o=>(hza o).1.1
       have r1:=fun o=>(hza o).1.2.1
       have r2:=fun o=>(hza o).1.2.2.1
       have r3:=fun o=>(hza o).1.2.2.2.1
       have r4:=fun o=>(hza o).1.2.2.2.2.1
       have r5:=fun o=>(hza o).1.2.2.2.2.2.1
       have r6:=fun o=>(hza o).1.2.2.2.2.2.2.1
       have r7:=fun o=>(hza o).1.2.2.2.2.2.2.2.1
       have r8:=fun o=>(hza o).1.2.2.2.2.2.2.2.2
       have rf:=fun o i=>(hza o).2 i
       have HZA:=Lib.hid hza;clear hz2 hza
       have hv2:w.heap.size+1 < v2.heap.size:=by have:=y2.size; have:=HWS.out; omega))
 have HF:Hid (gc4 (Fm.iff f g).plain w (.returned (ndV { nd0 with kind:=14 } (.slice none 0 0) (.slice (some ⟨v2.heap.size,0,none⟩) 2 2))) (set9 (v2.alloc (.cells #[.int .i64 f.plain.d.kind,.bool f.plain.d.neg,.slice A0 n0 c0,.string f.plain.d.name,.int .i64 f.plain.d.exp,.int .i64 f.plain.d.rel,.bool f.plain.d.truth,.bool f.plain.d.all,.slice A1 f.plain.ks.length c1,.int .i64 g.plain.d.kind,.bool g.plain.d.neg,.slice B0 k0 d0,.string g.plain.d.name,.int .i64 g.plain.d.exp,.int .i64 g.plain.d.rel,.bool g.plain.d.truth,.bool g.plain.d.all,.slice B1 g.plain.ks.length d1] 194)) w.heap.size (.int .i64 (14)) (.bool false) (.slice none 0 0) (.string ⟨#[]⟩) (.int .i64 (0)) (.int .i64 (0)) (.bool false) (.bool false) (.slice (some ⟨v2.heap.size,0,none⟩) 2 2))):=
  zdb (B := W.heap.size) ((HWX.out.trans y2).alloc _) (Nat.le_refl _) (by have := HWS.out; omega) (hi := v2.heap.size + 1) (by simp) (HZA.out _)
   (TrO.mk (t := (Fm.iff f g).plain) (c := 2) (vc2.nil _) (by simp [Fm.plain, Tr.ks]) (by simp)
     (.inr (wdh v2 W.heap.size v1.heap.size _ f.plain g.plain _ _ _ _ (m1.ext x2) m2 y1.size x2.size)))
 clear HZ HWX HWS HX0 IHF IHG HX HY m1 x1 y1 m2 x2 y2 HZA HB HB2 Y0;go_wp2_with fail;exact bodyPost_ret (v:=ndV { nd0 with kind:=14 } (.slice none 0 0) (.slice (some ⟨v2.heap.size,0,none⟩) 2 2)) (by simp [results,Tryz.results116,go_sem,r0,r1,r2,r3,r4,r5,r6,r7,r8,ndV,nd0]) rfl HF.out
theorem xi7 {w0 w:World} {L:Nat} {f:Fm} {v:Value} (h:FmV w0 L (.not f) v) (hx0:Ext w0 w) (ihf:∀ (v:Value) (w:World),Ext w0 w->FmV w0 L f v->Calls Tryz.prog 116 #[v] w (gc4 f.plain w)) :
 Calls Tryz.prog 116 #[v] w (gc4 (Fm.not f).plain w):=by
 have IHF:=Lib.hid ihf;obtain ⟨x,rfl,hx⟩:=h;have HX:=Lib.hid hx;obtain ⟨T,x,rfl⟩:=hx.iface;clear hx ihf;go_enter Tryz.func116,Tryz.ntmps116;go_wp2_with fail;obtain ⟨W,hW⟩:=n_m ((w.alloc (.cells #[.int .i64 0,.bool false,.slice none 0 0,.string ⟨#[]⟩,.int .i64 0,.int .i64 0,.bool false,.bool false,.slice none 0 0] 194)).alloc (.cells #[.iface T x] 158));have hWx:Ext w W:=by rw [<- hW]; exact ((Ext.refl w).alloc _).alloc _
 have hWs:W.heap.size=w.heap.size+1+1:=by rw [<- hW]; simp
 have hZ:jc5 W w.heap.size:=by rw [<- hW]; exact (wc9 w _).ext ((Ext.refl _).alloc _) (by simp)
 have HZ:=Lib.hid hZ;have HWX:=Lib.hid hWx;have HWS:=Lib.hid hWs;have HX0:=Lib.hid hx0;rw [hW];have b0:W.cell? ⟨w.heap.size+1,0,none⟩=some (.iface T x):=by rw [<- hW]; simp [go_sem]
 clear hW hZ hWx hWs hx0;go_wp2_with fail;refine (IHF.out _ _ (HX0.out.trans HWX.out) HX.out).mono ?_;rintro e v1 ⟨z1,rfl,m1,x1⟩;obtain ⟨A0,n0,c0,A1,c1,rfl,-⟩:=m1.open_;unfold ndV;have y1:Ext W v1:=Ext.trans (Ext.refl W) x1;have hz2:jc5 v1 w.heap.size:=HZ.out.ext y1 (by have:=HWS.out; omega);have hza:∀ o,jc5 (v1.alloc o) w.heap.size:=fun o=>hz2.ext ((Ext.refl v1).alloc o) (by have:=y1.size; have:=HWS.out; omega)
 have r0:=fun o=>(hza o).1.1
 have r1:=fun o=>(hza o).1.2.1
 have r2:=fun o=>(hza o).1.2.2.1
 have r3:=fun o=>(hza o).1.2.2.2.1
 have r4:=fun o=>(hza o).1.2.2.2.2.1
 have r5:=fun o=>(hza o).1.2.2.2.2.2.1
 have r6:=fun o=>(hza o).1.2.2.2.2.2.2.1
 have r7:=fun o=>(hza o).1.2.2.2.2.2.2.2.1
 have r8:=fun o=>(hza o).1.2.2.2.2.2.2.2.2
 have rf:=fun o i=>(hza o).2 i
 have HZA:=Lib.hid hza;clear hz2 hza;have hv2:w.heap.size+1 < v1.heap.size:=by have:=y1.size; have:=HWS.out; omega
 clear b0
 have HF:Hid (gc4 (Fm.not f).plain w (.returned (ndV { nd0 with kind:=10 } (.slice none 0 0) (.slice (some ⟨v1.heap.size,0,none⟩) 1 1))) (set9 (v1.alloc (.cells #[.int .i64 f.plain.d.kind,.bool f.plain.d.neg,.slice A0 n0 c0,.string f.plain.d.name,.int .i64 f.plain.d.exp,.int .i64 f.plain.d.rel,.bool f.plain.d.truth,.bool f.plain.d.all,.slice A1 f.plain.ks.length c1] 194)) w.heap.size (.int .i64 (10)) (.bool false) (.slice none 0 0) (.string ⟨#[]⟩) (.int .i64 (0)) (.int .i64 (0)) (.bool false) (.bool false) (.slice (some ⟨v1.heap.size,0,none⟩) 1 1))):=
  zdb (B := W.heap.size) ((HWX.out.trans y1).alloc _) (Nat.le_refl _) (by have := HWS.out; omega) (hi := v1.heap.size + 1) (by simp) (HZA.out _)
   (TrO.mk (t := (Fm.not f).plain) (c := 1) (vc2.nil _) (by simp [Fm.plain, Tr.ks]) (by simp)
     (.inr (qgz v1 W.heap.size _ f.plain _ _ m1 y1.size)))
 clear HZ HWX HWS HX0 IHF HX m1 x1 y1 HZA;go_wp2_with fail;exact bodyPost_ret (v:=ndV { nd0 with kind:=10 } (.slice none 0 0) (.slice (some ⟨v1.heap.size,0,none⟩) 1 1)) (by simp [results,Tryz.results116,go_sem,r0,r1,r2,r3,r4,r5,r6,r7,r8,ndV,nd0]) rfl HF.out
theorem qiq {w0 w:World} {L:Nat} {al:Bool} {q:ByteArray} {f:Fm} {v:Value} (h:FmV w0 L (.quant al q f) v) (hx0:Ext w0 w) (ihf:∀ (v:Value) (w:World),Ext w0 w->FmV w0 L f v->Calls Tryz.prog 116 #[v] w (gc4 f.plain w)) :
 Calls Tryz.prog 116 #[v] w (gc4 (Fm.quant al q f).plain w):=by
 have IHF:=Lib.hid ihf;obtain ⟨x,rfl,hx⟩:=h;have HX:=Lib.hid hx;obtain ⟨T,x,rfl⟩:=hx.iface;clear hx ihf;go_enter Tryz.func116,Tryz.ntmps116;go_wp2_with fail;obtain ⟨W,hW⟩:=n_m ((w.alloc (.cells #[.int .i64 0,.bool false,.slice none 0 0,.string ⟨#[]⟩,.int .i64 0,.int .i64 0,.bool false,.bool false,.slice none 0 0] 194)).alloc (.cells #[.bool al,.string q,.iface T x] 185));have hWx:Ext w W:=by rw [<- hW]; exact ((Ext.refl w).alloc _).alloc _
 have hWs:W.heap.size=w.heap.size+1+1:=by rw [<- hW]; simp
 have hZ:jc5 W w.heap.size:=by rw [<- hW]; exact (wc9 w _).ext ((Ext.refl _).alloc _) (by simp)
 have HB:Hid (∀ W',Ext W W'->(Ext w W'/\W'.cell? ⟨w.heap.size+1,0,none⟩=some (.bool al)/\W'.cell? ⟨w.heap.size+1,1,none⟩=some (.string q)/\W'.cell? ⟨w.heap.size+1,2,none⟩=some (.iface T x))):=by
  intro W' hx;obtain ⟨hc,hf⟩:=hx.cells;refine ⟨hWx.trans hx,?_,?_,?_⟩ <;> (rw [hc _ _ (by omega),<- hW]; simp [go_sem])
 have HB2:Hid (∀ W',Ext W W'->∀ o u0 u1 u2 u3 u4 u5 u6 u7 u8 W2,W2=set9 (W'.alloc o) w.heap.size u0 u1 u2 u3 u4 u5 u6 u7 u8->(Ext w W2/\W2.cell? ⟨w.heap.size+1,0,none⟩=some (.bool al)/\W2.cell? ⟨w.heap.size+1,1,none⟩=some (.string q)/\W2.cell? ⟨w.heap.size+1,2,none⟩=some (.iface T x))):=by
  intro W' hx o u0 u1 u2 u3 u4 u5 u6 u7 u8 W2 e;obtain ⟨k0,k1,k2,k3⟩:=HB.out _ (hx.alloc o);rw [e];exact ⟨vdd k0 (Nat.le_refl _) _ _ _ _ _ _ _ _ _,(uc6 _ _ _ _ _ _ _ _ _ _ _ _ (by simp)).trans k1,(uc6 _ _ _ _ _ _ _ _ _ _ _ _ (by simp)).trans k2,(uc6 _ _ _ _ _ _ _ _ _ _ _ _ (by simp)).trans k3⟩
 have HZ:=Lib.hid hZ;have HWX:=Lib.hid hWx;have HWS:=Lib.hid hWs;have HX0:=Lib.hid hx0;rw [hW];clear hW hZ hWx hWs hx0;have y0:Ext W W.drew:=(Ext.refl W).drew;have Y0:=Lib.hid y0;clear y0
 go_region_held3 (fun W' => Ext w W' /\ W'.cell? ⟨w.heap.size + 1, 0, none⟩ = some (.bool al) /\ W'.cell? ⟨w.heap.size + 1, 1, none⟩ = some (.string q) /\ W'.cell? ⟨w.heap.size + 1, 2, none⟩ = some (.iface T x))
  (first | with_reducible exact HB.out _ Y0.out | with_reducible exact HB.out _ y1 | with_reducible exact HB.out _ (y1.alloc _) | exact HB2.out _ y1 _ _ _ _ _ _ _ _ _ _ _ rfl)
  (first
    | (go_at_call_of 116 (Value.iface T x)
       refine (IHF.out _ _ (HX0.out.trans (HWX.out.trans Y0.out)) HX.out).mono ?_;rintro e v1 ⟨z1,rfl,m1,x1⟩;obtain ⟨A0,n0,c0,A1,c1,rfl,-⟩:=m1.open_;unfold ndV;have y1:Ext W v1:=Ext.trans Y0.out x1;have hz2:jc5 v1 w.heap.size:=HZ.out.ext y1 (by have:=HWS.out; omega);have hza:∀ o,jc5 (v1.alloc o) w.heap.size:=fun o=>hz2.ext ((Ext.refl v1).alloc o) (by have:=y1.size; have:=HWS.out; omega)
       have r0:=fun o=>(hza o).1.1
       have r1:=fun o=>(hza o).1.2.1
       have r2:=fun o=>(hza o).1.2.2.1
       have r3:=fun o=>(hza o).1.2.2.2.1
       have r4:=fun o=>(hza o).1.2.2.2.2.1
       have r5:=fun o=>(hza o).1.2.2.2.2.2.1
       have r6:=fun o=>(hza o).1.2.2.2.2.2.2.1
       have r7:=fun o=>(hza o).1.2.2.2.2.2.2.2.1
       have r8:=fun o=>(hza o).1.2.2.2.2.2.2.2.2
       have rf:=fun o i=>(hza o).2 i
       have HZA:=Lib.hid hza;clear hz2 hza
       have hv2:w.heap.size+1 < v1.heap.size:=by have:=y1.size; have:=HWS.out; omega))
 have HF:Hid (gc4 (Fm.quant al q f).plain w (.returned (ndV { nd0 with kind:=15,all:=al,name:=q } (.slice none 0 0) (.slice (some ⟨v1.heap.size,0,none⟩) 1 1))) (set9 (v1.alloc (.cells #[.int .i64 f.plain.d.kind,.bool f.plain.d.neg,.slice A0 n0 c0,.string f.plain.d.name,.int .i64 f.plain.d.exp,.int .i64 f.plain.d.rel,.bool f.plain.d.truth,.bool f.plain.d.all,.slice A1 f.plain.ks.length c1] 194)) w.heap.size (.int .i64 (15)) (.bool false) (.slice none 0 0) (.string q) (.int .i64 (0)) (.int .i64 (0)) (.bool false) (.bool al) (.slice (some ⟨v1.heap.size,0,none⟩) 1 1))):=
  zdb (B := W.heap.size) ((HWX.out.trans y1).alloc _) (Nat.le_refl _) (by have := HWS.out; omega) (hi := v1.heap.size + 1) (by simp) (HZA.out _)
   (TrO.mk (t := (Fm.quant al q f).plain) (c := 1) (vc2.nil _) (by simp [Fm.plain, Tr.ks]) (by simp)
     (.inr (qgz v1 W.heap.size _ f.plain _ _ m1 y1.size)))
 clear HZ HWX HWS HX0 IHF HX m1 x1 y1 HZA HB HB2 Y0;go_wp2_with fail;exact bodyPost_ret (v:=ndV { nd0 with kind:=15,all:=al,name:=q } (.slice none 0 0) (.slice (some ⟨v1.heap.size,0,none⟩) 1 1)) (by simp [results,Tryz.results116,go_sem,r0,r1,r2,r3,r4,r5,r6,r7,r8,ndV,nd0]) rfl HF.out
theorem ghu (r:Int) (w:World):Calls Tryz.prog 162 #[.int .i64 r] w fun e w'=>e=.returned (.int .i64 (yg2 r))/\w'=w:=by
 by_cases h1:r < 1
 · have hr:yg2 r=3:=if_pos (.inl h1);rw [hr];have hd:decide (r < 1)=true:=by simpa using h1
   clear hr;go_enter Tryz.func162,Tryz.ntmps162;go_wp2_with fail;go_ret;exact ⟨rfl,rfl⟩
 · have hd:decide (r < 1)=false:=by simpa using h1
   by_cases h2:6 < r
   · have hr:yg2 r=3:=if_pos (.inr h2);rw [hr];have hd2:decide (6 < r)=true:=by simpa using h2
     clear hr;go_enter Tryz.func162,Tryz.ntmps162;go_wp2_with fail;go_ret;exact ⟨rfl,rfl⟩
   · have hr:yg2 r=r:=if_neg (by omega);rw [hr];have hd2:decide (6 < r)=false:=by simpa using h2
     clear hr;go_enter Tryz.func162,Tryz.ntmps162;go_wp2_with fail;go_ret;exact ⟨rfl,rfl⟩
theorem viz {w0 w:World} {L:Nat} {l k:Tm} {rr:Int} {v:Value} (h:FmV w0 L (.atom l rr k) v) (hx0:Ext w0 w) (ihl:∀ (v:Value) (w:World),Ext w0 w->TmV w0 L l v->Calls Tryz.prog 163 #[v] w (gc4 l.plain w)) (ihk:∀ (v:Value) (w:World),Ext w0 w->TmV w0 L k v->Calls Tryz.prog 163 #[v] w (gc4 k.plain w)) :
 Calls Tryz.prog 116 #[v] w (gc4 (Fm.atom l rr k).plain w):=by
 have IHL:=Lib.hid ihl;have IHK:=Lib.hid ihk;obtain ⟨x,y,rfl,hx,hy⟩:=h;have HX:=Lib.hid hx;obtain ⟨T,x,rfl⟩:=hx.iface;have HY:=Lib.hid hy;obtain ⟨U,y,rfl⟩:=hy.iface;clear hx hy ihl ihk;go_enter Tryz.func116,Tryz.ntmps116;go_wp2_with fail;obtain ⟨W,hW⟩:=n_m ((w.alloc (.cells #[.int .i64 0,.bool false,.slice none 0 0,.string ⟨#[]⟩,.int .i64 0,.int .i64 0,.bool false,.bool false,.slice none 0 0] 194)).alloc (.cells #[.iface T x,.int .i64 rr,.iface U y] 67));have hWx:Ext w W:=by rw [<- hW]; exact ((Ext.refl w).alloc _).alloc _
 have hWs:W.heap.size=w.heap.size+1+1:=by rw [<- hW]; simp
 have hZ:jc5 W w.heap.size:=by rw [<- hW]; exact (wc9 w _).ext ((Ext.refl _).alloc _) (by simp)
 have HB:Hid (∀ W',Ext W W'->(Ext w W'/\W'.cell? ⟨w.heap.size+1,0,none⟩=some (.iface T x)/\W'.cell? ⟨w.heap.size+1,1,none⟩=some (.int .i64 rr)/\W'.cell? ⟨w.heap.size+1,2,none⟩=some (.iface U y))):=by
  intro W' hx;obtain ⟨hc,hf⟩:=hx.cells;refine ⟨hWx.trans hx,?_,?_,?_⟩ <;> (rw [hc _ _ (by omega),<- hW]; simp [go_sem])
 have HB2:Hid (∀ W',Ext W W'->∀ o u0 u1 u2 u3 u4 u5 u6 u7 u8 W2,W2=set9 (W'.alloc o) w.heap.size u0 u1 u2 u3 u4 u5 u6 u7 u8->(Ext w W2/\W2.cell? ⟨w.heap.size+1,0,none⟩=some (.iface T x)/\W2.cell? ⟨w.heap.size+1,1,none⟩=some (.int .i64 rr)/\W2.cell? ⟨w.heap.size+1,2,none⟩=some (.iface U y))):=by
  intro W' hx o u0 u1 u2 u3 u4 u5 u6 u7 u8 W2 e;obtain ⟨k0,k1,k2,k3⟩:=HB.out _ (hx.alloc o);rw [e];exact ⟨vdd k0 (Nat.le_refl _) _ _ _ _ _ _ _ _ _,(uc6 _ _ _ _ _ _ _ _ _ _ _ _ (by simp)).trans k1,(uc6 _ _ _ _ _ _ _ _ _ _ _ _ (by simp)).trans k2,(uc6 _ _ _ _ _ _ _ _ _ _ _ _ (by simp)).trans k3⟩
 have HZ:=Lib.hid hZ;have HWX:=Lib.hid hWx;have HWS:=Lib.hid hWs;have HX0:=Lib.hid hx0;rw [hW];clear hW hZ hWx hWs hx0;have y0:Ext W W.drew:=(Ext.refl W).drew;have Y0:=Lib.hid y0;clear y0
 go_region_held3 (fun W' => Ext w W' /\ W'.cell? ⟨w.heap.size + 1, 0, none⟩ = some (.iface T x) /\ W'.cell? ⟨w.heap.size + 1, 1, none⟩ = some (.int .i64 rr) /\ W'.cell? ⟨w.heap.size + 1, 2, none⟩ = some (.iface U y))
  (first | with_reducible exact HB.out _ Y0.out | with_reducible exact HB.out _ y1 | with_reducible exact HB.out _ y2 | with_reducible exact HB.out _ (y2.alloc _) | exact HB2.out _ y2 _ _ _ _ _ _ _ _ _ _ _ rfl)
  (first
    | (go_at_call 162
       refine (ghu _ _).mono ?_
       rintro e v0 ⟨rfl,rfl⟩)
    | (go_at_call_of 163 (Value.iface T x)
       refine (IHL.out _ _ (HX0.out.trans (HWX.out.trans Y0.out)) HX.out).mono ?_;rintro e v1 ⟨z1,rfl,m1,x1⟩;obtain ⟨A0,n0,c0,A1,c1,rfl,-⟩:=m1.open_;unfold ndV
       have y1:Ext W v1:=Ext.trans Y0.out x1)
    | (go_at_call_of 163 (Value.iface U y)
       refine (IHK.out _ _ (HX0.out.trans (HWX.out.trans y1)) HY.out).mono ?_;rintro e v2 ⟨z2,rfl,m2,x2⟩;obtain ⟨B0,k0,d0,B1,d1,rfl,-⟩:=m2.open_;unfold ndV;have y2:Ext W v2:=Ext.trans (y1) x2;have hz2:jc5 v2 w.heap.size:=HZ.out.ext y2 (by have:=HWS.out; omega);have hza:∀ o,jc5 (v2.alloc o) w.heap.size:=fun o=>hz2.ext ((Ext.refl v2).alloc o) (by have:=y2.size; have:=HWS.out; omega)
       have r0:=fun o=>(hza o).1.1
       have r1:=fun o=>(hza o).1.2.1
       have r2:=fun o=>(hza o).1.2.2.1
       have r3:=fun o=>(hza o).1.2.2.2.1
       have r4:=fun o=>(hza o).1.2.2.2.2.1
       have r5:=fun o=>(hza o).1.2.2.2.2.2.1
       have r6:=fun o=>(hza o).1.2.2.2.2.2.2.1
       have r7:=fun o=>(hza o).1.2.2.2.2.2.2.2.1
       have r8:=fun o=>(hza o).1.2.2.2.2.2.2.2.2
       have rf:=fun o i=>(hza o).2 i
       have HZA:=Lib.hid hza;clear hz2 hza
       have hv2:w.heap.size+1 < v2.heap.size:=by have:=y2.size; have:=HWS.out; omega))
 have HF:Hid (gc4 (Fm.atom l rr k).plain w (.returned (ndV { nd0 with kind:=9,rel:=yg2 rr } (.slice none 0 0) (.slice (some ⟨v2.heap.size,0,none⟩) 2 2))) (set9 (v2.alloc (.cells #[.int .i64 l.plain.d.kind,.bool l.plain.d.neg,.slice A0 n0 c0,.string l.plain.d.name,.int .i64 l.plain.d.exp,.int .i64 l.plain.d.rel,.bool l.plain.d.truth,.bool l.plain.d.all,.slice A1 l.plain.ks.length c1,.int .i64 k.plain.d.kind,.bool k.plain.d.neg,.slice B0 k0 d0,.string k.plain.d.name,.int .i64 k.plain.d.exp,.int .i64 k.plain.d.rel,.bool k.plain.d.truth,.bool k.plain.d.all,.slice B1 k.plain.ks.length d1] 194)) w.heap.size (.int .i64 (9)) (.bool false) (.slice none 0 0) (.string ⟨#[]⟩) (.int .i64 (0)) (.int .i64 (yg2 rr)) (.bool false) (.bool false) (.slice (some ⟨v2.heap.size,0,none⟩) 2 2))):=
  zdb (B := W.heap.size) ((HWX.out.trans y2).alloc _) (Nat.le_refl _) (by have := HWS.out; omega) (hi := v2.heap.size + 1) (by simp) (HZA.out _)
   (TrO.mk (t := (Fm.atom l rr k).plain) (c := 2) (vc2.nil _) (by simp [Fm.plain, Tr.ks]) (by simp)
     (.inr (wdh v2 W.heap.size v1.heap.size _ l.plain k.plain _ _ _ _ (m1.ext x2) m2 y1.size x2.size)))
 clear HZ HWX HWS HX0 IHL IHK HX HY m1 x1 y1 m2 x2 y2 HZA HB HB2 Y0;go_wp2_with fail;exact bodyPost_ret (v:=ndV { nd0 with kind:=9,rel:=yg2 rr } (.slice none 0 0) (.slice (some ⟨v2.heap.size,0,none⟩) 2 2)) (by simp [results,Tryz.results116,go_sem,r0,r1,r2,r3,r4,r5,r6,r7,r8,ndV,nd0]) rfl HF.out
theorem kiz {w0 w:World} {L:Nat} {s:ByteArray} {v:Value} (h:TmV w0 L (.name s) v) :
 Calls Tryz.prog 163 #[v] w (gc4 (Tm.name s).plain w):=by
 obtain rfl:=h
 have HF:Hid (gc4 (Tm.name s).plain w (.returned (ndV { nd0 with kind:=2,name:=s } (.slice none 0 0) (.slice none 0 0))) ((w.alloc (.cells #[.int .i64 (2),.bool false,.slice none 0 0,.string s,.int .i64 (0),.int .i64 (0),.bool false,.bool false,.slice none 0 0] 194)).alloc (.cells #[.string s] 60))):=
  ⟨_,rfl,TrO.mk (t:=(Tm.name s).plain) (c:=0) (A:=none) (vc2.nil _) (by simp [Tm.plain,Tr.ks]) (by simp) (.inl rfl),((Ext.refl w).alloc _).alloc _⟩
 go_enter Tryz.func163,Tryz.ntmps163;go_wp2_with fail;exact bodyPost_ret (v:=ndV { nd0 with kind:=2,name:=s } (.slice none 0 0) (.slice none 0 0)) (by simp [results,Tryz.results163,go_sem,ndV,nd0]) rfl (HF.out)
theorem yi7 {w0 w:World} {L:Nat} {z:Int} {v:Value} (h:TmV w0 L (.num z) v) (hx0:Ext w0 w) (hL:L<=35184372088000) :
 Calls Tryz.prog 163 #[v] w (gc4 (Tm.num z).plain w):=by
 obtain ⟨x,rfl,hx⟩:=h;have HX:=Lib.hid (hx.ext hx0);obtain ⟨b,A,n,c,rfl⟩:=hx.unpack;clear hx;go_enter Tryz.func163,Tryz.ntmps163;go_wp2_with fail;obtain ⟨W,hW⟩:=n_m ((w.alloc (.cells #[.int .i64 0,.bool false,.slice none 0 0,.string ⟨#[]⟩,.int .i64 0,.int .i64 0,.bool false,.bool false,.slice none 0 0] 194)).alloc (.cells #[.bool b,.slice A n c] 63));have hWx:Ext w W:=by rw [<- hW]; exact ((Ext.refl w).alloc _).alloc _
 have hWs:W.heap.size=w.heap.size+1+1:=by rw [<- hW]; simp
 have hZ:jc5 W w.heap.size:=by rw [<- hW]; exact (wc9 w _).ext ((Ext.refl _).alloc _) (by simp)
 rw [hW];clear hW;refine (xdi _ z L _ (HX.out.ext hWx) (by omega)).mono ?_;rintro e v1 ⟨x1,rfl,m1,y1⟩;have hz1:=hZ.ext y1 (by omega);obtain ⟨s1,rfl,ms⟩:=m1;have HF:=Lib.hid (zdb (B:=w.heap.size+1) (hWx.trans y1) (Nat.le_refl _) (by omega) (hi:=v1.heap.size) (Nat.le_refl _) hz1 (TrO.mk (t:=(Tm.num z).plain) (c:=0) (A:=none) ms (by simp [Tm.plain,Tr.ks]) (by simp) (.inl rfl)));obtain ⟨A1,c1,rfl,-⟩:=ms;obtain ⟨⟨r0,r1,r2,r3,r4,r5,r6,r7,r8⟩,rf⟩:=hz1;clear hWx hWs hZ y1;go_wp2_with fail;exact bodyPost_ret (v:=ndV { nd0 with kind:=1,neg:=decide (z < 0),ds:=dg z.natAbs } (.slice A1 (dg z.natAbs).length c1) (.slice none 0 0)) (by simp [results,Tryz.results163,go_sem,r0,r1,r2,r3,r4,r5,r6,r7,r8,ndV,nd0]) rfl HF.out
theorem xiq {w0 w:World} {L:Nat} {b:Bool} {v:Value} (h:FmV w0 L (.truth b) v) :
 Calls Tryz.prog 116 #[v] w (gc4 (Fm.truth b).plain w):=by
 obtain rfl:=h
 have HF:Hid (gc4 (Fm.truth b).plain w (.returned (ndV { nd0 with kind:=8,truth:=b } (.slice none 0 0) (.slice none 0 0))) ((w.alloc (.cells #[.int .i64 (8),.bool false,.slice none 0 0,.string ⟨#[]⟩,.int .i64 (0),.int .i64 (0),.bool b,.bool false,.slice none 0 0] 194)).alloc (.cells #[.bool b] 154))):=
  ⟨_,rfl,TrO.mk (t:=(Fm.truth b).plain) (c:=0) (A:=none) (vc2.nil _) (by simp [Fm.plain,Tr.ks]) (by simp) (.inl rfl),((Ext.refl w).alloc _).alloc _⟩
 go_enter Tryz.func116,Tryz.ntmps116;go_wp2_with fail;exact bodyPost_ret (v:=ndV { nd0 with kind:=8,truth:=b } (.slice none 0 0) (.slice none 0 0)) (by simp [results,Tryz.results116,go_sem,ndV,nd0]) rfl (HF.out)
theorem kg9 {w0:World} {L:Nat} (hL:L<=35184372088000) (t:Tm):∀ (v:Value) (w:World),Ext w0 w->TmV w0 L t v->Calls Tryz.prog 163 #[v] w (gc4 t.plain w):=by
 induction t with
 | num z=>exact fun v w hx h=>yi7 h hx hL
 | name s=>exact fun v w hx h=>kiz h
 | add a b iha ihb=>exact fun v w hx h=>gi7 h hx iha ihb
 | sub a b iha ihb=>exact fun v w hx h=>wi6 h hx iha ihb
 | mul a b iha ihb=>exact fun v w hx h=>ji7 h hx iha ihb
 | neg a iha=>exact fun v w hx h=>qi7 h hx iha
 | pow a n iha=>exact fun v w hx h=>zi7 h hx iha
theorem zih {w0:World} {L:Nat} (hL:L<=35184372088000) (t:Fm):∀ (v:Value) (w:World),Ext w0 w->FmV w0 L t v->Calls Tryz.prog 116 #[v] w (gc4 t.plain w):=by
 induction t with
 | truth b=>exact fun v w hx h=>xiq h
 | atom l r k=>exact fun v w hx h=>viz h hx (kg9 hL l) (kg9 hL k)
 | not f ihf=>exact fun v w hx h=>xi7 h hx ihf
 | and f g ihf ihg=>exact fun v w hx h=>ui7 h hx ihf ihg
 | or f g ihf ihg=>exact fun v w hx h=>vja h hx ihf ihg
 | imp f g ihf ihg=>exact fun v w hx h=>ki7 h hx ihf ihg
 | iff f g ihf ihg=>exact fun v w hx h=>vi7 h hx ihf ihg
 | quant a s f ihf=>exact fun v w hx h=>qiq h hx ihf
end Go.Proofs.YtopddaabiinboaaGreat
