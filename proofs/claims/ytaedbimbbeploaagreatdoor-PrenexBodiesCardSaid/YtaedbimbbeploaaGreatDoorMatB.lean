/- Layer 38: prenex.truth, builder.join, quant, matrix at formulas without equivalences. -/
import Derived.Test.YtaedbimbbeploaaGreatDoorBldS
import Derived.Test.YtaedbimbbeploaaGreatDoorMb31
set_option linter.unusedSimpArgs false
set_option linter.unusedVariables false

set_option maxRecDepth 100000
set_option maxHeartbeats 8000000
namespace Go.Proofs.YtaedbimbbeploaaGreatDoor
open Go.RowKit
attribute [local go_sem] yac uz uac wab jac qac zac jw wz xac vac yaf ul kac kw
theorem qy.turn {w w':World} {g:Nat} (h:qy w g) (hb:w'.heap[g]?=w.heap[g]?):qy w' g:=⟨h.1.turn hb,fun i=>(World.frozen?_of_block (a:=⟨g,i,none⟩) hb).trans (h.2 i)⟩
theorem uu.pbld {base gb bl bt:Nat} {W:World} {own:Nat->Prop} {s:PSt} {tk:List ByteArray} (h:uu base gb bl bt W own s tk):va2 W gb bl s.lev:=⟨h.c2,by have:=h.lt; omega,h.lev⟩
theorem uu.lo {base gb bl bt:Nat} {W w0:World} {own:Nat->Prop} {s:PSt} {tk:List ByteArray} (h:uu base gb bl bt W own s tk) (hlo:w0.heap.size<=gb/\w0.heap.size<=bl/\w0.heap.size<=bt/\w0.heap.size<=base) (i:Nat) (hi:own i):w0.heap.size<=i:=by
 have h1:=h.own_ hi;have h2:=h.lt;omega
def vbb (w0:World) (L base gb bl bt:Nat) (f:Fm):Prop:=∀ (v:Value) (W:World) (own:Nat->Prop) (s:PSt) (tk:List ByteArray) (pos:Bool),Ext w0 W->FmV w0 L f v->f.noIff=true->f.light->s.names.length+f.bound.length<=1000->s.all.length+f.bound.length<=1000->uu base gb bl bt W own s tk ->
 Calls Tryz.prog 49 #[.pointer (some ⟨gb,0,none⟩),v,.bool pos,.bool false] W (ka2 base gb bl bt own W tk (xy f pos s))
section
variable {w0:World} {L base gb bl bt:Nat}
theorem vaa.at_ {o1 o2:Nat->Prop} {a b:World} (h:vaa o1 a o2 b) {i:Nat} (hi:i < a.heap.size) (hn:¬ o1 i):b.heap[i]?=a.heap[i]?/\¬ o2 i/\i < b.heap.size:=⟨h.keeps.block i hi hn,fun ho=>hn (h.keeps.own i hi ho),Nat.lt_of_lt_of_le hi h.size⟩
theorem uu.names_ {W:World} {own:Nat->Prop} {s:PSt} {tk:List ByteArray} (h:uu base gb bl bt W own s tk):∃ A c,W.cell? ⟨gb,0,none⟩=some (.slice A s.names.length c):=by
 obtain ⟨nv,av,on,h1,-,h3,-⟩:=h.ex;obtain ⟨A,c,rfl,-⟩:=h3.len;exact ⟨A,c,h1⟩
theorem xb8 {f : Fm} {al : Bool} {nm : ByteArray} (hlo : w0.heap.size <= gb /\ w0.heap.size <= bl /\ w0.heap.size <= bt /\ w0.heap.size <= base) (ih : vbb w0 L base gb bl bt f) (pos : Bool) (v : Value) (W : World) (own : Nat -> Prop) (s : PSt) (tk : List ByteArray) (hx0 : Ext w0 W) (hf : FmV w0 L f v)
 (hpf:f.noIff=true) (hlf:f.light) (hn:s.names.length+(f.bound.length+1)<=1000) (ha:s.all.length+(f.bound.length+1)<=1000) (hb:uu base gb bl bt W own s tk) :
 Calls Tryz.prog 109 #[.pointer (some ⟨gb,0,none⟩),.agg #[.bool al,.string nm,v],.bool pos,.bool false] W (ka2 base gb bl bt own W tk (xy f pos (s.bind (al == pos) nm))):=by
 have hfv:=hf;obtain ⟨Tf,xf,rfl⟩:=hf.iface;obtain ⟨W1,hW⟩:∃ W1,(W.alloc (.cells #[.bool al,.string nm,.iface Tf xf] 95)).alloc (.cells #[.int .i64 0,.int .i64 0,.int .i64 0,.bool false,.slice none 0 0,.slice none 0 0,.slice none 0 0] 45)=W1:=⟨_,rfl⟩;have hWx:Ext W W1:=by rw [<- hW]; exact ((Ext.refl W).alloc _).alloc _
 have hWs:W1.heap.size=W.heap.size+1+1:=by rw [<- hW]; simp
 have q0:W1.cell? ⟨W.heap.size,0,none⟩=some (.bool al):=by rw [<- hW]; simp [go_sem]
 have q1:W1.cell? ⟨W.heap.size,1,none⟩=some (.string nm):=by rw [<- hW]; simp [go_sem]
 have q2:W1.cell? ⟨W.heap.size,2,none⟩=some (.iface Tf xf):=by rw [<- hW]; simp [go_sem]
 have hz:qy W1 (W.heap.size+1):=by
  rw [<- hW];have:=qy.new (W.alloc (.cells #[.bool al,.string nm,.iface Tf xf] 95)) 45;simpa using this
 have hb1:=hb.ext hWx;have hno:∀ i,W.heap.size<=i->¬ own i:=fun i hi ho=>by have:=(hb.own_ ho).1; omega
 have hgb:gb < W.heap.size:=by have:=hb.lt; omega
 obtain ⟨nA,nc,e0,hadd⟩:=hb1.addName (by omega);obtain ⟨nB,nd,w4,own1,hrun,k0,k1,b5,t5⟩:=hadd nm;clear hadd;obtain ⟨n1,hn1⟩:∃ n1,s.names.length+1=n1:=⟨_,rfl⟩;rw [hn1] at hrun b5 t5;obtain ⟨w5,hw5⟩:∃ w5,w4.setCell ⟨gb,0,none⟩ (.slice nB n1 nd)=w5:=⟨_,rfl⟩;rw [hw5] at b5 t5;have m5:=t5.at_ (i:=W.heap.size) (by omega) (hno _ (Nat.le_refl _));have z5:=t5.at_ (i:=W.heap.size+1) (by omega) (hno _ (Nat.le_succ _));obtain ⟨w6,hw6⟩:∃ w6,w5.drew=w6:=⟨_,rfl⟩;have hx6:Ext w5 w6:=by rw [<- hw6]; exact (Ext.refl w5).drew
 have b6:=b5.ext hx6;obtain ⟨aA,ac,e1,hadd2⟩:=b6.addAll (by simp only; omega);obtain ⟨aB,ad,w7,own2,hrun2,k2,k3,b8,t8⟩:=hadd2 (al == pos);clear hadd2;simp only at e1 hrun2 k2 b8 t8;obtain ⟨a0,ha0⟩:∃ a0,s.all.length=a0:=⟨_,rfl⟩;obtain ⟨a1,ha1⟩:∃ a1,a0+1=a1:=⟨_,rfl⟩;rw [ha0] at e1 hrun2 k2 b8 t8;rw [ha1] at hrun2 b8 t8;obtain ⟨w8,hw8⟩:∃ w8,w7.setCell ⟨gb,1,none⟩ (.slice aB a1 ad)=w8:=⟨_,rfl⟩;rw [hw8] at b8 t8;have m8:=t8.at_ (i:=W.heap.size) (Nat.lt_of_lt_of_le m5.2.2 hx6.size) m5.2.1;have z8:=t8.at_ (i:=W.heap.size+1) (Nat.lt_of_lt_of_le z5.2.2 hx6.size) z5.2.1;obtain ⟨w9,hw9⟩:∃ w9,w8.drew=w9:=⟨_,rfl⟩;have hx9:Ext w8 w9:=by rw [<- hw9]; exact (Ext.refl w8).drew
 have b9:=b8.ext hx9;obtain ⟨w10,hrun3,b10,t10,o10⟩:=b9.addLevel nm ((n1:Nat):Int);have m10:=t10.at_ (i:=W.heap.size) (Nat.lt_of_lt_of_le m8.2.2 hx9.size) m8.2.1;have z10:=t10.at_ (i:=W.heap.size+1) (Nat.lt_of_lt_of_le z8.2.2 hx9.size) z8.2.1;obtain ⟨lA,lc,e3⟩:=b9.names_;have hln:(s.names ++ [nm]).length=n1:=by rw [List.length_append]; exact hn1
 simp only [hln] at e3;have e2:=b9.c2;have hsb:(⟨s.names ++ [nm],s.all ++ [al == pos],fun t=>if t=nm then ((n1:Nat):Int) else s.lev t⟩:PSt)=s.bind (al == pos) nm:=by rw [<- hn1]; rfl
 rw [hsb] at b10;have hm:vaa own W own2 w10:=((((vaa.of_ext hWx).trans t5).trans (vaa.of_ext hx6)).trans t8).trans ((vaa.of_ext hx9).trans t10);have hxx:Ext w0 w10:=hm.ext hx0 (hb.lo hlo);have HC:=Lib.hid (ih (.iface Tf xf) w10 own2 (s.bind (al == pos) nm) tk pos hxx hfv hpf hlf (by rw [<- hsb]; simp only [List.length_append,List.length_singleton]; omega) (by rw [<- hsb]; simp only [List.length_append,List.length_singleton]; omega) b10);have h56:∀ i,i < w5.heap.size->w6.heap[i]?=w5.heap[i]?:=fun i hi=>hx6.below.block i hi
 have h89:∀ i,i < w8.heap.size->w9.heap[i]?=w8.heap[i]?:=fun i hi=>hx9.below.block i hi
 have f6:w6.heap[W.heap.size]?=W1.heap[W.heap.size]?:=(h56 _ m5.2.2).trans m5.1;have f9:w9.heap[W.heap.size]?=W1.heap[W.heap.size]?:=((h89 _ m8.2.2).trans m8.1).trans f6;have f10:w10.heap[W.heap.size]?=W1.heap[W.heap.size]?:=m10.1.trans f9;have x0:w6.cell? ⟨W.heap.size,0,none⟩=some (.bool al):=(World.cell?_of_block (a:=⟨W.heap.size,0,none⟩) f6).trans q0;have y1:w9.cell? ⟨W.heap.size,1,none⟩=some (.string nm):=(World.cell?_of_block (a:=⟨W.heap.size,1,none⟩) f9).trans q1;have y2:w10.cell? ⟨W.heap.size,2,none⟩=some (.iface Tf xf):=(World.cell?_of_block (a:=⟨W.heap.size,2,none⟩) f10).trans q2;have u1:w10.cell? ⟨W.heap.size,1,none⟩=some (.string nm):=(World.cell?_of_block (a:=⟨W.heap.size,1,none⟩) f10).trans q1;have zz:qy w10 (W.heap.size+1):=hz.turn (z10.1.trans ((h89 _ z8.2.2).trans (z8.1.trans ((h56 _ z5.2.2).trans z5.1))));have u3:w10.cell? ⟨gb,0,none⟩=some (.slice lA n1 lc):=(o10.cell (p:=⟨gb,0,none⟩) (by show gb < _; have:=b9.lt; omega) b9.ne.1).trans e3;have HZ10:=Lib.hid zz;have HZ:=Lib.hid z10.2;have HWS:=Lib.hid hWs;have hW1:W.heap.size+1 < W1.heap.size:=by omega
 have hs6:W.heap.size < w6.heap.size:=Nat.lt_of_lt_of_le m5.2.2 hx6.size;have hs9:W.heap.size < w9.heap.size:=Nat.lt_of_lt_of_le m8.2.2 hx9.size;have HM:=Lib.hid hm;have HRUN:=Lib.hid hrun;have e1':(w5.alloc (.cells #[.bool (al == pos)] 4)).cell? ⟨gb,1,none⟩=some (.slice aA a0 ac):=(((Ext.refl w5).alloc (.cells #[.bool (al == pos)] 4)).cell (p:=⟨gb,1,none⟩) (by show gb < _; have:=m5.2.2; omega)).trans (by rw [<- hw6] at e1; exact e1);have HSS:Hid ((w9.cell? ⟨gb,2,none⟩=some (.map (some bl))/\w9.cell? ⟨W.heap.size,1,none⟩=some (.string nm)/\w9.cell? ⟨gb,0,none⟩=some (.slice lA n1 lc))/\(w10.cell? ⟨gb,2,none⟩=some (.map (some bl))/\w10.cell? ⟨W.heap.size,1,none⟩=some (.string nm)/\w10.cell? ⟨gb,0,none⟩=some (.slice lA n1 lc))):=Lib.hid ⟨⟨e2,y1,e3⟩,⟨b10.c2,u1,u3⟩⟩;have HRUN3:=Lib.hid hrun3;generalize xy f pos (s.bind (al == pos) nm)=r at *;obtain ⟨mr,sr⟩:=r;subst hw6 hw9;have HRUN2:Hid ((Builtin.append_ #[38,38] 38 #[.slice aA a0 ac,.slice (some ⟨w5.heap.size,0,none⟩) 1 1]).run Tryz.prog (w5.drew.alloc (.cells #[.bool (al == pos)] 4))=.ok (.slice aB a1 ad) w7):=Lib.hid hrun2;have HB10:=Lib.hid b10;clear hb hb1 hfv hx0 hpf hlf hn ha hno b5 t5 b6 b8 t8 b9 t10 m5 z5 m8 z8 m10 z10 hxx hm hsb hln hrun hrun2 ih hlo hn1 ha1 ha0 hz hWx u3 hWs hx6 hx9 h56 h89 f6 f9 f10 zz o10 e2 y1 e3 u1 hrun3 b10;go_enter Tryz.func109,Tryz.ntmps109;go_upto_region 4 with fail;clear hW
 iterate 30 (first | at_builtin | go_values | go_skip | go_guarded | go_step | go_upon | go_back | go_simp)
 refine wpList_append_run rfl (.tmp 19) (.tmp 21) _ _ rfl _ _ _ _ rfl rfl HRUN.out ?_;clear HRUN;go_upto_region 5 with fail
 go_region_law (first
  | (refine yab rfl (.tmp 29) (.tmp 34) 38 38 rfl _ _ _ _ (by simp [Act.eval,Act.put]) (by simp [Act.eval,Act.put]) HRUN2.out ?_))
 all_goals
  clear HRUN2;have hrun3:=HRUN3.out;clear e0 e1 e1' q0 q1 q2 x0;go_upto_region 6 with fail
  go_region_held3 (fun W' => W'.cell? ⟨gb, 2, none⟩ = some (.map (some bl)) /\ W'.cell? ⟨W.heap.size, 1, none⟩ = some (.string nm) /\ W'.cell? ⟨gb, 0, none⟩ = some (.slice lA n1 lc))
   (first | with_reducible exact HSS.out.1 | with_reducible exact HSS.out.2)
   (fail)
  all_goals
   clear hrun3 HSS HRUN3;go_wp2_with fail;refine HC.out.mono ?_;rintro e w11 ⟨v11,own3,rfl,m11,b11,t11⟩;obtain ⟨C0,j0,f0,C1,j1,f1,C2,f2,rfl,-⟩:=id m11.open_;have hz11:=HZ10.out.turn (t11.keeps.block _ HZ.out.2 HZ.out.1);have hno3:¬ own3 (W.heap.size+1):=fun ho=>HZ.out.1 (t11.keeps.own _ HZ.out.2 ho)
   have hs10:=HZ.out.2;have HF:=Lib.hid (za2 (HM.out.trans t11) (Nat.le_succ _) hno3 hz11 b11 m11 (fun b _ hb=>⟨by omega,by omega,hb.2⟩));obtain ⟨⟨z0,z1,z2,z3,z4,z5,z6⟩,zf⟩:=hz11;simp only [Mx.kind,Mx.rel,Mx.p,Pl.zero,Pl.lv,Pl.neg] at z0 z1 z2 z3;clear m11 b11 t11 hno3 HC HZ10 HZ HM HB10 hs6 hs9;unfold mxV;go_wp2_with fail;exact bodyPost_ret (v:=mxV mr (.slice C0 j0 f0) (.slice C1 j1 f1) (.slice C2 mr.ks.length f2)) (by simp [results,Tryz.results109,go_sem,z0,z1,z2,z3,z4,z5,z6,mxV]) rfl HF.out
theorem jcj {W W1 w1 : World} {own own1 : Nat -> Prop} {s s1 : PSt} {tk : List ByteArray} {m : Mx} {A0 A1 K : Option Addr} {n0 c0 n1 c1 n2 c2 : Nat} (hx : Ext W W1) (hs : W.heap.size < W1.heap.size) (hz : qy W1 W.heap.size) (hb : uu base gb bl bt W own s tk)
 (hm:MxV w1 (fun i=>W1.heap.size<=i/\¬ own1 i) m (mxV m (.slice A0 n0 c0) (.slice A1 n1 c1) (.slice K n2 c2))) (hb1:uu base gb bl bt w1 own1 s1 tk) (ht:vaa own W1 own1 w1) :
 qy w1 W.heap.size/\ka2 base gb bl bt own W tk (m,s1) (.returned (mxV m (.slice A0 n0 c0) (.slice A1 n1 c1) (.slice K n2 c2))) (((((((w1.setCell ⟨W.heap.size,0,none⟩ (.int .i64 m.kind)).setCell ⟨W.heap.size,1,none⟩ (.int .i64 m.rel)).setCell ⟨W.heap.size,2,none⟩ (.int .i64 m.p.lv)).setCell ⟨W.heap.size,3,none⟩ (.bool m.p.neg)).setCell ⟨W.heap.size,4,none⟩ (.slice A0 n0 c0)).setCell ⟨W.heap.size,5,none⟩ (.slice A1 n1 c1)).setCell ⟨W.heap.size,6,none⟩ (.slice K n2 c2)):=by
 have hno:¬ own W.heap.size:=fun ho=>by have:=(hb.own_ ho).1; omega
 have hz1:=hz.turn (ht.keeps.block _ hs hno);exact ⟨hz1,za2 ((vaa.of_ext hx).trans ht) (Nat.le_refl _) (fun ho=>hno (ht.keeps.own _ hs ho)) hz1 hb1 hm (fun b _ hb=>⟨by omega,by omega,hb.2⟩)⟩
theorem vca {f:Fm} {al:Bool} {nm:ByteArray} (hlo:w0.heap.size<=gb/\w0.heap.size<=bl/\w0.heap.size<=bt/\w0.heap.size<=base) (ih:vbb w0 L base gb bl bt f):vbb w0 L base gb bl bt (.quant al nm f):=by
 intro v W own s tk pos hx0 hf hp hl hn ha hb;simp only [Fm.bound,List.length_cons] at hn ha;obtain ⟨x,rfl,hx⟩:=hf;obtain ⟨W1,hW⟩:∃ W1,(W.alloc (.cells #[.int .i64 0,.int .i64 0,.int .i64 0,.bool false,.slice none 0 0,.slice none 0 0,.slice none 0 0] 45)).alloc (.cells #[.bool al,.string nm,x] 95)=W1:=⟨_,rfl⟩;have hWx:Ext W W1:=by rw [<- hW]; exact ((Ext.refl W).alloc _).alloc _
 have hWs:W.heap.size+1 < W1.heap.size:=by rw [<- hW]; simp
 have hz:qy W1 W.heap.size:=by rw [<- hW]; exact (qy.new W _).ext ((Ext.refl _).alloc _) (by simp)
 have HC:=Lib.hid (xb8 (al:=al) (nm:=nm) hlo ih pos x W1 own s tk (hx0.trans hWx) hx hp hl hn ha (hb.ext hWx));obtain ⟨Tf,x,rfl⟩:=hx.iface;have d0:W1.cell? ⟨W.heap.size+1,0,none⟩=some (.bool al):=by rw [<- hW]; simp [go_sem]
 have d1:W1.cell? ⟨W.heap.size+1,1,none⟩=some (.string nm):=by rw [<- hW]; simp [go_sem]
 have d2:W1.cell? ⟨W.heap.size+1,2,none⟩=some (.iface Tf x):=by rw [<- hW]; simp [go_sem]
 have HB:=Lib.hid hb;have HX:=Lib.hid hWx;have HZ:=Lib.hid hz;clear hb hx0 hWx hz ih hp hl hn ha hx hlo;rw [show xy (.quant al nm f) pos s=xy f pos (s.bind (al == pos) nm) from rfl];generalize xy f pos (s.bind (al == pos) nm)=r at *;obtain ⟨mr,sr⟩:=r;go_enter Tryz.func49,Tryz.ntmps49;go_wp2_with fail;clear hW d0 d1 d2;refine HC.out.mono ?_;rintro e w1 ⟨v1,own1,rfl,m1,b1,t1⟩;simp only at m1 b1;obtain ⟨C0,j0,f0,C1,j1,f1,C2,f2,rfl,-⟩:=id m1.open_;obtain ⟨hz1,hret⟩:=jcj HX.out (by omega) HZ.out HB.out m1 b1 t1;have HF:=Lib.hid hret;obtain ⟨⟨z0,z1,z2,z3,z4,z5,z6⟩,zf⟩:=hz1;simp only [Mx.kind,Mx.rel,Mx.p,Pl.zero,Pl.lv,Pl.neg] at z0 z1 z2 z3;clear hret m1 b1 t1 HB HX HZ HC;unfold mxV;go_wp2_with fail;exact bodyPost_ret (v:=mxV mr (.slice C0 j0 f0) (.slice C1 j1 f1) (.slice C2 mr.ks.length f2)) (by simp [results,Tryz.results49,go_sem,z0,z1,z2,z3,z4,z5,z6,mxV]) rfl HF.out
end
end Go.Proofs.YtaedbimbbeploaaGreatDoor
