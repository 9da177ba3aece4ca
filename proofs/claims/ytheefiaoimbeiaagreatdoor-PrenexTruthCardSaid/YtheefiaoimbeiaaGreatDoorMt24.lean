/- Layer 38: prenex.Of at formulas without quantifiers under equivalences that are within the limits. -/
import Derived.Test.YtheefiaoimbeiaaGreatDoorMt23
import Derived.Test.YtheefiaoimbeiaaGreatDoorMt14
import Derived.Test.YtheefiaoimbeiaaGreatDoorMt19
import Derived.Test.YtheefiaoimbeiaaGreatDoorMt8
set_option linter.unusedSimpArgs false
set_option linter.unusedVariables false
set_option maxRecDepth 100000
set_option maxHeartbeats 8000000
namespace Go.Proofs.YtheefiaoimbeiaaGreatDoor
open Go.RowKit
def gan (l : List ByteArray) : Nat -> ByteArray -> Int
 | 0=>fun _=>0
 | k+1=>fun t=>if t=l.getD k ByteArray.empty then ((k+1:Nat):Int) else gan l k t
theorem jbe (l:List ByteArray) (k:Nat) (h:k < l.length):gan l (k+1)=fun t=>if t=l[k] then ((k+1:Nat):Int) else gan l k t:=by
 rw [gan,List.getD_eq_getElem?_getD,List.getElem?_eq_getElem h]
 rfl
def Fm.st (f:Fm):PSt:=⟨f.free,[],gan f.free f.free.length⟩
def gcl (base:Nat) (u:Value):Prop:=∃ x0 A1 n1 c1 A2 n2 c2 x3 x4 x5 x6 x7 x8 x9,u=.agg #[x0,.slice A1 n1 c1,.slice A2 n2 c2,x3,x4,x5,x6,x7,x8,x9]/\(∀ ad,A1=some ad->0 < n1->base<=ad.block)/\(∀ ad,A2=some ad->0 < n2->base<=ad.block)
def ubg (L:Nat) (f:Fm):Prop:=∀ (w1:World) (base gb bl bt:Nat),(w1.heap.size<=gb/\w1.heap.size<=bl/\w1.heap.size<=bt/\w1.heap.size<=base)->yac w1 L base gb bl bt f
theorem ucg {L:Nat} {P:Tm->Prop} (f:Fm) (HP:∀ (w:World) (gb bl:Nat) (t:Tm),P t->∀ g,jab w L gb bl g t) (hP:f.terms P):ubg L f:=fun w1 _ gb bl _ hlo=>vbx (HP w1 gb bl) hlo f hP
theorem jb5 {w0 w : World} {L : Nat} (hs : L <= 1000000000000) (f : Fm) {v : Value} (hx0 : Ext w0 w) (h : FmV w0 L f v) (hl : f.sz <= 1099511627776) (hpl : f.okB false = true) (hok : f.nmE = 0) (hli : f.light) (hlen : f.free.length + f.bound.length <= 1000)
 (hc:NmC w0 L f) (HM:ubg L f) :
 Calls Tryz.prog 9 #[v] w fun e w'=>∃ u,e=.returned (.tuple #[u,.int .i64 0])/\Ext w w'/\PxV w' (fun b=>w.heap.size<=b) f.free.length (yc f true f.st).2.all (yc f true f.st).2.names (yc f true f.st).1 u/\gcl w.heap.size u:=by
 obtain ⟨W1,hW⟩:=n_m (w.alloc (.cells #[.int .i64 0,.slice none 0 0,.slice none 0 0,.int .i64 0,.int .i64 0,.int .i64 0,.bool false,.slice none 0 0,.slice none 0 0,.slice none 0 0] 49));have hWx:Ext w W1:=by rw [<- hW]; exact (Ext.refl w).alloc _
 have hWs:W1.heap.size=w.heap.size+1:=by rw [<- hW]; simp
 have HZ:Hid (∀ j,j < 10->W1.cell? ⟨w.heap.size,j,none⟩=#[Value.int .i64 0,.slice none 0 0,.slice none 0 0,.int .i64 0,.int .i64 0,.int .i64 0,.bool false,.slice none 0 0,.slice none 0 0,.slice none 0 0][j]?/\W1.frozen? ⟨w.heap.size,j,none⟩=false):=Lib.hid (fun j hj=>by
  rw [<- hW]
  rcases (show j=0\/j=1\/j=2\/j=3\/j=4\/j=5\/j=6\/j=7\/j=8\/j=9 by omega) with rfl | rfl | rfl | rfl | rfl | rfl | rfl | rfl | rfl | rfl <;> (constructor <;> simp [go_sem]))
 have HN:=Lib.hid (xbe hs f (hx0.trans hWx) h hl hc);have HFV:=Lib.hid h;have HX0:=Lib.hid hx0;have HWX:=Lib.hid hWx;have hfl:f.free.length<=1000:=by omega
 obtain ⟨T,x,rfl⟩:=h.iface;clear hWx h hx0;go_enter Tryz.func9,Tryz.ntmps9;go_wp2_with fail;clear hW;refine HN.out.mono ?_;rintro e w1 ⟨s1,rfl,hrow,-,x1⟩;have hrow1:=hrow hok;rw [hok];have hs1:=x1.size;have hst:=hrow1.slr;have X1:=Lib.hid x1;have HST:=Lib.hid (show Strs w1 s1 f.free from hst);obtain ⟨SA,sc,rfl,-⟩:=id hst;have HFV1:=Lib.hid (HFV.out.ext ((HX0.out.trans HWX.out).trans x1));clear hrow hrow1 hst x1 HN HFV;go_wp2_with fail;refine (clone_any HST.out (by omega)).mono ?_;rintro e w2 ⟨v2,rfl,r2,x2⟩;have hs2:=x2.size;obtain ⟨NA,nc,rfl,-⟩:=r2.len;obtain ⟨W3,hW3⟩:=n_m (((w2.alloc (.map #[] 0)).alloc (.map #[] 0)).alloc (.cells #[.slice NA f.free.length nc,.slice none 0 0,.map (some w2.heap.size),.map (some (w2.heap.size+1))] 93));have hx3:Ext w2 W3:=by rw [<- hW3]; exact (((Ext.refl w2).alloc _).alloc _).alloc _
 have hs3:W3.heap.size=w2.heap.size+1+1+1:=by rw [<- hW3]; simp
 have hb:∃ own,zt w1.heap.size (w2.heap.size+1+1) w2.heap.size (w2.heap.size+1) W3 own ⟨f.free,[],gan f.free 0⟩ []:=by
  refine ⟨fun i=>i=w2.heap.size+1+1\/i=w2.heap.size\/i=w2.heap.size+1\/(Value.slice NA f.free.length nc).ownBlock=some i\/(Value.slice none 0 0).ownBlock=some i,⟨⟨.slice NA f.free.length nc,.slice none 0 0,(Value.slice NA f.free.length nc).ownBlock,?_,?_,.inl ⟨r2.ext hx3,rfl⟩,yj.nil _ _ _ _,fun i=>Iff.rfl,?_,?_⟩,?_,?_,fun i=>?_,?_,?_,by omega,by omega⟩⟩
  · rw [<- hW3]; simp [go_sem]
  · rw [<- hW3]; simp [go_sem]
  · intro i _ e; cases e
  · intro i e;rcases e with e | e
    · have:=r2.own e; omega
    · cases e
  · rw [<- hW3]; simp [go_sem]
  · rw [<- hW3]; simp [go_sem]
  · rw [<- hW3]; simp [go_sem]
  · refine ⟨[],?_,fun s=>rfl⟩;rw [<- hW3];exact ((qx.made w2).alloc _).alloc _
  · refine ⟨[],?_,rfl,fun s=>rfl⟩;rw [<- hW3];have:=qx.made (w2.alloc (.map #[] 0));rw [show (w2.alloc (.map #[] 0)).heap.size=w2.heap.size+1 by simp] at this;exact this.alloc _
 have HB:=Lib.hid hb;have X3:=Lib.hid (x2.trans hx3);have hmm:=@run_makeMap Tryz.prog;clear hb r2 x2 hx3;have hlo:w1.heap.size<=w2.heap.size+1+1/\w1.heap.size<=w2.heap.size/\w1.heap.size<=w2.heap.size+1/\w1.heap.size<=w1.heap.size:=by omega
 go_wp2_with fail;clear hW3 hmm
 go_loopw [29] (fun iv wr=>∃ k:Nat,k<=f.free.length/\iv=.int .i64 k/\Hid (Ext w1 wr/\∃ own tk,zt w1.heap.size (w2.heap.size+1+1) w2.heap.size (w2.heap.size+1) wr own ⟨f.free,[],gan f.free k⟩ tk)) (fun iv _=>f.free.length - (intOf iv).toNat)
 case atStart =>
  obtain ⟨own,hb⟩:=HB.out;exact ⟨0,Nat.zero_le _,rfl,⟨X3.out,own,[],hb⟩⟩
 case round =>
  obtain ⟨k,hk,rfl,⟨hxr,own,tk,hb⟩⟩:=hrel;have HXR:=Lib.hid hxr
  by_cases hlt:k < f.free.length
  · obtain ⟨ad,y,rfl,hc,hy⟩:=SlR.get_ (HST.out.ext hxr) k hlt;subst hy;have c2:=hb.c2;obtain ⟨wa,hra,ba,ta,-⟩:=hb.addLevel f.free[k] ((k:Int)+1);have c3:=ba.c3;obtain ⟨wb,hrb,bb,tb⟩:=ba.addTaken f.free[k];rw [show (⟨f.free,[],fun t=>if t=f.free[k] then (k:Int)+1 else gan f.free k t⟩:PSt)=⟨f.free,[],gan f.free (k+1)⟩ by rw [jbe f.free k hlt]; rfl] at bb;have hkw:IntKind.i64.wrap ((k:Int)+1)=(k:Int)+1:=by rw [IntKind.wrap_i64]; omega
    have HNEXT:Hid (Ext w1 wb/\∃ own tk,zt w1.heap.size (w2.heap.size+1+1) w2.heap.size (w2.heap.size+1) wb own ⟨f.free,[],gan f.free (k+1)⟩ tk):=Lib.hid ⟨(ta.trans tb).ext hxr (hb.lo hlo),own,_,bb⟩;clear ba ta bb tb hb hxr;generalize f.free[k]=s at *;go_wp2_with fail;clear hra hrb c2 c3 hc
    go_roundw
    case rel=>exact ⟨k+1,by omega,by go_num,HNEXT⟩
    case measure=>simp [intOf]; omega
  · have hke:k=f.free.length:=by omega
    rw [hke] at hb;rw [hke];have hbst:zt w1.heap.size (w2.heap.size+1+1) w2.heap.size (w2.heap.size+1) wr own f.st tk:=hb;have HBB:=Lib.hid hbst;obtain ⟨w4,hw4⟩:∃ w4,w4=wr:=⟨wr,rfl⟩;have HBD:=Lib.hid (jbf (w:=wr) f HFV1.out hl);have hbl:=f.bound_len;clear hb hbst hxr;subst hw4;go_wp2_with fail;refine HBD.out.mono ?_;rintro e w5 ⟨v5,rfl,hr5,x5⟩;have hst5:=hr5.slr;have hno5:∀ ad n c,v5=.slice (some ad) n c->¬ own ad.block:=fun ad n c e ho=>by
     have h1:=hr5.lt ad.block (by rw [e]; rfl);have h2:=(HBB.out.own_ ho).1;omega
    obtain ⟨BA,bc,rfl,-⟩:=id hst5;have HST5:=Lib.hid (show Strs w5 (.slice BA f.bound.length bc) f.bound from hst5);have HNO5:=Lib.hid hno5;have HX5:=Lib.hid (HXR.out.trans x5);have HB5:=Lib.hid (HBB.out.ext x5);clear hr5 hst5 x5 HBD HBB hno5;go_wp2_with fail
    go_loopw [50] (fun iv wr=>∃ k:Nat,k<=f.bound.length/\iv=.int .i64 k/\Hid (yu own w5 own wr/\∃ tk,zt w1.heap.size (w2.heap.size+1+1) w2.heap.size (w2.heap.size+1) wr own f.st tk)) (fun iv _=>f.bound.length - (intOf iv).toNat)
    case atStart=>exact ⟨0,Nat.zero_le _,rfl,⟨yu.refl _ _,_,HB5.out⟩⟩
    case round =>
     obtain ⟨k,hk,rfl,⟨hbm,tk',hb⟩⟩:=hrel
     by_cases hlt:k < f.bound.length
     · obtain ⟨ad,y,rfl,hc,hy⟩:=SlR.get_ (SlR.keeps HST5.out hbm.keeps HNO5.out) k hlt;subst hy;have c3:=hb.c3;obtain ⟨wb,hrb,bb,tb⟩:=hb.addTaken f.bound[k];have HNEXT:Hid (yu own w5 own wb/\∃ tk,zt w1.heap.size (w2.heap.size+1+1) w2.heap.size (w2.heap.size+1) wb own f.st tk):=Lib.hid ⟨hbm.trans tb,_,bb⟩;clear bb tb hb hbm;generalize f.bound[k]=s at *;go_wp2_with fail;clear hrb c3 hc
       go_roundw
       case rel=>exact ⟨k+1,by omega,by go_num,HNEXT⟩
       case measure=>simp [intOf]; omega
     · have HX6:=Lib.hid (hbm.ext HX5.out (HB5.out.lo hlo));have HMAT:=Lib.hid (HM w1 _ _ _ _ hlo (.iface T x) wr own f.st tk' true false HX6.out HFV1.out hpl hli (by show f.free.length+_<=_; omega) (by show 0+_<=_; omega) hb);have HMAT0:Hid (∀ i,own i->w1.heap.size<=i):=Lib.hid (fun i hi=>hb.lo hlo i hi);clear hb hbm HST5 HNO5 HB5;go_wp2_with fail;refine HMAT.out.mono ?_;rintro e w6 ⟨v6,own6,rfl,m6,b6,t6⟩;obtain ⟨r,hr⟩:=n_m (yc f true f.st);rw [hr] at m6 b6;obtain ⟨mr,sr⟩:=r;have HR:=Lib.hid hr;clear hr;simp only at m6 b6;obtain ⟨C0,j0,f0,C1,j1,f1,C2,f2,rfl,-⟩:=id m6.open_;have hs6:=t6.size;have hx6:Ext w1 w6:=t6.ext HX6.out (fun i hi=>HMAT0.out i hi);obtain ⟨nv,av,on,e0,e1,r0,r1,-,-,-⟩:=b6.ex;obtain ⟨NB,nb,rfl,-⟩:=r0.len;obtain ⟨AB,ab,rfl,-⟩:=r1.len;obtain ⟨W7,hW7⟩:=n_m (w6.alloc (.cells #[.int .i64 mr.kind,.int .i64 mr.rel,.int .i64 mr.p.lv,.bool mr.p.neg,.slice C0 j0 f0,.slice C1 j1 f1,.slice C2 mr.ks.length f2] 47));have hx7:Ext w6 W7:=by rw [<- hW7]; exact (Ext.refl w6).alloc _
       have hbx:vad W7 w6.heap.size mr (.slice C0 j0 f0) (.slice C1 j1 f1) (.slice C2 mr.ks.length f2):=by rw [<- hW7]; exact vad.new w6 mr _ _ _ _
       have hx17:Ext W1 W7.drew:=((X1.out.trans hx6).trans hx7).drew;have hxw7:Ext w W7.drew:=HWX.out.trans hx17;have hxw7':Ext w W7:=HWX.out.trans ((X1.out.trans hx6).trans hx7)
       have hz7:∀ j,j < 10->W7.drew.cell? ⟨w.heap.size,j,none⟩=#[Value.int .i64 0,.slice none 0 0,.slice none 0 0,.int .i64 0,.int .i64 0,.int .i64 0,.bool false,.slice none 0 0,.slice none 0 0,.slice none 0 0][j]?/\W7.drew.frozen? ⟨w.heap.size,j,none⟩=false:=fun j hj =>
        ⟨(hx17.cell (p:=⟨w.heap.size,j,none⟩) (by show w.heap.size < _; omega)).trans (HZ.out j hj).1,(hx17.frozen (p:=⟨w.heap.size,j,none⟩) (by show w.heap.size < _; omega)).trans (HZ.out j hj).2⟩
       have hs7:=hx7.size;have hgb6:w2.heap.size+1+1 < w6.heap.size:=b6.lt.1;have hSA:W7.drew.cell? ⟨w2.heap.size+1+1,0,none⟩=some (.slice NB sr.names.length nb)/\W7.drew.cell? ⟨w2.heap.size+1+1,1,none⟩=some (.slice AB sr.all.length ab)/\W7.drew.cell? ⟨w6.heap.size,0,none⟩=some (.int .i64 mr.kind)/\W7.drew.cell? ⟨w6.heap.size,1,none⟩=some (.int .i64 mr.rel)/\W7.drew.cell? ⟨w6.heap.size,2,none⟩=some (.int .i64 mr.p.lv)/\W7.drew.cell? ⟨w6.heap.size,3,none⟩=some (.bool mr.p.neg)/\W7.drew.cell? ⟨w6.heap.size,4,none⟩=some (.slice C0 j0 f0)/\W7.drew.cell? ⟨w6.heap.size,5,none⟩=some (.slice C1 j1 f1)/\W7.drew.cell? ⟨w6.heap.size,6,none⟩=some (.slice C2 mr.ks.length f2):=by
        obtain ⟨y0,y1,y2,y3,y4,y5,y6⟩:=hbx;exact ⟨(hx7.cell (p:=⟨w2.heap.size+1+1,0,none⟩) hgb6).trans e0,(hx7.cell (p:=⟨w2.heap.size+1+1,1,none⟩) hgb6).trans e1,y0,y1,y2,y3,y4,y5,y6⟩
       obtain ⟨V,hV⟩:=n_m (gaw W7 w.heap.size (.int .i64 f.free.length) (.slice AB sr.all.length ab) (.slice NB sr.names.length nb) (.int .i64 mr.kind) (.int .i64 mr.rel) (.int .i64 mr.p.lv) (.bool mr.p.neg) (.slice C0 j0 f0) (.slice C1 j1 f1) (.slice C2 mr.ks.length f2));have hfar:∀ b i,b ≠ w.heap.size->V.drew.cell? ⟨b,i,none⟩=W7.drew.cell? ⟨b,i,none⟩:=fun b i hb=>by
        have h1:V.heap[b]?=W7.heap[b]?:=by rw [<- hV,yav]; exact uap hb _ _ _
        exact World.cell?_of_block (w:=W7.drew) (w':=V.drew) (a:=⟨b,i,none⟩) h1
       have hSB:V.drew.cell? ⟨w2.heap.size+1+1,0,none⟩=some (.slice NB sr.names.length nb)/\V.drew.cell? ⟨w2.heap.size+1+1,1,none⟩=some (.slice AB sr.all.length ab)/\V.drew.cell? ⟨w6.heap.size,0,none⟩=some (.int .i64 mr.kind)/\V.drew.cell? ⟨w6.heap.size,1,none⟩=some (.int .i64 mr.rel)/\V.drew.cell? ⟨w6.heap.size,2,none⟩=some (.int .i64 mr.p.lv)/\V.drew.cell? ⟨w6.heap.size,3,none⟩=some (.bool mr.p.neg)/\V.drew.cell? ⟨w6.heap.size,4,none⟩=some (.slice C0 j0 f0)/\V.drew.cell? ⟨w6.heap.size,5,none⟩=some (.slice C1 j1 f1)/\V.drew.cell? ⟨w6.heap.size,6,none⟩=some (.slice C2 mr.ks.length f2):=by
        obtain ⟨g0,g1,y0,y1,y2,y3,y4,y5,y6⟩:=hSA;exact ⟨(hfar _ _ (by omega)).trans g0,(hfar _ _ (by omega)).trans g1,(hfar _ _ (by omega)).trans y0,(hfar _ _ (by omega)).trans y1,(hfar _ _ (by omega)).trans y2,(hfar _ _ (by omega)).trans y3,(hfar _ _ (by omega)).trans y4,(hfar _ _ (by omega)).trans y5,(hfar _ _ (by omega)).trans y6⟩
       have hfin:=kcj (q':=fun b=>w.heap.size<=b) (fr:=(f.free.length:Int)) hxw7' (Nat.le_refl _) (fun j hj=>by
        have h1:=(hz7 j hj).1
        rcases (show j=0\/j=1\/j=2\/j=3\/j=4\/j=5\/j=6\/j=7\/j=8\/j=9 by omega) with rfl | rfl | rfl | rfl | rfl | rfl | rfl | rfl | rfl | rfl <;> exact ⟨_,h1,rfl⟩)
        ((vb3 r1).ext hx7) (fun ad e hpos=>by
          obtain ⟨g,c,e2,-,-,hg,-⟩:=r1.pos (by omega);injection e2 with e2
          rw [e] at e2;injection e2 with e2
          subst e2;show g ≠ _
          omega)
        (r0.strs_.ext hx7) (fun ad e hpos=>by
          rcases r0 with ⟨r0,-⟩ | ⟨h0,-⟩
          · obtain ⟨g,c,e2,-,-,hg,-⟩:=r0.pos (by omega);injection e2 with e2
            rw [e] at e2;injection e2 with e2
            subst e2;show g ≠ _;omega
          · rw [h0] at hpos; simp at hpos) (m6.ext hx7) (fun b _ hb=>⟨by have:=HX6.out.size; omega,by have:=HX6.out.size; omega⟩)
       have hown:gcl w.heap.size (pxC f.free.length (.slice AB sr.all.length ab) (.slice NB sr.names.length nb) mr (.slice C0 j0 f0) (.slice C1 j1 f1) (.slice C2 mr.ks.length f2)):=⟨_,_,_,_,_,_,_,_,_,_,_,_,_,_,rfl,fun ad e hpos=>by
        obtain ⟨g,c,e2,-,-,hg,-⟩:=r1.pos (by omega);injection e2 with e2
        rw [e] at e2;injection e2 with e2
        subst e2;show _<=g;omega,fun ad e hpos=>by
        rcases r0 with ⟨r0,-⟩ | ⟨h0,-⟩
        · obtain ⟨g,c,e2,-,-,hg,-⟩:=r0.pos (by omega);injection e2 with e2
          rw [e] at e2;injection e2 with e2
          subst e2;show _<=g;omega
        · rw [h0] at hpos; simp at hpos⟩
       have HOWN:=Lib.hid hown;clear hown;rw [hV] at hfin;have HSS:=Lib.hid (And.intro hSA hSB);have HF:=Lib.hid (And.intro (hfin.1.drew) (hfin.2.ext ((Ext.refl _).drew)));rw [<- hV] at HSS HF;unfold gaw at HSS HF;clear hV;obtain ⟨g0,g1,y0,y1,y2,y3,y4,y5,y6⟩:=hSA;have zf:∀ j,j < 10->W7.drew.frozen? ⟨w.heap.size,j,none⟩=false:=fun j hj=>(hz7 j hj).2
       have zc:∀ j,j < 10->W7.drew.cell? ⟨w.heap.size,j,none⟩=#[Value.int .i64 0,.slice none 0 0,.slice none 0 0,.int .i64 0,.int .i64 0,.int .i64 0,.bool false,.slice none 0 0,.slice none 0 0,.slice none 0 0][j]?:=fun j hj=>(hz7 j hj).1
       have z0:W7.cell? ⟨w.heap.size,0,none⟩=some (.int .i64 0):=zc 0 (by omega);have z1:W7.cell? ⟨w.heap.size,1,none⟩=some (.slice none 0 0):=zc 1 (by omega);have z2:W7.cell? ⟨w.heap.size,2,none⟩=some (.slice none 0 0):=zc 2 (by omega);have z3:W7.cell? ⟨w.heap.size,3,none⟩=some (.int .i64 0):=zc 3 (by omega);have z4:W7.cell? ⟨w.heap.size,4,none⟩=some (.int .i64 0):=zc 4 (by omega);have z5:W7.cell? ⟨w.heap.size,5,none⟩=some (.int .i64 0):=zc 5 (by omega);have z6:W7.cell? ⟨w.heap.size,6,none⟩=some (.bool false):=zc 6 (by omega);have z7:W7.cell? ⟨w.heap.size,7,none⟩=some (.slice none 0 0):=zc 7 (by omega);have z8:W7.cell? ⟨w.heap.size,8,none⟩=some (.slice none 0 0):=zc 8 (by omega);have z9:W7.cell? ⟨w.heap.size,9,none⟩=some (.slice none 0 0):=zc 9 (by omega);have q0:W7.frozen? ⟨w.heap.size,0,none⟩=false:=zf 0 (by omega);have q1:W7.frozen? ⟨w.heap.size,1,none⟩=false:=zf 1 (by omega);have q2:W7.frozen? ⟨w.heap.size,2,none⟩=false:=zf 2 (by omega);have q3:W7.frozen? ⟨w.heap.size,3,none⟩=false:=zf 3 (by omega);have q4:W7.frozen? ⟨w.heap.size,4,none⟩=false:=zf 4 (by omega);have q5:W7.frozen? ⟨w.heap.size,5,none⟩=false:=zf 5 (by omega);have q6:W7.frozen? ⟨w.heap.size,6,none⟩=false:=zf 6 (by omega);have q7:W7.frozen? ⟨w.heap.size,7,none⟩=false:=zf 7 (by omega);have q8:W7.frozen? ⟨w.heap.size,8,none⟩=false:=zf 8 (by omega);have q9:W7.frozen? ⟨w.heap.size,9,none⟩=false:=zf 9 (by omega);clear hfin hfar hSB m6 b6 t6 r0 r1 e0 e1 hx6 hx7 hbx hx17 hxw7 hxw7' hz7 zc zf HMAT HMAT0 HX6 HX5 HXR HST X3 X1 HFV1 HZ hli hc HM hpl hs6 hs7 hgb6 HX0 HWX hlo hs1 hs2 hs3 hWs;unfold mxV;go_upto_region 17 with fail
       go_region_held3 (fun W' => W'.cell? ⟨w2.heap.size + 1 + 1, 0, none⟩ = some (.slice NB sr.names.length nb) /\ W'.cell? ⟨w2.heap.size + 1 + 1, 1, none⟩ = some (.slice AB sr.all.length ab) /\ W'.cell? ⟨w6.heap.size, 0, none⟩ = some (.int .i64 mr.kind) /\ W'.cell? ⟨w6.heap.size, 1, none⟩ = some (.int .i64 mr.rel) /\ W'.cell? ⟨w6.heap.size, 2, none⟩ = some (.int .i64 mr.p.lv) /\ W'.cell? ⟨w6.heap.size, 3, none⟩ = some (.bool mr.p.neg) /\ W'.cell? ⟨w6.heap.size, 4, none⟩ = some (.slice C0 j0 f0) /\ W'.cell? ⟨w6.heap.size, 5, none⟩ = some (.slice C1 j1 f1) /\ W'.cell? ⟨w6.heap.size, 6, none⟩ = some (.slice C2 mr.ks.length f2))
        (first | with_reducible exact HSS.out.1 | with_reducible exact HSS.out.2)
        (fail)
       all_goals
        clear q0 q1 q2 q3 q4 q5 q6 q7 q8 q9 g0 g1 y0 y1 y2 y3 y4 y5 y6 HSS hW7;go_wp2_with fail;exact bodyPost_ret (v:=.tuple #[pxC f.free.length (.slice AB sr.all.length ab) (.slice NB sr.names.length nb) mr (.slice C0 j0 f0) (.slice C1 j1 f1) (.slice C2 mr.ks.length f2),.int .i64 0]) (by simp [results,Tryz.results9,go_sem,z0,z1,z2,z3,z4,z5,z6,z7,z8,z9,pxC]) rfl ⟨_,rfl,by rw [HR.out]; exact ⟨HF.out.1,HF.out.2,HOWN.out⟩⟩
theorem qcx {w0 w : World} {L : Nat} (hs : L <= 1000000000000) (f : Fm) {v : Value} (hx0 : Ext w0 w) (h : FmV w0 L f v) (hl : f.sz <= 1099511627776) (hpl : f.noIff = true) (hok : f.nmE = 0) (hli : f.light) (hlen : f.free.length + f.bound.length <= 1000)
 (hc:NmC w0 L f) (HM:ubg L f) :
 Calls Tryz.prog 9 #[v] w fun e w'=>∃ u,e=.returned (.tuple #[u,.int .i64 0])/\Ext w w'/\PxV w' (fun b=>w.heap.size<=b) f.free.length (yc f true f.st).2.all (yc f true f.st).2.names (yc f true f.st).1 u:=
 (jb5 hs f hx0 h hl (vb5 f hpl) hok hli hlen hc HM).mono fun _ _ ⟨u,e,hx,hp,_⟩=>⟨u,e,hx,hp⟩
theorem qcp {w0 w : World} {L : Nat} (hs : L <= 1000000000000) (f : Fm) {v : Value} (hx0 : Ext w0 w) (h : FmV w0 L f v) (hl : f.sz <= 1099511627776) (hpl : f.okB false = true) (hok : f.nmE = 0) (hli : f.light) (hlen : f.free.length + f.bound.length <= 1000)
 (hc:NmC w0 L f) (HM:ubg L f) :
 Calls Tryz.prog 9 #[v] w fun e w'=>∃ u,e=.returned (.tuple #[u,.int .i64 0])/\Ext w w'/\PxV w' (fun b=>w.heap.size<=b) f.free.length (yc f true f.st).2.all (yc f true f.st).2.names (yc f true f.st).1 u:=
 (jb5 hs f hx0 h hl hpl hok hli hlen hc HM).mono fun _ _ ⟨u,e,hx,hp,_⟩=>⟨u,e,hx,hp⟩
/- How many digits sums, differences, products and powers of fractions have; values of terms. No program in sight. -/
theorem vba (n:Int) (d:Nat) (h:d ≠ 0):(Rat.normalize n d h).num.natAbs<=n.natAbs/\(Rat.normalize n d h).den<=d:=by
 rw [Rat.normalize_eq];exact ⟨by show (n / _).natAbs<=_; exact Int.natAbs_ediv_le_natAbs _ _,Nat.div_le_self _ _⟩
theorem jba {q:Rat} {n d K:Nat} (hn:q.num.natAbs<=n) (hd:q.den<=d) (h1:(dg n).length<=K) (h2:(dg d).length<=K):jr q<=K:=by
 have:=Nat.le_trans (yw hn) h1;have:=Nat.le_trans (yw hd) h2;unfold jr;omega
theorem yax (q:Rat):(dg q.num.natAbs).length<=jr q:=Nat.le_max_left _ _
theorem qax (q:Rat):(dg q.den).length<=jr q:=Nat.le_max_right _ _
theorem kao (q:Rat):1<=jr q:=Nat.le_trans (zaf q.den_nz) (qax q)
theorem ybf (a b:Rat):(dg (a.num.natAbs * b.den)).length<=jr a+jr b:=Nat.le_trans (kal _ _) (Nat.add_le_add (yax a) (qax b))
theorem zbt (a b:Rat):(dg (a.den * b.den)).length<=jr a+jr b:=Nat.le_trans (kal _ _) (Nat.add_le_add (qax a) (qax b))
theorem ga5 (a b:Rat):jr (a+b)<=jr a+jr b+1:=by
 rw [Rat.add_def];have h:=vba (a.num * b.den+b.num * a.den) (a.den * b.den) (Nat.mul_ne_zero a.den_nz b.den_nz);have h1:(a.num * b.den+b.num * a.den).natAbs<=a.num.natAbs * b.den+b.num.natAbs * a.den:=by
  refine Nat.le_trans (Int.natAbs_add_le _ _) ?_;rw [Int.natAbs_mul,Int.natAbs_mul,Int.natAbs_natCast,Int.natAbs_natCast];exact Nat.le_refl _
 refine jba (Nat.le_trans h.1 h1) h.2 ?_ (Nat.le_trans (zbt a b) (by omega));have h2:=ual (a.num.natAbs * b.den) (b.num.natAbs * a.den);have h3:=ybf a b;have h4:=ybf b a;omega
theorem jcc (a:Rat):jr (-a)=jr a:=by unfold jr; rw [Rat.neg_num,Rat.neg_den,Int.natAbs_neg]
theorem ycc (a b:Rat):jr (a - b)<=jr a+jr b+1:=by
 rw [Rat.sub_eq_add_neg];have:=ga5 a (-b)
 rwa [jcc] at this
theorem xax (a b:Rat):jr (a * b)<=jr a+jr b:=by
 rw [Rat.mul_def];have h:=vba (a.num * b.num) (a.den * b.den) (Nat.mul_ne_zero a.den_nz b.den_nz);rw [Int.natAbs_mul] at h;exact jba h.1 h.2 (Nat.le_trans (kal _ _) (Nat.add_le_add (yax a) (yax b))) (zbt a b)
theorem jay:(dg 1).length=1:=by rw [yam (by decide) (by decide)]; rfl
theorem gab (z:Int) {L:Nat} (h:(dg z.natAbs).length<=L) (hL:1<=L):jr (z:Rat)<=L:=by
 unfold jr;rw [Rat.num_intCast,Rat.den_intCast,jay];omega
theorem qcc:jr (1:Rat)=1:=by
 have h:=gab 1 (L:=1) (by show (dg 1).length<=1; rw [jay]; exact Nat.le_refl _) (by omega);have:=kao (1:Rat);have h':jr (1:Rat)<=1:=by simpa using h
 omega
theorem xcc (a:Rat) (n:Nat):jr (a ^ n)<=max n 1 * jr a:=by
 have hp:=kao a
 induction n with
 | zero=>rw [Rat.pow_zero,qcc]; simpa using hp
 | succ n ih =>
   cases n with
   | zero=>rw [Rat.pow_succ,Rat.pow_zero,Rat.one_mul]; simp
   | succ n =>
     rw [Rat.pow_succ];have h1:=xax (a ^ (n+1)) a;rw [show max (n+1+1) 1=n+1+1 by omega,Nat.succ_mul (n+1)];rw [show max (n+1) 1=n+1 by omega] at ih;omega
def Tm.val (g : ByteArray -> Option Rat) : Tm -> Rat
 | .num z=>(z:Rat)
 | .name s=>(g s).getD 0
 | .add a b=>a.val g+b.val g
 | .sub a b=>a.val g - b.val g
 | .mul a b=>a.val g * b.val g
 | .neg a=>-a.val g
 | .pow a e=>a.val g ^ e.toNat
def Tm.bt (L : Nat) : Tm -> Nat
 | .num _=>L
 | .name _=>L
 | .add a b=>a.bt L+b.bt L+1
 | .sub a b=>a.bt L+b.bt L+1
 | .mul a b=>a.bt L+b.bt L
 | .neg a=>a.bt L
 | .pow a e=>max e.toNat 1 * a.bt L
def Tm.covered (g : ByteArray -> Option Rat) : Tm -> Prop
 | .num _=>True
 | .name s=>(g s).isSome=true
 | .add a b=>a.covered g/\b.covered g
 | .sub a b=>a.covered g/\b.covered g
 | .mul a b=>a.covered g/\b.covered g
 | .neg a=>a.covered g
 | .pow a _=>a.covered g
theorem Tm.bt_pos (L:Nat) (hL:1<=L) (t:Tm):1<=t.bt L:=by
 induction t with
 | num z=>exact hL
 | name s=>exact hL
 | add a b iha ihb=>simp only [Tm.bt]; omega
 | sub a b iha ihb=>simp only [Tm.bt]; omega
 | mul a b iha ihb=>simp only [Tm.bt]; omega
 | neg a iha=>exact iha
 | pow a e iha=>simp only [Tm.bt]; exact Nat.le_trans iha (Nat.le_mul_of_pos_left _ (by omega))
theorem kae.rlen_le {w:World} {x:Value} {q:Rat} {L:Nat} (h:kae w x q L) (hL:1<=L):jr q<=L:=by
 obtain ⟨neg,s1,s2,ds,es,e,h1,h2,rfl,h4,h5⟩:=h
 by_cases h0:val es=0
 · rw [h0,Rat.mkRat_zero];have:=gab 0 (L:=L) (by show (dg 0).length<=L; rw [jm]; simp) hL;simpa using this
 · rw [<- Rat.normalize_eq_mkRat h0];have h:=vba (sgn neg (val ds)) (val es) h0;rw [uq] at h;exact jba h.1 h.2 (Nat.le_trans (ve h1.digs) h4) (Nat.le_trans (ve h2.digs) h5)
/- Values of polynomials: their size; a slice of fractions. -/
def rho (xs:List Rat) (i:Int):Rat:=xs.getD (i - 1).toNat 0
theorem qcn (xs:List Rat) (l:Int) (h:(xs.length:Int) < l):rho xs l=0:=by
 unfold rho;rw [List.getD_eq_getElem?_getD,List.getElem?_eq_none (by omega)]; rfl
mutual
def Pl.eb (L : Nat) : Pl -> Nat
 | .mk _ _ d cs=>max d.length (qah L cs)+1
def qah (L : Nat) : List Pl -> Nat
 | []=>1
 | c :: r=>c.eb L+qah L r+L+2
end
theorem kce (L:Nat) (cs:List Pl):1<=qah L cs:=by cases cs <;> simp only [qah] <;> omega
theorem ucn (L:Nat) (cs:List Pl):∀ k,qah L (cs.drop k)<=qah L cs:=by
 induction cs with
 | nil=>intro k; simp
 | cons c r ih =>
   intro k;cases k with
   | zero=>exact Nat.le_refl _
   | succ k=>have:=ih k; rw [List.drop_succ_cons,qah]; omega
theorem vce (L:Nat) {cs:List Pl} {c:Pl} (h:c ∈ cs):c.eb L<=qah L cs:=by
 induction cs with
 | nil=>cases h
 | cons x r ih =>
   rcases List.mem_cons.1 h with rfl | h
   · rw [qah]; omega
   · have:=ih h; rw [qah]; omega
mutual
theorem Pl.eb_sz (L : Nat) : ∀ (p : Pl) (D : Nat), p.dm <= D -> p.eb L + L + 2 <= p.sz * (D + L + 4)
 | .mk l n d cs,D,h=>by
   rw [Pl.dm] at h;have:=wbr L cs D (by omega);rw [Pl.eb,Pl.sz,Nat.add_mul,Nat.one_mul];omega
theorem wbr (L : Nat) : ∀ (cs : List Pl) (D : Nat), gao cs <= D -> qah L cs <= wad cs * (D + L + 4) + 1
 | [],D,h=>by rw [qah,wad]; omega
 | c :: r,D,h=>by
   rw [gao] at h;have h1:=Pl.eb_sz L c D (by omega);have h2:=wbr L r D (by omega);rw [qah,wad,Nat.add_mul];omega
end
mutual
theorem Pl.val_rlen (ρ : Int -> Rat) (L : Nat) (hρ : ∀ i, jr (ρ i) <= L) : ∀ p : Pl, p.dig -> jr (p.val ρ) <= p.eb L
 | .mk l n d cs,h=>by
   rw [Pl.dig] at h;rw [Pl.val,Pl.eb]
   by_cases h1:l<=0
   · rw [if_pos h1];refine gab _ ?_ (by have:=kce L cs; omega);rw [uq];have:=ve h.1;omega
   · rw [if_neg h1]
     by_cases h4:4 < l
     · rw [if_pos h4];have:jr ((0:Int):Rat)<=max d.length (qah L cs)+1:=gab 0 (by simp [jm]) (by omega);exact this
     · rw [if_neg h4];have:=kax ρ L hρ l cs h.2;omega
theorem kax (ρ : Int -> Rat) (L : Nat) (hρ : ∀ i, jr (ρ i) <= L) (l : Int) : ∀ cs : List Pl, xag cs -> jr (uf ρ l cs) <= qah L cs
 | [],h=>by
   rw [uf,qah];have:jr ((0:Int):Rat)<=1:=gab 0 (by simp [jm]) (Nat.le_refl _);exact this
 | c :: r,h=>by
   rw [xag] at h;rw [uf,qah];have h1:=Pl.val_rlen ρ L hρ c h.1;have h2:=kax ρ L hρ l r h.2;have h3:=ga5 (c.val ρ) (ρ l * uf ρ l r);have h4:=xax (ρ l) (uf ρ l r);have h5:=hρ l;omega
end
theorem jb4 {cs:List Pl} {c:Pl} (hd:xag cs) (h:c ∈ cs):c.dig:=by
 induction cs with
 | nil=>cases h
 | cons x r ih =>
   rw [xag] at hd;rcases List.mem_cons.1 h with rfl | h
   · exact hd.1
   · exact ih hd.2 h
theorem ubw {cs:List Pl} (hd:xag cs):∀ k,xag (cs.drop k):=by
 induction cs with
 | nil=>intro k; simp [xag]
 | cons x r ih =>
   rw [xag] at hd;intro k;cases k with
   | zero=>rw [List.drop_zero,xag]; exact hd
   | succ k=>exact ih hd.2 k
theorem vbw (ρ:Int->Rat) (l:Int) (cs:List Pl) (k:Nat) (h:k < cs.length):uf ρ l (cs.drop k)=cs[k].val ρ+ρ l * uf ρ l (cs.drop (k+1)):=by
 rw [List.drop_eq_getElem_cons h,uf]
def RsV (w:World) (L:Nat) (v:Value) (l:List Rat):Prop:=
 ∃ A c,v=.slice A l.length c/\l.length<=c/\c<=9223372036854775807/\∀ j (h:j < l.length),∃ ad bb A1 n1 c1 A2 n2 c2,A=some ad/\ad.block < w.heap.size/\(w.cell? (ad.add (j * 3))=some (.bool bb)/\w.cell? ⟨(ad.add (j * 3)).block,(ad.add (j * 3)).off+1,none⟩=some (.slice A1 n1 c1)/\w.cell? ⟨(ad.add (j * 3)).block,(ad.add (j * 3)).off+2,none⟩=some (.slice A2 n2 c2))/\kae w (.agg #[.bool bb,.slice A1 n1 c1,.slice A2 n2 c2]) l[j] L
theorem RsV.ext {w w':World} {L:Nat} {v:Value} {l:List Rat} (h:RsV w L v l) (hx:Ext w w'):RsV w' L v l:=by
 obtain ⟨A,c,e,h1,h2,h3⟩:=h;refine ⟨A,c,e,h1,h2,fun j hj=>?_⟩;obtain ⟨ad,bb,A1,n1,c1,A2,n2,c2,e,hb,⟨k0,k1,k2⟩,hr⟩:=h3 j hj;have hb':(ad.add (j * 3)).block < w.heap.size:=by rw [jb]; exact hb
 exact ⟨ad,bb,A1,n1,c1,A2,n2,c2,e,Nat.lt_of_lt_of_le hb hx.size,⟨(hx.cell hb').trans k0,(hx.cell (p:=⟨(ad.add (j * 3)).block,(ad.add (j * 3)).off+1,none⟩) hb').trans k1,(hx.cell (p:=⟨(ad.add (j * 3)).block,(ad.add (j * 3)).off+2,none⟩) hb').trans k2⟩,hr.ext hx⟩
theorem jcn {w:World} {L:Nat} {v:Value} {l:List Rat} (hL:1<=L) (h:RsV w L v l) (i:Int):jr (rho l i)<=L:=by
 obtain ⟨A,c,e,h1,h2,h3⟩:=h;unfold rho
 by_cases hi:(i - 1).toNat < l.length
 · obtain ⟨ad,bb,A1,n1,c1,A2,n2,c2,-,-,-,hr⟩:=h3 _ hi;rw [List.getD_eq_getElem?_getD,List.getElem?_eq_getElem hi];exact hr.rlen_le hL
 · rw [List.getD_eq_getElem?_getD,List.getElem?_eq_none (by omega)];have:jr ((0:Int):Rat)<=L:=gab 0 (by simp [jm]) hL;exact this
end Go.Proofs.YtheefiaoimbeiaaGreatDoor
