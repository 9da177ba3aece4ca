/- Layer 38: builder.matrix at any formula without equivalences. -/
import Derived.Test.YtaedbimbbeploaaGreatDoorMb24
import Derived.Test.YtaedbimbbeploaaGreatDoorMatB
import Derived.Test.YtaedbimbbeploaaGreatDoorMb35
import Derived.Test.YtaedbimbbeploaaGreatDoorCheck
import Derived.Lib.MinMax
import Derived.Test.YtaedbimbbeploaaGreatDoorMb29
set_option linter.unusedSimpArgs false
set_option linter.unusedVariables false

set_option maxRecDepth 100000
set_option maxHeartbeats 8000000
namespace Go.Proofs.YtaedbimbbeploaaGreatDoor
open Go.RowKit
attribute [local go_sem] yac uz uac wab jac qac zac jw wz xac vac yaf ul kac kw
section
variable {w0:World} {L base gb bl bt:Nat}
theorem kcj {l k:Tm} {r:Int} (hpl:∀ g,gac w0 L gb bl g l) (hpk:∀ g,gac w0 L gb bl g k):vbb w0 L base gb bl bt (.atom l r k):=by
 intro v W own s tk pos hx0 hf hp hl hn ha hb;obtain ⟨x,y,rfl,hx,hy⟩:=hf;have hwl:l.wt<=320:=hl.1;have hwk:k.wt<=320:=hl.2;obtain ⟨W1,hW⟩:∃ W1,(W.alloc (.cells #[.int .i64 0,.int .i64 0,.int .i64 0,.bool false,.slice none 0 0,.slice none 0 0,.slice none 0 0] 45)).alloc (.cells #[x,.int .i64 r,y] 93)=W1:=⟨_,rfl⟩;have hWx:Ext W W1:=by rw [<- hW]; exact ((Ext.refl W).alloc _).alloc _
 have hWs:W.heap.size+1 < W1.heap.size:=by rw [<- hW]; simp
 have hz:qy W1 W.heap.size:=by rw [<- hW]; exact (qy.new W _).ext ((Ext.refl _).alloc _) (by simp)
 have hb1:=hb.ext hWx;have HA:=Lib.hid (fun W' (hx':Ext W1 W')=>hpl s.lev x W' ((hx0.trans hWx).trans hx') hx ((hb1.ext hx').pbld) (by omega));have HC:=Lib.hid (fun W' (hx':Ext W1 W')=>hpk s.lev y W' ((hx0.trans hWx).trans hx') hy ((hb1.ext hx').pbld) (by omega));have HFA:=Lib.hid ((zai s.lev l (by omega)).fit400 (by omega));have HFC:=Lib.hid ((zai s.lev k (by omega)).fit400 (by omega));obtain ⟨Tf,x,rfl⟩:=hx.iface;obtain ⟨Tg,y,rfl⟩:=hy.iface;have d1:W1.cell? ⟨W.heap.size+1,1,none⟩=some (.int .i64 r):=by rw [<- hW]; simp [go_sem]
 have HS:Hid (∀ W',Ext W1 W'->(Ext W W'/\W'.cell? ⟨W.heap.size+1,0,none⟩=some (.iface Tf x)/\W'.cell? ⟨W.heap.size+1,2,none⟩=some (.iface Tg y))):=by
  intro W' hx';obtain ⟨hc,hf⟩:=hx'.cells;refine ⟨hWx.trans hx',?_,?_⟩ <;> (rw [hc _ _ (by omega),<- hW]; simp [go_sem])
 have HS2:Hid (∀ W'' u0 u1 u2 u3 u4 u5 u6,Ext W1 W''->∀ W',W'=((((((W''.setCell ⟨W.heap.size,0,none⟩ u0).setCell ⟨W.heap.size,1,none⟩ u1).setCell ⟨W.heap.size,2,none⟩ u2).setCell ⟨W.heap.size,3,none⟩ u3).setCell ⟨W.heap.size,4,none⟩ u4).setCell ⟨W.heap.size,5,none⟩ u5).setCell ⟨W.heap.size,6,none⟩ u6->(Ext W W'/\W'.cell? ⟨W.heap.size+1,0,none⟩=some (.iface Tf x)/\W'.cell? ⟨W.heap.size+1,2,none⟩=some (.iface Tg y))):=by
  intro W'' u0 u1 u2 u3 u4 u5 u6 hx' W' hW';obtain ⟨s1,k0,k1⟩:=HS.out W'' hx';rw [hW'];refine ⟨((((((s1.setCell (by simp) _).setCell (by simp) _).setCell (by simp) _).setCell (by simp) _).setCell (by simp) _).setCell (by simp) _).setCell (by simp) _,?_,?_⟩ <;> rw [World.cell?_setCell_other _ _ _ _ (by simp; try omega),World.cell?_setCell_other _ _ _ _ (by simp; try omega),World.cell?_setCell_other _ _ _ _ (by simp; try omega),World.cell?_setCell_other _ _ _ _ (by simp; try omega),World.cell?_setCell_other _ _ _ _ (by simp; try omega),World.cell?_setCell_other _ _ _ _ (by simp; try omega),World.cell?_setCell_other _ _ _ _ (by simp; try omega)] <;> assumption
 have HB:=Lib.hid hb;have HX:=Lib.hid hWx;have HZ:=Lib.hid hz;have HRE:Hid (∃ rr,rr=if pos then zad r else kbd (zad r)):=Lib.hid ⟨_,rfl⟩;obtain ⟨rr,hrr⟩:=HRE.out;clear hb hb1 hx0 hWx hz hp hl hn ha hx hy hwl hwk HRE hpl hpk;rw [show xy (.atom l r k) pos s=(ubc (if pos then zad r else kbd (zad r)) ((xh s.lev l).add (xh s.lev k).opp),s) from rfl,<- hrr];have HRR:=Lib.hid hrr;clear hrr;generalize xh s.lev l=p at *;generalize xh s.lev k=q at *;go_enter Tryz.func49,Tryz.ntmps49;go_wp2_with fail;clear hW;refine (qbn r W1).mono ?_;rintro e w1 ⟨rfl,rfl⟩;clear d1;generalize zad r=rm at *;have HR1:Hid (pos=false->kbd rm=rr):=Lib.hid (fun e=>by rw [HRR.out,e]; rfl);have HR2:Hid (pos=true->rm=rr):=Lib.hid (fun e=>by rw [HRR.out,e]; rfl);clear HRR;cases pos
 all_goals
  go_wp2_with fail
  first
   | (refine (xcc rm w1).mono ?_
      rintro e w0' ⟨rfl,hw⟩;have hw2:=hw.symm;subst hw2;rw [HR1.out (by first | rfl | trivial)]
      go_wp2_with fail)
   | (rw [HR2.out (by first | rfl | trivial)])
  have yy0:Ext w1 w1.drew:=(Ext.refl w1).drew;have Y0:=Lib.hid yy0;clear yy0 HR1 HR2
  go_region_held3 (fun W' => Ext W W' /\ W'.cell? ⟨W.heap.size + 1, 0, none⟩ = some (.iface Tf x) /\ W'.cell? ⟨W.heap.size + 1, 2, none⟩ = some (.iface Tg y))
   (first | with_reducible exact HS.out _ Y0.out | with_reducible exact HS.out _ yy1 | with_reducible exact HS.out _ yy2 | with_reducible exact HS.out _ yy3 | with_reducible exact HS2.out _ _ _ _ _ _ _ _ yy3 _ rfl)
   (first
     | (go_at_call 59
        (fail_if_success have _:=yy1)
        refine (HA.out _ Y0.out).mono ?_;rintro e w1' ⟨z1,rfl,m1,x1⟩;obtain ⟨C1,i1,j1,D1,k1,rfl,-⟩:=id m1.open_;have yy1:Ext w1 w1':=Ext.trans Y0.out x1
        unfold plV)
     | (go_at_call 59
        refine (HC.out _ yy1).mono ?_;rintro e w2 ⟨z2,rfl,m2,x2⟩;obtain ⟨C2,i2,j2,D2,k2,rfl,-⟩:=id m2.open_;have yy2:Ext w1 w2:=Ext.trans yy1 x2
        replace m1:=m1.ext x2
        unfold plV)
     | (go_at_call 107
        refine (kbr _ _ m1 m2 HFA.out HFC.out (by omega) (by omega)).mono ?_;rintro e w3 ⟨z3,rfl,m3,x3⟩;obtain ⟨C3,i3,j3,D3,k3,rfl,-⟩:=id m3.open_;have yy3:Ext w1 w3:=Ext.trans yy2 x3;obtain ⟨⟨r0,r1,r2,r3,r4,r5,r6⟩,rf⟩:=HZ.out.ext yy3 (by omega)
        unfold plV))
  all_goals
   have hzn:=HZ.out.ext yy3 (by omega);have hsn:=(yy2:Ext w1 _).size;have HF:=Lib.hid (za2 (vaa.of_ext (HX.out.trans yy3)) (Nat.le_refl _) (fun ho=>by have:=(HB.out.own_ ho).1; omega) hzn (HB.out.ext (HX.out.trans yy3)) (MxV.mk (t:=.mk 2 rr (p.add q.opp) []) (K:=none) (c:=0) m3 (by simp [Mx.ks]) (by omega) (by unfold Mx.ks jg; trivial)) (fun b _ hb=>⟨by omega,by omega,fun ho=>by have:=(HB.out.own_ ho).1; omega⟩));clear m1 m2 m3 x1 x2 x3 yy1 yy2 yy3 HS HS2 HZ HB HX HA HC hzn;simp only [Mx.kind,Mx.rel,Mx.p,Pl.zero,Pl.lv,Pl.neg] at r0 r1 r2 r3
   try unfold plV
   generalize p.add q.opp=P at *;go_wp2_with fail;exact bodyPost_ret (v:=mxV (.mk 2 rr P []) (.slice C3 i3 j3) (.slice D3 P.cs.length k3) (.slice none 0 0)) (by simp [results,Tryz.results49,go_sem,r0,r1,r2,r3,r4,r5,r6,mxV,Mx.kind,Mx.rel,Mx.p]) rfl HF.out
end
end Go.Proofs.YtaedbimbbeploaaGreatDoor

/- Layer 38: prenex.quantifiers, Names. -/
set_option maxRecDepth 100000
set_option maxHeartbeats 8000000
namespace Go.Proofs.YtaedbimbbeploaaGreatDoor
open Go.RowKit
attribute [local go_sem] yac uz uac wab jac qac zac jw wz xac vac yaf ul kac kw
def Fm.qn : Fm -> Int
 | .truth _=>0
 | .atom _ _ _=>0
 | .not f=>min f.qn 2147483647
 | .and f g=>min (f.qn+g.qn) 2147483647
 | .or f g=>min (f.qn+g.qn) 2147483647
 | .imp f g=>min (f.qn+g.qn) 2147483647
 | .iff f g=>min (2 * (f.qn+g.qn)) 2147483647
 | .quant _ _ f=>min (1+f.qn) 2147483647
theorem Fm.qn_bd (f:Fm):0<=f.qn/\f.qn<=2147483647:=by induction f <;> simp only [Fm.qn] <;> omega
def zb5 (w0:World) (L:Nat) (f:Fm):Prop:=∀ (v:Value) (W:World),FmV w0 L f v->Calls Tryz.prog 103 #[v] W (waa f.qn W)
theorem vcr {w0:World} {L:Nat} {l k:Tm} {r:Int}:zb5 w0 L (.atom l r k):=by
 intro v W h;obtain ⟨x,y,rfl,hx,hy⟩:=h;obtain ⟨T,x,rfl⟩:=hx.iface;obtain ⟨U,y,rfl⟩:=hy.iface;clear hx hy;go_enter Tryz.func103,Tryz.ntmps103;go_wp2_with fail;go_ret;exact ⟨rfl,Ext.refl _⟩
theorem qcg {w0:World} {L:Nat} {f:Fm} {al:Bool} {s:ByteArray} (ih:zb5 w0 L f):zb5 w0 L (.quant al s f):=by
 intro v W h;obtain ⟨x,rfl,hx⟩:=h;have IH:=Lib.hid (fun W'=>ih x W' hx);obtain ⟨T,x,rfl⟩:=hx.iface;have hb:=f.qn_bd;unfold Fm.qn;clear hx ih;generalize f.qn=a at *;have hw:IntKind.i64.wrap (1+a)=1+a:=IntWalk.i64_in _ (by omega);go_enter Tryz.func103,Tryz.ntmps103;go_wp2_with fail;refine (IH.out _).mono ?_;rintro e w1 ⟨rfl,x1⟩;have X1:=Lib.hid (Ext.trans ((Ext.refl W).alloc _) x1);clear x1;go_wp2_with fail;go_ret;exact ⟨rfl,X1.out⟩
theorem ug.base {w:World} {b b':Nat} {v:Value} {l:List ByteArray} (h:ug w b v l) (hb:b'<=b):ug w b' v l:=by
 unfold ug World.ownsRow at h ⊢;refine ⟨h.1,?_⟩;rcases h.2 with h | ⟨g,cap,cur,h1,h2,h3⟩
 · exact .inl h
 · exact .inr ⟨g,cap,cur,h1,by omega,h3⟩
def Fm.nmE (f:Fm):Int:=if f.chk=0 then (if (f.free.length:Int)+f.qn<=4 then 0 else 8) else f.chk
def zbs (f:Fm) (w:World) (e:Ending) (w':World):Prop:=∃ s,e=.returned (.tuple #[s,.int .i64 f.nmE])/\(f.nmE=0->ug w' w.heap.size s f.free)/\(f.nmE ≠ 0->s=.slice none 0 0)/\Ext w w'
theorem kbq (a:ByteArray->Int) (s:ByteArray) (acc:List ByteArray):(yj a s acc).length<=acc.length+1:=by unfold yj; split <;> simp
theorem Tm.free_len (t:Tm) (a:ByteArray->Int):∀ acc:List ByteArray,(t.fold (yj a) acc).length<=acc.length+t.sz:=by
 induction t <;> intro acc <;> simp only [Tm.fold,Tm.sz]
 case num=>omega
 case name=>exact kbq _ _ _
 case add p q iha ihb=>have:=iha acc; have:=ihb (p.fold (yj a) acc); omega
 case sub p q iha ihb=>have:=iha acc; have:=ihb (p.fold (yj a) acc); omega
 case mul p q iha ihb=>have:=iha acc; have:=ihb (p.fold (yj a) acc); omega
 case neg p iha=>have:=iha acc; omega
 case pow p e iha=>have:=iha acc; omega
theorem Fm.free_len (f:Fm):∀ (a:ByteArray->Int) (acc:List ByteArray),(f.fold yj a acc).length<=acc.length+f.sz:=by
 induction f <;> intro a acc <;> simp only [Fm.fold,Fm.sz]
 case truth=>omega
 case atom l r k=>have:=l.free_len a acc; have:=k.free_len a (l.fold (yj a) acc); omega
 case not f ih=>have:=ih a acc; omega
 case quant al s f ih=>have:=ih (bump a s) acc; omega
 all_goals rename_i f g ihf ihg; have:=ihf a acc; have:=ihg a (f.fold yj a acc); omega
def NmC (w0:World) (L:Nat) (f:Fm):Prop:=f.terms (ubd w0 L)/\zb5 w0 L f
theorem jca {w0 w:World} {L:Nat} (hs:L<=1000000000000) (f:Fm) {v:Value} (hx0:Ext w0 w) (h:FmV w0 L f v) (hl:f.sz<=1099511627776) (hc:NmC w0 L f):Calls Tryz.prog 47 #[v] w (zbs f w):=by
 have H:=Lib.hid h;have HC:=Lib.hid (check_any hs f hx0 h hl hc.1);have HFR:=Lib.hid (fun W'=>jbq (w:=W') f h hl);have HQ:=Lib.hid (fun W'=>hc.2 v W' h);have hq:=f.qn_bd;obtain ⟨T,x,rfl⟩:=h.iface;unfold zbs;have HE:Hid (f.nmE=if f.chk=0 then (if (f.free.length:Int)+f.qn<=4 then 0 else 8) else f.chk):=Lib.hid rfl;clear h hx0;generalize f.nmE=res at *;generalize f.chk=c at *;generalize f.qn=q at *
 by_cases hc:c=0
 · have hc':(c != 0)=false:=by simp [hc]
   have HC0:=Lib.hid hc;clear hc;go_enter Tryz.func47,Tryz.ntmps47;go_wp2_with fail;refine HC.out.mono ?_;rintro e w1 ⟨rfl,x1⟩;have X1:=Lib.hid x1;clear x1;go_wp2_with fail;refine (HFR.out w1).mono ?_;rintro e w2 ⟨v2,rfl,hrow,x2⟩;obtain ⟨A,cc,e2,hn1,hn2,-⟩:=hrow.slr;subst e2;have X2:=Lib.hid (X1.out.trans x2);have HROW:Hid (ug w2 w.heap.size (.slice A f.free.length cc) f.free):=Lib.hid (hrow.base X1.out.size);have hfl:f.free.length<=1099511627776:=Nat.le_trans (show f.free.length<=0+f.sz from f.free_len (fun _=>0) []) (by omega);clear x2 hrow;obtain ⟨n,hn⟩:∃ n,f.free.length=n:=⟨_,rfl⟩;have HN:=Lib.hid hn;simp only [hn] at HROW HE hfl ⊢;clear hn hn1 hn2;have hw:IntKind.i64.wrap ((n:Int)+q)=(n:Int)+q:=IntWalk.i64_in _ (by omega)
   by_cases hlt:4 < (n:Int)+q
   · have HR:Hid (res=8):=Lib.hid (by rw [HE.out,if_pos HC0.out,if_neg (by omega)]);go_wp2_with fail;refine (HQ.out w2).mono ?_;rintro e w3 ⟨rfl,x3⟩;have X3:=Lib.hid (X2.out.trans x3);clear x3;go_wp2_with fail;exact bodyPost_ret (v:=.tuple #[.slice none 0 0,.int .i64 8]) (by simp [results,Tryz.results47,go_sem]) rfl ⟨_,by rw [HR.out],fun h=>absurd h (by rw [HR.out]; decide),fun _=>rfl,X3.out⟩
   · have HR:Hid (res=0):=Lib.hid (by rw [HE.out,if_pos HC0.out,if_pos (by omega)]);go_wp2_with fail;refine (HQ.out w2).mono ?_;rintro e w3 ⟨rfl,x3⟩;have X3:=Lib.hid (X2.out.trans x3);have HROW3:=Lib.hid (HROW.out.ext x3);clear x3;go_wp2_with fail;exact bodyPost_ret (v:=.tuple #[.slice A n cc,.int .i64 0]) (by simp [results,Tryz.results47,go_sem]) rfl ⟨_,by rw [HR.out],fun _=>HROW3.out,fun h=>absurd HR.out h,X3.out⟩
 · have hc':(c != 0)=true:=by simp [hc]
   have HR:Hid (res=c):=Lib.hid (by rw [HE.out,if_neg hc]);have HC0:=Lib.hid hc;clear hc;go_enter Tryz.func47,Tryz.ntmps47;go_wp2_with fail;refine HC.out.mono ?_;rintro e w1 ⟨rfl,x1⟩;have X1:=Lib.hid x1;clear x1;go_wp2_with fail;exact bodyPost_ret (v:=.tuple #[.slice none 0 0,.int .i64 c]) (by simp [results,Tryz.results47,go_sem]) rfl ⟨_,by rw [HR.out],fun h=>absurd (HR.out.symm.trans h) HC0.out,fun _=>rfl,X1.out⟩
end Go.Proofs.YtaedbimbbeploaaGreatDoor

/- Layer 38: prenex.Of at formulas without equivalences that are within the limits. -/
set_option maxRecDepth 100000
set_option maxHeartbeats 8000000
namespace Go.Proofs.YtaedbimbbeploaaGreatDoor
open Go.RowKit
def qab (l : List ByteArray) : Nat -> ByteArray -> Int
 | 0=>fun _=>0
 | k+1=>fun t=>if t=l.getD k ByteArray.empty then ((k+1:Nat):Int) else qab l k t
theorem za1 (l:List ByteArray) (k:Nat) (h:k < l.length):qab l (k+1)=fun t=>if t=l[k] then ((k+1:Nat):Int) else qab l k t:=by
 rw [qab,List.getD_eq_getElem?_getD,List.getElem?_eq_getElem h]
 rfl
def Fm.st (f:Fm):PSt:=⟨f.free,[],qab f.free f.free.length⟩
def xcp (base:Nat) (u:Value):Prop:=∃ x0 A1 n1 c1 A2 n2 c2 x3 x4 x5 x6 x7 x8 x9,u=.agg #[x0,.slice A1 n1 c1,.slice A2 n2 c2,x3,x4,x5,x6,x7,x8,x9]/\(∀ ad,A1=some ad->0 < n1->base<=ad.block)/\(∀ ad,A2=some ad->0 < n2->base<=ad.block)
def qcp (L:Nat) (f:Fm):Prop:=∀ (w1:World) (base gb bl bt:Nat),(w1.heap.size<=gb/\w1.heap.size<=bl/\w1.heap.size<=bt/\w1.heap.size<=base)->vbb w1 L base gb bl bt f
theorem of_own {w0 w : World} {L : Nat} (hs : L <= 1000000000000) (f : Fm) {v : Value} (hx0 : Ext w0 w) (h : FmV w0 L f v) (hl : f.sz <= 1099511627776) (hpl : f.noIff = true) (hok : f.nmE = 0) (hli : f.light) (hlen : f.free.length + f.bound.length <= 1000)
 (hc:NmC w0 L f) (HM:qcp L f) :
 Calls Tryz.prog 13 #[v] w fun e w'=>∃ u,e=.returned (.tuple #[u,.int .i64 0])/\Ext w w'/\PxV w' (fun b=>w.heap.size<=b) f.free.length (xy f true f.st).2.all (xy f true f.st).2.names (xy f true f.st).1 u/\xcp w.heap.size u:=by
 obtain ⟨W1,hW⟩:∃ W1,w.alloc (.cells #[.int .i64 0,.slice none 0 0,.slice none 0 0,.int .i64 0,.int .i64 0,.int .i64 0,.bool false,.slice none 0 0,.slice none 0 0,.slice none 0 0] 47)=W1:=⟨_,rfl⟩;have hWx:Ext w W1:=by rw [<- hW]; exact (Ext.refl w).alloc _
 have hWs:W1.heap.size=w.heap.size+1:=by rw [<- hW]; simp
 have HZ:Hid (∀ j,j < 10->W1.cell? ⟨w.heap.size,j,none⟩=#[Value.int .i64 0,.slice none 0 0,.slice none 0 0,.int .i64 0,.int .i64 0,.int .i64 0,.bool false,.slice none 0 0,.slice none 0 0,.slice none 0 0][j]?/\W1.frozen? ⟨w.heap.size,j,none⟩=false):=Lib.hid (fun j hj=>by
  rw [<- hW]
  rcases (show j=0\/j=1\/j=2\/j=3\/j=4\/j=5\/j=6\/j=7\/j=8\/j=9 by omega) with rfl | rfl | rfl | rfl | rfl | rfl | rfl | rfl | rfl | rfl <;> (constructor <;> simp [go_sem]))
 have HN:=Lib.hid (jca hs f (hx0.trans hWx) h hl hc);have HFV:=Lib.hid h;have HX0:=Lib.hid hx0;have HWX:=Lib.hid hWx;have hfl:f.free.length<=1000:=by omega
 obtain ⟨T,x,rfl⟩:=h.iface;clear hWx h hx0;go_enter Tryz.func13,Tryz.ntmps13;go_wp2_with fail;clear hW;refine HN.out.mono ?_;rintro e w1 ⟨s1,rfl,hrow,-,x1⟩;have hrow1:=hrow hok;rw [hok];have hs1:=x1.size;have hst:=hrow1.slr;have X1:=Lib.hid x1;have HST:=Lib.hid (show Strs w1 s1 f.free from hst);obtain ⟨SA,sc,rfl,-⟩:=id hst;have HFV1:=Lib.hid (HFV.out.ext ((HX0.out.trans HWX.out).trans x1));clear hrow hrow1 hst x1 HN HFV;go_wp2_with fail;refine (clone_any HST.out (by omega)).mono ?_;rintro e w2 ⟨v2,rfl,r2,x2⟩;have hs2:=x2.size;obtain ⟨NA,nc,rfl,-⟩:=r2.len;obtain ⟨W3,hW3⟩:∃ W3,((w2.alloc (.map #[] 0)).alloc (.map #[] 0)).alloc (.cells #[.slice NA f.free.length nc,.slice none 0 0,.map (some w2.heap.size),.map (some (w2.heap.size+1))] 108)=W3:=⟨_,rfl⟩;have hx3:Ext w2 W3:=by rw [<- hW3]; exact (((Ext.refl w2).alloc _).alloc _).alloc _
 have hs3:W3.heap.size=w2.heap.size+1+1+1:=by rw [<- hW3]; simp
 have hb:∃ own,uu w1.heap.size (w2.heap.size+1+1) w2.heap.size (w2.heap.size+1) W3 own ⟨f.free,[],qab f.free 0⟩ []:=by
  refine ⟨fun i=>i=w2.heap.size+1+1\/i=w2.heap.size\/i=w2.heap.size+1\/(Value.slice NA f.free.length nc).ownBlock=some i\/(Value.slice none 0 0).ownBlock=some i,⟨⟨.slice NA f.free.length nc,.slice none 0 0,(Value.slice NA f.free.length nc).ownBlock,?_,?_,.inl ⟨r2.ext hx3,rfl⟩,zh.nil _ _ _ _,fun i=>Iff.rfl,?_,?_⟩,?_,?_,fun i=>?_,?_,?_,by omega,by omega⟩⟩
  · rw [<- hW3]; simp [go_sem]
  · rw [<- hW3]; simp [go_sem]
  · intro i _ e; cases e
  · intro i e;rcases e with e | e
    · have:=r2.own e; omega
    · cases e
  · rw [<- hW3]; simp [go_sem]
  · rw [<- hW3]; simp [go_sem]
  · rw [<- hW3]; simp [go_sem]
  · refine ⟨[],?_,fun s=>rfl⟩;rw [<- hW3];exact ((zq.made w2).alloc _).alloc _
  · refine ⟨[],?_,rfl,fun s=>rfl⟩;rw [<- hW3];have:=zq.made (w2.alloc (.map #[] 0));rw [show (w2.alloc (.map #[] 0)).heap.size=w2.heap.size+1 by simp] at this;exact this.alloc _
 have HB:=Lib.hid hb;have X3:=Lib.hid (x2.trans hx3);have hmm:=@run_makeMap Tryz.prog;clear hb r2 x2 hx3;have hlo:w1.heap.size<=w2.heap.size+1+1/\w1.heap.size<=w2.heap.size/\w1.heap.size<=w2.heap.size+1/\w1.heap.size<=w1.heap.size:=by omega
 go_wp2_with fail;clear hW3 hmm
 go_loopw [29] (fun iv wr=>∃ k:Nat,k<=f.free.length/\iv=.int .i64 k/\Hid (Ext w1 wr/\∃ own tk,uu w1.heap.size (w2.heap.size+1+1) w2.heap.size (w2.heap.size+1) wr own ⟨f.free,[],qab f.free k⟩ tk)) (fun iv _=>f.free.length - (intOf iv).toNat)
 case atStart =>
  obtain ⟨own,hb⟩:=HB.out;exact ⟨0,Nat.zero_le _,rfl,⟨X3.out,own,[],hb⟩⟩
 case round =>
  obtain ⟨k,hk,rfl,⟨hxr,own,tk,hb⟩⟩:=hrel;have HXR:=Lib.hid hxr
  by_cases hlt:k < f.free.length
  · obtain ⟨ad,y,rfl,hc,hy⟩:=SlR.get_ (HST.out.ext hxr) k hlt;subst hy;have c2:=hb.c2;obtain ⟨wa,hra,ba,ta,-⟩:=hb.addLevel f.free[k] ((k:Int)+1);have c3:=ba.c3;obtain ⟨wb,hrb,bb,tb⟩:=ba.addTaken f.free[k];rw [show (⟨f.free,[],fun t=>if t=f.free[k] then (k:Int)+1 else qab f.free k t⟩:PSt)=⟨f.free,[],qab f.free (k+1)⟩ by rw [za1 f.free k hlt]; rfl] at bb;have hkw:IntKind.i64.wrap ((k:Int)+1)=(k:Int)+1:=by rw [IntKind.wrap_i64]; omega
    have HNEXT:Hid (Ext w1 wb/\∃ own tk,uu w1.heap.size (w2.heap.size+1+1) w2.heap.size (w2.heap.size+1) wb own ⟨f.free,[],qab f.free (k+1)⟩ tk):=Lib.hid ⟨(ta.trans tb).ext hxr (hb.lo hlo),own,_,bb⟩;clear ba ta bb tb hb hxr;generalize f.free[k]=s at *;go_wp2_with fail;clear hra hrb c2 c3 hc
    go_roundw
    case rel=>exact ⟨k+1,by omega,by go_num,HNEXT⟩
    case measure=>simp [intOf]; omega
  · have hke:k=f.free.length:=by omega
    rw [hke] at hb;rw [hke];have hbst:uu w1.heap.size (w2.heap.size+1+1) w2.heap.size (w2.heap.size+1) wr own f.st tk:=hb;have HBB:=Lib.hid hbst;obtain ⟨w4,hw4⟩:∃ w4,w4=wr:=⟨wr,rfl⟩;have HBD:=Lib.hid (gbh (w:=wr) f HFV1.out hl);have hbl:=f.bound_len;clear hb hbst hxr;subst hw4;go_wp2_with fail;refine HBD.out.mono ?_;rintro e w5 ⟨v5,rfl,hr5,x5⟩;have hst5:=hr5.slr;have hno5:∀ ad n c,v5=.slice (some ad) n c->¬ own ad.block:=fun ad n c e ho=>by
     have h1:=hr5.lt ad.block (by rw [e]; rfl);have h2:=(HBB.out.own_ ho).1;omega
    obtain ⟨BA,bc,rfl,-⟩:=id hst5;have HST5:=Lib.hid (show Strs w5 (.slice BA f.bound.length bc) f.bound from hst5);have HNO5:=Lib.hid hno5;have HX5:=Lib.hid (HXR.out.trans x5);have HB5:=Lib.hid (HBB.out.ext x5);clear hr5 hst5 x5 HBD HBB hno5;go_wp2_with fail
    go_loopw [50] (fun iv wr=>∃ k:Nat,k<=f.bound.length/\iv=.int .i64 k/\Hid (vaa own w5 own wr/\∃ tk,uu w1.heap.size (w2.heap.size+1+1) w2.heap.size (w2.heap.size+1) wr own f.st tk)) (fun iv _=>f.bound.length - (intOf iv).toNat)
    case atStart=>exact ⟨0,Nat.zero_le _,rfl,⟨vaa.refl _ _,_,HB5.out⟩⟩
    case round =>
     obtain ⟨k,hk,rfl,⟨hbm,tk',hb⟩⟩:=hrel
     by_cases hlt:k < f.bound.length
     · obtain ⟨ad,y,rfl,hc,hy⟩:=SlR.get_ (SlR.keeps HST5.out hbm.keeps HNO5.out) k hlt;subst hy;have c3:=hb.c3;obtain ⟨wb,hrb,bb,tb⟩:=hb.addTaken f.bound[k];have HNEXT:Hid (vaa own w5 own wb/\∃ tk,uu w1.heap.size (w2.heap.size+1+1) w2.heap.size (w2.heap.size+1) wb own f.st tk):=Lib.hid ⟨hbm.trans tb,_,bb⟩;clear bb tb hb hbm;generalize f.bound[k]=s at *;go_wp2_with fail;clear hrb c3 hc
       go_roundw
       case rel=>exact ⟨k+1,by omega,by go_num,HNEXT⟩
       case measure=>simp [intOf]; omega
     · have HX6:=Lib.hid (hbm.ext HX5.out (HB5.out.lo hlo));have HMAT:=Lib.hid (HM w1 _ _ _ _ hlo (.iface T x) wr own f.st tk' true HX6.out HFV1.out hpl hli (by show f.free.length+_<=_; omega) (by show 0+_<=_; omega) hb);have HMAT0:Hid (∀ i,own i->w1.heap.size<=i):=Lib.hid (fun i hi=>hb.lo hlo i hi);clear hb hbm HST5 HNO5 HB5;go_wp2_with fail;refine HMAT.out.mono ?_;rintro e w6 ⟨v6,own6,rfl,m6,b6,t6⟩;obtain ⟨r,hr⟩:∃ r,xy f true f.st=r:=⟨_,rfl⟩;rw [hr] at m6 b6;obtain ⟨mr,sr⟩:=r;have HR:=Lib.hid hr;clear hr;simp only at m6 b6;obtain ⟨C0,j0,f0,C1,j1,f1,C2,f2,rfl,-⟩:=id m6.open_;have hs6:=t6.size;have hx6:Ext w1 w6:=t6.ext HX6.out (fun i hi=>HMAT0.out i hi);obtain ⟨nv,av,on,e0,e1,r0,r1,-,-,-⟩:=b6.ex;obtain ⟨NB,nb,rfl,-⟩:=r0.len;obtain ⟨AB,ab,rfl,-⟩:=r1.len;obtain ⟨W7,hW7⟩:∃ W7,w6.alloc (.cells #[.int .i64 mr.kind,.int .i64 mr.rel,.int .i64 mr.p.lv,.bool mr.p.neg,.slice C0 j0 f0,.slice C1 j1 f1,.slice C2 mr.ks.length f2] 45)=W7:=⟨_,rfl⟩;have hx7:Ext w6 W7:=by rw [<- hW7]; exact (Ext.refl w6).alloc _
       have hbx:um W7 w6.heap.size mr (.slice C0 j0 f0) (.slice C1 j1 f1) (.slice C2 mr.ks.length f2):=by rw [<- hW7]; exact um.new w6 mr _ _ _ _
       have hx17:Ext W1 W7.drew:=((X1.out.trans hx6).trans hx7).drew;have hxw7:Ext w W7.drew:=HWX.out.trans hx17;have hxw7':Ext w W7:=HWX.out.trans ((X1.out.trans hx6).trans hx7)
       have hz7:∀ j,j < 10->W7.drew.cell? ⟨w.heap.size,j,none⟩=#[Value.int .i64 0,.slice none 0 0,.slice none 0 0,.int .i64 0,.int .i64 0,.int .i64 0,.bool false,.slice none 0 0,.slice none 0 0,.slice none 0 0][j]?/\W7.drew.frozen? ⟨w.heap.size,j,none⟩=false:=fun j hj =>
        ⟨(hx17.cell (p:=⟨w.heap.size,j,none⟩) (by show w.heap.size < _; omega)).trans (HZ.out j hj).1,(hx17.frozen (p:=⟨w.heap.size,j,none⟩) (by show w.heap.size < _; omega)).trans (HZ.out j hj).2⟩
       have hs7:=hx7.size;have hgb6:w2.heap.size+1+1 < w6.heap.size:=b6.lt.1;have hSA:W7.drew.cell? ⟨w2.heap.size+1+1,0,none⟩=some (.slice NB sr.names.length nb)/\W7.drew.cell? ⟨w2.heap.size+1+1,1,none⟩=some (.slice AB sr.all.length ab)/\W7.drew.cell? ⟨w6.heap.size,0,none⟩=some (.int .i64 mr.kind)/\W7.drew.cell? ⟨w6.heap.size,1,none⟩=some (.int .i64 mr.rel)/\W7.drew.cell? ⟨w6.heap.size,2,none⟩=some (.int .i64 mr.p.lv)/\W7.drew.cell? ⟨w6.heap.size,3,none⟩=some (.bool mr.p.neg)/\W7.drew.cell? ⟨w6.heap.size,4,none⟩=some (.slice C0 j0 f0)/\W7.drew.cell? ⟨w6.heap.size,5,none⟩=some (.slice C1 j1 f1)/\W7.drew.cell? ⟨w6.heap.size,6,none⟩=some (.slice C2 mr.ks.length f2):=by
        obtain ⟨y0,y1,y2,y3,y4,y5,y6⟩:=hbx;exact ⟨(hx7.cell (p:=⟨w2.heap.size+1+1,0,none⟩) hgb6).trans e0,(hx7.cell (p:=⟨w2.heap.size+1+1,1,none⟩) hgb6).trans e1,y0,y1,y2,y3,y4,y5,y6⟩
       obtain ⟨V,hV⟩:∃ V,wa8 W7 w.heap.size (.int .i64 f.free.length) (.slice AB sr.all.length ab) (.slice NB sr.names.length nb) (.int .i64 mr.kind) (.int .i64 mr.rel) (.int .i64 mr.p.lv) (.bool mr.p.neg) (.slice C0 j0 f0) (.slice C1 j1 f1) (.slice C2 mr.ks.length f2)=V:=⟨_,rfl⟩;have hfar:∀ b i,b ≠ w.heap.size->V.drew.cell? ⟨b,i,none⟩=W7.drew.cell? ⟨b,i,none⟩:=fun b i hb=>by
        have h1:V.heap[b]?=W7.heap[b]?:=by rw [<- hV,ya4]; exact yap hb _ _ _
        exact World.cell?_of_block (w:=W7.drew) (w':=V.drew) (a:=⟨b,i,none⟩) h1
       have hSB:V.drew.cell? ⟨w2.heap.size+1+1,0,none⟩=some (.slice NB sr.names.length nb)/\V.drew.cell? ⟨w2.heap.size+1+1,1,none⟩=some (.slice AB sr.all.length ab)/\V.drew.cell? ⟨w6.heap.size,0,none⟩=some (.int .i64 mr.kind)/\V.drew.cell? ⟨w6.heap.size,1,none⟩=some (.int .i64 mr.rel)/\V.drew.cell? ⟨w6.heap.size,2,none⟩=some (.int .i64 mr.p.lv)/\V.drew.cell? ⟨w6.heap.size,3,none⟩=some (.bool mr.p.neg)/\V.drew.cell? ⟨w6.heap.size,4,none⟩=some (.slice C0 j0 f0)/\V.drew.cell? ⟨w6.heap.size,5,none⟩=some (.slice C1 j1 f1)/\V.drew.cell? ⟨w6.heap.size,6,none⟩=some (.slice C2 mr.ks.length f2):=by
        obtain ⟨g0,g1,y0,y1,y2,y3,y4,y5,y6⟩:=hSA;exact ⟨(hfar _ _ (by omega)).trans g0,(hfar _ _ (by omega)).trans g1,(hfar _ _ (by omega)).trans y0,(hfar _ _ (by omega)).trans y1,(hfar _ _ (by omega)).trans y2,(hfar _ _ (by omega)).trans y3,(hfar _ _ (by omega)).trans y4,(hfar _ _ (by omega)).trans y5,(hfar _ _ (by omega)).trans y6⟩
       have hfin:=ucm (q':=fun b=>w.heap.size<=b) (fr:=(f.free.length:Int)) hxw7' (Nat.le_refl _) (fun j hj=>by
        have h1:=(hz7 j hj).1
        rcases (show j=0\/j=1\/j=2\/j=3\/j=4\/j=5\/j=6\/j=7\/j=8\/j=9 by omega) with rfl | rfl | rfl | rfl | rfl | rfl | rfl | rfl | rfl | rfl <;> exact ⟨_,h1,rfl⟩)
        ((kb7 r1).ext hx7) (fun ad e hpos=>by
          obtain ⟨g,c,e2,-,-,hg,-⟩:=r1.pos (by omega);injection e2 with e2
          rw [e] at e2;injection e2 with e2
          subst e2;show g ≠ _
          omega)
        (r0.strs_.ext hx7) (fun ad e hpos=>by
          rcases r0 with ⟨r0,-⟩ | ⟨h0,-⟩
          · obtain ⟨g,c,e2,-,-,hg,-⟩:=r0.pos (by omega);injection e2 with e2
            rw [e] at e2;injection e2 with e2
            subst e2;show g ≠ _;omega
          · rw [h0] at hpos; simp at hpos) (m6.ext hx7) (fun b _ hb=>⟨by have:=HX6.out.size; omega,by have:=HX6.out.size; omega⟩)
       have hown:xcp w.heap.size (pxC f.free.length (.slice AB sr.all.length ab) (.slice NB sr.names.length nb) mr (.slice C0 j0 f0) (.slice C1 j1 f1) (.slice C2 mr.ks.length f2)):=⟨_,_,_,_,_,_,_,_,_,_,_,_,_,_,rfl,fun ad e hpos=>by
        obtain ⟨g,c,e2,-,-,hg,-⟩:=r1.pos (by omega);injection e2 with e2
        rw [e] at e2;injection e2 with e2
        subst e2;show _<=g;omega,fun ad e hpos=>by
        rcases r0 with ⟨r0,-⟩ | ⟨h0,-⟩
        · obtain ⟨g,c,e2,-,-,hg,-⟩:=r0.pos (by omega);injection e2 with e2
          rw [e] at e2;injection e2 with e2
          subst e2;show _<=g;omega
        · rw [h0] at hpos; simp at hpos⟩
       have HOWN:=Lib.hid hown;clear hown;rw [hV] at hfin;have HSS:=Lib.hid (And.intro hSA hSB);have HF:=Lib.hid (And.intro (hfin.1.drew) (hfin.2.ext ((Ext.refl _).drew)));rw [<- hV] at HSS HF;unfold wa8 at HSS HF;clear hV;obtain ⟨g0,g1,y0,y1,y2,y3,y4,y5,y6⟩:=hSA;have zf:∀ j,j < 10->W7.drew.frozen? ⟨w.heap.size,j,none⟩=false:=fun j hj=>(hz7 j hj).2
       have zc:∀ j,j < 10->W7.drew.cell? ⟨w.heap.size,j,none⟩=#[Value.int .i64 0,.slice none 0 0,.slice none 0 0,.int .i64 0,.int .i64 0,.int .i64 0,.bool false,.slice none 0 0,.slice none 0 0,.slice none 0 0][j]?:=fun j hj=>(hz7 j hj).1
       have z0:W7.cell? ⟨w.heap.size,0,none⟩=some (.int .i64 0):=zc 0 (by omega);have z1:W7.cell? ⟨w.heap.size,1,none⟩=some (.slice none 0 0):=zc 1 (by omega);have z2:W7.cell? ⟨w.heap.size,2,none⟩=some (.slice none 0 0):=zc 2 (by omega);have z3:W7.cell? ⟨w.heap.size,3,none⟩=some (.int .i64 0):=zc 3 (by omega);have z4:W7.cell? ⟨w.heap.size,4,none⟩=some (.int .i64 0):=zc 4 (by omega);have z5:W7.cell? ⟨w.heap.size,5,none⟩=some (.int .i64 0):=zc 5 (by omega);have z6:W7.cell? ⟨w.heap.size,6,none⟩=some (.bool false):=zc 6 (by omega);have z7:W7.cell? ⟨w.heap.size,7,none⟩=some (.slice none 0 0):=zc 7 (by omega);have z8:W7.cell? ⟨w.heap.size,8,none⟩=some (.slice none 0 0):=zc 8 (by omega);have z9:W7.cell? ⟨w.heap.size,9,none⟩=some (.slice none 0 0):=zc 9 (by omega);have q0:W7.frozen? ⟨w.heap.size,0,none⟩=false:=zf 0 (by omega);have q1:W7.frozen? ⟨w.heap.size,1,none⟩=false:=zf 1 (by omega);have q2:W7.frozen? ⟨w.heap.size,2,none⟩=false:=zf 2 (by omega);have q3:W7.frozen? ⟨w.heap.size,3,none⟩=false:=zf 3 (by omega);have q4:W7.frozen? ⟨w.heap.size,4,none⟩=false:=zf 4 (by omega);have q5:W7.frozen? ⟨w.heap.size,5,none⟩=false:=zf 5 (by omega);have q6:W7.frozen? ⟨w.heap.size,6,none⟩=false:=zf 6 (by omega);have q7:W7.frozen? ⟨w.heap.size,7,none⟩=false:=zf 7 (by omega);have q8:W7.frozen? ⟨w.heap.size,8,none⟩=false:=zf 8 (by omega);have q9:W7.frozen? ⟨w.heap.size,9,none⟩=false:=zf 9 (by omega);clear hfin hfar hSB m6 b6 t6 r0 r1 e0 e1 hx6 hx7 hbx hx17 hxw7 hxw7' hz7 zc zf HMAT HMAT0 HX6 HX5 HXR HST X3 X1 HFV1 HZ hli hc HM hpl hs6 hs7 hgb6 HX0 HWX hlo hs1 hs2 hs3 hWs;unfold mxV;go_upto_region 17 with fail
       go_region_held3 (fun W' => W'.cell? ⟨w2.heap.size + 1 + 1, 0, none⟩ = some (.slice NB sr.names.length nb) /\ W'.cell? ⟨w2.heap.size + 1 + 1, 1, none⟩ = some (.slice AB sr.all.length ab) /\ W'.cell? ⟨w6.heap.size, 0, none⟩ = some (.int .i64 mr.kind) /\ W'.cell? ⟨w6.heap.size, 1, none⟩ = some (.int .i64 mr.rel) /\ W'.cell? ⟨w6.heap.size, 2, none⟩ = some (.int .i64 mr.p.lv) /\ W'.cell? ⟨w6.heap.size, 3, none⟩ = some (.bool mr.p.neg) /\ W'.cell? ⟨w6.heap.size, 4, none⟩ = some (.slice C0 j0 f0) /\ W'.cell? ⟨w6.heap.size, 5, none⟩ = some (.slice C1 j1 f1) /\ W'.cell? ⟨w6.heap.size, 6, none⟩ = some (.slice C2 mr.ks.length f2))
        (first | with_reducible exact HSS.out.1 | with_reducible exact HSS.out.2)
        (fail)
       all_goals
        clear q0 q1 q2 q3 q4 q5 q6 q7 q8 q9 g0 g1 y0 y1 y2 y3 y4 y5 y6 HSS hW7;go_wp2_with fail;exact bodyPost_ret (v:=.tuple #[pxC f.free.length (.slice AB sr.all.length ab) (.slice NB sr.names.length nb) mr (.slice C0 j0 f0) (.slice C1 j1 f1) (.slice C2 mr.ks.length f2),.int .i64 0]) (by simp [results,Tryz.results13,go_sem,z0,z1,z2,z3,z4,z5,z6,z7,z8,z9,pxC]) rfl ⟨_,rfl,by rw [HR.out]; exact ⟨HF.out.1,HF.out.2,HOWN.out⟩⟩
theorem xcx {w0 w : World} {L : Nat} (hs : L <= 1000000000000) (f : Fm) {v : Value} (hx0 : Ext w0 w) (h : FmV w0 L f v) (hl : f.sz <= 1099511627776) (hpl : f.noIff = true) (hok : f.nmE = 0) (hli : f.light) (hlen : f.free.length + f.bound.length <= 1000)
 (hc:NmC w0 L f) (HM:qcp L f) :
 Calls Tryz.prog 13 #[v] w fun e w'=>∃ u,e=.returned (.tuple #[u,.int .i64 0])/\Ext w w'/\PxV w' (fun b=>w.heap.size<=b) f.free.length (xy f true f.st).2.all (xy f true f.st).2.names (xy f true f.st).1 u:=
 (of_own hs f hx0 h hl hpl hok hli hlen hc HM).mono fun _ _ ⟨u,e,hx,hp,_⟩=>⟨u,e,hx,hp⟩
end Go.Proofs.YtaedbimbbeploaaGreatDoor
