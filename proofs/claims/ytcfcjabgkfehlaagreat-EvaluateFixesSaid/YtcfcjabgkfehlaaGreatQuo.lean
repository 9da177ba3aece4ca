/- Layer 3 (division): quotients of integers. -/
import Derived.Test.YtcfcjabgkfehlaaGreatDivD
import Derived.Test.YtcfcjabgkfehlaaGreatInt3
set_option linter.unusedSimpArgs false
set_option linter.unusedVariables false

set_option maxRecDepth 100000
set_option maxHeartbeats 8000000
namespace Go.Proofs.YtcfcjabgkfehlaaGreat
open Go.RowKit
theorem kby (x:Value) (z:Int) (L:Nat) (w:World) (h:yh w x z L):Calls Tryz.prog 150 #[x] w fun e w'=>e=.returned (.bool (z == 0))/\Ext w w':=by
 obtain ⟨neg,v,ds,rfl,⟨A,c,rfl,h1,h2,h3⟩,hz,hl⟩:=h;have HX0:Hid (Ext w (w.alloc (Obj.cells #[.bool neg,.slice A ds.length c] 33))):=(Ext.refl w).alloc _;have H3:=Lib.hid h3;have HZ:=Lib.hid hz;clear h3 hz;go_enter Tryz.func150,Tryz.ntmps150;go_wp2_with fail;refine (zam _ z L _ ⟨neg,_,ds,rfl,⟨A,c,rfl,h1,h2,H3.out.ext HX0.out⟩,HZ.out,hl⟩).mono ?_;rintro e w2 ⟨rfl,x2⟩;have X2:=Lib.hid (HX0.out.trans x2);clear x2;have HB:Hid ((sgI z == 0)=(z == 0)):=by
  have:(sgI z == 0)=(z == 0):=by
   unfold sgI;rcases Int.lt_trichotomy z 0 with h | h | h
   · rw [uaf h,Bool.eq_iff_iff,beq_iff_eq,beq_iff_eq]; omega
   · rw [vz h,Bool.eq_iff_iff,beq_iff_eq,beq_iff_eq]; omega
   · rw [wam h,Bool.eq_iff_iff,beq_iff_eq,beq_iff_eq]; omega
  exact this
 generalize sgI z=sz at *;go_wp2_with fail;go_ret;exact ⟨by rw [<- HB.out]; rfl,X2.out⟩
theorem ucc (neg neg':Bool) (m n:Nat):sgn (!neg == neg') (m / n)=(sgn neg m).tdiv (sgn neg' n):=by
 cases neg <;> cases neg' <;> simp [sgn,Int.neg_tdiv,Int.tdiv_neg]
theorem vcc (neg neg':Bool) (m n:Nat):sgn neg (m % n)=(sgn neg m).tmod (sgn neg' n):=by
 have e:((m % n:Nat):Int)=(m:Int).tmod n:=rfl;cases neg <;> cases neg' <;> simp only [sgn,Int.neg_tmod,Int.tmod_neg,e,if_true,if_false,Bool.false_eq_true]
def yca (q r:Int) (w:World) (e:Ending) (w':World):Prop:=∃ x y,e=.returned (.tuple #[x,y,.int .i64 0])/\uab w' x q/\uab w' y r/\Ext w w'
theorem xb0 {w W : World} {g g' : Nat} {q r : Int} {b s b' s' u0 u1 u2 u3 : Value} (hx : Ext w W) (hg : w.heap.size <= g) (hg' : w.heap.size <= g') (hne : g ≠ g') (h0 : W.cell? ⟨g, 0, none⟩ = some u0) (h1 : W.cell? ⟨g, 1, none⟩ = some u1)
 (h2:W.cell? ⟨g',0,none⟩=some u2) (h3:W.cell? ⟨g',1,none⟩=some u3) (d0:ku u0=false) (d1:ku u1=false) (d2:ku u2=false) (d3:ku u3=false) (hN:uab W (.agg #[b,s]) q) (hM:uab W (.agg #[b',s']) r) :
 yca q r w (.returned (.tuple #[.agg #[b,s],.agg #[b',s'],.int .i64 0])) ((((W.setCell ⟨g,0,none⟩ b).setCell ⟨g,1,none⟩ s).setCell ⟨g',0,none⟩ b').setCell ⟨g',1,none⟩ s'):=by
 have k1:(W.setCell ⟨g,0,none⟩ b).cell? ⟨g,1,none⟩=some u1:=by rw [World.cell?_setCell_other _ _ _ _ (by simp),h1]
 have k2:((W.setCell ⟨g,0,none⟩ b).setCell ⟨g,1,none⟩ s).cell? ⟨g',0,none⟩=some u2:=by
  rw [World.cell?_setCell_other _ _ _ _ (by simp),World.cell?_setCell_other _ _ _ _ (by simp),h2]
 have k3:(((W.setCell ⟨g,0,none⟩ b).setCell ⟨g,1,none⟩ s).setCell ⟨g',0,none⟩ b').cell? ⟨g',1,none⟩=some u3:=by
  rw [World.cell?_setCell_other _ _ _ _ (by simp),World.cell?_setCell_other _ _ _ _ (by simp),World.cell?_setCell_other _ _ _ _ (by simp),h3]
 exact ⟨_,_,rfl,(((hN.box h0 d0 _).box k1 d1 _).box k2 d2 _).box k3 d3 _,(((hM.box h0 d0 _).box k1 d1 _).box k2 d2 _).box k3 d3 _,(((hx.setCell (by simpa using hg) _).setCell (by simpa using hg) _).setCell (by simpa using hg') _).setCell (by simpa using hg') _⟩
theorem zbt (x y:Value) (a b:Int) (L M:Nat) (w:World) (h:yh w x a L) (k:yh w y b M) (hs:L<=17592186044416) (hs':M<=17592186044416) (hb0:b ≠ 0) :
 Calls Tryz.prog 149 #[x,y] w (yca (a.tdiv b) (a.tmod b) w):=by
 obtain ⟨neg,v,ds,rfl,⟨A,c,rfl,h1,h2,h3⟩,hz,hl⟩:=h;obtain ⟨neg',v',ds',rfl,⟨A',c',rfl,h1',h2',h3'⟩,hz',hl'⟩:=k;have hd0:val ds' ≠ 0:=by
  intro e;apply hb0;rw [hz',e]; cases neg' <;> rfl
 have HQ:Hid (a.tdiv b=sgn (!neg == neg') (val ds / val ds')/\a.tmod b=sgn neg (val ds % val ds')):=
  ⟨by rw [hz,hz',ucc],by rw [hz,hz',vcc neg neg']⟩
 rw [HQ.out.1,HQ.out.2];have H3:=Lib.hid h3;have H3':=Lib.hid h3';have HZ':=Lib.hid hz';have hbb:(b == 0)=false:=beq_eq_false_iff_ne.2 hb0;clear h3 h3' hz hz' hb0 HQ;go_enter Tryz.func149,Tryz.ntmps149;go_wp2_with fail;generalize hW:(((w.alloc (Obj.cells #[.bool neg,.slice A ds.length c] 33)).alloc (Obj.cells #[.bool neg',.slice A' ds'.length c'] 33)).alloc (Obj.cells #[.bool false,.slice none 0 0] 33)).alloc (Obj.cells #[.bool false,.slice none 0 0] 33)=W;have HX0:Hid (Ext w W):=by
  have:Ext w W:=by rw [<- hW]; exact ((((Ext.refl w).alloc _).alloc _).alloc _).alloc _
  exact this
 have HWS:Hid (W.heap.size=w.heap.size+1+1+1+1):=by
  have:W.heap.size=w.heap.size+1+1+1+1:=by rw [<- hW]; simp
  exact this
 have HS:Hid (∀ W',Ext W W'->(Ext w W'/\W'.cell? ⟨w.heap.size,0,none⟩=some (.bool neg)/\W'.cell? ⟨w.heap.size,1,none⟩=some (.slice A ds.length c)/\W'.cell? ⟨w.heap.size+1,0,none⟩=some (.bool neg')/\W'.cell? ⟨w.heap.size+1,1,none⟩=some (.slice A' ds'.length c'))):=by
  intro W' hx;obtain ⟨hc,hf⟩:=hx.cells;have hsz:=HWS.out;refine ⟨HX0.out.trans hx,?_,?_,?_,?_⟩ <;> (rw [hc _ _ (by omega),<- hW]; simp [go_sem])
 have HR:Hid (∀ W',Ext W W'->(W'.cell? ⟨w.heap.size+1+1,0,none⟩=some (.bool false)/\W'.cell? ⟨w.heap.size+1+1,1,none⟩=some (.slice none 0 0)/\W'.cell? ⟨w.heap.size+1+1+1,0,none⟩=some (.bool false)/\W'.cell? ⟨w.heap.size+1+1+1,1,none⟩=some (.slice none 0 0)/\W'.frozen? ⟨w.heap.size+1+1,0,none⟩=false/\W'.frozen? ⟨w.heap.size+1+1,1,none⟩=false/\W'.frozen? ⟨w.heap.size+1+1+1,0,none⟩=false/\W'.frozen? ⟨w.heap.size+1+1+1,1,none⟩=false)):=by
  intro W' hx;obtain ⟨hc,hf⟩:=hx.cells;have hsz:=HWS.out;refine ⟨?_,?_,?_,?_,?_,?_,?_,?_⟩ <;> first | (rw [hc _ _ (by omega),<- hW]; simp [go_sem]; done) | (rw [hf _ _ (by omega),<- hW]; simp [go_sem]; done)
 have HS2_2:Hid (∀ W'' v0 v1,Ext W W''->∀ W',W'=(W''.setCell ⟨w.heap.size+1+1,0,none⟩ v0).setCell ⟨w.heap.size+1+1,1,none⟩ v1->(Ext w W'/\W'.cell? ⟨w.heap.size,0,none⟩=some (.bool neg)/\W'.cell? ⟨w.heap.size,1,none⟩=some (.slice A ds.length c)/\W'.cell? ⟨w.heap.size+1,0,none⟩=some (.bool neg')/\W'.cell? ⟨w.heap.size+1,1,none⟩=some (.slice A' ds'.length c'))):=by
  intro W'' v0 v1 hx W' hW';obtain ⟨s1,c0,c1,c2,c3⟩:=HS.out W'' hx;rw [hW'];refine ⟨(s1.setCell (by simp; try omega) _).setCell (by simp; try omega) _,?_,?_,?_,?_⟩ <;> rw [World.cell?_setCell_other _ _ _ _ (by simp; try omega),World.cell?_setCell_other _ _ _ _ (by simp; try omega)] <;> assumption
 have HS2:Hid (∀ W'' v0 v1 v2 v3,Ext W W''->∀ W',W'=(((W''.setCell ⟨w.heap.size+1+1,0,none⟩ v0).setCell ⟨w.heap.size+1+1,1,none⟩ v1).setCell ⟨w.heap.size+1+1+1,0,none⟩ v2).setCell ⟨w.heap.size+1+1+1,1,none⟩ v3->(Ext w W'/\W'.cell? ⟨w.heap.size,0,none⟩=some (.bool neg)/\W'.cell? ⟨w.heap.size,1,none⟩=some (.slice A ds.length c)/\W'.cell? ⟨w.heap.size+1,0,none⟩=some (.bool neg')/\W'.cell? ⟨w.heap.size+1,1,none⟩=some (.slice A' ds'.length c'))):=by
  intro W'' v0 v1 v2 v3 hx W' hW';obtain ⟨s1,c0,c1,c2,c3⟩:=HS.out W'' hx;rw [hW'];refine ⟨(((s1.setCell (by simp; try omega) _).setCell (by simp; try omega) _).setCell (by simp; try omega) _).setCell (by simp; try omega) _,?_,?_,?_,?_⟩ <;> rw [World.cell?_setCell_other _ _ _ _ (by simp; try omega),World.cell?_setCell_other _ _ _ _ (by simp; try omega),World.cell?_setCell_other _ _ _ _ (by simp; try omega),World.cell?_setCell_other _ _ _ _ (by simp; try omega)] <;> assumption
 clear hW;obtain ⟨e0,b0,b1,b2,b3⟩:=HS.out W (Ext.refl W);refine (kby _ b M _ ⟨neg',_,ds',rfl,⟨A',c',rfl,h1',h2',H3'.out.ext e0⟩,HZ'.out,hl'⟩).mono ?_;rintro e w1 ⟨rfl,y1⟩;have Y1:=Lib.hid y1;clear e0 b0 b1 b2 b3;obtain ⟨e0,b0,b1,b2,b3⟩:=HS.out w1 y1;have E0:=Lib.hid e0;clear e0 y1;go_wp2_with fail;refine (ka9 _ _ ds ds' _ ⟨A,c,rfl,h1,h2,H3.out.ext E0.out⟩ ⟨A',c',rfl,h1',h2',H3'.out.ext E0.out⟩ (by omega) (by omega) hd0).mono ?_;rintro e w2 ⟨vq,vr,rfl,nq,nr,x2⟩;have y2:=Y1.out.trans x2;have Y2:=Lib.hid y2;have NQ:=Lib.hid nq;have NR:=Lib.hid nr;have hlq:(dg (val ds / val ds')).length<=17592186044416:=Nat.le_trans (jl (Nat.div_le_self _ _)) (Nat.le_trans (ve H3.out.1) (by omega));have hlr:(dg (val ds % val ds')).length<=17592186044416:=Nat.le_trans (jl (Nat.mod_le _ _)) (Nat.le_trans (ve H3.out.1) (by omega));clear nq nr x2 y2 b0 b1 b2 b3 hd0;go_wp2_with fail
 go_region_held3 (fun W' => Ext w W' /\ W'.cell? ⟨w.heap.size, 0, none⟩ = some (.bool neg) /\ W'.cell? ⟨w.heap.size, 1, none⟩ = some (.slice A ds.length c) /\ W'.cell? ⟨w.heap.size + 1, 0, none⟩ = some (.bool neg') /\ W'.cell? ⟨w.heap.size + 1, 1, none⟩ = some (.slice A' ds'.length c'))
  (first | exact HS.out _ (Y2.out.drew) | exact HS.out _ (by assumption) | exact HS2_2.out _ _ _ (by assumption) _ rfl | exact HS2.out _ _ _ _ _ (by assumption) _ rfl)
  (first
    | (go_at_call_of 90 (Value.bool (!neg == neg'))
       refine (wai _ _ _ _ (NQ.out.ext ((Ext.refl w2).drew)) (by omega)).mono ?_;rw [je];rintro e w3 ⟨x3,rfl,⟨v3,rfl,A3,c3,rfl,q1,q2,q3⟩,z3⟩;have y3:Ext W w3:=Ext.trans Y2.out.drew z3
       have z3':Ext w2 w3:=Ext.trans (Ext.refl w2).drew z3)
    | (go_at_call_of 90 (Value.bool neg)
       refine (wai _ _ _ _ (NR.out.ext z3') (by omega)).mono ?_;rw [je];rintro e w4 ⟨x4,rfl,⟨v4,rfl,A4,c4,rfl,p1,p2,p3⟩,z4⟩;have y4:Ext W w4:=Ext.trans y3 z4
       obtain ⟨r0,r1,r2,r3,f0,f1,f2,f3⟩:=HR.out w4 y4))
 have n3:uab w4 (.agg #[.bool (decide (sgn (!neg == neg') (val ds / val ds') < 0)),.slice A3 (dg (sgn (!neg == neg') (val ds / val ds')).natAbs).length c3]) (sgn (!neg == neg') (val ds / val ds')):=uab.ext ⟨_,rfl,A3,c3,rfl,q1,q2,q3⟩ z4;have HF:=Lib.hid (xb0 (g:=w.heap.size+1+1) (g':=w.heap.size+1+1+1) (HX0.out.trans y4) (by omega) (by omega) (by omega) r0 r1 r2 r3 rfl rfl rfl rfl n3 ⟨_,rfl,A4,c4,rfl,p1,p2,p3⟩);clear HS HS2 HS2_2 HR y3 y4 z3 z3' z4 q3 p3 n3;go_wp2_with fail;exact bodyPost_ret (v:=.tuple #[.agg #[.bool (decide (sgn (!neg == neg') (val ds / val ds') < 0)),.slice A3 (dg (sgn (!neg == neg') (val ds / val ds')).natAbs).length c3],.agg #[.bool (decide (sgn neg (val ds % val ds') < 0)),.slice A4 (dg (sgn neg (val ds % val ds')).natAbs).length c4],.int .i64 0]) (by simp [results,Tryz.results149,go_sem,r0,r1,r2,r3]) rfl HF.out
end Go.Proofs.YtcfcjabgkfehlaaGreat
