/- Layer 3 (division): quotients of integers. -/
import Derived.Test.YtcepajijiabkmaaGreatMp44
import Derived.Test.YtcepajijiabkmaaGreatMp5
set_option linter.unusedSimpArgs false
set_option linter.unusedVariables false
set_option maxRecDepth 100000
set_option maxHeartbeats 8000000
namespace Go.Proofs.YtcepajijiabkmaaGreat
open Lib (hid)
open Go.RowKit
theorem kbi (x:Value) (z:Int) (L:Nat) (w:World) (h:jm w x z L):Calls Tryz.prog 93 #[x] w fun e w'=>e=.returned (.bool (z == 0))/\Ext w w':=by
 obtain ⟨neg,v,ds,rfl,⟨A,c,rfl,h1,h2,h3⟩,hz,hl⟩:=h;have ay:Hid (Ext w (w.alloc (Obj.cells #[.bool neg,.slice A ds.length c] 30))):=(Ext.refl w).alloc _;have H3:=hid h3;have HZ:=hid hz;clear h3 hz;go_enter Tryz.func93,Tryz.ntmps93;go_wp2_with fail;refine (vau _ z L _ ⟨neg,_,ds,rfl,⟨A,c,rfl,h1,h2,H3.out.ext ay.out⟩,HZ.out,hl⟩).mono ?_;rintro e w2 ⟨rfl,x2⟩;have X2:=hid (ay.out.trans x2);clear x2;have HB:Hid ((sgI z == 0)=(z == 0)):=by
  have:(sgI z == 0)=(z == 0):=by
   unfold sgI;rcases wg z 0 with h | h | h
   · rw [yag h,RC,beq_iff_eq,beq_iff_eq]; omega
   · rw [wz h,RC,beq_iff_eq,beq_iff_eq]; omega
   · rw [qaq h,RC,beq_iff_eq,beq_iff_eq]; omega
  exact this
 generalize sgI z=sz at *;go_wp2_with fail;go_ret;exact ⟨by rw [<- HB.out]; rfl,X2.out⟩
theorem gct (neg aI:Bool) (m n:Nat):sgn (!neg == aI) (m / n)=(sgn neg m).tdiv (sgn aI n):=by
 cases neg <;> cases aI <;> simp [sgn,Int.neg_tdiv,Int.tdiv_neg]
theorem uct (neg aI:Bool) (m n:Nat):sgn neg (m % n)=(sgn neg m).tmod (sgn aI n):=by
 have e:((m % n:Nat):Int)=(m:Int).tmod n:=rfl;cases neg <;> cases aI <;> simp only [sgn,Int.neg_tmod,Int.tmod_neg,e,if_true,if_false,Pu]
def qcr (q r:Int) (w:World) (e:Ending) (w':World):Prop:=∃ x y,e=.returned (.tuple #[x,y,.int .i64 0])/\ul w' x q/\ul w' y r/\Ext w w'
theorem xch {w W : World} {g g' : Nat} {q r : Int} {b s b' s' u0 u1 u2 u3 : Value} (hx : Ext w W) (hg : w.heap.size <= g) (hg' : w.heap.size <= g') (ax : g ≠ g') (h0 : W.cell? ⟨g, 0, none⟩ = some u0) (h1 : W.cell? ⟨g, 1, none⟩ = some u1)
 (h2:W.cell? ⟨g',0,none⟩=some u2) (h3:W.cell? ⟨g',1,none⟩=some u3) (d0:jo u0=false) (d1:jo u1=false) (d2:jo u2=false) (d3:jo u3=false) (hN:ul W (.agg #[b,s]) q) (hM:ul W (.agg #[b',s']) r) :
 qcr q r w (.returned (.tuple #[.agg #[b,s],.agg #[b',s'],.int .i64 0])) ((((W.setCell ⟨g,0,none⟩ b).setCell ⟨g,1,none⟩ s).setCell ⟨g',0,none⟩ b').setCell ⟨g',1,none⟩ s'):=by
 have k1:(W.setCell ⟨g,0,none⟩ b).cell? ⟨g,1,none⟩=some u1:=by rw [ph _ _ _ _ (by simp),h1]
 have k2:((W.setCell ⟨g,0,none⟩ b).setCell ⟨g,1,none⟩ s).cell? ⟨g',0,none⟩=some u2:=by
  rw [ph _ _ _ _ (by simp),ph _ _ _ _ (by simp),h2]
 have k3:(((W.setCell ⟨g,0,none⟩ b).setCell ⟨g,1,none⟩ s).setCell ⟨g',0,none⟩ b').cell? ⟨g',1,none⟩=some u3:=by
  rw [ph _ _ _ _ (by simp),ph _ _ _ _ (by simp),ph _ _ _ _ (by simp),h3]
 exact ⟨_,_,rfl,(((hN.box h0 d0 _).box k1 d1 _).box k2 d2 _).box k3 d3 _,(((hM.box h0 d0 _).box k1 d1 _).box k2 d2 _).box k3 d3 _,(((hx.setCell (by simpa using hg) _).setCell (by simpa using hg) _).setCell (by simpa using hg') _).setCell (by simpa using hg') _⟩
theorem xc6 (x y:Value) (a b:Int) (L M:Nat) (w:World) (h:jm w x a L) (k:jm w y b M) (hs:L<=17592186044416) (BM:M<=17592186044416) (aX:b ≠ 0) :
 Calls Tryz.prog 92 #[x,y] w (qcr (a.tdiv b) (a.tmod b) w):=by
 obtain ⟨neg,v,ds,rfl,⟨A,c,rfl,h1,h2,h3⟩,hz,hl⟩:=h;obtain ⟨aI,v',ds',rfl,⟨A',c',rfl,jV,mi,lg⟩,lH,mQ⟩:=k;have hd0:val ds' ≠ 0:=by
  intro e;apply aX;rw [lH,e]; cases aI <;> rfl
 have HQ:Hid (a.tdiv b=sgn (!neg == aI) (val ds / val ds')/\a.tmod b=sgn neg (val ds % val ds')):=
  ⟨by rw [hz,lH,gct],by rw [hz,lH,uct neg aI]⟩
 rw [HQ.out.1,HQ.out.2];have H3:=hid h3;have mY:=hid lg;have IU:=hid lH;have CV:(b == 0)=false:=beq_eq_false_iff_ne.2 aX;clear h3 lg hz lH aX HQ;go_enter Tryz.func92,Tryz.ntmps92;go_wp2_with fail;generalize hW:(((w.alloc (Obj.cells #[.bool neg,.slice A ds.length c] 30)).alloc (Obj.cells #[.bool aI,.slice A' ds'.length c'] 30)).alloc (Obj.cells #[.bool false,.slice none 0 0] 30)).alloc (Obj.cells #[.bool false,.slice none 0 0] 30)=W;have ay:Hid (Ext w W):=by
  have:Ext w W:=by rw [<- hW]; exact ((((Ext.refl w).alloc _).alloc _).alloc _).alloc _
  exact this
 have qF:Hid (W.heap.size=w.heap.size+1+1+1+1):=by
  have:W.heap.size=w.heap.size+1+1+1+1:=by rw [<- hW]; simp
  exact this
 have HS:Hid (∀ W',Ext W W'->(Ext w W'/\W'.cell? ⟨w.heap.size,0,none⟩=some (.bool neg)/\W'.cell? ⟨w.heap.size,1,none⟩=some (.slice A ds.length c)/\W'.cell? ⟨w.heap.size+1,0,none⟩=some (.bool aI)/\W'.cell? ⟨w.heap.size+1,1,none⟩=some (.slice A' ds'.length c'))):=by
  intro W' hx;obtain ⟨hc,hf⟩:=hx.cells;have hsz:=qF.out;refine ⟨ay.out.trans hx,?_,?_,?_,?_⟩ <;> (rw [hc _ _ (by omega),<- hW]; simp [go_sem])
 have HR:Hid (∀ W',Ext W W'->(W'.cell? ⟨w.heap.size+1+1,0,none⟩=some (.bool false)/\W'.cell? ⟨w.heap.size+1+1,1,none⟩=some (.slice none 0 0)/\W'.cell? ⟨w.heap.size+1+1+1,0,none⟩=some (.bool false)/\W'.cell? ⟨w.heap.size+1+1+1,1,none⟩=some (.slice none 0 0)/\W'.frozen? ⟨w.heap.size+1+1,0,none⟩=false/\W'.frozen? ⟨w.heap.size+1+1,1,none⟩=false/\W'.frozen? ⟨w.heap.size+1+1+1,0,none⟩=false/\W'.frozen? ⟨w.heap.size+1+1+1,1,none⟩=false)):=by
  intro W' hx;obtain ⟨hc,hf⟩:=hx.cells;have hsz:=qF.out;refine ⟨?_,?_,?_,?_,?_,?_,?_,?_⟩ <;> first | (rw [hc _ _ (by omega),<- hW]; simp [go_sem]; done) | (rw [hf _ _ (by omega),<- hW]; simp [go_sem]; done)
 have I9:Hid (∀ W'' v0 v1,Ext W W''->∀ W',W'=(W''.setCell ⟨w.heap.size+1+1,0,none⟩ v0).setCell ⟨w.heap.size+1+1,1,none⟩ v1->(Ext w W'/\W'.cell? ⟨w.heap.size,0,none⟩=some (.bool neg)/\W'.cell? ⟨w.heap.size,1,none⟩=some (.slice A ds.length c)/\W'.cell? ⟨w.heap.size+1,0,none⟩=some (.bool aI)/\W'.cell? ⟨w.heap.size+1,1,none⟩=some (.slice A' ds'.length c'))):=by
  intro W'' v0 v1 hx W' bJ;obtain ⟨s1,c0,c1,c2,c3⟩:=HS.out W'' hx;rw [bJ];refine ⟨(s1.setCell (by simp; try omega) _).setCell (by simp; try omega) _,?_,?_,?_,?_⟩ <;> rw [ph _ _ _ _ (by simp; try omega),ph _ _ _ _ (by simp; try omega)] <;> assumption
 have aY:Hid (∀ W'' v0 v1 v2 v3,Ext W W''->∀ W',W'=(((W''.setCell ⟨w.heap.size+1+1,0,none⟩ v0).setCell ⟨w.heap.size+1+1,1,none⟩ v1).setCell ⟨w.heap.size+1+1+1,0,none⟩ v2).setCell ⟨w.heap.size+1+1+1,1,none⟩ v3->(Ext w W'/\W'.cell? ⟨w.heap.size,0,none⟩=some (.bool neg)/\W'.cell? ⟨w.heap.size,1,none⟩=some (.slice A ds.length c)/\W'.cell? ⟨w.heap.size+1,0,none⟩=some (.bool aI)/\W'.cell? ⟨w.heap.size+1,1,none⟩=some (.slice A' ds'.length c'))):=by
  intro W'' v0 v1 v2 v3 hx W' bJ;obtain ⟨s1,c0,c1,c2,c3⟩:=HS.out W'' hx;rw [bJ];refine ⟨(((s1.setCell (by simp; try omega) _).setCell (by simp; try omega) _).setCell (by simp; try omega) _).setCell (by simp; try omega) _,?_,?_,?_,?_⟩ <;> rw [ph _ _ _ _ (by simp; try omega),ph _ _ _ _ (by simp; try omega),ph _ _ _ _ (by simp; try omega),ph _ _ _ _ (by simp; try omega)] <;> assumption
 clear hW;obtain ⟨e0,b0,b1,b2,b3⟩:=HS.out W (Ext.refl W);refine (kbi _ b M _ ⟨aI,_,ds',rfl,⟨A',c',rfl,jV,mi,mY.out.ext e0⟩,IU.out,mQ⟩).mono ?_;rintro e w1 ⟨rfl,y1⟩;have Y1:=hid y1;clear e0 b0 b1 b2 b3;obtain ⟨e0,b0,b1,b2,b3⟩:=HS.out w1 y1;have E0:=hid e0;clear e0 y1;go_wp2_with fail;refine (jbj _ _ ds ds' _ ⟨A,c,rfl,h1,h2,H3.out.ext E0.out⟩ ⟨A',c',rfl,jV,mi,mY.out.ext E0.out⟩ (by omega) (by omega) hd0).mono ?_;rintro e w2 ⟨vq,vr,rfl,nq,nr,x2⟩;have y2:=Y1.out.trans x2;have Y2:=hid y2;have NQ:=hid nq;have NR:=hid nr;have Ou:(dg (val ds / val ds')).length<=17592186044416:=py (yu (Nat.div_le_self _ _)) (py (zi H3.out.1) (by omega));have hlr:(dg (val ds % val ds')).length<=17592186044416:=py (yu (Nat.mod_le _ _)) (py (zi H3.out.1) (by omega));clear nq nr x2 y2 b0 b1 b2 b3 hd0;go_wp2_with fail
 go_region_held3 (fun W' => Ext w W' /\ W'.cell? ⟨w.heap.size, 0, none⟩ = some (.bool neg) /\ W'.cell? ⟨w.heap.size, 1, none⟩ = some (.slice A ds.length c) /\ W'.cell? ⟨w.heap.size + 1, 0, none⟩ = some (.bool aI) /\ W'.cell? ⟨w.heap.size + 1, 1, none⟩ = some (.slice A' ds'.length c'))
  (first | exact HS.out _ (Y2.out.drew) | exact HS.out _ (by assumption) | exact I9.out _ _ _ (by assumption) _ rfl | exact aY.out _ _ _ _ _ (by assumption) _ rfl)
  (first
    | (go_at_call_of 56 (Value.bool (!neg == aI))
       refine (wap _ _ _ _ (NQ.out.ext ((Ext.refl w2).drew)) (by omega)).mono ?_;rw [qg];rintro e w3 ⟨x3,rfl,⟨v3,rfl,A3,c3,rfl,q1,q2,q3⟩,z3⟩;have y3:Ext W w3:=Ext.trans Y2.out.drew z3
       have z3':Ext w2 w3:=Ext.trans (Ext.refl w2).drew z3)
    | (go_at_call_of 56 (Value.bool neg)
       refine (wap _ _ _ _ (NR.out.ext z3') (by omega)).mono ?_;rw [qg];rintro e w4 ⟨x4,rfl,⟨v4,rfl,A4,c4,rfl,p1,p2,p3⟩,z4⟩;have y4:Ext W w4:=Ext.trans y3 z4
       obtain ⟨r0,r1,r2,r3,f0,f1,f2,f3⟩:=HR.out w4 y4))
 have n3:ul w4 (.agg #[.bool (decide (sgn (!neg == aI) (val ds / val ds') < 0)),.slice A3 (dg (sgn (!neg == aI) (val ds / val ds')).natAbs).length c3]) (sgn (!neg == aI) (val ds / val ds')):=ul.ext ⟨_,rfl,A3,c3,rfl,q1,q2,q3⟩ z4;have HF:=hid (xch (g:=w.heap.size+1+1) (g':=w.heap.size+1+1+1) (ay.out.trans y4) (by omega) (by omega) (by omega) r0 r1 r2 r3 rfl rfl rfl rfl n3 ⟨_,rfl,A4,c4,rfl,p1,p2,p3⟩);clear HS aY I9 HR y3 y4 z3 z3' z4 q3 p3 n3;go_wp2_with fail;exact bodyPost_ret (v:=.tuple #[.agg #[.bool (decide (sgn (!neg == aI) (val ds / val ds') < 0)),.slice A3 (dg (sgn (!neg == aI) (val ds / val ds')).natAbs).length c3],.agg #[.bool (decide (sgn neg (val ds % val ds') < 0)),.slice A4 (dg (sgn neg (val ds % val ds')).natAbs).length c4],.int .i64 0]) (by simp [results,Tryz.results92,go_sem,r0,r1,r2,r3]) rfl HF.out
theorem xbg (v:Value) (n:Nat) (w:World) (h:jc w v (dg n)) (hl:(dg n).length<=2) :
 Calls Tryz.prog 117 #[v] w fun e w'=>e=.returned (.tuple #[.int .u64 (n:Nat),.bool true])/\Ext w w':=by
 go_enter Tryz.func117,Tryz.ntmps117;go_wp2_with fail;refine (xw _ _ _ h).mono ?_;rw [qg];rintro e w' ⟨v',rfl,hv,rfl⟩;clear h;obtain ⟨A,c,rfl,h1,h2,h3⟩:=hv
 by_cases gX:n=0
 · subst gX;rw [qm] at h1 ⊢;clear h3 hl;go_wp2_with fail
   go_ret2
   exact ⟨rfl,Ext.refl w⟩
 · by_cases sF:n < B32
   · rw [va3 gX sF] at h1 h3 ⊢;obtain ⟨ad,rfl,hb,aj,eH⟩:=h3.at_ 0 (by simp);rw [show ad.add 0=ad from by simp [Addr.add]] at aj
     change w.cell? ad=some (.int .u32 (n:Nat)) at aj
     change n < 4294967296 at eH
     clear h3 hl gX sF;go_wp2_with fail
     go_ret2
     exact ⟨rfl,Ext.refl w⟩
   · have xH:n < B32 * B32:=by
      have h4:=xae n;have h5:B32 ^ (dg n).length<=B32 ^ 2:=rS yj hl;rw [show B32 ^ 2=B32 * B32 from by rw [se,Nat.pow_one]] at h5;omega
     obtain ⟨lo,hi,hlo,hhi,hn⟩:∃ lo hi,lo < B32/\hi < B32/\n=lo+B32 * hi:=⟨n % B32,n / B32,te _ yj,tQ xH,(tw _ _).symm⟩;have aaI:hi ≠ 0:=by
      intro e;rw [e,wy] at hn;omega
     have gZ:dg n=[lo,hi]:=by rw [hn]; exact kdb lo hi hlo aaI hhi
     rw [gZ] at h1 h3 ⊢;obtain ⟨ad,rfl,hb,aj,eH⟩:=h3.at_ 0 (by simp);obtain ⟨ad',e',eP,iC,aa4⟩:=h3.at_ 1 (by simp);injection e' with e'
     subst e';rw [show ad.add 0=ad from by simp [Addr.add]] at aj;rw [show ad.add 1=⟨ad.block,ad.off+1,none⟩ from by simp [Addr.add]] at iC
     change w.cell? ad=some (.int .u32 (lo:Nat)) at aj
     change w.cell? ⟨ad.block,ad.off+1,none⟩=some (.int .u32 (hi:Nat)) at iC
     change lo < 4294967296 at eH
     change hi < 4294967296 at aa4
     have hor:bits .or .u64 ((hi:Int) * 4294967296) lo=(hi:Int) * 4294967296+lo:=by
      have:=u64_or_nat (hi * 4294967296) lo (by omega) (by omega);rw [nat_join 32 (hi * 4294967296) lo (by omega) (by omega)] at this;simpa using this
     have HN:Hid ((hi:Int) * 4294967296+lo=(n:Nat)):=by
      have:(hi:Int) * 4294967296+lo=(n:Nat):=by rw [hn,zh]; omega
      exact this
     clear h3 hl gX sF hn gZ xH hlo hhi;go_wp2_with fail
     go_quiet (fail)
     go_wp2_with fail
     go_ret2
     exact ⟨by rw [<- HN.out]; rfl,(Ext.refl w).drewN _⟩
def qb3 (G:Nat) (W:World) (gk:Nat) (s5 s6:Value) (wr:World):Prop:=∃ X Y:Nat,gk=Y/\jc wr s5 (dg X)/\jc wr s6 (dg Y)/\Nat.gcd X Y=G/\(dg X).length<=17592186044416/\(dg Y).length<=17592186044416/\Ext W wr
theorem uc7 (x y:Value) (a b:Int) (L M:Nat) (w:World) (h:jm w x a L) (k:jm w y b M) (hs:L<=17592186044416) (BM:M<=17592186044416) :
 Calls Tryz.prog 90 #[x,y] w (vah (Nat.gcd a.natAbs b.natAbs:Nat) w):=by
 have UI:=h.len;have hLb:=k.len;obtain ⟨neg,v,ds,rfl,⟨A,c,rfl,h1,h2,h3⟩,hz,hl⟩:=h;obtain ⟨aI,v',ds',rfl,⟨A',c',rfl,jV,mi,lg⟩,lH,mQ⟩:=k;have HA:Hid (a.natAbs=val ds):=by rw [hz]; exact ku _ _
 have HB:Hid (b.natAbs=val ds'):=by rw [lH]; exact ku _ _
 rw [HA.out] at UI;rw [HB.out] at hLb;rw [HA.out,HB.out];have H3:=hid h3;have mY:=hid lg;clear h3 lg hz lH HA HB;go_enter Tryz.func90,Tryz.ntmps90;go_wp2_with fail;generalize hW:((w.alloc (Obj.cells #[.bool neg,.slice A ds.length c] 30)).alloc (Obj.cells #[.bool aI,.slice A' ds'.length c'] 30)).alloc (Obj.cells #[.bool false,.slice none 0 0] 30)=W;have ay:Hid (Ext w W):=by
  have:Ext w W:=by rw [<- hW]; exact (((Ext.refl w).alloc _).alloc _).alloc _
  exact this
 have qF:Hid (W.heap.size=w.heap.size+1+1+1):=by
  have:W.heap.size=w.heap.size+1+1+1:=by rw [<- hW]; simp
  exact this
 have HS:Hid (∀ W',Ext W W'->(Ext w W'/\W'.cell? ⟨w.heap.size,0,none⟩=some (.bool neg)/\W'.cell? ⟨w.heap.size,1,none⟩=some (.slice A ds.length c)/\W'.cell? ⟨w.heap.size+1,0,none⟩=some (.bool aI)/\W'.cell? ⟨w.heap.size+1,1,none⟩=some (.slice A' ds'.length c'))):=by
  intro W' hx;obtain ⟨hc,hf⟩:=hx.cells;have hsz:=qF.out;refine ⟨ay.out.trans hx,?_,?_,?_,?_⟩ <;> (rw [hc _ _ (by omega),<- hW]; simp [go_sem])
 have HR:Hid (∀ W',Ext W W'->(W'.cell? ⟨w.heap.size+1+1,0,none⟩=some (.bool false)/\W'.cell? ⟨w.heap.size+1+1,1,none⟩=some (.slice none 0 0)/\W'.frozen? ⟨w.heap.size+1+1,0,none⟩=false/\W'.frozen? ⟨w.heap.size+1+1,1,none⟩=false)):=by
  intro W' hx;obtain ⟨hc,hf⟩:=hx.cells;have hsz:=qF.out;refine ⟨?_,?_,?_,?_⟩ <;> first | (rw [hc _ _ (by omega),<- hW]; simp [go_sem]; done) | (rw [hf _ _ (by omega),<- hW]; simp [go_sem]; done)
 have aY:Hid (∀ W'' v0 v1,Ext W W''->∀ W',W'=(W''.setCell ⟨w.heap.size+1+1,0,none⟩ v0).setCell ⟨w.heap.size+1+1,1,none⟩ v1->(Ext w W'/\W'.cell? ⟨w.heap.size,0,none⟩=some (.bool neg)/\W'.cell? ⟨w.heap.size,1,none⟩=some (.slice A ds.length c)/\W'.cell? ⟨w.heap.size+1,0,none⟩=some (.bool aI)/\W'.cell? ⟨w.heap.size+1,1,none⟩=some (.slice A' ds'.length c'))):=by
  intro W'' v0 v1 hx W' bJ;obtain ⟨s1,c0,c1,c2,c3⟩:=HS.out W'' hx;rw [bJ];refine ⟨(s1.setCell (by simp; try omega) _).setCell (by simp; try omega) _,?_,?_,?_,?_⟩ <;> rw [ph _ _ _ _ (by simp; try omega),ph _ _ _ _ (by simp; try omega)] <;> assumption
 clear hW
 go_region_held3 (fun W' => Ext w W' /\ W'.cell? ⟨w.heap.size, 0, none⟩ = some (.bool neg) /\ W'.cell? ⟨w.heap.size, 1, none⟩ = some (.slice A ds.length c) /\ W'.cell? ⟨w.heap.size + 1, 0, none⟩ = some (.bool aI) /\ W'.cell? ⟨w.heap.size + 1, 1, none⟩ = some (.slice A' ds'.length c'))
  (first | exact HS.out _ ((Ext.refl W).drew) | exact HS.out _ (by assumption) | exact aY.out _ _ _ (by assumption) _ rfl)
  (first
    | (go_at_call_of 57 (Value.slice A ds.length c)
       have bQ:=(‹Ext w _/\_›).1;refine (jab _ ds _ ⟨A,c,rfl,h1,h2,H3.out.ext bQ⟩ (by omega)).mono ?_;rintro e w2 ⟨v2,rfl,wI,x2⟩
       have y2:Ext W w2:=Ext.trans ((Ext.refl W).drew) x2)
    | (go_at_call_of 57 (Value.slice A' ds'.length c')
       have bQ:=(‹Ext w _/\_›).1;refine (jab _ ds' _ ⟨A',c',rfl,jV,mi,mY.out.ext bQ⟩ (by omega)).mono ?_;rintro e w3 ⟨v3,rfl,nv3,x3⟩
       have y3:Ext W w3:=Ext.trans y2 x3))
 have kK:Hid (qb3 (Nat.gcd (val ds) (val ds')) W (val ds') v2 v3 w3):=⟨_,_,rfl,wI.ext x3,nv3,rfl,by omega,by omega,y3⟩;clear HS aY wI nv3 x2 x3 y2 y3;generalize Nat.gcd (val ds) (val ds')=G at *;go_wp2_with fail
 go_loopg [5,6] (val ds') (fun gk s5 s6 wr=>Hid (qb3 G W gk s5 s6 wr))
 case atStart=>exact kK
 case round =>
  clear kK;obtain ⟨X,Y,hgk,nx,ny,hg,lx,ly,hx⟩:=hrel.out;have NX:=hid nx;have NY:=hid ny;have HG:=hid hg;have oO:=hid hx;have HGK:=hid hgk;obtain ⟨A5,c5,rfl,i1,i2,i3⟩:=nx;obtain ⟨A6,c6,rfl,j1,j2,j3⟩:=ny;clear hrel hg hx hgk i3 j3
  by_cases zG:2 < (dg X).length\/2 < (dg Y).length
  · have hb:(decide ((2:Int) < ((dg X).length:Int))=true)\/(decide ((2:Int) < ((dg X).length:Int))=false/\decide ((2:Int) < ((dg Y).length:Int))=true):=by
     by_cases h:2 < (dg X).length
     · exact .inl (by simp; omega)
     · exact .inr ⟨by simp; omega,by simp; omega⟩
    clear zG
    by_cases hY:Y=0
    · have oV:(dg Y).length=0:=by rw [hY,qm]; rfl
      rw [oV] at hb ⊢;have hX:decide ((2:Int) < ((dg X).length:Int))=true:=by
       rcases hb with h | ⟨h1,h2⟩
       · exact h
       · simp at h2
      have HXG:Hid (X=G):=by
       have:=HG.out;rw [hY,Nat.gcd_zero_right] at this;exact this
      clear hb oV hY;go_wp2_with fail;refine (wap false _ _ _ NX.out (by omega)).mono ?_;rw [qg,HXG.out,show sgn false G=((G:Nat):Int) from rfl];rintro e w9 ⟨x9,rfl,⟨v9,rfl,A2,c2,rfl,q1,q2,q3⟩,z9⟩;have y9:Ext W w9:=oO.out.trans z9;obtain ⟨r0,r1,f0,f1⟩:=HR.out w9 y9
      change (dg ((G:Nat):Int).natAbs).length<=c2 at q1
      have HF:=hid (kw (g:=w.heap.size+1+1) (z:=((G:Nat):Int)) (u0:=.bool false) (u1:=.slice none 0 0) (ay.out.trans y9) (by omega) r0 r1 rfl rfl ⟨_,rfl,A2,c2,rfl,q1,q2,q3⟩);clear y9 z9 q3;go_wp2_with fail;exact bodyPost_ret (v:=.agg #[.bool (decide (((G:Nat):Int) < 0)),.slice A2 (dg ((G:Nat):Int).natAbs).length c2]) (by simp [results,Tryz.results90,go_sem,r0,r1]) rfl HF.out
    · have oV:0 < (dg Y).length:=vak hY;have ahW:(((dg Y).length:Int) == 0)=false:=beq_eq_false_iff_ne.2 (by omega);have hYp:0 < Y:=Nat.pos_of_ne_zero hY;rcases hb with bF | ⟨bF,dE⟩
      all_goals
       go_wp2_with fail;refine (jbj _ _ _ _ _ NX.out NY.out (by omega) (by omega) (by rw [qg]; exact hY)).mono ?_;rw [qg,qg];rintro e w4 ⟨vq,vr,rfl,nq,nr,x4⟩
       have zY:Hid (qb3 G W (X % Y) (.slice A6 (dg Y).length c6) vr w4):=
        ⟨Y,X % Y,rfl,NY.out.ext x4,nr,by rw [<- HG.out,Nat.gcd_comm X Y,Nat.gcd_rec Y X,Nat.gcd_comm],ly,py (yu (Nat.mod_le _ _)) lx,oO.out.trans x4⟩
       have lC:X % Y < Y:=te _ hYp;clear nq nr x4;go_wp2_with fail
       go_roundg (X % Y)
       case rel=>exact zY
       case measure=>rw [HGK.out]; exact lC
  · have b1:decide ((2:Int) < ((dg X).length:Int))=false:=by simp; omega
    have b2:decide ((2:Int) < ((dg Y).length:Int))=false:=by simp; omega
    have abr:X < 18446744073709551616:=by
     have h4:=xae X;have h5:B32 ^ (dg X).length<=B32 ^ 2:=rS yj (by omega);have h6:B32 ^ 2=18446744073709551616:=by decide
     omega
    have abq:Y < 18446744073709551616:=by
     have h4:=xae Y;have h5:B32 ^ (dg Y).length<=B32 ^ 2:=rS yj (by omega);have h6:B32 ^ 2=18446744073709551616:=by decide
     omega
    go_wp2_with fail;refine (xbg _ X _ NX.out (by omega)).mono ?_;rintro e w4 ⟨rfl,x4⟩;have X4:=hid x4;clear x4;go_wp2_with fail;refine (xbg _ Y _ (NY.out.ext X4.out) (by omega)).mono ?_;rintro e w5 ⟨rfl,x5⟩;have Y5:=hid (oO.out.trans (X4.out.trans x5));clear x5 X4;go_wp2_with fail
    go_loopw [9,11] (fun mv nv wr=>∃ m n:Nat,mv=.int .u64 m/\nv=.int .u64 n/\m < 18446744073709551616/\n < 18446744073709551616/\Hid (Nat.gcd m n=G/\Ext W wr)) (fun _ nv _=>(intOf nv).toNat)
    case atStart=>exact ⟨X,Y,rfl,rfl,abr,abq,hid ⟨HG.out,Y5.out⟩⟩
    case round =>
     obtain ⟨m,n,rfl,rfl,hm,hn,HI⟩:=hrel
     by_cases gX:n=0
     · subst gX;have HMG:Hid (m=G):=by
        have:=HI.out.1;rw [Nat.gcd_zero_right] at this;exact this
       go_wp2_with fail;refine (xax m _ hm).mono ?_;rw [HMG.out];rintro e w6 ⟨v6,rfl,n6,x6⟩;go_wp2_with fail;refine (wap false _ _ _ n6 ?_).mono ?_
       · have h4:=yf (n:=G) (k:=2) (by (rw [<- HMG.out]; have h6:B32 ^ 2=18446744073709551616:=by decide); omega);omega
       rw [qg,show sgn false G=((G:Nat):Int) from rfl];rintro e w9 ⟨x9,rfl,⟨v9,rfl,A2,c2,rfl,q1,q2,q3⟩,z9⟩;have y9:Ext W w9:=HI.out.2.trans (x6.trans z9);obtain ⟨r0,r1,f0,f1⟩:=HR.out w9 y9
       change (dg ((G:Nat):Int).natAbs).length<=c2 at q1
       have HF:=hid (kw (g:=w.heap.size+1+1) (z:=((G:Nat):Int)) (u0:=.bool false) (u1:=.slice none 0 0) (ay.out.trans y9) (by omega) r0 r1 rfl rfl ⟨_,rfl,A2,c2,rfl,q1,q2,q3⟩);clear y9 z9 q3 x6 n6;go_wp2_with fail;exact bodyPost_ret (v:=.agg #[.bool (decide (((G:Nat):Int) < 0)),.slice A2 (dg ((G:Nat):Int).natAbs).length c2]) (by simp [results,Tryz.results90,go_sem,r0,r1]) rfl HF.out
     · have Ce:((n:Int) != 0)=true:=by simp; omega
       have aal:((n:Int) == 0)=false:=beq_eq_false_iff_ne.2 (by omega);have hnp:0 < n:=by omega
       have lC:m % n < n:=te _ hnp;have HS5:Hid (Nat.gcd n (m % n)=G):=by
        have:=HI.out.1;rw [Nat.gcd_comm,<- Nat.gcd_rec,Nat.gcd_comm];exact this
       go_wp2_with fail
       go_quiet (fail)
       go_wp2_with fail
       go_roundw
       case rel=>exact ⟨n,m % n,rfl,by simp,hn,by omega,hid ⟨HS5.out,HI.out.2.drewN _⟩⟩
       case measure =>
        have e:(m:Int) % n=((m % n:Nat):Int):=by simp
        simp only [intOf];rw [e];omega
end Go.Proofs.YtcepajijiabkmaaGreat
