/- Layer 3 (division): quotients of integers. -/
import Derived.Test.YtcepajijiabkmaaGreatMo38
import Derived.Test.YtcepajijiabkmaaGreatMo35
set_option linter.all false
set_option maxRecDepth 100000
set_option maxHeartbeats 8000000
namespace Go.Proofs.YtcepajijiabkmaaGreat
open Lib (hid)
open Go.RowKit
theorem gbl (x:Value) (z:Int) (L:Nat) (w:World) (h:qo w x z L):Calls Tryz.prog 93 #[x] w fun e w'=>e=.returned (.bool (z == 0))/\Ext w w':=by
 obtain ⟨neg,v,ds,rfl,⟨A,c,rfl,h1,h2,h3⟩,hz,hl⟩:=h;have ay:Hid (Ext w (w.alloc (Obj.cells #[.bool neg,.slice A ds.length c] 30))):=(Ext.refl w).alloc _;have H3:=hid h3;have HZ:=hid hz;clear h3 hz;go_enter Tryz.func93,Tryz.ntmps93;go_wp2_with fail;refine (gav _ z L _ ⟨neg,_,ds,rfl,⟨A,c,rfl,h1,h2,H3.out.ext ay.out⟩,HZ.out,hl⟩).mono ?_;rintro e w2 ⟨rfl,x2⟩;have X2:=hid (ay.out.trans x2);clear x2;have HB:Hid ((sgI z == 0)=(z == 0)):=by
  have:(sgI z == 0)=(z == 0):=by
   unfold sgI;rcases wj z 0 with h | h | h
   · rw [jah h,RM,beq_iff_eq,beq_iff_eq]; omega
   · rw [uaa h,RM,beq_iff_eq,beq_iff_eq]; omega
   · rw [kar h,RM,beq_iff_eq,beq_iff_eq]; omega
  exact this
 generalize sgI z=sz at *;go_wp2_with fail;go_ret;exact ⟨by rw [<- HB.out]; rfl,X2.out⟩
theorem xcz (neg aI:Bool) (m n:Nat):sgn (!neg == aI) (m / n)=(sgn neg m).tdiv (sgn aI n):=by
 cases neg <;> cases aI <;> simp [sgn,Int.neg_tdiv,Int.tdiv_neg]
theorem ycz (neg aI:Bool) (m n:Nat):sgn neg (m % n)=(sgn neg m).tmod (sgn aI n):=by
 have e:((m % n:Nat):Int)=(m:Int).tmod n:=rfl;cases neg <;> cases aI <;> simp only [sgn,Int.neg_tmod,Int.tmod_neg,e,if_true,if_false,PF]
def vcw (q r:Int) (w:World) (e:Ending) (w':World):Prop:=∃ x y,e=.returned (.tuple #[x,y,.int .i64 0])/\qm w' x q/\qm w' y r/\Ext w w'
theorem wcl {w W : World} {g g' : Nat} {q r : Int} {b s b' s' u0 u1 u2 u3 : Value} (hx : Ext w W) (hg : w.heap.size <= g) (hg' : w.heap.size <= g') (au : g ≠ g') (h0 : W.cell? ⟨g, 0, none⟩ = some u0) (h1 : W.cell? ⟨g, 1, none⟩ = some u1)
 (h2:W.cell? ⟨g',0,none⟩=some u2) (h3:W.cell? ⟨g',1,none⟩=some u3) (d0:uo u0=false) (d1:uo u1=false) (d2:uo u2=false) (d3:uo u3=false) (hN:qm W (.agg #[b,s]) q) (hM:qm W (.agg #[b',s']) r) :
 vcw q r w (.returned (.tuple #[.agg #[b,s],.agg #[b',s'],.int .i64 0])) ((((W.setCell ⟨g,0,none⟩ b).setCell ⟨g,1,none⟩ s).setCell ⟨g',0,none⟩ b').setCell ⟨g',1,none⟩ s'):=by
 have k1:(W.setCell ⟨g,0,none⟩ b).cell? ⟨g,1,none⟩=some u1:=by rw [ph _ _ _ _ (by simp),h1]
 have k2:((W.setCell ⟨g,0,none⟩ b).setCell ⟨g,1,none⟩ s).cell? ⟨g',0,none⟩=some u2:=by
  rw [ph _ _ _ _ (by simp),ph _ _ _ _ (by simp),h2]
 have k3:(((W.setCell ⟨g,0,none⟩ b).setCell ⟨g,1,none⟩ s).setCell ⟨g',0,none⟩ b').cell? ⟨g',1,none⟩=some u3:=by
  rw [ph _ _ _ _ (by simp),ph _ _ _ _ (by simp),ph _ _ _ _ (by simp),h3]
 exact ⟨_,_,rfl,(((hN.box h0 d0 _).box k1 d1 _).box k2 d2 _).box k3 d3 _,(((hM.box h0 d0 _).box k1 d1 _).box k2 d2 _).box k3 d3 _,(((hx.setCell (by simpa using hg) _).setCell (by simpa using hg) _).setCell (by simpa using hg') _).setCell (by simpa using hg') _⟩
theorem gdb (x y:Value) (a b:Int) (L M:Nat) (w:World) (h:qo w x a L) (k:qo w y b M) (hs:L<=17592186044416) (yJ:M<=17592186044416) (aX:b ≠ 0) :
 Calls Tryz.prog 92 #[x,y] w (vcw (a.tdiv b) (a.tmod b) w):=by
 obtain ⟨neg,v,ds,rfl,⟨A,c,rfl,h1,h2,h3⟩,hz,hl⟩:=h;obtain ⟨aI,v',ds',rfl,⟨A',c',rfl,jR,mD,kZ⟩,lI,mX⟩:=k;have hd0:val ds' ≠ 0:=by
  intro e;apply aX;rw [lI,e]; cases aI <;> rfl
 have HQ:Hid (a.tdiv b=sgn (!neg == aI) (val ds / val ds')/\a.tmod b=sgn neg (val ds % val ds')):=
  ⟨by rw [hz,lI,xcz],by rw [hz,lI,ycz neg aI]⟩
 rw [HQ.out.1,HQ.out.2];have H3:=hid h3;have nC:=hid kZ;have I9:=hid lI;have CU:(b == 0)=false:=beq_eq_false_iff_ne.2 aX;clear h3 kZ hz lI aX HQ;go_enter Tryz.func92,Tryz.ntmps92;go_wp2_with fail;generalize hW:(((w.alloc (Obj.cells #[.bool neg,.slice A ds.length c] 30)).alloc (Obj.cells #[.bool aI,.slice A' ds'.length c'] 30)).alloc (Obj.cells #[.bool false,.slice none 0 0] 30)).alloc (Obj.cells #[.bool false,.slice none 0 0] 30)=W;have ay:Hid (Ext w W):=by
  have:Ext w W:=by rw [<- hW]; exact ((((Ext.refl w).alloc _).alloc _).alloc _).alloc _
  exact this
 have qG:Hid (W.heap.size=w.heap.size+1+1+1+1):=by
  have:W.heap.size=w.heap.size+1+1+1+1:=by rw [<- hW]; simp
  exact this
 have HS:Hid (∀ W',Ext W W'->(Ext w W'/\W'.cell? ⟨w.heap.size,0,none⟩=some (.bool neg)/\W'.cell? ⟨w.heap.size,1,none⟩=some (.slice A ds.length c)/\W'.cell? ⟨w.heap.size+1,0,none⟩=some (.bool aI)/\W'.cell? ⟨w.heap.size+1,1,none⟩=some (.slice A' ds'.length c'))):=by
  intro W' hx;obtain ⟨hc,hf⟩:=hx.cells;have hsz:=qG.out;refine ⟨ay.out.trans hx,?_,?_,?_,?_⟩ <;> (rw [hc _ _ (by omega),<- hW]; simp [go_sem])
 have HR:Hid (∀ W',Ext W W'->(W'.cell? ⟨w.heap.size+1+1,0,none⟩=some (.bool false)/\W'.cell? ⟨w.heap.size+1+1,1,none⟩=some (.slice none 0 0)/\W'.cell? ⟨w.heap.size+1+1+1,0,none⟩=some (.bool false)/\W'.cell? ⟨w.heap.size+1+1+1,1,none⟩=some (.slice none 0 0)/\W'.frozen? ⟨w.heap.size+1+1,0,none⟩=false/\W'.frozen? ⟨w.heap.size+1+1,1,none⟩=false/\W'.frozen? ⟨w.heap.size+1+1+1,0,none⟩=false/\W'.frozen? ⟨w.heap.size+1+1+1,1,none⟩=false)):=by
  intro W' hx;obtain ⟨hc,hf⟩:=hx.cells;have hsz:=qG.out;refine ⟨?_,?_,?_,?_,?_,?_,?_,?_⟩ <;> first | (rw [hc _ _ (by omega),<- hW]; simp [go_sem]; done) | (rw [hf _ _ (by omega),<- hW]; simp [go_sem]; done)
 have Jg:Hid (∀ W'' v0 v1,Ext W W''->∀ W',W'=(W''.setCell ⟨w.heap.size+1+1,0,none⟩ v0).setCell ⟨w.heap.size+1+1,1,none⟩ v1->(Ext w W'/\W'.cell? ⟨w.heap.size,0,none⟩=some (.bool neg)/\W'.cell? ⟨w.heap.size,1,none⟩=some (.slice A ds.length c)/\W'.cell? ⟨w.heap.size+1,0,none⟩=some (.bool aI)/\W'.cell? ⟨w.heap.size+1,1,none⟩=some (.slice A' ds'.length c'))):=by
  intro W'' v0 v1 hx W' bJ;obtain ⟨s1,c0,c1,c2,c3⟩:=HS.out W'' hx;rw [bJ];refine ⟨(s1.setCell (by simp; try omega) _).setCell (by simp; try omega) _,?_,?_,?_,?_⟩ <;> rw [ph _ _ _ _ (by simp; try omega),ph _ _ _ _ (by simp; try omega)] <;> assumption
 have bC:Hid (∀ W'' v0 v1 v2 v3,Ext W W''->∀ W',W'=(((W''.setCell ⟨w.heap.size+1+1,0,none⟩ v0).setCell ⟨w.heap.size+1+1,1,none⟩ v1).setCell ⟨w.heap.size+1+1+1,0,none⟩ v2).setCell ⟨w.heap.size+1+1+1,1,none⟩ v3->(Ext w W'/\W'.cell? ⟨w.heap.size,0,none⟩=some (.bool neg)/\W'.cell? ⟨w.heap.size,1,none⟩=some (.slice A ds.length c)/\W'.cell? ⟨w.heap.size+1,0,none⟩=some (.bool aI)/\W'.cell? ⟨w.heap.size+1,1,none⟩=some (.slice A' ds'.length c'))):=by
  intro W'' v0 v1 v2 v3 hx W' bJ;obtain ⟨s1,c0,c1,c2,c3⟩:=HS.out W'' hx;rw [bJ];refine ⟨(((s1.setCell (by simp; try omega) _).setCell (by simp; try omega) _).setCell (by simp; try omega) _).setCell (by simp; try omega) _,?_,?_,?_,?_⟩ <;> rw [ph _ _ _ _ (by simp; try omega),ph _ _ _ _ (by simp; try omega),ph _ _ _ _ (by simp; try omega),ph _ _ _ _ (by simp; try omega)] <;> assumption
 clear hW;obtain ⟨e0,b0,b1,b2,b3⟩:=HS.out W (Ext.refl W);refine (gbl _ b M _ ⟨aI,_,ds',rfl,⟨A',c',rfl,jR,mD,nC.out.ext e0⟩,I9.out,mX⟩).mono ?_;rintro e w1 ⟨rfl,y1⟩;have Y1:=hid y1;clear e0 b0 b1 b2 b3;obtain ⟨e0,b0,b1,b2,b3⟩:=HS.out w1 y1;have E0:=hid e0;clear e0 y1;go_wp2_with fail;refine (ubm _ _ ds ds' _ ⟨A,c,rfl,h1,h2,H3.out.ext E0.out⟩ ⟨A',c',rfl,jR,mD,nC.out.ext E0.out⟩ (by omega) (by omega) hd0).mono ?_;rintro e w2 ⟨vq,vr,rfl,nq,nr,x2⟩;have y2:=Y1.out.trans x2;have Y2:=hid y2;have NQ:=hid nq;have NR:=hid nr;have Oz:(dg (val ds / val ds')).length<=17592186044416:=py (wu (paT _ _)) (py (zi H3.out.1) (by omega));have hlr:(dg (val ds % val ds')).length<=17592186044416:=py (wu (Nat.mod_le _ _)) (py (zi H3.out.1) (by omega));clear nq nr x2 y2 b0 b1 b2 b3 hd0;go_wp2_with fail
 go_region_held3 (fun W' => Ext w W' /\ W'.cell? ⟨w.heap.size, 0, none⟩ = some (.bool neg) /\ W'.cell? ⟨w.heap.size, 1, none⟩ = some (.slice A ds.length c) /\ W'.cell? ⟨w.heap.size + 1, 0, none⟩ = some (.bool aI) /\ W'.cell? ⟨w.heap.size + 1, 1, none⟩ = some (.slice A' ds'.length c'))
  (first | exact HS.out _ (Y2.out.drew) | exact HS.out _ (by assumption) | exact Jg.out _ _ _ (by assumption) _ rfl | exact bC.out _ _ _ _ _ (by assumption) _ rfl)
  (first
    | (go_at_call_of 56 (Value.bool (!neg == aI))
       refine (yar _ _ _ _ (NQ.out.ext ((Ext.refl w2).drew)) (by omega)).mono ?_;rw [jg];rintro e w3 ⟨x3,rfl,⟨v3,rfl,A3,c3,rfl,q1,q2,q3⟩,z3⟩;have y3:Ext W w3:=Ext.trans Y2.out.drew z3
       have z3':Ext w2 w3:=Ext.trans (Ext.refl w2).drew z3)
    | (go_at_call_of 56 (Value.bool neg)
       refine (yar _ _ _ _ (NR.out.ext z3') (by omega)).mono ?_;rw [jg];rintro e w4 ⟨x4,rfl,⟨v4,rfl,A4,c4,rfl,p1,p2,p3⟩,z4⟩;have y4:Ext W w4:=Ext.trans y3 z4
       obtain ⟨r0,r1,r2,r3,f0,f1,f2,f3⟩:=HR.out w4 y4))
 have n3:qm w4 (.agg #[.bool (decide (sgn (!neg == aI) (val ds / val ds') < 0)),.slice A3 (dg (sgn (!neg == aI) (val ds / val ds')).natAbs).length c3]) (sgn (!neg == aI) (val ds / val ds')):=qm.ext ⟨_,rfl,A3,c3,rfl,q1,q2,q3⟩ z4;have HF:=hid (wcl (g:=w.heap.size+1+1) (g':=w.heap.size+1+1+1) (ay.out.trans y4) (by omega) (by omega) (by omega) r0 r1 r2 r3 rfl rfl rfl rfl n3 ⟨_,rfl,A4,c4,rfl,p1,p2,p3⟩);clear HS bC Jg HR y3 y4 z3 z3' z4 q3 p3 n3;go_wp2_with fail;exact bodyPost_ret (v:=.tuple #[.agg #[.bool (decide (sgn (!neg == aI) (val ds / val ds') < 0)),.slice A3 (dg (sgn (!neg == aI) (val ds / val ds')).natAbs).length c3],.agg #[.bool (decide (sgn neg (val ds % val ds') < 0)),.slice A4 (dg (sgn neg (val ds % val ds')).natAbs).length c4],.int .i64 0]) (by simp [results,Tryz.results92,go_sem,r0,r1,r2,r3]) rfl HF.out
theorem zbj (v:Value) (n:Nat) (w:World) (h:jc w v (dg n)) (hl:(dg n).length<=2) :
 Calls Tryz.prog 117 #[v] w fun e w'=>e=.returned (.tuple #[.int .u64 (n:Nat),.bool true])/\Ext w w':=by
 go_enter Tryz.func117,Tryz.ntmps117;go_wp2_with fail;refine (uw _ _ _ h).mono ?_;rw [jg];rintro e w' ⟨v',rfl,hv,rfl⟩;clear h;obtain ⟨A,c,rfl,h1,h2,h3⟩:=hv
 by_cases gX:n=0
 · subst gX;rw [zo] at h1 ⊢;clear h3 hl;go_wp2_with fail
   go_ret2
   exact ⟨rfl,Ext.refl w⟩
 · by_cases sG:n < B32
   · rw [ja5 gX sG] at h1 h3 ⊢;obtain ⟨ad,rfl,hb,aj,eH⟩:=h3.at_ 0 (by simp);rw [show ad.add 0=ad from by simp [Addr.add]] at aj
     change w.cell? ad=some (.int .u32 (n:Nat)) at aj
     change n < 4294967296 at eH
     clear h3 hl gX sG;go_wp2_with fail
     go_ret2
     exact ⟨rfl,Ext.refl w⟩
   · have xC:n < B32 * B32:=by
      have h4:=yaf n;have h5:B32 ^ (dg n).length<=B32 ^ 2:=r8 yj hl;rw [show B32 ^ 2=B32 * B32 from by rw [si,paR]] at h5;omega
     obtain ⟨lo,hi,hlo,hhi,hn⟩:∃ lo hi,lo < B32/\hi < B32/\n=lo+B32 * hi:=⟨n % B32,n / B32,tg _ yj,tT xC,(tw _ _).symm⟩;have aaO:hi ≠ 0:=by
      intro e;rw [e,wy] at hn;omega
     have ik:dg n=[lo,hi]:=by rw [hn]; exact wdg lo hi hlo aaO hhi
     rw [ik] at h1 h3 ⊢;obtain ⟨ad,rfl,hb,aj,eH⟩:=h3.at_ 0 (by simp);obtain ⟨ad',e',eP,iF,aa7⟩:=h3.at_ 1 (by simp);injection e' with e'
     subst e';rw [show ad.add 0=ad from by simp [Addr.add]] at aj;rw [show ad.add 1=⟨ad.block,ad.off+1,none⟩ from by simp [Addr.add]] at iF
     change w.cell? ad=some (.int .u32 (lo:Nat)) at aj
     change w.cell? ⟨ad.block,ad.off+1,none⟩=some (.int .u32 (hi:Nat)) at iF
     change lo < 4294967296 at eH
     change hi < 4294967296 at aa7
     have hor:bits .or .u64 ((hi:Int) * 4294967296) lo=(hi:Int) * 4294967296+lo:=by
      have:=u64_or_nat (hi * 4294967296) lo (by omega) (by omega);rw [nat_join 32 (hi * 4294967296) lo (by omega) (by omega)] at this;simpa using this
     have HN:Hid ((hi:Int) * 4294967296+lo=(n:Nat)):=by
      have:(hi:Int) * 4294967296+lo=(n:Nat):=by rw [hn,yh]; omega
      exact this
     clear h3 hl gX sG hn ik xC hlo hhi;go_wp2_with fail
     go_quiet (fail)
     go_wp2_with fail
     go_ret2
     exact ⟨by rw [<- HN.out]; rfl,(Ext.refl w).drewN _⟩
def xb7 (G:Nat) (W:World) (gk:Nat) (s5 s6:Value) (wr:World):Prop:=∃ X Y:Nat,gk=Y/\jc wr s5 (dg X)/\jc wr s6 (dg Y)/\Nat.gcd X Y=G/\(dg X).length<=17592186044416/\(dg Y).length<=17592186044416/\Ext W wr
theorem qdd (x y:Value) (a b:Int) (L M:Nat) (w:World) (h:qo w x a L) (k:qo w y b M) (hs:L<=17592186044416) (yJ:M<=17592186044416) :
 Calls Tryz.prog 90 #[x,y] w (gai (Nat.gcd a.natAbs b.natAbs:Nat) w):=by
 have UI:=h.len;have hLb:=k.len;obtain ⟨neg,v,ds,rfl,⟨A,c,rfl,h1,h2,h3⟩,hz,hl⟩:=h;obtain ⟨aI,v',ds',rfl,⟨A',c',rfl,jR,mD,kZ⟩,lI,mX⟩:=k;have HA:Hid (a.natAbs=val ds):=by rw [hz]; exact qw _ _
 have HB:Hid (b.natAbs=val ds'):=by rw [lI]; exact qw _ _
 rw [HA.out] at UI;rw [HB.out] at hLb;rw [HA.out,HB.out];have H3:=hid h3;have nC:=hid kZ;clear h3 kZ hz lI HA HB;go_enter Tryz.func90,Tryz.ntmps90;go_wp2_with fail;generalize hW:((w.alloc (Obj.cells #[.bool neg,.slice A ds.length c] 30)).alloc (Obj.cells #[.bool aI,.slice A' ds'.length c'] 30)).alloc (Obj.cells #[.bool false,.slice none 0 0] 30)=W;have ay:Hid (Ext w W):=by
  have:Ext w W:=by rw [<- hW]; exact (((Ext.refl w).alloc _).alloc _).alloc _
  exact this
 have qG:Hid (W.heap.size=w.heap.size+1+1+1):=by
  have:W.heap.size=w.heap.size+1+1+1:=by rw [<- hW]; simp
  exact this
 have HS:Hid (∀ W',Ext W W'->(Ext w W'/\W'.cell? ⟨w.heap.size,0,none⟩=some (.bool neg)/\W'.cell? ⟨w.heap.size,1,none⟩=some (.slice A ds.length c)/\W'.cell? ⟨w.heap.size+1,0,none⟩=some (.bool aI)/\W'.cell? ⟨w.heap.size+1,1,none⟩=some (.slice A' ds'.length c'))):=by
  intro W' hx;obtain ⟨hc,hf⟩:=hx.cells;have hsz:=qG.out;refine ⟨ay.out.trans hx,?_,?_,?_,?_⟩ <;> (rw [hc _ _ (by omega),<- hW]; simp [go_sem])
 have HR:Hid (∀ W',Ext W W'->(W'.cell? ⟨w.heap.size+1+1,0,none⟩=some (.bool false)/\W'.cell? ⟨w.heap.size+1+1,1,none⟩=some (.slice none 0 0)/\W'.frozen? ⟨w.heap.size+1+1,0,none⟩=false/\W'.frozen? ⟨w.heap.size+1+1,1,none⟩=false)):=by
  intro W' hx;obtain ⟨hc,hf⟩:=hx.cells;have hsz:=qG.out;refine ⟨?_,?_,?_,?_⟩ <;> first | (rw [hc _ _ (by omega),<- hW]; simp [go_sem]; done) | (rw [hf _ _ (by omega),<- hW]; simp [go_sem]; done)
 have bC:Hid (∀ W'' v0 v1,Ext W W''->∀ W',W'=(W''.setCell ⟨w.heap.size+1+1,0,none⟩ v0).setCell ⟨w.heap.size+1+1,1,none⟩ v1->(Ext w W'/\W'.cell? ⟨w.heap.size,0,none⟩=some (.bool neg)/\W'.cell? ⟨w.heap.size,1,none⟩=some (.slice A ds.length c)/\W'.cell? ⟨w.heap.size+1,0,none⟩=some (.bool aI)/\W'.cell? ⟨w.heap.size+1,1,none⟩=some (.slice A' ds'.length c'))):=by
  intro W'' v0 v1 hx W' bJ;obtain ⟨s1,c0,c1,c2,c3⟩:=HS.out W'' hx;rw [bJ];refine ⟨(s1.setCell (by simp; try omega) _).setCell (by simp; try omega) _,?_,?_,?_,?_⟩ <;> rw [ph _ _ _ _ (by simp; try omega),ph _ _ _ _ (by simp; try omega)] <;> assumption
 clear hW
 go_region_held3 (fun W' => Ext w W' /\ W'.cell? ⟨w.heap.size, 0, none⟩ = some (.bool neg) /\ W'.cell? ⟨w.heap.size, 1, none⟩ = some (.slice A ds.length c) /\ W'.cell? ⟨w.heap.size + 1, 0, none⟩ = some (.bool aI) /\ W'.cell? ⟨w.heap.size + 1, 1, none⟩ = some (.slice A' ds'.length c'))
  (first | exact HS.out _ ((Ext.refl W).drew) | exact HS.out _ (by assumption) | exact bC.out _ _ _ (by assumption) _ rfl)
  (first
    | (go_at_call_of 57 (Value.slice A ds.length c)
       have bQ:=(‹Ext w _/\_›).1;refine (jac _ ds _ ⟨A,c,rfl,h1,h2,H3.out.ext bQ⟩ (by omega)).mono ?_;rintro e w2 ⟨v2,rfl,wG,x2⟩
       have y2:Ext W w2:=Ext.trans ((Ext.refl W).drew) x2)
    | (go_at_call_of 57 (Value.slice A' ds'.length c')
       have bQ:=(‹Ext w _/\_›).1;refine (jac _ ds' _ ⟨A',c',rfl,jR,mD,nC.out.ext bQ⟩ (by omega)).mono ?_;rintro e w3 ⟨v3,rfl,nv3,x3⟩
       have y3:Ext W w3:=Ext.trans y2 x3))
 have kH:Hid (xb7 (Nat.gcd (val ds) (val ds')) W (val ds') v2 v3 w3):=⟨_,_,rfl,wG.ext x3,nv3,rfl,by omega,by omega,y3⟩;clear HS bC wG nv3 x2 x3 y2 y3;generalize Nat.gcd (val ds) (val ds')=G at *;go_wp2_with fail
 go_loopg [5,6] (val ds') (fun gk s5 s6 wr=>Hid (xb7 G W gk s5 s6 wr))
 case atStart=>exact kH
 case round =>
  clear kH;obtain ⟨X,Y,hgk,nx,ny,hg,lx,ly,hx⟩:=hrel.out;have NX:=hid nx;have NY:=hid ny;have HG:=hid hg;have oP:=hid hx;have HGK:=hid hgk;obtain ⟨A5,c5,rfl,i1,i2,i3⟩:=nx;obtain ⟨A6,c6,rfl,j1,j2,j3⟩:=ny;clear hrel hg hx hgk i3 j3
  by_cases zC:2 < (dg X).length\/2 < (dg Y).length
  · have hb:(decide ((2:Int) < ((dg X).length:Int))=true)\/(decide ((2:Int) < ((dg X).length:Int))=false/\decide ((2:Int) < ((dg Y).length:Int))=true):=by
     by_cases h:2 < (dg X).length
     · exact .inl (by simp; omega)
     · exact .inr ⟨by simp; omega,by simp; omega⟩
    clear zC
    by_cases hY:Y=0
    · have oV:(dg Y).length=0:=by rw [hY,zo]; rfl
      rw [oV] at hb ⊢;have hX:decide ((2:Int) < ((dg X).length:Int))=true:=by
       rcases hb with h | ⟨h1,h2⟩
       · exact h
       · simp at h2
      have HXG:Hid (X=G):=by
       have:=HG.out;rw [hY,Nat.gcd_zero_right] at this;exact this
      clear hb oV hY;go_wp2_with fail;refine (yar false _ _ _ NX.out (by omega)).mono ?_;rw [jg,HXG.out,show sgn false G=((G:Nat):Int) from rfl];rintro e w9 ⟨x9,rfl,⟨v9,rfl,A2,c2,rfl,q1,q2,q3⟩,z9⟩;have y9:Ext W w9:=oP.out.trans z9;obtain ⟨r0,r1,f0,f1⟩:=HR.out w9 y9
      change (dg ((G:Nat):Int).natAbs).length<=c2 at q1
      have HF:=hid (yx (g:=w.heap.size+1+1) (z:=((G:Nat):Int)) (u0:=.bool false) (u1:=.slice none 0 0) (ay.out.trans y9) (by omega) r0 r1 rfl rfl ⟨_,rfl,A2,c2,rfl,q1,q2,q3⟩);clear y9 z9 q3;go_wp2_with fail;exact bodyPost_ret (v:=.agg #[.bool (decide (((G:Nat):Int) < 0)),.slice A2 (dg ((G:Nat):Int).natAbs).length c2]) (by simp [results,Tryz.results90,go_sem,r0,r1]) rfl HF.out
    · have oV:0 < (dg Y).length:=ual hY;have ah3:(((dg Y).length:Int) == 0)=false:=beq_eq_false_iff_ne.2 (by omega);have hYp:0 < Y:=TH hY;rcases hb with bF | ⟨bF,dE⟩
      all_goals
       go_wp2_with fail;refine (ubm _ _ _ _ _ NX.out NY.out (by omega) (by omega) (by rw [jg]; exact hY)).mono ?_;rw [jg,jg];rintro e w4 ⟨vq,vr,rfl,nq,nr,x4⟩
       have zV:Hid (xb7 G W (X % Y) (.slice A6 (dg Y).length c6) vr w4):=
        ⟨Y,X % Y,rfl,NY.out.ext x4,nr,by rw [<- HG.out,paB X Y,Nat.gcd_rec Y X,paB],ly,py (wu (Nat.mod_le _ _)) lx,oP.out.trans x4⟩
       have lw:X % Y < Y:=tg _ hYp;clear nq nr x4;go_wp2_with fail
       go_roundg (X % Y)
       case rel=>exact zV
       case measure=>rw [HGK.out]; exact lw
  · have b1:decide ((2:Int) < ((dg X).length:Int))=false:=by simp; omega
    have b2:decide ((2:Int) < ((dg Y).length:Int))=false:=by simp; omega
    have abv:X < 18446744073709551616:=by
     have h4:=yaf X;have h5:B32 ^ (dg X).length<=B32 ^ 2:=r8 yj (by omega);have h6:B32 ^ 2=18446744073709551616:=by decide
     omega
    have abu:Y < 18446744073709551616:=by
     have h4:=yaf Y;have h5:B32 ^ (dg Y).length<=B32 ^ 2:=r8 yj (by omega);have h6:B32 ^ 2=18446744073709551616:=by decide
     omega
    go_wp2_with fail;refine (zbj _ X _ NX.out (by omega)).mono ?_;rintro e w4 ⟨rfl,x4⟩;have X4:=hid x4;clear x4;go_wp2_with fail;refine (zbj _ Y _ (NY.out.ext X4.out) (by omega)).mono ?_;rintro e w5 ⟨rfl,x5⟩;have Y5:=hid (oP.out.trans (X4.out.trans x5));clear x5 X4;go_wp2_with fail
    go_loopw [9,11] (fun mv nv wr=>∃ m n:Nat,mv=.int .u64 m/\nv=.int .u64 n/\m < 18446744073709551616/\n < 18446744073709551616/\Hid (Nat.gcd m n=G/\Ext W wr)) (fun _ nv _=>(intOf nv).toNat)
    case atStart=>exact ⟨X,Y,rfl,rfl,abv,abu,hid ⟨HG.out,Y5.out⟩⟩
    case round =>
     obtain ⟨m,n,rfl,rfl,hm,hn,HI⟩:=hrel
     by_cases gX:n=0
     · subst gX;have HMG:Hid (m=G):=by
        have:=HI.out.1;rw [Nat.gcd_zero_right] at this;exact this
       go_wp2_with fail;refine (uay m _ hm).mono ?_;rw [HMG.out];rintro e w6 ⟨v6,rfl,n6,x6⟩;go_wp2_with fail;refine (yar false _ _ _ n6 ?_).mono ?_
       · have h4:=yf (n:=G) (k:=2) (by (rw [<- HMG.out]; have h6:B32 ^ 2=18446744073709551616:=by decide); omega);omega
       rw [jg,show sgn false G=((G:Nat):Int) from rfl];rintro e w9 ⟨x9,rfl,⟨v9,rfl,A2,c2,rfl,q1,q2,q3⟩,z9⟩;have y9:Ext W w9:=HI.out.2.trans (x6.trans z9);obtain ⟨r0,r1,f0,f1⟩:=HR.out w9 y9
       change (dg ((G:Nat):Int).natAbs).length<=c2 at q1
       have HF:=hid (yx (g:=w.heap.size+1+1) (z:=((G:Nat):Int)) (u0:=.bool false) (u1:=.slice none 0 0) (ay.out.trans y9) (by omega) r0 r1 rfl rfl ⟨_,rfl,A2,c2,rfl,q1,q2,q3⟩);clear y9 z9 q3 x6 n6;go_wp2_with fail;exact bodyPost_ret (v:=.agg #[.bool (decide (((G:Nat):Int) < 0)),.slice A2 (dg ((G:Nat):Int).natAbs).length c2]) (by simp [results,Tryz.results90,go_sem,r0,r1]) rfl HF.out
     · have Ce:((n:Int) != 0)=true:=by simp; omega
       have aaq:((n:Int) == 0)=false:=beq_eq_false_iff_ne.2 (by omega);have hnp:0 < n:=by omega
       have lw:m % n < n:=tg _ hnp;have HS5:Hid (Nat.gcd n (m % n)=G):=by
        have:=HI.out.1;rw [paB,<- Nat.gcd_rec,paB];exact this
       go_wp2_with fail
       go_quiet (fail)
       go_wp2_with fail
       go_roundw
       case rel=>exact ⟨n,m % n,rfl,by simp,hn,by omega,hid ⟨HS5.out,HI.out.2.drewN _⟩⟩
       case measure =>
        have e:(m:Int) % n=((m % n:Nat):Int):=by simp
        simp only [intOf];rw [e];omega
open Go.Shelf
attribute [local go_sem] Oper.semAt_some
theorem vbx {l:Sp} {L:Nat} (h:∀ x ∈ l,(dg x.1.natAbs).length<=L):(dg ((snc l:Nat):Int).natAbs).length<=L:=by
 rw [u5]
 by_cases hx:∃ x ∈ l,x.1 ≠ 0
 · obtain ⟨x,hx,h0⟩:=hx;exact py (wu (wco hx h0)) (h x hx)
 · have:snc l<=0:=qdf l 0 fun x iY=>by
    have:¬ x.1 ≠ 0:=fun h=>hx ⟨x,iY,h⟩
    omega
   rw [show snc l=0 by omega];simp [dg]
theorem qm.kept {W W':World} {row:Option Nat} (hg:W.grownBy W' row) (hr:∀ r,row=some r->∃ o:Obj,W.heap[r]?=some o/\o.isCells=false) {x:Value} {z:Int} (h:qm W x z):qm W' x z:=by
 obtain ⟨v,e,hv⟩:=h;exact ⟨v,e,vau hg hr hv⟩
theorem jr.qaV (T:Nat) (W:World) {u0 u1:Value} (v0 v1:Value) (h0:W.cell? ⟨T,0,none⟩=some u0) (h1:W.cell? ⟨T,1,none⟩=some u1) (d0:uo u0=false) (d1:uo u1=false):jr T W ((W.setCell ⟨T,0,none⟩ v0).setCell ⟨T,1,none⟩ v1):=by
 have k1:(W.setCell ⟨T,0,none⟩ v0).cell? ⟨T,1,none⟩=some u1:=by rw [ph _ _ _ _ (by simp),h1]
 exact ⟨by simp [World.setCell],fun i o hi ho _=>by rw [Below.heap_setCell _ _ _ i hi,Below.heap_setCell _ _ _ i hi]; exact ho,fun _ _ hx=>(hx.box h0 d0 v0).box k1 d1 v1⟩
theorem vc9 {W:World} {T:Nat} {u0 u1 v0 v1:Value} {t:TypeId} (h:W.heap[T]?=some (.cells #[u0,u1] t (0,0))):((W.setCell ⟨T,0,none⟩ v0).setCell ⟨T,1,none⟩ v1).heap[T]?=some (.cells #[v0,v1] t (0,0)):=by
 simp only [World.setCell,RO,h,if_true,paO]
 rfl
theorem vcb {w:World} {v:Value} {l:Sp} (h:SpV w none v l) (hc:qg l=l) (ik:∀ x ∈ l,(dg x.1.natAbs).length<=1099511627776) (hL:(dg (zg l)).length<=1099511627776) (hlen:l.length<=1099511627776):Calls Tryz.prog 69 #[v] w (gai ((snc l:Nat):Int) w):=by
 have nN:=hid ik;have MV:=hid (fun (W':World) (hx:Ext w W')=>wcn (h.ext hx) ik hL hlen);rw [hc] at MV;obtain ⟨A0,k0,rfl,-⟩:=h;obtain ⟨l0,lW⟩:=n_m (l.length);rw [lW] at MV;rw [lW];clear hc ik hL;have nJ:∀ k:Nat,(Fence.wide.depth.isSome=true->1<=k):=fun k h=>by cases h
 obtain ⟨W0,FW⟩:=n_m ((w.alloc (.cells #[.bool false,.slice none 0 0] 30)));have aC:Ext w W0:=by rw [<- FW]; exact (Ext.refl w).alloc _
 have iT:W0.heap.size=w.heap.size+1:=by rw [<- FW]; simp
 have Uj:W0.heap[w.heap.size]?=some (.cells #[.bool false,.slice none 0 0] 30 (0,0)):=by rw [<- FW]; exact heap_alloc_new w _
 have ay:=hid aC;have HBR:=hid Uj;clear aC Uj;refine (callsIn_wide (n:=5)).1 ?_;refine callsIn_of_wp_marks Tryz.func69 rfl trivial ?_ rfl;simp only [Tryz.ntmps69,tB,pH,rK,Nat.reduceAdd,Nat.reduceSub,u7,u6,Pd,wh,tz,rI]
 gi_wp2_with fail
 clear FW;refine ⟨trivial,?_⟩;refine (callsIn_wide.2 (of_int 0 W0 (by omega) (by omega))).mono ?_;rintro e w1 ⟨v1,rfl,i1,x1⟩;obtain ⟨d0,B1,n1,c1,rfl⟩:=i1.unpack;have bW:=x1.size;obtain ⟨W1,aW⟩:=n_m ((w1.alloc (.cells #[.bool d0,.slice B1 n1 c1] 30)));have hx1:Ext w1 W1:=by rw [<- aW]; exact (Ext.refl w1).alloc _
 have rV:W1.heap.size=w1.heap.size+1:=by rw [<- aW]; simp
 have FT:W1.heap[w1.heap.size]?=some (.cells #[.bool d0,.slice B1 n1 c1] 30 (0,0)):=by rw [<- aW]; exact heap_alloc_new w1 _
 have tN:=hid ((ay.out.trans x1).trans hx1);have Gz:=hid FT;have I1:=hid (i1.ext hx1);have Wx:=hid (((x1.trans hx1).below.block _ (by omega)).trans HBR.out);obtain ⟨T,hT⟩:=n_m (w1.heap.size);rw [hT] at Gz rV;have hT0:w.heap.size < T:=by omega
 have hT1:T < W1.heap.size:=by omega
 clear FT i1 x1 hx1 HBR ay
 gi_wp2_with fail
 clear aW hT;refine ⟨trivial,?_⟩;refine (callsIn_wide.2 (MV.out W1 tN.out)).mono ?_;rintro e w2 ⟨B2,v2,rfl,dP,qV,xC,⟨A2,k2,rfl,yQ,hk2,aK⟩,x2⟩;have X2:=hid (tN.out.trans x2);have WI:=hid ((x2.below.block _ (by omega)).trans Gz.out);have BR2:=hid ((x2.below.block _ (by have:=tN.out.size; omega)).trans Wx.out);have I2:=hid (I1.out.ext x2);have jF:=x2.size;have hBT:B2 ≠ T:=by omega
 have hTw:w.heap.size < T:=by omega
 have Uo:∀ ad,A2=some ad->0 < l.length->ad.block ≠ T:=fun ad e hl he=>by
  obtain ⟨ad',b,B,n,c,e2,lJ,⟨h0,h1,h2,-⟩,-⟩:=aK 0 hl;rw [e] at e2;injection e2 with e2
  subst e2;rw [s8] at h2;have hc:=pB (w:=w2) (w':=w2) (a:=⟨(ad.add 0).block,(ad.add 0).off+2,none⟩) rfl;rw [World.cell?] at h2;simp only [ja,he,WI.out] at h2
  revert h2
  split
  · intro h2; cases h2
  · intro h2;obtain ⟨h5,-⟩:=rB.1 h2;simp at h5;omega
 have vT:=hid (fun n=>jbq T yQ hk2 aK Uo (fun x hx=>nN.out x hx) B2 xC hBT dP n);clear x2 dP aK Uo MV tN Gz Wx I1
 gi_wp2_with fail
 refine zbz (by omega) (gf := 52) (lb := #[.pointer (some ⟨B2, 0, none⟩)]) rfl (enters_of Tryz.func52 (by kernel_rfl) rfl) (vT.out _) jr.trans (fun W l o o' _ h1 h2 _ => jr.putObj _ W l o o' h1 h2) (Below.refl _ _) (fun _ => rfl)
  (fun k W=>Ext w W/\w2.heap.size<=W.heap.size/\W.heap[w.heap.size]?=some (.cells #[.bool false,.slice none 0 0] 30 (0,0))/\∃ d B n c,W.heap[T]?=some (.cells #[.bool d,.slice B n c] 30 (0,0))/\qm W (.agg #[.bool d,.slice B n c]) ((snc (l.take k):Nat):Int))
  ?ownI ?startI
  (fun k x a' W=>(∃ g b A n c,a'={ tmps:=#[.slice A0 l0 k0,undef,.pointer (some ⟨w.heap.size,0,none⟩),.pointer (some ⟨T,0,none⟩),undef,.pointer (some ⟨g,0,none⟩),.agg #[.bool d0,.slice B1 n1 c1],.slice A0 l0 k0,.func (.func 52) #[] #[.pointer (some ⟨B2,0,none⟩)],.agg #[.int .i64 x.1.a,.int .i64 x.1.b,.int .i64 x.1.c,.int .i64 x.1.d],x.2,undef,undef,undef,undef],defers:=[] }/\w2.heap.size<=g/\x.2=.agg #[.bool b,.slice A n c]/\W.heap[g]?=some (.cells #[.bool b,.slice A n c] 30 (0,0)))/\(∃ h:k < l.length,qm W x.2 l[k].1)/\Ext w W/\w2.heap.size<=W.heap.size/\W.heap[w.heap.size]?=some (.cells #[.bool false,.slice none 0 0] 30 (0,0))/\∃ d B n c,W.heap[T]?=some (.cells #[.bool d,.slice B n c] 30 (0,0))/\qm W (.agg #[.bool d,.slice B n c]) ((snc (l.take k):Nat):Int))
  ?ownA ?assign ?body ?done
 case ownI =>
  rintro k W W' row ⟨h1,h2,h3,d,B,n,c,h4,h5⟩ hg hr;have eX:=fun r e=>(hr r e).2
  exact ⟨Below.grown h1.below hg h1.size (fun r e=>by have:=(hr r e).1; have:=h1.size; have:=X2.out.size; omega),py h2 hg.size,cells_kept hg eX h3,d,B,n,c,cells_kept hg eX h4,h5.kept hg eX⟩
 case startI=>exact ⟨X2.out,pj _,BR2.out,d0,B1,n1,c1,WI.out,I2.out⟩
 case ownA =>
  rintro k x a' s W W' row ⟨⟨g,b,A,n,c,ha,jQ,dR,sS⟩,⟨hk,hz⟩,h1,h2,h3,d,B,n',c',h4,h5⟩ hg hr;have eX:=fun r e=>(hr r e).2
  exact ⟨⟨g,b,A,n,c,ha,jQ,dR,cells_kept hg eX sS⟩,⟨hk,hz.kept hg eX⟩,Below.grown h1.below hg h1.size (fun r e=>by have:=(hr r e).1; have:=h1.size; have:=X2.out.size; omega),py h2 hg.size,cells_kept hg eX h3,d,B,n',c',cells_kept hg eX h4,h5.kept hg eX⟩
 case assign =>
  rintro lp k ⟨mk,xv⟩ W K hk ⟨h1,h2,h3,d,B,n,c,h4,h5⟩ ⟨lX,hm,hz⟩ hK;dsimp only at hm hz;obtain ⟨b,A,n',c',rfl⟩:=hz.unpack;have hx1:Ext W (W.alloc (.cells #[.bool b,.slice A n' c'] 30)):=(Ext.refl W).alloc _;have hTW:T < W.heap.size:=by omega
  have HK:=hK { tmps:=#[.slice A0 l0 k0,undef,.pointer (some ⟨w.heap.size,0,none⟩),.pointer (some ⟨T,0,none⟩),undef,.pointer (some ⟨W.heap.size,0,none⟩),.agg #[.bool d0,.slice B1 n1 c1],.slice A0 l0 k0,.func (.func 52) #[] #[.pointer (some ⟨B2,0,none⟩)],.agg #[.int .i64 mk.a,.int .i64 mk.b,.int .i64 mk.c,.int .i64 mk.d],.agg #[.bool b,.slice A n' c'],undef,undef,undef,undef],defers:=[] } _ (kat hx1) (jr.xi _ hx1) ⟨⟨W.heap.size,b,A,n',c',rfl,h2,rfl,heap_alloc_new W _⟩,⟨lX,hz.ext hx1⟩,h1.trans hx1,py h2 hx1.size,(hx1.below.block _ (by omega)).trans h3,d,B,n,c,(hx1.below.block _ hTW).trans h4,h5.ext hx1⟩;have PI:=hid HK;clear HK hK h1 h2 h3 h4 h5 hx1 hz hm;simp only [jbv,moV]
  gi_wp2
  exact PI.out
 case body =>
  rintro lp k ⟨mk,xv⟩ a' W hk ⟨⟨g,b,A,n,c,rfl,jQ,rP,dR⟩,⟨lX,hz⟩,h1,h2,h3,d,B,n',c',h4,h5⟩;dsimp only at rP;subst rP;dsimp only at hz;have qC:(dg (((snc (l.take k):Nat):Int)).natAbs).length<=1099511627776:=vbx (fun x hx=>nN.out x (tl hx));have HG:=hid (qdd _ _ _ _ _ _ W h5.raw hz.raw (by omega) (by have:=nN.out _ (pt lX); omega));rw [u5,<- kcy lX] at HG;obtain ⟨m0,m1⟩:=qb6 dR;obtain ⟨t0,t1⟩:=qb6 h4;have H1:=hid h1;have H3:=hid h3;have H4:=hid h4;have hTW:T < W.heap.size:=by omega
  have tf:∀ i,W.frozen? ⟨T,i,none⟩=false:=fun i=>by simp [World.frozen?,h4]
  clear h1 h3 h4 h5 hz dR qC
  gi_wp2_with fail
  clear m0 m1 t0 t1;refine ⟨trivial,?_⟩;refine (callsIn_wide.2 HG.out).mono ?_;rintro e w3 ⟨v3,rfl,i3,x3⟩;obtain ⟨d3,B3,n3,c3,rfl⟩:=i3.unpack;have Ye:=(x3.below.block _ hTW).trans H4.out;obtain ⟨t0,t1⟩:=qb6 Ye;have tf3:∀ i,w3.frozen? ⟨T,i,none⟩=false:=fun i=>by simp [World.frozen?,Ye]
  have Eb:=x3.size;have bT:Hid (∀ V,((w3.setCell ⟨T,0,none⟩ (.bool d3)).setCell ⟨T,1,none⟩ (.slice B3 n3 c3))=V->KeepsFrom w2.heap.size W V/\jr T W V/\Ext w V/\w2.heap.size<=V.heap.size/\V.heap[w.heap.size]?=some (.cells #[.bool false,.slice none 0 0] 30 (0,0))/\∃ d B n c,V.heap[T]?=some (.cells #[.bool d,.slice B n c] 30 (0,0))/\qm V (.agg #[.bool d,.slice B n c]) ((snc (l.take (k+1)):Nat):Int)):=hid (by
   rintro V rfl;have k1:(w3.setCell ⟨T,0,none⟩ (.bool d3)).cell? ⟨T,1,none⟩=some (.slice B n' c'):=by rw [ph _ _ _ _ (by simp),t1]
   have hsz:((w3.setCell ⟨T,0,none⟩ (.bool d3)).setCell ⟨T,1,none⟩ (.slice B3 n3 c3)).heap.size=w3.heap.size:=by simp [World.setCell]
   have QZ:∀ i,i ≠ T->((w3.setCell ⟨T,0,none⟩ (.bool d3)).setCell ⟨T,1,none⟩ (.slice B3 n3 c3)).heap[i]?=w3.heap[i]?:=fun i hi=>by rw [Below.heap_setCell _ _ _ i hi,Below.heap_setCell _ _ _ i hi]
   refine ⟨⟨by omega,fun i o hi ho _=>?_⟩,(jr.xi T x3).trans (jr.qaV T w3 _ _ t0 t1 rfl rfl),((H1.out.trans x3).setCell (by show w.heap.size<=T; omega) _).setCell (by show w.heap.size<=T; omega) _,by omega,?_,d3,B3,n3,c3,vc9 Ye,(i3.box t0 rfl _).box k1 rfl _⟩
   · rw [QZ i (by omega)]; exact (x3.below.block i (rB.1 ho).1).trans ho
   · rw [QZ _ (by omega)]; exact (x3.below.block _ (by omega)).trans H3.out)
  clear i3 x3 Ye HG
  gi_wp2_with fail
  simp only [ga8];exact bT.out _ rfl
 case done =>
  rintro D W hD ⟨h1,h2,h3,d,B,n,c,h4,h5⟩ hK;rw [pQ] at h5;obtain ⟨t0,t1⟩:=qb6 h4;obtain ⟨r0,r1⟩:=qb6 h3;have rf:∀ i,W.frozen? ⟨w.heap.size,i,none⟩=false:=fun i=>by simp [World.frozen?,h3]
  have WR:w.heap.size < W.heap.size:=(rB.1 h3).1;have iw:=hid (yx (g:=w.heap.size) h1 (pj _) r0 r1 rfl rfl h5);have PK:=hid hK;have yD:=X2.out.size;clear h1 h2 h3 h4 h5 hK
  gi_wp2_with fail
  obtain ⟨V,hV⟩:=n_m (((W.setCell ⟨w.heap.size,0,none⟩ (.bool d)).setCell ⟨w.heap.size,1,none⟩ (.slice B n c)));have hDV:V.heap[D]?=some (.deferred (some [])):=by
   rw [<- hV,Below.heap_setCell _ _ _ D (by show D ≠ w.heap.size; omega),Below.heap_setCell _ _ _ D (by show D ≠ w.heap.size; omega)]; exact PK.out
  have c0:V.cell? ⟨w.heap.size,0,none⟩=some (.bool d):=by
   rw [<- hV,ph _ _ _ _ (by simp)]; exact pP _ _ _ r0
  have c1:V.cell? ⟨w.heap.size,1,none⟩=some (.slice B n c):=by
   rw [<- hV]; exact pP _ _ _ (u:=.slice none 0 0) (by rw [ph _ _ _ _ (by simp)]; exact r1)
  have hf:=iw.out;rw [hV] at hf ⊢;obtain ⟨xv,ex,ix,xx⟩:=hf;injection ex with ex
  subst ex;refine ⟨by simp,.inl ⟨_,_,rfl,run_takeDeferred hDV,?_⟩⟩;have jP:=grownBy_putObj' V D (.deferred none);have au:w.heap.size ≠ D:=by omega
  have cc:∀ j,(V.putObj D (.deferred none)).cell? ⟨w.heap.size,j,none⟩=V.cell? ⟨w.heap.size,j,none⟩:=fun j=>pB (World.putObj_heap_other au)
  refine ⟨.agg #[.bool d,.slice B n c],by simp [results,Tryz.results69,go_sem,cc,c0,c1],_,rfl,ix.kept jP (fun r e=>⟨_,by injection e with e; subst e; exact hDV,rfl⟩),Below.grown xx.below jP xx.size (fun k e=>by injection e with e; omega)⟩
end Go.Proofs.YtcepajijiabkmaaGreat

namespace Go.Proofs.YtcepajijiabkmaaGreat
open Lib (hid)
open Go.RowKit
def wb6 (q r:Int) (w:World) (e:Ending) (w':World):Prop:=
 ∃ x,e=.returned (.tuple #[x,.int .i64 (if r=0 then 0 else 3)])/\qm w' x (if r=0 then q else 0)/\Ext w w'
theorem vbe {w W:World} {g:Nat} {q r:Int} {b s u0 u1:Value} (hx:Ext w W) (hg:w.heap.size<=g) (h0:W.cell? ⟨g,0,none⟩=some u0) (h1:W.cell? ⟨g,1,none⟩=some u1) (d0:uo u0=false) (d1:uo u1=false) (n:Int) (hN:qm W (.agg #[b,s]) (if r=0 then q else 0)) (hn:n=if r=0 then 0 else 3) :
 wb6 q r w (.returned (.tuple #[.agg #[b,s],.int .i64 n])) ((W.setCell ⟨g,0,none⟩ b).setCell ⟨g,1,none⟩ s):=by
 have k1:(W.setCell ⟨g,0,none⟩ b).cell? ⟨g,1,none⟩=some u1:=by rw [ph _ _ _ _ (by simp),h1]
 subst hn;exact ⟨_,rfl,(hN.box h0 d0 _).box k1 d1 _,(hx.setCell (by simpa using hg) _).setCell (by simpa using hg) _⟩
theorem ubs (x y:Value) (a b:Int) (L M:Nat) (w:World) (h:qo w x a L) (k:qo w y b M) (hs:L<=17592186044416) (yJ:M<=17592186044416) (aX:b ≠ 0) :
 Calls Tryz.prog 72 #[x,y] w (wb6 (a.tdiv b) (a.tmod b) w):=by
 have H:=hid h;have K:=hid k;obtain ⟨neg,v,ds,rfl,⟨A,c,rfl,-,-,-⟩,-,-⟩:=h;obtain ⟨aI,v',ds',rfl,⟨A',c',rfl,-,-,-⟩,-,-⟩:=k;go_enter Tryz.func72,Tryz.ntmps72;go_wp2_with fail;generalize hW:((w.alloc (Obj.cells #[.bool neg,.slice A ds.length c] 30)).alloc (Obj.cells #[.bool aI,.slice A' ds'.length c'] 30)).alloc (Obj.cells #[.bool false,.slice none 0 0] 30)=W;have ay:Hid (Ext w W):=by
  have:Ext w W:=by rw [<- hW]; exact (((Ext.refl w).alloc _).alloc _).alloc _
  exact this
 have qG:Hid (W.heap.size=w.heap.size+1+1+1):=by
  have:W.heap.size=w.heap.size+1+1+1:=by rw [<- hW]; simp
  exact this
 have HR:Hid (∀ W',Ext W W'->(W'.cell? ⟨w.heap.size+1+1,0,none⟩=some (.bool false)/\W'.cell? ⟨w.heap.size+1+1,1,none⟩=some (.slice none 0 0)/\W'.frozen? ⟨w.heap.size+1+1,0,none⟩=false/\W'.frozen? ⟨w.heap.size+1+1,1,none⟩=false)):=by
  intro W' hx;obtain ⟨hc,hf⟩:=hx.cells;have hsz:=qG.out;refine ⟨?_,?_,?_,?_⟩ <;> first | (rw [hc _ _ (by omega),<- hW]; simp [go_sem]; done) | (rw [hf _ _ (by omega),<- hW]; simp [go_sem]; done)
 clear hW;refine (gdb _ _ a b L M _ (H.out.ext ay.out) (K.out.ext ay.out) hs yJ aX).mono ?_;rintro e w1 ⟨xq,xr,rfl,iq,ir,y1⟩;have Y1:=hid y1;have IQ:=hid iq;have IR:=hid ir;obtain ⟨vq,rfl,Aq,cq,rfl,-⟩:=iq;obtain ⟨vr,rfl,Ar,cr,rfl,-⟩:=ir;clear y1 H K;generalize a.tdiv b=q at *;generalize a.tmod b=r at *;go_wp2_with fail;have x2:Ext w1 ((w1.alloc (Obj.cells #[.bool (decide (q < 0)),.slice Aq (dg q.natAbs).length cq] 30)).alloc (Obj.cells #[.bool (decide (r < 0)),.slice Ar (dg r.natAbs).length cr] 30)):=((Ext.refl w1).alloc _).alloc _;have q0:∀ i,((w1.alloc (Obj.cells #[.bool (decide (q < 0)),.slice Aq (dg q.natAbs).length cq] 30)).alloc (Obj.cells #[.bool (decide (r < 0)),.slice Ar (dg r.natAbs).length cr] 30)).cell? ⟨w1.heap.size,i,none⟩=(#[Value.bool (decide (q < 0)),.slice Aq (dg q.natAbs).length cq])[i]?:=by intro i; simp [go_sem]
 have oW:w1.heap.size < ((w1.alloc (Obj.cells #[.bool (decide (q < 0)),.slice Aq (dg q.natAbs).length cq] 30)).alloc (Obj.cells #[.bool (decide (r < 0)),.slice Ar (dg r.natAbs).length cr] 30)).heap.size:=by simp; omega
 generalize (w1.alloc (Obj.cells #[.bool (decide (q < 0)),.slice Aq (dg q.natAbs).length cq] 30)).alloc (Obj.cells #[.bool (decide (r < 0)),.slice Ar (dg r.natAbs).length cr] 30)=w2 at *;refine (gbl _ r _ w2 ((IR.out.ext x2).raw)).mono ?_;rintro e w3 ⟨rfl,x3⟩;have c0:w3.cell? ⟨w1.heap.size,0,none⟩=some (.bool (decide (q < 0))):=(x3.cell (p:=⟨w1.heap.size,0,none⟩) oW).trans (q0 0);have c1:w3.cell? ⟨w1.heap.size,1,none⟩=some (.slice Aq (dg q.natAbs).length cq):=(x3.cell (p:=⟨w1.heap.size,1,none⟩) oW).trans (q0 1);obtain ⟨r0,r1,f0,f1⟩:=HR.out w3 (Y1.out.trans (x2.trans x3));have rQ:=ay.out.trans (Y1.out.trans (x2.trans x3))
 by_cases hr:r=0
 · have HF:=hid (vbe (q:=q) (r:=r) (g:=w.heap.size+1+1) rQ (by omega) r0 r1 rfl rfl 0 (by rw [if_pos hr]; exact IQ.out.ext (x2.trans x3)) (by rw [if_pos hr]));have J6:(r == 0)=true:=by simpa using hr
   rw [J6];clear x2 x3 rQ hr J6 q0 IR IQ;go_wp2_with fail;exact bodyPost_ret (v:=.tuple #[.agg #[.bool (decide (q < 0)),.slice Aq (dg q.natAbs).length cq],.int .i64 0]) (by simp [results,Tryz.results72,go_sem,r0,r1]) rfl HF.out
 · have HF:=hid (vbe (q:=q) (r:=r) (g:=w.heap.size+1+1) (b:=.bool false) (s:=.slice none 0 0) rQ (by omega) r0 r1 rfl rfl 3 (by rw [if_neg hr]; exact ⟨_,rfl,by show jc _ _ (dg 0); rw [zo]; exact jc.nil _⟩) (by rw [if_neg hr]));have J6:(r == 0)=false:=by simpa using hr
   rw [J6];clear x2 x3 rQ hr J6 q0 IR IQ;go_wp2_with fail;exact bodyPost_ret (v:=.tuple #[.agg #[.bool false,.slice none 0 0],.int .i64 3]) (by simp [results,Tryz.results72,go_sem,r0,r1]) rfl HF.out
theorem yam (d:Int) (l:Sp):(kz d l).length=l.length:=by unfold kz; rw [pw]
theorem kcz (d:Int) (l:Sp) (k:Nat) (h:k < l.length) (h':k < (kz d l).length):(kz d l)[k]=(l[k].1.tdiv d,l[k].2):=by simp [kz]
theorem xdb (z:Int):decide (sgI z < 0)=decide (z < 0):=by
 unfold sgI uh
 split
 · simp_all
 · split
   · simp; omega
   · simp; omega
theorem jcz {l:Sp} (h:0 < l.length):sdv l=if l[0].1 < 0 then -(snc l:Int) else (snc l:Int):=by
 cases l with
 | nil=>simp at h
 | cons x r=>rfl
theorem jdf {l:Sp} {D:Nat} (h:∀ x ∈ l,(dg x.1.natAbs).length<=D) (hl:l ≠ []):(dg (sdv l).natAbs).length<=D:=by
 have:=vbx h;rw [u5] at this;rw [xbo hl]; exact this
theorem wbw {w:World} {l:Sp} {D:Nat} (v:Value) (h:SpV w none v l) (pV:qg l=l) (ik:∀ x ∈ l,(dg x.1.natAbs).length<=D) (wS:∀ x ∈ l,x.1 ≠ 0) (Kw:(dg (zg l)).length<=D) (hlen:l.length<=1099511627776) (hD:D<=1099511627776):Calls Tryz.prog 43 #[v] w (wa5 (ssn l) w):=by
 have HV:=hid h;obtain ⟨A0,c0,rfl,-,-,-⟩:=h;have nN:=hid ik;have HNZ:=hid wS;have SK:∀ z:Int,(∃ x ∈ l,x.1=z)->(none:Option Nat).getD (dg z.natAbs).length<=D:=fun z ⟨x,hx,e⟩=>by rw [<- e]; exact ik x hx
 have Ez:=hid (ua7 D HV.out SK (by omega) hlen);rw [pV] at Ez;have EG:=hid (fun (W':World) (u:Value) (hu:SpV W' none u l)=>vcb hu pV (fun x hx=>by have:=ik x hx; omega) (by omega) hlen);have MX:=hid (And.intro pV Kw);clear SK pV Kw ik wS;go_enter Tryz.func43,Tryz.ntmps43;go_wp2_with fail;refine Ez.out.mono ?_;rintro e w2 ⟨v2,rfl,s2,x2⟩;obtain ⟨A2,c2,rfl,dP,Oy,-⟩:=id s2.1;have S2:=hid s2;have X2:=hid x2;have jF:=x2.size;clear Ez s2 x2
 by_cases hl:l.length=0
 · have HF:Hid (SpV w2 none (.slice A2 l.length c2) (ssn l)):=hid (by
    have:l=[]:=rT hl;subst this
    exact S2.out.1)
   rw [hl] at HF ⊢;clear hl;go_wp2_with fail;go_ret;exact ⟨_,rfl,HF.out,X2.out⟩
 have lW:¬ (l.length:Int)=0:=by omega
 have Fq:0 < l.length:=by omega
 have jM:l ≠ []:=fun e=>by rw [e] at Fq; simp at Fq
 go_wp2_with fail;refine (EG.out _ _ S2.out.1).mono ?_;rintro e w3 ⟨v3,rfl,i3,x3⟩;obtain ⟨b3,B3,n3,d3,rfl⟩:=i3.unpack;obtain ⟨W,hW⟩:=n_m ((w3.alloc (.cells #[.bool b3,.slice B3 n3 d3] 30)));obtain ⟨o,ho⟩:=n_m (w3.heap.size);have qJ:Ext w3 W:=by rw [<- hW]; exact (Ext.refl w3).alloc _
 have o0:W.cell? ⟨o,0,none⟩=some (.bool b3)/\W.cell? ⟨o,1,none⟩=some (.slice B3 n3 d3)/\(∀ i,W.frozen? ⟨o,i,none⟩=false):=by rw [<- hW,<- ho]; exact ⟨by simp [go_sem],by simp [go_sem],fun i=>by simp [go_sem]⟩
 have iW:qm W (.agg #[.bool b3,.slice B3 n3 d3]) ((snc l:Nat):Int):=i3.ext qJ;have Zj:∀ W',Ext w2 W'->SpO w.heap.size W' (.slice A2 l.length c2) l:=fun W' hx=>by
  refine ⟨S2.out.1.ext hx,fun hp=>?_⟩;obtain ⟨g',c',e,h4,h5,h6⟩:=S2.out.2 hp;exact ⟨g',c',e,h4,px h5 hx.size,fun i hi=>(hx.frozen (p:=⟨g',i,none⟩) h5).trans (h6 i hi)⟩
 obtain ⟨g,cg,eg,Il,lL,Tn⟩:=S2.out.2 Fq;injection eg with e1 e2 e3
 subst e1 e3;have CE:g < o:=by have:=x3.size; omega
 have aca:w2.heap.size<=o:=by have:=x3.size; omega
 have how:o < W.heap.size:=by rw [<- hW]; simp; omega
 have Dk:=hid (x3.trans qJ);have SOW:=hid Zj;have IW:=hid iW;have HO0:=hid o0;obtain ⟨Aq,cq,e,-,-,aK⟩:=(Zj W (x3.trans qJ)).1;injection e with e1 e2' e3
 subst e1 e3;obtain ⟨ad,bz,Bz,nz,dz,e,ah,kL,eu⟩:=aK 0 Fq;injection e with e
 subst e;rw [uu,ri] at kL;obtain ⟨t0,t1,-⟩:=kL;simp only [s8,ri] at t0 t1;have IZ:=hid (show qm W (.agg #[.bool bz,.slice Bz nz dz]) l[0].1 from eu);have HSD:=hid (jcz Fq);have Vq:=hid (jdf nN.out jM);obtain ⟨z0,iV⟩:=n_m (l[0].1);rw [iV] at IZ HSD;have HZ0:=hid iV;have ajr:¬ g=o:=by omega
 clear i3 x3 qJ o0 iW Zj e2 e2' aK eu ah iV;go_wp2_with fail
 try rw [ho]
 clear hW ho t0 t1;refine (gav _ z0 _ W IZ.out.raw).mono ?_;rintro e w4 ⟨rfl,x4⟩;have WZ:=xdb z0;obtain ⟨p0,p1,pf⟩:=HO0.out;have kD:w4.cell? ⟨o,0,none⟩=some (.bool b3):=(x4.cell (p:=⟨o,0,none⟩) how).trans p0;have Hf:w4.cell? ⟨o,1,none⟩=some (.slice B3 n3 d3):=(x4.cell (p:=⟨o,1,none⟩) how).trans p1;have pW:∀ i,w4.frozen? ⟨o,i,none⟩=false:=fun i=>(x4.frozen (p:=⟨o,i,none⟩) how).trans (pf i)
 have I4:=hid (IW.out.ext x4);have X4:=hid (Dk.out.trans x4);have nG:o < w4.heap.size:=by have:=x4.size; omega
 clear x4 p0 p1 pf HO0 IW Dk IZ
 by_cases vC:z0 < 0
 case' pos =>
  have hd:decide (sgI z0 < 0)=true:=by rw [WZ]; simpa using vC
  have NH:Hid (-((snc l:Nat):Int)=sdv l):=hid (by rw [HSD.out,if_pos vC]);have Nl:=hid (qdc _ _ _ w4 I4.out.raw (by have:=vbx nN.out; omega));rw [NH.out] at Nl;generalize sgI z0=sg at *;clear vC WZ;go_wp2_with fail;refine Nl.out.mono ?_;rintro e w5 ⟨v5,rfl,i5,x5⟩;obtain ⟨bd,Bd,nd,dd,rfl⟩:=i5.unpack;have hr0:=(x5.cell (p:=⟨o,0,none⟩) nG).trans kD;have nS:=(x5.cell (p:=⟨o,1,none⟩) nG).trans Hf;have J4:∀ i,w5.frozen? ⟨o,i,none⟩=false:=fun i=>(x5.frozen (p:=⟨o,i,none⟩) nG).trans (pW i)
  obtain ⟨V,hV⟩:=n_m (((w5.setCell ⟨o,0,none⟩ (.bool bd)).setCell ⟨o,1,none⟩ (.slice Bd nd dd)));have k1:(w5.setCell ⟨o,0,none⟩ (.bool bd)).cell? ⟨o,1,none⟩=some (.slice B3 n3 d3):=by rw [ph _ _ _ _ (by simp),nS]
  have HS:Hid (Ext w2 V/\(V.cell? ⟨o,0,none⟩=some (.bool bd)/\V.cell? ⟨o,1,none⟩=some (.slice Bd nd dd))/\qm V (.agg #[.bool bd,.slice Bd nd dd]) (sdv l)):=hid (by
   have h2o:w2.heap.size<=o:=aca;rw [<- hV]
   exact ⟨((X4.out.trans x5).setCell h2o _).setCell h2o _,⟨by rw [ph _ _ _ _ (by simp)]; exact pP _ _ _ hr0,pP _ _ _ k1⟩,(i5.box hr0 rfl _).box k1 rfl _⟩)
  have x5s:=x5.size;clear kD Hf pW i5 x5 k1 Nl;have hwo:o < V.heap.size:=by rw [<- hV]; simp only [World.setCell,Uq]; have:=x5s; omega
  go_wp2_with fail;clear hV hr0 nS J4
 case' neg =>
  have hd:decide (sgI z0 < 0)=false:=by rw [WZ]; simpa using vC
  have NH:Hid (((snc l:Nat):Int)=sdv l):=hid (by rw [HSD.out,if_neg vC]);rw [NH.out] at I4;generalize sgI z0=sg at *;clear vC WZ;obtain ⟨V,rfl⟩:∃ V,V=w4:=⟨_,rfl⟩;obtain ⟨bd,rfl⟩:∃ x,x=b3:=⟨_,rfl⟩;obtain ⟨Bd,rfl⟩:∃ x,x=B3:=⟨_,rfl⟩;obtain ⟨nd,rfl⟩:∃ x,x=n3:=⟨_,rfl⟩;obtain ⟨dd,rfl⟩:∃ x,x=d3:=⟨_,rfl⟩;have HS:=hid (And.intro X4.out (And.intro (And.intro kD Hf) I4.out));have hwo:=nG;clear kD Hf pW;go_wp2_with fail
 all_goals
  have lw:∀ k,((kz (sdv l) l).take k ++ l.drop k).length=l.length:=fun k=>zbp (yam _ l) k
  have Bc:=hid lw;have ah7:=X2.out.size
  go_loopw [24] (fun iv wr=>∃ k:Nat,k<=l.length/\iv=.int .i64 k/\Hid (SpO w.heap.size wr (.slice (some ⟨g,0,none⟩) l.length c2) ((kz (sdv l) l).take k ++ l.drop k)/\Ext w wr/\V.heap.size<=wr.heap.size/\(wr.cell? ⟨o,0,none⟩=some (.bool bd)/\wr.cell? ⟨o,1,none⟩=some (.slice Bd nd dd))/\qm wr (.agg #[.bool bd,.slice Bd nd dd]) (sdv l))) (fun iv _=>l.length - (intOf iv).toNat)
  case atStart=>exact ⟨0,pZ _,rfl,hid ⟨by simpa using SOW.out _ HS.out.1,X2.out.trans HS.out.1,pj _,HS.out.2.1,HS.out.2.2⟩⟩
  case round =>
   obtain ⟨k,hk,rfl,HI⟩:=hrel
   by_cases af:k < l.length
   · obtain ⟨WY,iR,hvs,⟨r0,r1⟩,hdiv⟩:=HI.out;have hlen:=Bc.out k;obtain ⟨Aq,cq,e,-,-,aK⟩:=WY.1;rw [hlen] at e;injection e with e1 e2 e3
     subst e1 e3;obtain ⟨g',c',e,CG,KO,KP⟩:=WY.2 (by rw [hlen]; omega);rw [hlen] at e;injection e with e1 e2' e3
     injection e1 with e1
     injection e1 with e1
     subst e1 e3;obtain ⟨ad,b0,B0,n0,d0,e,ah,kL,eu⟩:=aK k (by rw [hlen]; exact af);injection e with e
     subst e;rw [ybp (yam _ l) k af] at kL eu;rw [uu,ri] at kL;obtain ⟨t0,t1,-⟩:=kL;simp only at t0 t1;have hq6:(⟨g,0,none⟩:Addr).add (k * 6)=⟨g,k * 6,none⟩:=by rw [uu,ri]
     have bI:=KP (k * 6) (by rw [hlen]; omega);have jQ:=KP (k * 6+1) (by rw [hlen]; omega);have SI:k < (kz (sdv l) l).length:=by rw [yam]; exact af
     have dS:=hid (jce (yam (sdv l) l) k af SI);rw [kcz _ l k af] at dS;have HGT:=hid (ybp (yam (sdv l) l) k af (by rw [hlen]; exact af));have hdk:=nN.out l[k] (pt af);have hzk:=HNZ.out l[k] (pt af);have TL:=uba l[k] (pt af);have QL:=wbx HNZ.out;have qC:=Vq.out;have mJ:=hid (fun W' (hx:Ext wr W')=>ubs (.agg #[.bool b0,.slice B0 n0 d0]) (.agg #[.bool bd,.slice Bd nd dd]) l[k].1 (sdv l) _ _ W' (qm.raw (qm.ext (show qm wr (.agg #[.bool b0,.slice B0 n0 d0]) l[k].1 from eu) hx)) (qm.raw (hdiv.ext hx)) (by omega) (by omega) QL);rw [Int.tmod_eq_zero_of_dvd TL] at mJ;obtain ⟨z,hz⟩:=n_m (l[k].1);rw [hz] at mJ dS;obtain ⟨q,hq⟩:=n_m (z.tdiv (sdv l));rw [hq] at mJ dS;have Hw:Hid ((((kz (sdv l) l).take k ++ l.drop k).set k (q,(((kz (sdv l) l).take k ++ l.drop k)[k]'(by rw [hlen]; exact af)).2))=(kz (sdv l) l).take (k+1) ++ l.drop (k+1)):=hid (by rw [HGT.out]; exact dS.out);have ajq:g ≠ o:=by omega
     have jI:o < wr.heap.size:=by omega
     have bZ:Hid (∀ (w3:World) (x3:Value),qm w3 x3 q->Ext wr w3->∃ b3 A3 n3 c3,x3=.agg #[.bool b3,.slice A3 n3 c3]/\(w3.cell? ⟨o,0,none⟩=some (.bool bd)/\w3.cell? ⟨o,1,none⟩=some (.slice Bd nd dd))/\(w3.cell? ⟨g,k * 6,none⟩=some (.bool b0)/\w3.cell? ⟨g,k * 6+1,none⟩=some (.slice B0 n0 d0)/\w3.frozen? ⟨g,k * 6,none⟩=false/\w3.frozen? ⟨g,k * 6+1,none⟩=false)/\(SpO w.heap.size ((w3.setCell ⟨g,k * 6,none⟩ (.bool b3)).setCell ⟨g,k * 6+1,none⟩ (.slice A3 n3 c3)) (.slice (some ⟨g,0,none⟩) l.length c2) ((kz (sdv l) l).take (k+1) ++ l.drop (k+1))/\Ext w ((w3.setCell ⟨g,k * 6,none⟩ (.bool b3)).setCell ⟨g,k * 6+1,none⟩ (.slice A3 n3 c3))/\V.heap.size<=((w3.setCell ⟨g,k * 6,none⟩ (.bool b3)).setCell ⟨g,k * 6+1,none⟩ (.slice A3 n3 c3)).heap.size/\(((w3.setCell ⟨g,k * 6,none⟩ (.bool b3)).setCell ⟨g,k * 6+1,none⟩ (.slice A3 n3 c3)).cell? ⟨o,0,none⟩=some (.bool bd)/\((w3.setCell ⟨g,k * 6,none⟩ (.bool b3)).setCell ⟨g,k * 6+1,none⟩ (.slice A3 n3 c3)).cell? ⟨o,1,none⟩=some (.slice Bd nd dd))/\qm ((w3.setCell ⟨g,k * 6,none⟩ (.bool b3)).setCell ⟨g,k * 6+1,none⟩ (.slice A3 n3 c3)) (.agg #[.bool bd,.slice Bd nd dd]) (sdv l))):=hid (by
      intro w3 x3 hn hx;obtain ⟨b3,A3,n3,c3,rfl⟩:=hn.unpack;have ev:∀ i,w3.cell? ⟨g,i,none⟩=wr.cell? ⟨g,i,none⟩:=fun i=>hx.cell (p:=⟨g,i,none⟩) KO
      have eo:∀ i,w3.cell? ⟨o,i,none⟩=wr.cell? ⟨o,i,none⟩:=fun i=>hx.cell (p:=⟨o,i,none⟩) jI
      have ZQ:SpO w.heap.size w3 (.slice (some ⟨g,0,none⟩) ((kz (sdv l) l).take k ++ l.drop k).length c2) ((kz (sdv l) l).take k ++ l.drop k):=by
       have h3:=HI.out.1;rw [<- hlen] at h3;refine ⟨h3.1.ext hx,fun hp=>?_⟩;obtain ⟨g',c',e,h4,h5,h6⟩:=h3.2 hp;exact ⟨g',c',e,h4,px h5 hx.size,fun i hi=>(hx.frozen (p:=⟨g',i,none⟩) h5).trans (h6 i hi)⟩
      have hs:=ZQ.xD k (by rw [hlen]; exact af) hn;rw [Hw.out,hlen] at hs;have Oc:∀ i,((w3.setCell ⟨g,k * 6,none⟩ (.bool b3)).setCell ⟨g,k * 6+1,none⟩ (.slice A3 n3 c3)).cell? ⟨o,i,none⟩=w3.cell? ⟨o,i,none⟩:=fun i=>pB (a:=⟨o,i,none⟩) (by rw [Below.heap_setCell _ _ _ o (by show o ≠ g; omega),Below.heap_setCell _ _ _ o (by show o ≠ g; omega)])
      have SY:=HI.out.2.2.2.2;obtain ⟨y,ey,hy⟩:=SY.ext hx
      refine ⟨b3,A3,n3,c3,rfl,⟨(eo 0).trans r0,(eo 1).trans r1⟩,⟨(ev _).trans t0,(ev _).trans t1,(hx.frozen (p:=⟨g,k * 6,none⟩) KO).trans bI,(hx.frozen (p:=⟨g,k * 6+1,none⟩) KO).trans jQ⟩,hs.1,((iR.trans hx).setCell Il _).setCell Il _,by simp only [World.setCell,Uq]; have:=hx.size; omega,⟨(Oc 0).trans ((eo 0).trans r0),(Oc 1).trans ((eo 1).trans r1)⟩,y,ey,hs.2 _ _ hy⟩)
     have y0:Ext wr wr.drew:=(Ext.refl wr).drew;have Y0:=hid y0;clear WY iR aK eu ah KP dS HGT hz hq Hw TL hzk hdk qC QL hdiv y0 e2 e2' SI HI lw;go_upto_region 10 with fail
     go_region_law (first
      | (go_simp
         go_at_call 72
         refine (mJ.out _ Y0.out).mono ?_;rintro e w3 ⟨x3,rfl,Qh,y3⟩;rw [if_pos rfl] at Qh;rw [if_pos rfl];obtain ⟨b3,A3,n3,c3,rfl,⟨G0,G1⟩,⟨T0,T1,TF0,TF1⟩,aT⟩:=bZ.out _ _ Qh (Y0.out.trans y3);have bT:=hid aT
         clear Qh y3 aT))
     all_goals
      clear G0 G1 T0 T1 TF0 TF1 r0 r1 t0 t1 bZ bI jQ mJ;go_wp2_with fail
      go_roundw
      case rel=>exact ⟨k+1,by omega,by go_num,bT.out⟩
      case measure=>simp [intOf]; omega
   · have dh:k=l.length:=by omega
     have HF:Hid (SpV wr none (.slice (some ⟨g,0,none⟩) l.length c2) (ssn l)/\Ext w wr):=hid (by
      have h1:=HI.out.1.1;rw [dh,paG,sq,<- yam (sdv l) l,pQ] at h1;rw [yam] at h1
      exact ⟨h1,HI.out.2.1⟩)
     clear HI dh lw;go_wp2_with fail;go_ret;exact ⟨_,rfl,HF.out⟩
theorem gda {w:World} {q:Nat->Prop} {p:Pl} {E D:Nat} (v:Value) (h0:PlV w q p v) (hp:Fit p E D) (hE:E<=170) (hD:D<=1099511627776):Calls Tryz.prog 60 #[v] w (uf (fun b=>w.heap.size<=b) (snP p) w):=by
 have H0:=hid h0;obtain ⟨A0,m0,e0,B0,f0,rfl,-⟩:=h0.open_;obtain ⟨Eo,W,gI,jH,iT,aC,bW,hx1,aX,hz⟩:=b_y w p (.slice A0 m0 e0) (.slice B0 p.cs.length f0);have HZ:=hid hz;have HX:=hid (aC.trans hx1);have dJ:=hid aX;have fZ:W.heap.size=w.heap.size+1+1:=bW;clear h0 aC hx1 aX hz;have HT:=hid (fun (W':World) (hx:Ext w W')=>ucn p _ (H0.out.ext hx) (hp.small hE) (by have:=hp.dm; omega));have ZR:=py hp.Ke (kbo (show E<=900 by omega));have HS:=hid (fun (W':World) (u:Value) (hu:SpV W' none u p.sp)=>wbw u hu p.vl hp.qaC (jav _ p.js) (yf hp.vy) (by omega) hD);have HO:=hid (fun (W':World) (u:Value) (hu:SpV W' none u (snP p).sp)=>qcd u hu (uam hp) (by omega) (by omega));obtain ⟨b0,b1,b2,b3⟩:=dJ.out;unfold plV at HT ⊢;clear hp ZR;go_enter Tryz.func60,Tryz.ntmps60;go_wp2_with fail;clear gI jH;clear b0 b1 b2 b3;refine (HT.out _ HX.out).mono ?_;rintro e w1 ⟨v1,rfl,s1,x1⟩;have hs:=HS.out _ _ (show SpV w1 none v1 p.sp from s1);obtain ⟨A1,c1,rfl,-⟩:=s1;have X1:=hid (HX.out.trans x1);have eY:=hid (HZ.out.ext x1 (by omega));have bW:=x1.size;clear x1 HT HZ;go_wp2_with fail;refine hs.mono ?_;rintro e w2 ⟨v2,rfl,s2,x2⟩;have ho:=HO.out _ _ (by rw [zcp]; exact s2);obtain ⟨A2,c2,rfl,-⟩:=s2;have X2:=hid (X1.out.trans x2);have og:=hid (eY.out.ext x2 (by omega));have jF:=x2.size;clear x2 hs eY;go_wp2_with fail;refine ho.mono ?_;rintro e w3 ⟨v3,rfl,p3,x3⟩;obtain ⟨C0,j0,k0,C1,k1,rfl,-⟩:=id p3.open_;have aS:=og.out.ext x3 (by omega);have iw:=hid (qf (q':=fun b=>w.heap.size<=b) (X2.out.trans x3) (by omega) aS p3 (fun b _ hb=>⟨by omega,by omega⟩));obtain ⟨⟨z0,z1,z2,z3⟩,zf⟩:=aS;obtain ⟨P,hP⟩:=n_m (snP p);rw [hP] at iw ⊢;have Dy:=hid hP;clear p3 x3 ho hP HO;unfold plV;go_wp2_with fail;obtain ⟨v9,e9,q3,q4⟩:=iw.out;injection e9 with e9
 subst e9;exact bodyPost_ret (v:=plV P (.slice C0 j0 k0) (.slice C1 P.cs.length k1)) (by simp [results,Tryz.results60,go_sem,z0,z1,z2,z3,plV]) rfl (by rw [Dy.out]; exact ⟨_,rfl,q3,q4⟩)
end Go.Proofs.YtcepajijiabkmaaGreat
