/- Layer 3 (division): quotients of integers. -/
import Derived.Test.YtcepajijiabkmaaGreatDivD
import Derived.Test.YtcepajijiabkmaaGreatMq5
set_option linter.unusedSimpArgs false
set_option linter.unusedVariables false
set_option maxRecDepth 100000
set_option maxHeartbeats 8000000
namespace Go.Proofs.YtcepajijiabkmaaGreat
open Lib (hid)
open Go.RowKit
theorem jbg (x:Value) (z:Int) (L:Nat) (w:World) (h:qm w x z L):Calls Tryz.prog 93 #[x] w fun e w'=>e=.returned (.bool (z == 0))/\Ext w w':=by
 obtain ⟨neg,v,ds,rfl,⟨A,c,rfl,h1,h2,h3⟩,hz,hl⟩:=h;have ay:Hid (Ext w (w.alloc (Obj.cells #[.bool neg,.slice A ds.length c] 30))):=(Ext.refl w).alloc _;have H3:=hid h3;have HZ:=hid hz;clear h3 hz;go_enter Tryz.func93,Tryz.ntmps93;go_wp2_with fail;refine (uas _ z L _ ⟨neg,_,ds,rfl,⟨A,c,rfl,h1,h2,H3.out.ext ay.out⟩,HZ.out,hl⟩).mono ?_;rintro e w2 ⟨rfl,x2⟩;have X2:=hid (ay.out.trans x2);clear x2;have HB:Hid ((sgI z == 0)=(z == 0)):=by
  have:(sgI z == 0)=(z == 0):=by
   unfold sgI;rcases Int.lt_trichotomy z 0 with h | h | h
   · rw [uae h,Bool.eq_iff_iff,beq_iff_eq,beq_iff_eq]; omega
   · rw [uz h,Bool.eq_iff_iff,beq_iff_eq,beq_iff_eq]; omega
   · rw [qao h,Bool.eq_iff_iff,beq_iff_eq,beq_iff_eq]; omega
  exact this
 generalize sgI z=sz at *;go_wp2_with fail;go_ret;exact ⟨by rw [<- HB.out]; rfl,X2.out⟩
theorem xcq (neg aG:Bool) (m n:Nat):sgn (!neg == aG) (m / n)=(sgn neg m).tdiv (sgn aG n):=by
 cases neg <;> cases aG <;> simp [sgn,Int.neg_tdiv,Int.tdiv_neg]
theorem ycq (neg aG:Bool) (m n:Nat):sgn neg (m % n)=(sgn neg m).tmod (sgn aG n):=by
 have e:((m % n:Nat):Int)=(m:Int).tmod n:=rfl;cases neg <;> cases aG <;> simp only [sgn,Int.neg_tmod,Int.tmod_neg,e,if_true,if_false,Bool.false_eq_true]
def qcn (q r:Int) (w:World) (e:Ending) (w':World):Prop:=∃ x y,e=.returned (.tuple #[x,y,.int .i64 0])/\vk w' x q/\vk w' y r/\Ext w w'
theorem xce {w W : World} {g g' : Nat} {q r : Int} {b s b' s' u0 u1 u2 u3 : Value} (hx : Ext w W) (hg : w.heap.size <= g) (hg' : w.heap.size <= g') (au : g ≠ g') (h0 : W.cell? ⟨g, 0, none⟩ = some u0) (h1 : W.cell? ⟨g, 1, none⟩ = some u1)
 (h2:W.cell? ⟨g',0,none⟩=some u2) (h3:W.cell? ⟨g',1,none⟩=some u3) (d0:qo u0=false) (d1:qo u1=false) (d2:qo u2=false) (d3:qo u3=false) (hN:vk W (.agg #[b,s]) q) (hM:vk W (.agg #[b',s']) r) :
 qcn q r w (.returned (.tuple #[.agg #[b,s],.agg #[b',s'],.int .i64 0])) ((((W.setCell ⟨g,0,none⟩ b).setCell ⟨g,1,none⟩ s).setCell ⟨g',0,none⟩ b').setCell ⟨g',1,none⟩ s'):=by
 have k1:(W.setCell ⟨g,0,none⟩ b).cell? ⟨g,1,none⟩=some u1:=by rw [World.cell?_setCell_other _ _ _ _ (by simp),h1]
 have k2:((W.setCell ⟨g,0,none⟩ b).setCell ⟨g,1,none⟩ s).cell? ⟨g',0,none⟩=some u2:=by
  rw [World.cell?_setCell_other _ _ _ _ (by simp),World.cell?_setCell_other _ _ _ _ (by simp),h2]
 have k3:(((W.setCell ⟨g,0,none⟩ b).setCell ⟨g,1,none⟩ s).setCell ⟨g',0,none⟩ b').cell? ⟨g',1,none⟩=some u3:=by
  rw [World.cell?_setCell_other _ _ _ _ (by simp),World.cell?_setCell_other _ _ _ _ (by simp),World.cell?_setCell_other _ _ _ _ (by simp),h3]
 exact ⟨_,_,rfl,(((hN.box h0 d0 _).box k1 d1 _).box k2 d2 _).box k3 d3 _,(((hM.box h0 d0 _).box k1 d1 _).box k2 d2 _).box k3 d3 _,(((hx.setCell (by simpa using hg) _).setCell (by simpa using hg) _).setCell (by simpa using hg') _).setCell (by simpa using hg') _⟩
theorem jc0 (x y:Value) (a b:Int) (L M:Nat) (w:World) (h:qm w x a L) (k:qm w y b M) (hs:L<=17592186044416) (zQ:M<=17592186044416) (bU:b ≠ 0) :
 Calls Tryz.prog 92 #[x,y] w (qcn (a.tdiv b) (a.tmod b) w):=by
 obtain ⟨neg,v,ds,rfl,⟨A,c,rfl,h1,h2,h3⟩,hz,hl⟩:=h;obtain ⟨aG,v',ds',rfl,⟨A',c',rfl,iI,kC,jG⟩,jL,kL⟩:=k;have Ya:val ds' ≠ 0:=by
  intro e;apply bU;rw [jL,e]; cases aG <;> rfl
 have HQ:Hid (a.tdiv b=sgn (!neg == aG) (val ds / val ds')/\a.tmod b=sgn neg (val ds % val ds')):=
  ⟨by rw [hz,jL,xcq],by rw [hz,jL,ycq neg aG]⟩
 rw [HQ.out.1,HQ.out.2];have H3:=hid h3;have kS:=hid jG;have Gf:=hid jL;have AP:(b == 0)=false:=beq_eq_false_iff_ne.2 bU;clear h3 jG hz jL bU HQ;go_enter Tryz.func92,Tryz.ntmps92;go_wp2_with fail;generalize hW:(((w.alloc (Obj.cells #[.bool neg,.slice A ds.length c] 30)).alloc (Obj.cells #[.bool aG,.slice A' ds'.length c'] 30)).alloc (Obj.cells #[.bool false,.slice none 0 0] 30)).alloc (Obj.cells #[.bool false,.slice none 0 0] 30)=W;have ay:Hid (Ext w W):=by
  have:Ext w W:=by rw [<- hW]; exact ((((Ext.refl w).alloc _).alloc _).alloc _).alloc _
  exact this
 have nU:Hid (W.heap.size=w.heap.size+1+1+1+1):=by
  have:W.heap.size=w.heap.size+1+1+1+1:=by rw [<- hW]; simp
  exact this
 have HS:Hid (∀ W',Ext W W'->(Ext w W'/\W'.cell? ⟨w.heap.size,0,none⟩=some (.bool neg)/\W'.cell? ⟨w.heap.size,1,none⟩=some (.slice A ds.length c)/\W'.cell? ⟨w.heap.size+1,0,none⟩=some (.bool aG)/\W'.cell? ⟨w.heap.size+1,1,none⟩=some (.slice A' ds'.length c'))):=by
  intro W' hx;obtain ⟨hc,hf⟩:=hx.cells;have hsz:=nU.out;refine ⟨ay.out.trans hx,?_,?_,?_,?_⟩ <;> (rw [hc _ _ (by omega),<- hW]; simp [go_sem])
 have HR:Hid (∀ W',Ext W W'->(W'.cell? ⟨w.heap.size+1+1,0,none⟩=some (.bool false)/\W'.cell? ⟨w.heap.size+1+1,1,none⟩=some (.slice none 0 0)/\W'.cell? ⟨w.heap.size+1+1+1,0,none⟩=some (.bool false)/\W'.cell? ⟨w.heap.size+1+1+1,1,none⟩=some (.slice none 0 0)/\W'.frozen? ⟨w.heap.size+1+1,0,none⟩=false/\W'.frozen? ⟨w.heap.size+1+1,1,none⟩=false/\W'.frozen? ⟨w.heap.size+1+1+1,0,none⟩=false/\W'.frozen? ⟨w.heap.size+1+1+1,1,none⟩=false)):=by
  intro W' hx;obtain ⟨hc,hf⟩:=hx.cells;have hsz:=nU.out;refine ⟨?_,?_,?_,?_,?_,?_,?_,?_⟩ <;> first | (rw [hc _ _ (by omega),<- hW]; simp [go_sem]; done) | (rw [hf _ _ (by omega),<- hW]; simp [go_sem]; done)
 have Gq:Hid (∀ W'' v0 v1,Ext W W''->∀ W',W'=(W''.setCell ⟨w.heap.size+1+1,0,none⟩ v0).setCell ⟨w.heap.size+1+1,1,none⟩ v1->(Ext w W'/\W'.cell? ⟨w.heap.size,0,none⟩=some (.bool neg)/\W'.cell? ⟨w.heap.size,1,none⟩=some (.slice A ds.length c)/\W'.cell? ⟨w.heap.size+1,0,none⟩=some (.bool aG)/\W'.cell? ⟨w.heap.size+1,1,none⟩=some (.slice A' ds'.length c'))):=by
  intro W'' v0 v1 hx W' bg;obtain ⟨s1,c0,c1,c2,c3⟩:=HS.out W'' hx;rw [bg];refine ⟨(s1.setCell (by simp; try omega) _).setCell (by simp; try omega) _,?_,?_,?_,?_⟩ <;> rw [World.cell?_setCell_other _ _ _ _ (by simp; try omega),World.cell?_setCell_other _ _ _ _ (by simp; try omega)] <;> assumption
 have aW:Hid (∀ W'' v0 v1 v2 v3,Ext W W''->∀ W',W'=(((W''.setCell ⟨w.heap.size+1+1,0,none⟩ v0).setCell ⟨w.heap.size+1+1,1,none⟩ v1).setCell ⟨w.heap.size+1+1+1,0,none⟩ v2).setCell ⟨w.heap.size+1+1+1,1,none⟩ v3->(Ext w W'/\W'.cell? ⟨w.heap.size,0,none⟩=some (.bool neg)/\W'.cell? ⟨w.heap.size,1,none⟩=some (.slice A ds.length c)/\W'.cell? ⟨w.heap.size+1,0,none⟩=some (.bool aG)/\W'.cell? ⟨w.heap.size+1,1,none⟩=some (.slice A' ds'.length c'))):=by
  intro W'' v0 v1 v2 v3 hx W' bg;obtain ⟨s1,c0,c1,c2,c3⟩:=HS.out W'' hx;rw [bg];refine ⟨(((s1.setCell (by simp; try omega) _).setCell (by simp; try omega) _).setCell (by simp; try omega) _).setCell (by simp; try omega) _,?_,?_,?_,?_⟩ <;> rw [World.cell?_setCell_other _ _ _ _ (by simp; try omega),World.cell?_setCell_other _ _ _ _ (by simp; try omega),World.cell?_setCell_other _ _ _ _ (by simp; try omega),World.cell?_setCell_other _ _ _ _ (by simp; try omega)] <;> assumption
 clear hW;obtain ⟨e0,b0,b1,b2,b3⟩:=HS.out W (Ext.refl W);refine (jbg _ b M _ ⟨aG,_,ds',rfl,⟨A',c',rfl,iI,kC,kS.out.ext e0⟩,Gf.out,kL⟩).mono ?_;rintro e w1 ⟨rfl,y1⟩;have Y1:=hid y1;clear e0 b0 b1 b2 b3;obtain ⟨e0,b0,b1,b2,b3⟩:=HS.out w1 y1;have E0:=hid e0;clear e0 y1;go_wp2_with fail;refine (xbh _ _ ds ds' _ ⟨A,c,rfl,h1,h2,H3.out.ext E0.out⟩ ⟨A',c',rfl,iI,kC,kS.out.ext E0.out⟩ (by omega) (by omega) Ya).mono ?_;rintro e w2 ⟨vq,vr,rfl,nq,nr,x2⟩;have y2:=Y1.out.trans x2;have Y2:=hid y2;have NQ:=hid nq;have NR:=hid nr;have Lj:(dg (val ds / val ds')).length<=17592186044416:=Nat.le_trans (ku (Nat.div_le_self _ _)) (Nat.le_trans (uh H3.out.1) (by omega));have hlr:(dg (val ds % val ds')).length<=17592186044416:=Nat.le_trans (ku (Nat.mod_le _ _)) (Nat.le_trans (uh H3.out.1) (by omega));clear nq nr x2 y2 b0 b1 b2 b3 Ya;go_wp2_with fail
 go_region_held3 (fun W' => Ext w W' /\ W'.cell? ⟨w.heap.size, 0, none⟩ = some (.bool neg) /\ W'.cell? ⟨w.heap.size, 1, none⟩ = some (.slice A ds.length c) /\ W'.cell? ⟨w.heap.size + 1, 0, none⟩ = some (.bool aG) /\ W'.cell? ⟨w.heap.size + 1, 1, none⟩ = some (.slice A' ds'.length c'))
  (first | exact HS.out _ (Y2.out.drew) | exact HS.out _ (by assumption) | exact Gq.out _ _ _ (by assumption) _ rfl | exact aW.out _ _ _ _ _ (by assumption) _ rfl)
  (first
    | (go_at_call_of 56 (Value.bool (!neg == aG))
       refine (gan _ _ _ _ (NQ.out.ext ((Ext.refl w2).drew)) (by omega)).mono ?_;rw [qg];rintro e w3 ⟨x3,rfl,⟨v3,rfl,A3,c3,rfl,q1,q2,q3⟩,z3⟩;have y3:Ext W w3:=Ext.trans Y2.out.drew z3
       have z3':Ext w2 w3:=Ext.trans (Ext.refl w2).drew z3)
    | (go_at_call_of 56 (Value.bool neg)
       refine (gan _ _ _ _ (NR.out.ext z3') (by omega)).mono ?_;rw [qg];rintro e w4 ⟨x4,rfl,⟨v4,rfl,A4,c4,rfl,p1,p2,p3⟩,z4⟩;have y4:Ext W w4:=Ext.trans y3 z4
       obtain ⟨r0,r1,r2,r3,f0,f1,f2,f3⟩:=HR.out w4 y4))
 have n3:vk w4 (.agg #[.bool (decide (sgn (!neg == aG) (val ds / val ds') < 0)),.slice A3 (dg (sgn (!neg == aG) (val ds / val ds')).natAbs).length c3]) (sgn (!neg == aG) (val ds / val ds')):=vk.ext ⟨_,rfl,A3,c3,rfl,q1,q2,q3⟩ z4;have HF:=hid (xce (g:=w.heap.size+1+1) (g':=w.heap.size+1+1+1) (ay.out.trans y4) (by omega) (by omega) (by omega) r0 r1 r2 r3 rfl rfl rfl rfl n3 ⟨_,rfl,A4,c4,rfl,p1,p2,p3⟩);clear HS aW Gq HR y3 y4 z3 z3' z4 q3 p3 n3;go_wp2_with fail;exact bodyPost_ret (v:=.tuple #[.agg #[.bool (decide (sgn (!neg == aG) (val ds / val ds') < 0)),.slice A3 (dg (sgn (!neg == aG) (val ds / val ds')).natAbs).length c3],.agg #[.bool (decide (sgn neg (val ds % val ds') < 0)),.slice A4 (dg (sgn neg (val ds % val ds')).natAbs).length c4],.int .i64 0]) (by simp [results,Tryz.results92,go_sem,r0,r1,r2,r3]) rfl HF.out
theorem vbe (v:Value) (n:Nat) (w:World) (h:jb w v (dg n)) (hl:(dg n).length<=2) :
 Calls Tryz.prog 117 #[v] w fun e w'=>e=.returned (.tuple #[.int .u64 (n:Nat),.bool true])/\Ext w w':=by
 go_enter Tryz.func117,Tryz.ntmps117;go_wp2_with fail;refine (qw _ _ _ h).mono ?_;rw [qg];rintro e w' ⟨v',rfl,hv,rfl⟩;clear h;obtain ⟨A,c,rfl,h1,h2,h3⟩:=hv
 by_cases gV:n=0
 · subst gV;rw [xn] at h1 ⊢;clear h3 hl;go_wp2_with fail
   go_ret2
   exact ⟨rfl,Ext.refl w⟩
 · by_cases sH:n < B32
   · rw [ya2 gV sH] at h1 h3 ⊢;obtain ⟨ad,rfl,hb,ai,dO⟩:=h3.at_ 0 (by simp);rw [show ad.add 0=ad from by simp [Addr.add]] at ai
     change w.cell? ad=some (.int .u32 (n:Nat)) at ai
     change n < 4294967296 at dO
     clear h3 hl gV sH;go_wp2_with fail
     go_ret2
     exact ⟨rfl,Ext.refl w⟩
   · have uX:n < B32 * B32:=by
      have h4:=qad n;have h5:B32 ^ (dg n).length<=B32 ^ 2:=Nat.pow_le_pow_right ui hl;rw [show B32 ^ 2=B32 * B32 from by rw [Nat.pow_succ,Nat.pow_one]] at h5;omega
     obtain ⟨lo,hi,hlo,hhi,hn⟩:∃ lo hi,lo < B32/\hi < B32/\n=lo+B32 * hi:=⟨n % B32,n / B32,Nat.mod_lt _ ui,Nat.div_lt_of_lt_mul uX,(Nat.mod_add_div _ _).symm⟩;have Xv:hi ≠ 0:=by
      intro e;rw [e,Nat.mul_zero] at hn;omega
     have eG:dg n=[lo,hi]:=by rw [hn]; exact xc6 lo hi hlo Xv hhi
     rw [eG] at h1 h3 ⊢;obtain ⟨ad,rfl,hb,ai,dO⟩:=h3.at_ 0 (by simp);obtain ⟨ad',e',dX,eQ,XZ⟩:=h3.at_ 1 (by simp);injection e' with e'
     subst e';rw [show ad.add 0=ad from by simp [Addr.add]] at ai;rw [show ad.add 1=⟨ad.block,ad.off+1,none⟩ from by simp [Addr.add]] at eQ
     change w.cell? ad=some (.int .u32 (lo:Nat)) at ai
     change w.cell? ⟨ad.block,ad.off+1,none⟩=some (.int .u32 (hi:Nat)) at eQ
     change lo < 4294967296 at dO
     change hi < 4294967296 at XZ
     have WS:bits .or .u64 ((hi:Int) * 4294967296) lo=(hi:Int) * 4294967296+lo:=by
      have:=u64_or_nat (hi * 4294967296) lo (by omega) (by omega);rw [nat_join 32 (hi * 4294967296) lo (by omega) (by omega)] at this;simpa using this
     have HN:Hid ((hi:Int) * 4294967296+lo=(n:Nat)):=by
      have:(hi:Int) * 4294967296+lo=(n:Nat):=by rw [hn,ug]; omega
      exact this
     clear h3 hl gV sH hn eG uX hlo hhi;go_wp2_with fail
     go_quiet (fail)
     go_wp2_with fail
     go_ret2
     exact ⟨by rw [<- HN.out]; rfl,(Ext.refl w).drewN _⟩
def kbz (G:Nat) (W:World) (gk:Nat) (s5 s6:Value) (wr:World):Prop:=∃ X Y:Nat,gk=Y/\jb wr s5 (dg X)/\jb wr s6 (dg Y)/\Nat.gcd X Y=G/\(dg X).length<=17592186044416/\(dg Y).length<=17592186044416/\Ext W wr
theorem jc2 (x y:Value) (a b:Int) (L M:Nat) (w:World) (h:qm w x a L) (k:qm w y b M) (hs:L<=17592186044416) (zQ:M<=17592186044416) :
 Calls Tryz.prog 90 #[x,y] w (waf (Nat.gcd a.natAbs b.natAbs:Nat) w):=by
 have QK:=h.len;have hLb:=k.len;obtain ⟨neg,v,ds,rfl,⟨A,c,rfl,h1,h2,h3⟩,hz,hl⟩:=h;obtain ⟨aG,v',ds',rfl,⟨A',c',rfl,iI,kC,jG⟩,jL,kL⟩:=k;have HA:Hid (a.natAbs=val ds):=by rw [hz]; exact uu _ _
 have HB:Hid (b.natAbs=val ds'):=by rw [jL]; exact uu _ _
 rw [HA.out] at QK;rw [HB.out] at hLb;rw [HA.out,HB.out];have H3:=hid h3;have kS:=hid jG;clear h3 jG hz jL HA HB;go_enter Tryz.func90,Tryz.ntmps90;go_wp2_with fail;generalize hW:((w.alloc (Obj.cells #[.bool neg,.slice A ds.length c] 30)).alloc (Obj.cells #[.bool aG,.slice A' ds'.length c'] 30)).alloc (Obj.cells #[.bool false,.slice none 0 0] 30)=W;have ay:Hid (Ext w W):=by
  have:Ext w W:=by rw [<- hW]; exact (((Ext.refl w).alloc _).alloc _).alloc _
  exact this
 have nU:Hid (W.heap.size=w.heap.size+1+1+1):=by
  have:W.heap.size=w.heap.size+1+1+1:=by rw [<- hW]; simp
  exact this
 have HS:Hid (∀ W',Ext W W'->(Ext w W'/\W'.cell? ⟨w.heap.size,0,none⟩=some (.bool neg)/\W'.cell? ⟨w.heap.size,1,none⟩=some (.slice A ds.length c)/\W'.cell? ⟨w.heap.size+1,0,none⟩=some (.bool aG)/\W'.cell? ⟨w.heap.size+1,1,none⟩=some (.slice A' ds'.length c'))):=by
  intro W' hx;obtain ⟨hc,hf⟩:=hx.cells;have hsz:=nU.out;refine ⟨ay.out.trans hx,?_,?_,?_,?_⟩ <;> (rw [hc _ _ (by omega),<- hW]; simp [go_sem])
 have HR:Hid (∀ W',Ext W W'->(W'.cell? ⟨w.heap.size+1+1,0,none⟩=some (.bool false)/\W'.cell? ⟨w.heap.size+1+1,1,none⟩=some (.slice none 0 0)/\W'.frozen? ⟨w.heap.size+1+1,0,none⟩=false/\W'.frozen? ⟨w.heap.size+1+1,1,none⟩=false)):=by
  intro W' hx;obtain ⟨hc,hf⟩:=hx.cells;have hsz:=nU.out;refine ⟨?_,?_,?_,?_⟩ <;> first | (rw [hc _ _ (by omega),<- hW]; simp [go_sem]; done) | (rw [hf _ _ (by omega),<- hW]; simp [go_sem]; done)
 have aW:Hid (∀ W'' v0 v1,Ext W W''->∀ W',W'=(W''.setCell ⟨w.heap.size+1+1,0,none⟩ v0).setCell ⟨w.heap.size+1+1,1,none⟩ v1->(Ext w W'/\W'.cell? ⟨w.heap.size,0,none⟩=some (.bool neg)/\W'.cell? ⟨w.heap.size,1,none⟩=some (.slice A ds.length c)/\W'.cell? ⟨w.heap.size+1,0,none⟩=some (.bool aG)/\W'.cell? ⟨w.heap.size+1,1,none⟩=some (.slice A' ds'.length c'))):=by
  intro W'' v0 v1 hx W' bg;obtain ⟨s1,c0,c1,c2,c3⟩:=HS.out W'' hx;rw [bg];refine ⟨(s1.setCell (by simp; try omega) _).setCell (by simp; try omega) _,?_,?_,?_,?_⟩ <;> rw [World.cell?_setCell_other _ _ _ _ (by simp; try omega),World.cell?_setCell_other _ _ _ _ (by simp; try omega)] <;> assumption
 clear hW
 go_region_held3 (fun W' => Ext w W' /\ W'.cell? ⟨w.heap.size, 0, none⟩ = some (.bool neg) /\ W'.cell? ⟨w.heap.size, 1, none⟩ = some (.slice A ds.length c) /\ W'.cell? ⟨w.heap.size + 1, 0, none⟩ = some (.bool aG) /\ W'.cell? ⟨w.heap.size + 1, 1, none⟩ = some (.slice A' ds'.length c'))
  (first | exact HS.out _ ((Ext.refl W).drew) | exact HS.out _ (by assumption) | exact aW.out _ _ _ (by assumption) _ rfl)
  (first
    | (go_at_call_of 57 (Value.slice A ds.length c)
       have bC:=(‹Ext w _/\_›).1;refine (jab _ ds _ ⟨A,c,rfl,h1,h2,H3.out.ext bC⟩ (by omega)).mono ?_;rintro e w2 ⟨v2,rfl,tZ,x2⟩
       have y2:Ext W w2:=Ext.trans ((Ext.refl W).drew) x2)
    | (go_at_call_of 57 (Value.slice A' ds'.length c')
       have bC:=(‹Ext w _/\_›).1;refine (jab _ ds' _ ⟨A',c',rfl,iI,kC,kS.out.ext bC⟩ (by omega)).mono ?_;rintro e w3 ⟨v3,rfl,nv3,x3⟩
       have y3:Ext W w3:=Ext.trans y2 x3))
 have kE:Hid (kbz (Nat.gcd (val ds) (val ds')) W (val ds') v2 v3 w3):=⟨_,_,rfl,tZ.ext x3,nv3,rfl,by omega,by omega,y3⟩;clear HS aW tZ nv3 x2 x3 y2 y3;generalize Nat.gcd (val ds) (val ds')=G at *;go_wp2_with fail
 go_loopg [5,6] (val ds') (fun gk s5 s6 wr=>Hid (kbz G W gk s5 s6 wr))
 case atStart=>exact kE
 case round =>
  clear kE;obtain ⟨X,Y,hgk,nx,ny,hg,lx,ly,hx⟩:=hrel.out;have NX:=hid nx;have NY:=hid ny;have HG:=hid hg;have o7:=hid hx;have HGK:=hid hgk;obtain ⟨A5,c5,rfl,i1,i2,i3⟩:=nx;obtain ⟨A6,c6,rfl,j1,j2,j3⟩:=ny;clear hrel hg hx hgk i3 j3
  by_cases xJ:2 < (dg X).length\/2 < (dg Y).length
  · have hb:(decide ((2:Int) < ((dg X).length:Int))=true)\/(decide ((2:Int) < ((dg X).length:Int))=false/\decide ((2:Int) < ((dg Y).length:Int))=true):=by
     by_cases h:2 < (dg X).length
     · exact .inl (by simp; omega)
     · exact .inr ⟨by simp; omega,by simp; omega⟩
    clear xJ
    by_cases hY:Y=0
    · have mi:(dg Y).length=0:=by rw [hY,xn]; rfl
      rw [mi] at hb ⊢;have hX:decide ((2:Int) < ((dg X).length:Int))=true:=by
       rcases hb with h | ⟨h1,h2⟩
       · exact h
       · simp at h2
      have HXG:Hid (X=G):=by
       have:=HG.out;rw [hY,Nat.gcd_zero_right] at this;exact this
      clear hb mi hY;go_wp2_with fail;refine (gan false _ _ _ NX.out (by omega)).mono ?_;rw [qg,HXG.out,show sgn false G=((G:Nat):Int) from rfl];rintro e w9 ⟨x9,rfl,⟨v9,rfl,A2,c2,rfl,q1,q2,q3⟩,z9⟩;have y9:Ext W w9:=o7.out.trans z9;obtain ⟨r0,r1,f0,f1⟩:=HR.out w9 y9
      change (dg ((G:Nat):Int).natAbs).length<=c2 at q1
      have HF:=hid (kw (g:=w.heap.size+1+1) (z:=((G:Nat):Int)) (u0:=.bool false) (u1:=.slice none 0 0) (ay.out.trans y9) (by omega) r0 r1 rfl rfl ⟨_,rfl,A2,c2,rfl,q1,q2,q3⟩);clear y9 z9 q3;go_wp2_with fail;exact bodyPost_ret (v:=.agg #[.bool (decide (((G:Nat):Int) < 0)),.slice A2 (dg ((G:Nat):Int).natAbs).length c2]) (by simp [results,Tryz.results90,go_sem,r0,r1]) rfl HF.out
    · have mi:0 < (dg Y).length:=waj hY;have aeH:(((dg Y).length:Int) == 0)=false:=beq_eq_false_iff_ne.2 (by omega);have Us:0 < Y:=Nat.pos_of_ne_zero hY;rcases hb with cO | ⟨cO,bT⟩
      all_goals
       go_wp2_with fail;refine (xbh _ _ _ _ _ NX.out NY.out (by omega) (by omega) (by rw [qg]; exact hY)).mono ?_;rw [qg,qg];rintro e w4 ⟨vq,vr,rfl,nq,nr,x4⟩
       have RF:Hid (kbz G W (X % Y) (.slice A6 (dg Y).length c6) vr w4):=
        ⟨Y,X % Y,rfl,NY.out.ext x4,nr,by rw [<- HG.out,Nat.gcd_comm X Y,Nat.gcd_rec Y X,Nat.gcd_comm],ly,Nat.le_trans (ku (Nat.mod_le _ _)) lx,o7.out.trans x4⟩
       have jY:X % Y < Y:=Nat.mod_lt _ Us;clear nq nr x4;go_wp2_with fail
       go_roundg (X % Y)
       case rel=>exact RF
       case measure=>rw [HGK.out]; exact jY
  · have b1:decide ((2:Int) < ((dg X).length:Int))=false:=by simp; omega
    have b2:decide ((2:Int) < ((dg Y).length:Int))=false:=by simp; omega
    have Yv:X < 18446744073709551616:=by
     have h4:=qad X;have h5:B32 ^ (dg X).length<=B32 ^ 2:=Nat.pow_le_pow_right ui (by omega);have h6:B32 ^ 2=18446744073709551616:=by decide
     omega
    have Yu:Y < 18446744073709551616:=by
     have h4:=qad Y;have h5:B32 ^ (dg Y).length<=B32 ^ 2:=Nat.pow_le_pow_right ui (by omega);have h6:B32 ^ 2=18446744073709551616:=by decide
     omega
    go_wp2_with fail;refine (vbe _ X _ NX.out (by omega)).mono ?_;rintro e w4 ⟨rfl,x4⟩;have X4:=hid x4;clear x4;go_wp2_with fail;refine (vbe _ Y _ (NY.out.ext X4.out) (by omega)).mono ?_;rintro e w5 ⟨rfl,x5⟩;have Y5:=hid (o7.out.trans (X4.out.trans x5));clear x5 X4;go_wp2_with fail
    go_loopw [9,11] (fun mv nv wr=>∃ m n:Nat,mv=.int .u64 m/\nv=.int .u64 n/\m < 18446744073709551616/\n < 18446744073709551616/\Hid (Nat.gcd m n=G/\Ext W wr)) (fun _ nv _=>(intOf nv).toNat)
    case atStart=>exact ⟨X,Y,rfl,rfl,Yv,Yu,hid ⟨HG.out,Y5.out⟩⟩
    case round =>
     obtain ⟨m,n,rfl,rfl,hm,hn,HI⟩:=hrel
     by_cases gV:n=0
     · subst gV;have HMG:Hid (m=G):=by
        have:=HI.out.1;rw [Nat.gcd_zero_right] at this;exact this
       go_wp2_with fail;refine (jav m _ hm).mono ?_;rw [HMG.out];rintro e w6 ⟨v6,rfl,n6,x6⟩;go_wp2_with fail;refine (gan false _ _ _ n6 ?_).mono ?_
       · have h4:=ve (n:=G) (k:=2) (by (rw [<- HMG.out]; have h6:B32 ^ 2=18446744073709551616:=by decide); omega);omega
       rw [qg,show sgn false G=((G:Nat):Int) from rfl];rintro e w9 ⟨x9,rfl,⟨v9,rfl,A2,c2,rfl,q1,q2,q3⟩,z9⟩;have y9:Ext W w9:=HI.out.2.trans (x6.trans z9);obtain ⟨r0,r1,f0,f1⟩:=HR.out w9 y9
       change (dg ((G:Nat):Int).natAbs).length<=c2 at q1
       have HF:=hid (kw (g:=w.heap.size+1+1) (z:=((G:Nat):Int)) (u0:=.bool false) (u1:=.slice none 0 0) (ay.out.trans y9) (by omega) r0 r1 rfl rfl ⟨_,rfl,A2,c2,rfl,q1,q2,q3⟩);clear y9 z9 q3 x6 n6;go_wp2_with fail;exact bodyPost_ret (v:=.agg #[.bool (decide (((G:Nat):Int) < 0)),.slice A2 (dg ((G:Nat):Int).natAbs).length c2]) (by simp [results,Tryz.results90,go_sem,r0,r1]) rfl HF.out
     · have hnb:((n:Int) != 0)=true:=by simp; omega
       have afp:((n:Int) == 0)=false:=beq_eq_false_iff_ne.2 (by omega);have hnp:0 < n:=by omega
       have jY:m % n < n:=Nat.mod_lt _ hnp;have HS5:Hid (Nat.gcd n (m % n)=G):=by
        have:=HI.out.1;rw [Nat.gcd_comm,<- Nat.gcd_rec,Nat.gcd_comm];exact this
       go_wp2_with fail
       go_quiet (fail)
       go_wp2_with fail
       go_roundw
       case rel=>exact ⟨n,m % n,rfl,by simp,hn,by omega,hid ⟨HS5.out,HI.out.2.drewN _⟩⟩
       case measure =>
        have e:(m:Int) % n=((m % n:Nat):Int):=by simp
        simp only [intOf];rw [e];omega
end Go.Proofs.YtcepajijiabkmaaGreat
