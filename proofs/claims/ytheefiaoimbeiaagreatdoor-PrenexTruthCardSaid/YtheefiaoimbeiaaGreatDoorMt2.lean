/- Layer 2 (integer): sign, comparison, sums, products. -/
import Derived.Test.YtheefiaoimbeiaaGreatDoorMt1
import Derived.Test.YtheefiaoimbeiaaGreatDoorMt0
import Derived.Maps.Own
set_option linter.unusedSimpArgs false
set_option linter.unusedVariables false

set_option maxRecDepth 100000
set_option maxHeartbeats 8000000
namespace Go.Proofs.YtheefiaoimbeiaaGreatDoor
open Go.RowKit
def sgI (z:Int):Int:=xw z 0
theorem jao (x:Value) (z:Int) (L:Nat) (w:World) (h:jg w x z L):Calls Tryz.prog 79 #[x] w fun e w'=>e=.returned (.int .i64 (sgI z))/\Ext w w':=by
 obtain ⟨neg,v,ds,rfl,⟨A,c,rfl,h1,h2,h3⟩,hz,hl⟩:=h;have HX0:Hid (Ext w (w.alloc (Obj.cells #[.bool neg,.slice A ds.length c] 25))):=(Ext.refl w).alloc _;have H3:=Lib.hid h3;have HZ:=Lib.hid hz;clear h3 hz;go_enter Tryz.func79,Tryz.ntmps79;go_wp2_with fail;refine (vah _ _ _ ⟨A,c,rfl,h1,h2,H3.out.ext HX0.out⟩).mono ?_;rintro e w2 ⟨rfl,rfl⟩
 by_cases h0:val ds=0
 · have hb:(val ds == 0)=true:=by simp [h0]
   have H0:=Lib.hid h0;clear h0;go_wp2_with fail;go_ret;exact ⟨vao (by rw [HZ.out,H0.out]; cases neg <;> rfl),HX0.out⟩
 · have hb:(val ds == 0)=false:=by simp [h0]
   cases neg
   · go_wp2_with fail;go_ret;exact ⟨vao (by rw [HZ.out]; exact (vap (by simp [sgn]; omega)).symm),HX0.out⟩
   · go_wp2_with fail;go_ret;exact ⟨vao (by rw [HZ.out]; exact (vai (by simp [sgn]; omega)).symm),HX0.out⟩
theorem of_int (z:Int) (w:World) (h0:-9223372036854775808<=z) (h1:z<=9223372036854775807):Calls Tryz.prog 40 #[.int .i64 z] w (gag z w):=by
 have HX0:Hid (Ext w (w.alloc (Obj.cells #[.bool false,.slice none 0 0] 25))):=(Ext.refl w).alloc _
 by_cases hn:z < 0
 · go_enter Tryz.func40,Tryz.ntmps40;go_wp2_with fail;have e1:IntKind.u64.wrap (-IntKind.u64.wrap z)=((z.natAbs:Nat):Int):=by
    rw [IntKind.wrap_u64,IntKind.wrap_u64]; omega
   rw [e1];refine (kaq _ _ (by omega)).mono ?_;rintro e w2 ⟨v,rfl,⟨A2,c2,rfl,q1,q2,q3⟩,hx2⟩;obtain ⟨hc,hf⟩:=hx2.cells;have hz:=hx2.size;have HF:=Lib.hid (wz (g:=w.heap.size) (z:=z) (u0:=.bool false) (u1:=.slice none 0 0) (HX0.out.trans hx2) (by omega) (by rw [hc _ _ (by simp)]; simp [World.cell?_alloc_new]) (by rw [hc _ _ (by simp)]; simp [World.cell?_alloc_new]) rfl rfl ⟨_,by rw [decide_eq_true hn],A2,c2,rfl,q1,q2,q3⟩);clear hx2 q3 e1;rw [World.size_alloc] at hz;go_wp2_with fail;exact bodyPost_ret (v:=.agg #[.bool true,.slice A2 (dg z.natAbs).length c2]) (by simp [results,Tryz.results40,go_sem,hc]) rfl HF.out
 · obtain ⟨n,rfl⟩:=Int.eq_ofNat_of_zero_le (show 0<=z by omega);go_enter Tryz.func40,Tryz.ntmps40;go_wp2_with fail;refine (kaq _ _ (by omega)).mono ?_;rintro e w2 ⟨v,rfl,⟨A2,c2,rfl,q1,q2,q3⟩,hx2⟩;obtain ⟨hc,hf⟩:=hx2.cells;have hz:=hx2.size;have HF:=Lib.hid (wz (g:=w.heap.size) (z:=(n:Int)) (b:=.bool false) (u0:=.bool false) (u1:=.slice none 0 0) (HX0.out.trans hx2) (by omega) (by rw [hc _ _ (by simp)]; simp [World.cell?_alloc_new]) (by rw [hc _ _ (by simp)]; simp [World.cell?_alloc_new]) rfl rfl ⟨_,by rw [decide_eq_false (by omega)],A2,c2,rfl,q1,q2,q3⟩);clear hx2 q3;rw [World.size_alloc] at hz;go_wp2_with fail;exact bodyPost_ret (v:=.agg #[.bool false,.slice A2 (dg n).length c2]) (by simp [results,Tryz.results40,go_sem,hc]) rfl HF.out
theorem kam (x y:Value) (a b:Int) (L M:Nat) (w:World) (h:jg w x a L) (k:jg w y b M) (hs:L+M<=35184372088000) :
 Calls Tryz.prog 84 #[x,y] w (gag (a * b) w):=by
 obtain ⟨neg,v,ds,rfl,⟨A,c,rfl,h1,h2,h3⟩,hz,hl⟩:=h;obtain ⟨neg',v',ds',rfl,⟨A',c',rfl,h1',h2',h3'⟩,hz',hl'⟩:=k;have hab:a * b=sgn (!neg == neg') (val ds * val ds'):=by
  rw [hz,hz']; cases neg <;> cases neg' <;> simp [sgn,Int.neg_mul,Int.mul_neg]
 rw [hab];have H3:=Lib.hid h3;have H3':=Lib.hid h3';clear h3 h3' hz hz' hab;go_enter Tryz.func84,Tryz.ntmps84;go_wp2_with fail;generalize hW:((w.alloc (Obj.cells #[.bool neg,.slice A ds.length c] 25)).alloc (Obj.cells #[.bool neg',.slice A' ds'.length c'] 25)).alloc (Obj.cells #[.bool false,.slice none 0 0] 25)=W;have HX0:Hid (Ext w W):=by
  have:Ext w W:=by rw [<- hW]; exact (((Ext.refl w).alloc _).alloc _).alloc _
  exact this
 have HS:Hid (∀ W',Ext W W'->(Ext w W'/\W'.cell? ⟨w.heap.size,0,none⟩=some (.bool neg)/\W'.cell? ⟨w.heap.size,1,none⟩=some (.slice A ds.length c)/\W'.cell? ⟨w.heap.size+1,0,none⟩=some (.bool neg')/\W'.cell? ⟨w.heap.size+1,1,none⟩=some (.slice A' ds'.length c'))):=by
  intro W' hx;obtain ⟨hc,hf⟩:=hx.cells;have hsz:W.heap.size=w.heap.size+1+1+1:=by rw [<- hW]; simp
  refine ⟨HX0.out.trans hx,?_,?_,?_,?_⟩ <;> (rw [hc _ _ (by omega),<- hW]; simp [go_sem])
 have HR:Hid (∀ W',Ext W W'->(W'.cell? ⟨w.heap.size+1+1,0,none⟩=some (.bool false)/\W'.cell? ⟨w.heap.size+1+1,1,none⟩=some (.slice none 0 0)/\W'.frozen? ⟨w.heap.size+1+1,0,none⟩=false/\W'.frozen? ⟨w.heap.size+1+1,1,none⟩=false)):=by
  intro W' hx;obtain ⟨hc,hf⟩:=hx.cells;have hsz:W.heap.size=w.heap.size+1+1+1:=by rw [<- hW]; simp
  refine ⟨?_,?_,?_,?_⟩ <;> first | (rw [hc _ _ (by omega),<- hW]; simp [go_sem]; done) | (rw [hf _ _ (by omega),<- hW]; simp [go_sem]; done)
 have HS2:Hid (∀ W'' u v,Ext W W''->∀ W',W'=(W''.setCell ⟨w.heap.size+1+1,0,none⟩ u).setCell ⟨w.heap.size+1+1,1,none⟩ v->(Ext w W'/\W'.cell? ⟨w.heap.size,0,none⟩=some (.bool neg)/\W'.cell? ⟨w.heap.size,1,none⟩=some (.slice A ds.length c)/\W'.cell? ⟨w.heap.size+1,0,none⟩=some (.bool neg')/\W'.cell? ⟨w.heap.size+1,1,none⟩=some (.slice A' ds'.length c'))):=by
  intro W'' u v hx W' hW';obtain ⟨s1,s2,s3,s4,s5⟩:=HS.out W'' hx;rw [hW'];refine ⟨(s1.setCell (by simp; omega) _).setCell (by simp; omega) _,?_,?_,?_,?_⟩ <;> rw [World.cell?_setCell_other _ _ _ _ (by simp),World.cell?_setCell_other _ _ _ _ (by simp)] <;> assumption
 clear hW
 go_region_held3 (fun W' => Ext w W' /\ W'.cell? ⟨w.heap.size, 0, none⟩ = some (.bool neg) /\ W'.cell? ⟨w.heap.size, 1, none⟩ = some (.slice A ds.length c) /\ W'.cell? ⟨w.heap.size + 1, 0, none⟩ = some (.bool neg') /\ W'.cell? ⟨w.heap.size + 1, 1, none⟩ = some (.slice A' ds'.length c'))
  (first | exact HS.out _ ((Ext.refl W).drew) | exact HS.out _ (by assumption) | exact HS2.out _ _ _ (by assumption) _ rfl)
  (first
    | (go_at_call 116
       have hxx:=(‹Ext w _/\_›).1;refine (gcp _ _ ds ds' _ ⟨A,c,rfl,h1,h2,H3.out.ext hxx⟩ ⟨A',c',rfl,h1',h2',H3'.out.ext hxx⟩ (by omega)).mono ?_;rintro e w2 ⟨v2,rfl,nv2,x2⟩
       have y2:Ext W w2:=Ext.trans ((Ext.refl W).drew) x2)
    | (go_at_call 115
       refine (xan _ _ _ _ nv2).mono ?_;rintro e w3 ⟨v3,rfl,⟨v4,rfl,A2,c2,rfl,q1,q2,q3⟩,x3⟩;have y3:Ext W w3:=Ext.trans y2 x3
       obtain ⟨r1,r2,r3,r4⟩:=HR.out w3 y3))
 have HF:=Lib.hid (wz (g:=w.heap.size+1+1) (z:=sgn (!neg == neg') (val ds * val ds')) (u0:=.bool false) (u1:=.slice none 0 0) (HX0.out.trans y3) (by omega) r1 r2 rfl rfl ⟨_,rfl,A2,c2,rfl,q1,q2,q3⟩);clear HS HS2 HR y3 y2 x2 x3 q3 nv2;go_wp2_with fail;exact bodyPost_ret (v:=.agg #[.bool (decide (sgn (!neg == neg') (val ds * val ds') < 0)),.slice A2 (dg (sgn (!neg == neg') (val ds * val ds')).natAbs).length c2]) (by simp [results,Tryz.results84,go_sem,r1,r2]) rfl HF.out
end Go.Proofs.YtheefiaoimbeiaaGreatDoor

/- Layer 2 (integer): sums, differences, comparison. -/
set_option maxRecDepth 100000
set_option maxHeartbeats 8000000
namespace Go.Proofs.YtheefiaoimbeiaaGreatDoor
open Go.RowKit
theorem ubk {a b:Int} (h:xw a 0 < xw b 0):a < b:=by
 rcases Int.lt_trichotomy a 0 with ha | ha | ha
 · rcases Int.lt_trichotomy b 0 with hb | hb | hb
   · rw [vai ha,vai hb] at h; omega
   · omega
   · omega
 · rcases Int.lt_trichotomy b 0 with hb | hb | hb
   · rw [xaw ha,vai hb] at h; omega
   · rw [xaw ha,xaw hb] at h; omega
   · omega
 · have:=(uam b 0).2;rw [vap ha] at h; omega
theorem ga2 (x y:Value) (a b:Int) (L M:Nat) (w:World) (h:jg w x a L) (k:jg w y b M) (hs:L+M<=35184372088000) :
 Calls Tryz.prog 85 #[x,y] w (gag (a+b) w):=by
 obtain ⟨neg,v,ds,rfl,⟨A,c,rfl,h1,h2,h3⟩,hz,hl⟩:=h;obtain ⟨neg',v',ds',rfl,⟨A',c',rfl,h1',h2',h3'⟩,hz',hl'⟩:=k;have H3:=Lib.hid h3;have H3':=Lib.hid h3';clear h3 h3'
 by_cases hn:neg=neg'
 · subst hn;have hab:a+b=sgn neg (val ds+val ds'):=by rw [hz,hz']; cases neg <;> simp [sgn] <;> omega
   rw [hab];clear hz hz' hab;have hnb:(neg == neg)=true:=by simp
   go_enter Tryz.func85,Tryz.ntmps85;go_wp2_with fail;generalize hW:((w.alloc (Obj.cells #[.bool neg,.slice A ds.length c] 25)).alloc (Obj.cells #[.bool neg,.slice A' ds'.length c'] 25)).alloc (Obj.cells #[.bool false,.slice none 0 0] 25)=W;have HX0:Hid (Ext w W):=by
    have:Ext w W:=by rw [<- hW]; exact (((Ext.refl w).alloc _).alloc _).alloc _
    exact this
   have HWS:Hid (W.heap.size=w.heap.size+1+1+1):=by
    have:W.heap.size=w.heap.size+1+1+1:=by rw [<- hW]; simp
    exact this
   have HS:Hid (∀ W',Ext W W'->(Ext w W'/\W'.cell? ⟨w.heap.size,0,none⟩=some (.bool neg)/\W'.cell? ⟨w.heap.size,1,none⟩=some (.slice A ds.length c)/\W'.cell? ⟨w.heap.size+1,0,none⟩=some (.bool neg)/\W'.cell? ⟨w.heap.size+1,1,none⟩=some (.slice A' ds'.length c'))):=by
    intro W' hx;obtain ⟨hc,hf⟩:=hx.cells;have hsz:=HWS.out;refine ⟨HX0.out.trans hx,?_,?_,?_,?_⟩ <;> (rw [hc _ _ (by omega),<- hW]; simp [go_sem])
   have HR:Hid (∀ W',Ext W W'->(W'.cell? ⟨w.heap.size+1+1,0,none⟩=some (.bool false)/\W'.cell? ⟨w.heap.size+1+1,1,none⟩=some (.slice none 0 0)/\W'.frozen? ⟨w.heap.size+1+1,0,none⟩=false/\W'.frozen? ⟨w.heap.size+1+1,1,none⟩=false)):=by
    intro W' hx;obtain ⟨hc,hf⟩:=hx.cells;have hsz:=HWS.out;refine ⟨?_,?_,?_,?_⟩ <;> first | (rw [hc _ _ (by omega),<- hW]; simp [go_sem]; done) | (rw [hf _ _ (by omega),<- hW]; simp [go_sem]; done)
   have HS2:Hid (∀ W'' v0 v1,Ext W W''->∀ W',W'=(W''.setCell ⟨w.heap.size+1+1,0,none⟩ v0).setCell ⟨w.heap.size+1+1,1,none⟩ v1->(Ext w W'/\W'.cell? ⟨w.heap.size,0,none⟩=some (.bool neg)/\W'.cell? ⟨w.heap.size,1,none⟩=some (.slice A ds.length c)/\W'.cell? ⟨w.heap.size+1,0,none⟩=some (.bool neg)/\W'.cell? ⟨w.heap.size+1,1,none⟩=some (.slice A' ds'.length c'))):=by
    intro W'' v0 v1 hx W' hW';obtain ⟨s1,c0,c1,c2,c3⟩:=HS.out W'' hx;rw [hW'];refine ⟨(s1.setCell (by simp; try omega) _).setCell (by simp; try omega) _,?_,?_,?_,?_⟩ <;> rw [World.cell?_setCell_other _ _ _ _ (by simp; try omega),World.cell?_setCell_other _ _ _ _ (by simp; try omega)] <;> assumption
   clear hW
   go_region_held3 (fun W' => Ext w W' /\ W'.cell? ⟨w.heap.size, 0, none⟩ = some (.bool neg) /\ W'.cell? ⟨w.heap.size, 1, none⟩ = some (.slice A ds.length c) /\ W'.cell? ⟨w.heap.size + 1, 0, none⟩ = some (.bool neg) /\ W'.cell? ⟨w.heap.size + 1, 1, none⟩ = some (.slice A' ds'.length c'))
    (first | exact HS.out _ ((Ext.refl W).drew) | exact HS.out _ (by assumption) | exact HS2.out _ _ _ (by assumption) _ rfl)
    (first
      | (go_at_call 117
         have hxx:=(‹Ext w _/\_›).1;refine (ua2 _ _ ds ds' _ ⟨A,c,rfl,h1,h2,H3.out.ext hxx⟩ ⟨A',c',rfl,h1',h2',H3'.out.ext hxx⟩ (by omega)).mono ?_;rintro e w2 ⟨v2,rfl,nv2,x2⟩
         have y2:Ext W w2:=Ext.trans ((Ext.refl W).drew) x2)
      | (go_at_call 115
         refine (xan _ _ _ _ nv2).mono ?_;rintro e w3 ⟨v3,rfl,⟨v4,rfl,A2,c2,rfl,q1,q2,q3⟩,x3⟩;have y3:Ext W w3:=Ext.trans y2 x3
         obtain ⟨r0,r1,f0,f1⟩:=HR.out w3 y3))
   have HF:=Lib.hid (wz (g:=w.heap.size+1+1) (z:=sgn neg (val ds+val ds')) (u0:=.bool false) (u1:=.slice none 0 0) (HX0.out.trans y3) (by omega) r0 r1 rfl rfl ⟨_,rfl,A2,c2,rfl,q1,q2,q3⟩);clear HS HS2 HR y3 y2 x2 x3 q3 nv2;go_wp2_with fail;exact bodyPost_ret (v:=.agg #[.bool (decide (sgn neg (val ds+val ds') < 0)),.slice A2 (dg (sgn neg (val ds+val ds')).natAbs).length c2]) (by simp [results,Tryz.results85,go_sem,r0,r1]) rfl HF.out
 · have hnb:(neg == neg')=false:=by simp [hn]
   go_enter Tryz.func85,Tryz.ntmps85;go_wp2_with fail;generalize hW:((w.alloc (Obj.cells #[.bool neg,.slice A ds.length c] 25)).alloc (Obj.cells #[.bool neg',.slice A' ds'.length c'] 25)).alloc (Obj.cells #[.bool false,.slice none 0 0] 25)=W;have HX0:Hid (Ext w W):=by
    have:Ext w W:=by rw [<- hW]; exact (((Ext.refl w).alloc _).alloc _).alloc _
    exact this
   have HWS:Hid (W.heap.size=w.heap.size+1+1+1):=by
    have:W.heap.size=w.heap.size+1+1+1:=by rw [<- hW]; simp
    exact this
   have HS:Hid (∀ W',Ext W W'->(Ext w W'/\W'.cell? ⟨w.heap.size,0,none⟩=some (.bool neg)/\W'.cell? ⟨w.heap.size,1,none⟩=some (.slice A ds.length c)/\W'.cell? ⟨w.heap.size+1,0,none⟩=some (.bool neg')/\W'.cell? ⟨w.heap.size+1,1,none⟩=some (.slice A' ds'.length c'))):=by
    intro W' hx;obtain ⟨hc,hf⟩:=hx.cells;have hsz:=HWS.out;refine ⟨HX0.out.trans hx,?_,?_,?_,?_⟩ <;> (rw [hc _ _ (by omega),<- hW]; simp [go_sem])
   have HR:Hid (∀ W',Ext W W'->(W'.cell? ⟨w.heap.size+1+1,0,none⟩=some (.bool false)/\W'.cell? ⟨w.heap.size+1+1,1,none⟩=some (.slice none 0 0)/\W'.frozen? ⟨w.heap.size+1+1,0,none⟩=false/\W'.frozen? ⟨w.heap.size+1+1,1,none⟩=false)):=by
    intro W' hx;obtain ⟨hc,hf⟩:=hx.cells;have hsz:=HWS.out;refine ⟨?_,?_,?_,?_⟩ <;> first | (rw [hc _ _ (by omega),<- hW]; simp [go_sem]; done) | (rw [hf _ _ (by omega),<- hW]; simp [go_sem]; done)
   have HS2:Hid (∀ W'' v0 v1,Ext W W''->∀ W',W'=(W''.setCell ⟨w.heap.size+1+1,0,none⟩ v0).setCell ⟨w.heap.size+1+1,1,none⟩ v1->(Ext w W'/\W'.cell? ⟨w.heap.size,0,none⟩=some (.bool neg)/\W'.cell? ⟨w.heap.size,1,none⟩=some (.slice A ds.length c)/\W'.cell? ⟨w.heap.size+1,0,none⟩=some (.bool neg')/\W'.cell? ⟨w.heap.size+1,1,none⟩=some (.slice A' ds'.length c'))):=by
    intro W'' v0 v1 hx W' hW';obtain ⟨s1,c0,c1,c2,c3⟩:=HS.out W'' hx;rw [hW'];refine ⟨(s1.setCell (by simp; try omega) _).setCell (by simp; try omega) _,?_,?_,?_,?_⟩ <;> rw [World.cell?_setCell_other _ _ _ _ (by simp; try omega),World.cell?_setCell_other _ _ _ _ (by simp; try omega)] <;> assumption
   clear hW;obtain ⟨e0,b0,b1,b2,b3⟩:=HS.out W (Ext.refl W);refine (kap _ _ ds ds' _ ⟨A,c,rfl,h1,h2,H3.out.ext e0⟩ ⟨A',c',rfl,h1',h2',H3'.out.ext e0⟩).mono ?_;rintro e w1 ⟨rfl,n1,hw1⟩;have y1:Ext W w1:=by rw [hw1]; exact (Ext.refl W).drewN n1
   clear hw1 e0 b0 b1 b2 b3;obtain ⟨e0,b0,b1,b2,b3⟩:=HS.out w1 y1;have E0:=Lib.hid e0;have Y1:=Lib.hid y1;clear e0 y1;have HN:=Lib.hid hn;have HZ:=Lib.hid hz;have HZ':=Lib.hid hz';clear hn hz hz'
   by_cases hge:val ds'<=val ds
   · have hcm:0<=xw (val ds) (val ds'):=by unfold xw; split <;> (try split) <;> omega
     have hcm2:=(uam (val ds) (val ds')).2;generalize xw (val ds) (val ds')=cm at *;go_wp2_with fail;refine (zba _ _ ds ds' _ ⟨A,c,rfl,h1,h2,H3.out.ext E0.out⟩ ⟨A',c',rfl,h1',h2',H3'.out.ext E0.out⟩ (by omega) hge).mono ?_;rintro e w2 ⟨v2,rfl,nv2,-,x2⟩;have y2:=Y1.out.trans x2;obtain ⟨e0',b0',b1',b2',b3'⟩:=HS.out w2 y2;have NV2:=Lib.hid nv2;have Y2:=Lib.hid y2;clear nv2 y2 x2 e0' b0 b1 b2 b3;go_wp2_with fail;refine (xan _ _ _ _ NV2.out).mono ?_;rintro e w3 ⟨v3,rfl,⟨v4,rfl,A2,c2,rfl,q1,q2,q3⟩,x3⟩;have y3:Ext W w3:=Ext.trans Y2.out x3;obtain ⟨r0,r1,f0,f1⟩:=HR.out w3 y3;have HF:=Lib.hid (wz (g:=w.heap.size+1+1) (z:=sgn neg (val ds - val ds')) (u0:=.bool false) (u1:=.slice none 0 0) (HX0.out.trans y3) (by omega) r0 r1 rfl rfl ⟨_,rfl,A2,c2,rfl,q1,q2,q3⟩);have hab:a+b=sgn neg (val ds - val ds'):=by
      have:=HN.out;rw [HZ.out,HZ'.out]; cases neg <;> cases neg' <;> simp_all [sgn] <;> omega
     have HAB:=Lib.hid hab;clear y3 q3 x3 hab;go_wp2_with fail;refine bodyPost_ret (v:=.agg #[.bool (decide (sgn neg (val ds - val ds') < 0)),.slice A2 (dg (sgn neg (val ds - val ds')).natAbs).length c2]) (by simp [results,Tryz.results85,go_sem,r0,r1]) rfl ?_;rw [HAB.out];exact HF.out
   · have hcm:xw (val ds) (val ds') < 0:=by rw [vai (by omega)]; omega
     have hcm2:=(uam (val ds) (val ds')).1;generalize xw (val ds) (val ds')=cm at *;go_wp2_with fail;refine (zba _ _ ds' ds _ ⟨A',c',rfl,h1',h2',H3'.out.ext E0.out⟩ ⟨A,c,rfl,h1,h2,H3.out.ext E0.out⟩ (by omega) (by omega)).mono ?_;rintro e w2 ⟨v2,rfl,nv2,-,x2⟩;have y2:=Y1.out.trans x2;obtain ⟨e0',b0',b1',b2',b3'⟩:=HS.out w2 y2;have NV2:=Lib.hid nv2;have Y2:=Lib.hid y2;clear nv2 y2 x2 e0' b0 b1 b2 b3;go_wp2_with fail;refine (xan _ _ _ _ NV2.out).mono ?_;rintro e w3 ⟨v3,rfl,⟨v4,rfl,A2,c2,rfl,q1,q2,q3⟩,x3⟩;have y3:Ext W w3:=Ext.trans Y2.out x3;obtain ⟨r0,r1,f0,f1⟩:=HR.out w3 y3;have HF:=Lib.hid (wz (g:=w.heap.size+1+1) (z:=sgn neg' (val ds' - val ds)) (u0:=.bool false) (u1:=.slice none 0 0) (HX0.out.trans y3) (by omega) r0 r1 rfl rfl ⟨_,rfl,A2,c2,rfl,q1,q2,q3⟩);have hab:a+b=sgn neg' (val ds' - val ds):=by
      have:=HN.out;rw [HZ.out,HZ'.out]; cases neg <;> cases neg' <;> simp_all [sgn] <;> omega
     have HAB:=Lib.hid hab;clear y3 q3 x3 hab;go_wp2_with fail;refine bodyPost_ret (v:=.agg #[.bool (decide (sgn neg' (val ds' - val ds) < 0)),.slice A2 (dg (sgn neg' (val ds' - val ds)).natAbs).length c2]) (by simp [results,Tryz.results85,go_sem,r0,r1]) rfl ?_;rw [HAB.out];exact HF.out
theorem kcm (x y:Value) (a b:Int) (L M:Nat) (w:World) (h:jg w x a L) (k:jg w y b M) (hs:L+M<=35184372088000) :
 Calls Tryz.prog 86 #[x,y] w (gag (a - b) w):=by
 obtain ⟨neg,v,ds,rfl,⟨A,c,rfl,h1,h2,h3⟩,hz,hl⟩:=h;obtain ⟨neg',v',ds',rfl,⟨A',c',rfl,h1',h2',h3'⟩,hz',hl'⟩:=k;have H3:=Lib.hid h3;have H3':=Lib.hid h3';have HZ:=Lib.hid hz;have HZ':=Lib.hid hz';clear h3 h3' hz hz';go_enter Tryz.func86,Tryz.ntmps86;go_wp2_with fail;generalize hW:((w.alloc (Obj.cells #[.bool neg,.slice A ds.length c] 25)).alloc (Obj.cells #[.bool neg',.slice A' ds'.length c'] 25)).alloc (Obj.cells #[.bool false,.slice none 0 0] 25)=W;have HX0:Hid (Ext w W):=by
  have:Ext w W:=by rw [<- hW]; exact (((Ext.refl w).alloc _).alloc _).alloc _
  exact this
 have HWS:Hid (W.heap.size=w.heap.size+1+1+1):=by
  have:W.heap.size=w.heap.size+1+1+1:=by rw [<- hW]; simp
  exact this
 have HS:Hid (∀ W',Ext W W'->(Ext w W'/\W'.cell? ⟨w.heap.size,0,none⟩=some (.bool neg)/\W'.cell? ⟨w.heap.size,1,none⟩=some (.slice A ds.length c)/\W'.cell? ⟨w.heap.size+1,0,none⟩=some (.bool neg')/\W'.cell? ⟨w.heap.size+1,1,none⟩=some (.slice A' ds'.length c'))):=by
  intro W' hx;obtain ⟨hc,hf⟩:=hx.cells;have hsz:=HWS.out;refine ⟨HX0.out.trans hx,?_,?_,?_,?_⟩ <;> (rw [hc _ _ (by omega),<- hW]; simp [go_sem])
 have HR:Hid (∀ W',Ext W W'->(W'.cell? ⟨w.heap.size+1+1,0,none⟩=some (.bool false)/\W'.cell? ⟨w.heap.size+1+1,1,none⟩=some (.slice none 0 0)/\W'.frozen? ⟨w.heap.size+1+1,0,none⟩=false/\W'.frozen? ⟨w.heap.size+1+1,1,none⟩=false)):=by
  intro W' hx;obtain ⟨hc,hf⟩:=hx.cells;have hsz:=HWS.out;refine ⟨?_,?_,?_,?_⟩ <;> first | (rw [hc _ _ (by omega),<- hW]; simp [go_sem]; done) | (rw [hf _ _ (by omega),<- hW]; simp [go_sem]; done)
 clear hW;obtain ⟨e0,b0,b1,b2,b3⟩:=HS.out W (Ext.refl W);refine (ga2 _ _ a (-b) L M _ ⟨neg,_,ds,rfl,⟨A,c,rfl,h1,h2,H3.out.ext e0⟩,HZ.out,hl⟩ ⟨!neg',_,ds',rfl,⟨A',c',rfl,h1',h2',H3'.out.ext e0⟩,by rw [HZ'.out]; cases neg' <;> simp [sgn],hl'⟩ hs).mono ?_;rw [<- Int.sub_eq_add_neg];rintro e w3 ⟨v3,rfl,⟨v4,rfl,A2,c2,rfl,q1,q2,q3⟩,y3⟩;obtain ⟨r0,r1,f0,f1⟩:=HR.out w3 y3;have HF:=Lib.hid (wz (g:=w.heap.size+1+1) (z:=a - b) (u0:=.bool false) (u1:=.slice none 0 0) (HX0.out.trans y3) (by omega) r0 r1 rfl rfl ⟨_,rfl,A2,c2,rfl,q1,q2,q3⟩);clear y3 q3 e0 b0 b1 b2 b3;go_wp2_with fail;exact bodyPost_ret (v:=.agg #[.bool (decide (a - b < 0)),.slice A2 (dg (a - b).natAbs).length c2]) (by simp [results,Tryz.results86,go_sem,r0,r1]) rfl HF.out
theorem kct (x y:Value) (a b:Int) (L M:Nat) (w:World) (h:jg w x a L) (k:jg w y b M) :
 Calls Tryz.prog 41 #[x,y] w fun e w'=>e=.returned (.int .i64 (xw a b))/\Ext w w':=by
 obtain ⟨neg,v,ds,rfl,⟨A,c,rfl,h1,h2,h3⟩,hz,hl⟩:=h;obtain ⟨neg',v',ds',rfl,⟨A',c',rfl,h1',h2',h3'⟩,hz',hl'⟩:=k;have H3:=Lib.hid h3;have H3':=Lib.hid h3';have HZ:=Lib.hid hz;have HZ':=Lib.hid hz';clear h3 h3' hz hz';go_enter Tryz.func41,Tryz.ntmps41;go_wp2_with fail;generalize hW:(w.alloc (Obj.cells #[.bool neg,.slice A ds.length c] 25)).alloc (Obj.cells #[.bool neg',.slice A' ds'.length c'] 25)=W;have HX0:Hid (Ext w W):=by
  have:Ext w W:=by rw [<- hW]; exact ((Ext.refl w).alloc _).alloc _
  exact this
 have HWS:Hid (W.heap.size=w.heap.size+1+1):=by
  have:W.heap.size=w.heap.size+1+1:=by rw [<- hW]; simp
  exact this
 have HS:Hid (∀ W',Ext W W'->(Ext w W'/\W'.cell? ⟨w.heap.size,0,none⟩=some (.bool neg)/\W'.cell? ⟨w.heap.size,1,none⟩=some (.slice A ds.length c)/\W'.cell? ⟨w.heap.size+1,0,none⟩=some (.bool neg')/\W'.cell? ⟨w.heap.size+1,1,none⟩=some (.slice A' ds'.length c'))):=by
  intro W' hx;obtain ⟨hc,hf⟩:=hx.cells;have hsz:=HWS.out;refine ⟨HX0.out.trans hx,?_,?_,?_,?_⟩ <;> (rw [hc _ _ (by omega),<- hW]; simp [go_sem])
 clear hW
 go_region_held3 (fun W' => Ext w W' /\ W'.cell? ⟨w.heap.size, 0, none⟩ = some (.bool neg) /\ W'.cell? ⟨w.heap.size, 1, none⟩ = some (.slice A ds.length c) /\ W'.cell? ⟨w.heap.size + 1, 0, none⟩ = some (.bool neg') /\ W'.cell? ⟨w.heap.size + 1, 1, none⟩ = some (.slice A' ds'.length c'))
  (first | exact HS.out _ ((Ext.refl W).drew) | exact HS.out _ (by assumption))
  (first
    | (go_at_call_of 79 (Value.agg #[.bool neg,.slice A ds.length c])
       have hxx:=(‹Ext w _/\_›).1;refine (jao _ a L _ ⟨neg,_,ds,rfl,⟨A,c,rfl,h1,h2,H3.out.ext hxx⟩,HZ.out,hl⟩).mono ?_;rintro e w2 ⟨rfl,x2⟩
       have y2:Ext W w2:=Ext.trans ((Ext.refl W).drew) x2)
    | (go_at_call_of 79 (Value.agg #[.bool neg',.slice A' ds'.length c'])
       have hxx:=(‹Ext w _/\_›).1;refine (jao _ b M _ ⟨neg',_,ds',rfl,⟨A',c',rfl,h1',h2',H3'.out.ext hxx⟩,HZ'.out,hl'⟩).mono ?_;rintro e w3 ⟨rfl,x3⟩
       have y3:Ext W w3:=Ext.trans y2 x3))
 obtain ⟨e0,b0,b1,b2,b3⟩:=HS.out w3 y3;have E0:=Lib.hid e0;have bA:=uam a 0;have bB:=uam b 0;have HSA:Hid (sgI a=xw a 0):=rfl;have HSB:Hid (sgI b=xw b 0):=rfl
 change -1<=sgI a/\sgI a<=1 at bA
 change -1<=sgI b/\sgI b<=1 at bB
 obtain ⟨bA0,bA1⟩:=bA;obtain ⟨bB0,bB1⟩:=bB;clear e0 y2 y3 x2 x3 HS;generalize sgI a=sa at *;generalize sgI b=sb at *;rcases Int.lt_trichotomy sa sb with hlt | heq | hgt
 · go_wp2_with fail;go_ret;exact ⟨vao (vai (ubk (by rw [<- HSA.out,<- HSB.out]; exact hlt))).symm,E0.out⟩
 · subst heq
   by_cases hneg:sa < 0
   · go_wp2_with fail;refine (kap _ _ ds' ds _ ⟨A',c',rfl,h1',h2',H3'.out.ext E0.out⟩ ⟨A,c,rfl,h1,h2,H3.out.ext E0.out⟩).mono ?_;rintro e w4 ⟨rfl,n4,hw4⟩;have y4:Ext w w4:=by rw [hw4]; exact E0.out.drewN n4
     have Y4:=Lib.hid y4;have hcm:xw (val ds') (val ds)=xw a b:=by
      have ha:a < 0:=by have:=HSA.out; unfold xw at this; split at this <;> (try split at this) <;> omega
      have hb:b < 0:=by have:=HSB.out; unfold xw at this; split at this <;> (try split at this) <;> omega
      have z1:=HZ.out;have z2:=HZ'.out;cases neg <;> cases neg' <;> simp [sgn] at z1 z2 <;> first | omega | (rw [z1,z2]; unfold xw; split <;> (try split) <;> (try split) <;> (try split) <;> omega)
     have HCM:=Lib.hid hcm;clear hw4 y4 hcm;go_wp2_with fail;go_ret;exact ⟨vao HCM.out,Y4.out⟩
   · go_wp2_with fail;refine (kap _ _ ds ds' _ ⟨A,c,rfl,h1,h2,H3.out.ext E0.out⟩ ⟨A',c',rfl,h1',h2',H3'.out.ext E0.out⟩).mono ?_;rintro e w4 ⟨rfl,n4,hw4⟩;have y4:Ext w w4:=by rw [hw4]; exact E0.out.drewN n4
     have Y4:=Lib.hid y4;have hcm:xw (val ds) (val ds')=xw a b:=by
      have ha:0<=a:=by have:=HSA.out; unfold xw at this; split at this <;> (try split at this) <;> omega
      have hb:0<=b:=by have:=HSB.out; unfold xw at this; split at this <;> (try split at this) <;> omega
      have z1:=HZ.out;have z2:=HZ'.out;have e1:a=val ds:=by cases neg <;> simp [sgn] at z1 <;> omega
      have e2:b=val ds':=by cases neg' <;> simp [sgn] at z2 <;> omega
      rw [e1,e2]
     have HCM:=Lib.hid hcm;clear hw4 y4 hcm;go_wp2_with fail;go_ret;exact ⟨vao HCM.out,Y4.out⟩
 · go_wp2_with fail;go_ret;exact ⟨vao (vap (ubk (by rw [<- HSA.out,<- HSB.out]; exact hgt))).symm,E0.out⟩
theorem jg.unpack {w:World} {x:Value} {z:Int} {L:Nat} (h:jg w x z L):∃ b A n c,x=.agg #[.bool b,.slice A n c]:=by
 obtain ⟨neg,v,ds,rfl,⟨A,c,rfl,-⟩,-⟩:=h;exact ⟨neg,A,_,c,rfl⟩
theorem vae.unpack {w:World} {x:Value} {z:Int} (h:vae w x z):∃ b A n c,x=.agg #[.bool b,.slice A n c]:=h.raw.unpack
end Go.Proofs.YtheefiaoimbeiaaGreatDoor

/- Type assertions to struct types. -/
namespace Go.Proofs.YtheefiaoimbeiaaGreatDoor
open Go.RowKit
def za2 (P:Program) (T:TypeId):Bool:=match P.underlying T with
 | some (.struct _)=>true
 | _=>false
theorem xh {P:Program} {T:TypeId} {z:Value} (h:za2 P T=true) (hz:(P.info? T).map (·.zero)=some (some z)) (t:TypeId) (v:Value) (xT:TypeId) (w:World) :
 (Instr.typeAssert (.iface t v) xT T true).run P w=.ok (.tuple #[if t=T then v else z,.bool (decide (t=T))]) w:=by
 obtain ⟨j,hj,hz'⟩:=Option.map_eq_some_iff.1 hz;unfold za2 at h
 split at h
 · rename_i fs hu
   by_cases ht:t=T
   · subst ht;simp [Instr.typeAssert,run_underlying hu]
   · simp [Instr.typeAssert,run_underlying hu,ht,zeroValue,typeInfo,hj,hz']
 · cases h
theorem xaa (t:TypeId) (v:Value) (xT:TypeId) (w:World):(Instr.typeAssert (.iface t v) xT 110 true).run Tryz.prog w=.ok (.tuple #[if t=110 then v else .agg #[.bool false,.slice none 0 0],.bool (decide (t=110))]) w:=
 xh (by kernel_rfl) (by kernel_rfl) t v xT w
theorem xy (t:TypeId) (v:Value) (xT:TypeId) (w:World):(Instr.typeAssert (.iface t v) xT 73 true).run Tryz.prog w=.ok (.tuple #[if t=73 then v else .agg #[.string ByteArray.empty],.bool (decide (t=73))]) w:=
 xh (by kernel_rfl) (by kernel_rfl) t v xT w
theorem gaa (t:TypeId) (v:Value) (xT:TypeId) (w:World):(Instr.typeAssert (.iface t v) xT 175 true).run Tryz.prog w=.ok (.tuple #[if t=175 then v else .agg #[.nilIface,.nilIface],.bool (decide (t=175))]) w:=
 xh (by kernel_rfl) (by kernel_rfl) t v xT w
theorem zaa (t:TypeId) (v:Value) (xT:TypeId) (w:World):(Instr.typeAssert (.iface t v) xT 176 true).run Tryz.prog w=.ok (.tuple #[if t=176 then v else .agg #[.nilIface,.nilIface],.bool (decide (t=176))]) w:=
 xh (by kernel_rfl) (by kernel_rfl) t v xT w
theorem kaa (t:TypeId) (v:Value) (xT:TypeId) (w:World):(Instr.typeAssert (.iface t v) xT 177 true).run Tryz.prog w=.ok (.tuple #[if t=177 then v else .agg #[.nilIface,.nilIface],.bool (decide (t=177))]) w:=
 xh (by kernel_rfl) (by kernel_rfl) t v xT w
theorem jaa (t:TypeId) (v:Value) (xT:TypeId) (w:World):(Instr.typeAssert (.iface t v) xT 171 true).run Tryz.prog w=.ok (.tuple #[if t=171 then v else .agg #[.nilIface],.bool (decide (t=171))]) w:=
 xh (by kernel_rfl) (by kernel_rfl) t v xT w
theorem yaa (t:TypeId) (v:Value) (xT:TypeId) (w:World):(Instr.typeAssert (.iface t v) xT 173 true).run Tryz.prog w=.ok (.tuple #[if t=173 then v else .agg #[.nilIface,.int .i64 0],.bool (decide (t=173))]) w:=
 xh (by kernel_rfl) (by kernel_rfl) t v xT w
theorem yt (t:TypeId) (v:Value) (xT:TypeId) (w:World):(Instr.typeAssert (.iface t v) xT 85 true).run Tryz.prog w=.ok (.tuple #[if t=85 then v else .agg #[.bool false],.bool (decide (t=85))]) w:=
 xh (by kernel_rfl) (by kernel_rfl) t v xT w
theorem qy (t:TypeId) (v:Value) (xT:TypeId) (w:World):(Instr.typeAssert (.iface t v) xT 77 true).run Tryz.prog w=.ok (.tuple #[if t=77 then v else .agg #[.nilIface,.int .i64 0,.nilIface],.bool (decide (t=77))]) w:=
 xh (by kernel_rfl) (by kernel_rfl) t v xT w
theorem qaa (t:TypeId) (v:Value) (xT:TypeId) (w:World):(Instr.typeAssert (.iface t v) xT 134 true).run Tryz.prog w=.ok (.tuple #[if t=134 then v else .agg #[.nilIface],.bool (decide (t=134))]) w:=
 xh (by kernel_rfl) (by kernel_rfl) t v xT w
theorem uaa (t:TypeId) (v:Value) (xT:TypeId) (w:World):(Instr.typeAssert (.iface t v) xT 136 true).run Tryz.prog w=.ok (.tuple #[if t=136 then v else .agg #[.nilIface,.nilIface],.bool (decide (t=136))]) w:=
 xh (by kernel_rfl) (by kernel_rfl) t v xT w
theorem yad (t:TypeId) (v:Value) (xT:TypeId) (w:World):(Instr.typeAssert (.iface t v) xT 137 true).run Tryz.prog w=.ok (.tuple #[if t=137 then v else .agg #[.nilIface,.nilIface],.bool (decide (t=137))]) w:=
 xh (by kernel_rfl) (by kernel_rfl) t v xT w
theorem qm (t:TypeId) (v:Value) (xT:TypeId) (w:World):(Instr.typeAssert (.iface t v) xT 138 true).run Tryz.prog w=.ok (.tuple #[if t=138 then v else .agg #[.nilIface,.nilIface],.bool (decide (t=138))]) w:=
 xh (by kernel_rfl) (by kernel_rfl) t v xT w
theorem vaa (t:TypeId) (v:Value) (xT:TypeId) (w:World):(Instr.typeAssert (.iface t v) xT 139 true).run Tryz.prog w=.ok (.tuple #[if t=139 then v else .agg #[.nilIface,.nilIface],.bool (decide (t=139))]) w:=
 xh (by kernel_rfl) (by kernel_rfl) t v xT w
theorem ut (t:TypeId) (v:Value) (xT:TypeId) (w:World):(Instr.typeAssert (.iface t v) xT 79 true).run Tryz.prog w=.ok (.tuple #[if t=79 then v else .agg #[.bool false,.string ByteArray.empty,.nilIface],.bool (decide (t=79))]) w:=
 xh (by kernel_rfl) (by kernel_rfl) t v xT w
end Go.Proofs.YtheefiaoimbeiaaGreatDoor

/- Maps from strings to values of any type: what a block that is such a map holds, and what reading and writing it does. -/
namespace Go.Proofs.YtheefiaoimbeiaaGreatDoor
open Go.RowKit
def zac (l:List (ByteArray × Value)) (s:ByteArray):Option Value:=match l with
 | []=>none
 | (k,v) :: r=>if s=k then some v else zac r s
def uai (l:List (ByteArray × Value)) (s:ByteArray) (u:Value):List (ByteArray × Value):=match l with
 | []=>[(s,u)]
 | (k,v) :: r=>if s=k then (s,u) :: r else (k,v) :: uai r s u
theorem ybb (l:List (ByteArray × Value)) (s:ByteArray) (u:Value):zac (uai l s u) s=some u:=by
 induction l with
 | nil=>simp [uai,zac]
 | cons x r ih =>
   obtain ⟨k,v⟩:=x;unfold uai
   by_cases h:s=k
   · rw [if_pos h]; simp [zac]
   · rw [if_neg h]; simp [zac,h,ih]
theorem ya8 (l:List (ByteArray × Value)) (s t:ByteArray) (u:Value) (hne:t ≠ s):zac (uai l s u) t=zac l t:=by
 induction l with
 | nil=>simp [uai,zac,hne]
 | cons x r ih =>
   obtain ⟨k,v⟩:=x;unfold uai
   by_cases h:s=k
   · rw [if_pos h]; subst h; simp [zac,hne]
   · rw [if_neg h]; simp [zac,ih]
theorem ja0 (l:List (ByteArray × Value)) (s t:ByteArray) (u:Value):zac (uai l s u) t=if t=s then some u else zac l t:=by
 by_cases h:t=s
 · rw [if_pos h,h,ybb]
 · rw [if_neg h,ya8 _ _ _ _ h]
def qx (w:World) (b:Nat) (l:List (ByteArray × Value)):Prop:=
 ∃ es clock,w.heap[b]?=some (.map es clock)/\es.toList.map (fun e=>(e.key,e.val))=l.map (fun x=>(Value.string x.1,x.2))
theorem qx.lt {w:World} {b:Nat} {l:List (ByteArray × Value)} (h:qx w b l):b < w.heap.size:=by
 obtain ⟨es,clock,hb,_⟩:=h;exact (Array.getElem?_eq_some_iff.1 hb).1
theorem qx.made (w:World):qx (w.alloc (.map #[] 0)) w.heap.size []:=⟨#[],0,heap_alloc_new w _,rfl⟩
theorem qx.ext {w w':World} {b:Nat} {l:List (ByteArray × Value)} (h:qx w b l) (hx:Ext w w'):qx w' b l:=by
 have hlt:=h.lt;obtain ⟨es,clock,hb,he⟩:=h;exact ⟨es,clock,(hx.below.block b hlt).trans hb,he⟩
theorem qx.alloc {w:World} {b:Nat} {l:List (ByteArray × Value)} (h:qx w b l) (o:Obj):qx (w.alloc o) b l:=h.ext ((Ext.refl w).alloc o)
theorem qx.setCell {w:World} {b:Nat} {l:List (ByteArray × Value)} (h:qx w b l) (p:Addr) (u:Value) (hne:b ≠ p.block):qx (w.setCell p u) b l:=by
 obtain ⟨es,clock,hb,he⟩:=h;exact ⟨es,clock,(Below.heap_setCell w p u b hne).trans hb,he⟩
theorem ja4 (s:ByteArray) (es:List MapEntry) (l:List (ByteArray × Value)) (h:es.map (fun e=>(e.key,e.val))=l.map (fun x=>(Value.string x.1,x.2))) :
 ∀ i,(Instr.findNow .string (.string s) es i=some none/\zac l s=none/\(∀ u,uai l s u=l ++ [(s,u)])) \/
   ∃ k v,Instr.findNow .string (.string s) es i=some (some (i+k,v))/\zac l s=some v/\(∀ u,uai l s u=l.set k (s,u))/\(es[k]?).map (·.key)=some (.string s)/\k < es.length:=by
 induction es generalizing l with
 | nil =>
   intro i
   have:l=[]:=by cases l with
    | nil=>rfl
    | cons x r=>simp at h
   subst this;exact .inl ⟨rfl,rfl,fun u=>rfl⟩
 | cons e es ih =>
   cases l with
   | nil=>simp at h
   | cons x r =>
     obtain ⟨k,v⟩:=x;simp only [List.map_cons,List.cons.injEq,Prod.mk.injEq] at h;obtain ⟨⟨hk,hv⟩,hr⟩:=h;intro i
     by_cases hs:s=k
     · subst hs;refine .inr ⟨0,v,?_,by simp [zac],fun u=>by simp [uai],by simp [hk],by simp⟩;simp [Instr.findNow,hk,hv,Instr.sameNow,(MapKept.bytes_beq s s).2 rfl]
     · have hb:(s == k)=false:=by rw [Bool.eq_false_iff]; exact fun e=>hs ((MapKept.bytes_beq s k).1 e)
       rcases ih r hr (i+1) with ⟨h1,h2,h3⟩ | ⟨j,u,h1,h2,h3,h4,h5⟩
       · refine .inl ⟨by simp [Instr.findNow,hk,Instr.sameNow,hb,h1],by simp [zac,hs,h2],fun u=>by simp [uai,hs,h3]⟩
       · refine .inr ⟨j+1,u,?_,by simp [zac,hs,h2],fun u=>by simp [uai,hs,h3],by simpa using h4,by simp; omega⟩;simp [Instr.findNow,hk,Instr.sameNow,hb,h1]; omega
theorem xa1 {P:Program} {k:TypeId} (hk:P.underlying k=some .string) (b:Bool) (n:Nat) (s:ByteArray) (w:World):(Instr.checkKey b (n+1) k (.string s)).run P w=.ok () w:=by
 simp [Instr.checkKey,run_underlying hk]
theorem qx.look {P:Program} {t k e:TypeId} {w:World} {b:Nat} {l:List (ByteArray × Value)} {z:Value} (h:qx w b l) (ht:P.underlying t=some (.map k e)) (hk:P.underlying k=some .string) (hz:(P.info? e).map (·.zero)=some (some z)) (s:ByteArray) (ok:Bool) :
 (Instr.lookup t (.map (some b)) (.string s) ok).run P w=.ok (if ok then .tuple #[(zac l s).getD z,.bool (zac l s).isSome] else (zac l s).getD z) w:=by
 obtain ⟨es,clock,hb,he⟩:=h;obtain ⟨j,hj,hz'⟩:=Option.map_eq_some_iff.1 hz;have hg:=MapKept.run_getObj_map (P:=P) hb;have hck:=xa1 hk es.isEmpty 9999 s w;have hzr:(zeroValue e).run P w=.ok z w:=by simp [zeroValue,typeInfo,hj,hz']
 rcases ja4 s es.toList l he 0 with ⟨h1,h2,-⟩ | ⟨i,v,h1,h2,-,-⟩
 · have hf:(Instr.findKey k (.string s) es.toList).run P w=.ok none w:=by simp [Instr.findKey,run_underlying hk,h1]
   simp only [Instr.lookup,h2];cases ok <;> simp [run_underlying ht,hg,hck,hf,hzr]
 · have hf:(Instr.findKey k (.string s) es.toList).run P w=.ok (some (0+i,v)) w:=by simp [Instr.findKey,run_underlying hk,h1]
   simp only [Instr.lookup,h2];cases ok <;> simp [run_underlying ht,hg,hck,hf]
theorem qx.put {P:Program} {t k e:TypeId} {w:World} {b:Nat} {l:List (ByteArray × Value)} (h:qx w b l) (ht:P.underlying t=some (.map k e)) (hk:P.underlying k=some .string) (s:ByteArray) (u:Value) :
 ∃ w',(Instr.mapUpdate t (.map (some b)) (.string s) u).run P w=.ok () w'/\qx w' b (uai l s u)/\Only b w w':=by
 have hlt:=h.lt;obtain ⟨es,clock,hb,he⟩:=h;have hg:=MapKept.run_getObj_map (P:=P) hb;have hck:=xa1 hk false 9999 s w;have hon:∀ o,Only b w { w with heap:=w.heap.setIfInBounds b o }:=fun o=>⟨rfl,rfl,rfl,by simp,fun i hi hne=>by
  have:b ≠ i:=fun e=>hne (by rw [e])
  simp [Array.getElem?_setIfInBounds,this]⟩
 rcases ja4 s es.toList l he 0 with ⟨h1,-,h3⟩ | ⟨i,v,h1,-,h3,h4,h5⟩
 · have hf:(Instr.findKey k (.string s) es.toList).run P w=.ok none w:=by simp [Instr.findKey,run_underlying hk,h1]
   have hs:=MapKept.run_setObj_map (P:=P) (.map (es.push { key:=.string s,val:=u,born:=clock }) (clock+1)) hb;refine ⟨_,?_,?_,hon (.map (es.push { key:=.string s,val:=u,born:=clock }) (clock+1))⟩
   · simp [Instr.mapUpdate,run_underlying ht,hg,hck,hf,hs]
   · refine ⟨_,_,by simp [Array.getElem?_setIfInBounds,hlt]; exact ⟨rfl,rfl⟩,?_⟩;rw [h3];simpa using he
 · have hf:(Instr.findKey k (.string s) es.toList).run P w=.ok (some (0+i,v)) w:=by simp [Instr.findKey,run_underlying hk,h1]
   have hkey:(es[i]?).map (·.key)=some (.string s):=by simpa using h4
   have hst:(Instr.keyThatStays (.string s) (.string s)).run P w=.ok (.string s) w:=by
    simp [Instr.keyThatStays,Instr.sameBits,(MapKept.bytes_beq s s).2 rfl]
   have hs:=MapKept.run_setObj_map (P:=P) (.map (es.modify i fun e=>{ e with key:=.string s,val:=u }) clock) hb;refine ⟨_,?_,?_,hon (.map (es.modify i fun e=>{ e with key:=.string s,val:=u }) clock)⟩
   · simp [Instr.mapUpdate,run_underlying ht,hg,hck,hf,hkey,hst,hs]
   · refine ⟨_,_,by simp [Array.getElem?_setIfInBounds,hlt]; exact ⟨rfl,rfl⟩,?_⟩;rw [h3];apply List.ext_getElem?;intro j;have hej:=congrArg (fun L=>L[j]?) he;simp only [List.getElem?_map,Array.getElem?_toList] at hej;simp only [List.getElem?_map,Array.getElem?_toList,Array.getElem?_modify,List.getElem?_set]
     by_cases hij:i=j
     · subst hij;have hl:i < l.length:=by
        have:=congrArg List.length he;simp at this h5;omega
       have h5':i < es.size:=by simpa using h5
       simp [hl,h5']
     · simp [hij,hej]
end Go.Proofs.YtheefiaoimbeiaaGreatDoor

/- Layer 34: terms and formulas as values. -/
set_option maxRecDepth 100000
set_option maxHeartbeats 8000000
namespace Go.Proofs.YtheefiaoimbeiaaGreatDoor
open Go.RowKit
attribute [local go_sem] xaa xy gaa zaa kaa jaa yaa yt qy qaa uaa yad qm vaa ut
inductive Tm where
 | num (z:Int) | name (s:ByteArray) | add (a b:Tm) | sub (a b:Tm) | mul (a b:Tm) | neg (a:Tm) | pow (a:Tm) (e:Int)
inductive Fm where
 | truth (b:Bool) | atom (l:Tm) (r:Int) (k:Tm) | not (f:Fm) | and (f g:Fm) | or (f g:Fm) | imp (f g:Fm) | iff (f g:Fm) | quant (all:Bool) (s:ByteArray) (f:Fm)
def TmV (w : World) (L : Nat) : Tm -> Value -> Prop
 | .num z,v=>∃ x,v=.iface 110 x/\jg w x z L
 | .name s,v=>v=.iface 73 (.agg #[.string s])
 | .add a b,v=>∃ x y,v=.iface 175 (.agg #[x,y])/\TmV w L a x/\TmV w L b y
 | .sub a b,v=>∃ x y,v=.iface 176 (.agg #[x,y])/\TmV w L a x/\TmV w L b y
 | .mul a b,v=>∃ x y,v=.iface 177 (.agg #[x,y])/\TmV w L a x/\TmV w L b y
 | .neg a,v=>∃ x,v=.iface 171 (.agg #[x])/\TmV w L a x
 | .pow a e,v=>∃ x,v=.iface 173 (.agg #[x,.int .i64 e])/\TmV w L a x
def FmV (w : World) (L : Nat) : Fm -> Value -> Prop
 | .truth b,v=>v=.iface 85 (.agg #[.bool b])
 | .atom l r k,v=>∃ x y,v=.iface 77 (.agg #[x,.int .i64 r,y])/\TmV w L l x/\TmV w L k y
 | .not f,v=>∃ x,v=.iface 134 (.agg #[x])/\FmV w L f x
 | .and f g,v=>∃ x y,v=.iface 136 (.agg #[x,y])/\FmV w L f x/\FmV w L g y
 | .or f g,v=>∃ x y,v=.iface 137 (.agg #[x,y])/\FmV w L f x/\FmV w L g y
 | .imp f g,v=>∃ x y,v=.iface 138 (.agg #[x,y])/\FmV w L f x/\FmV w L g y
 | .iff f g,v=>∃ x y,v=.iface 139 (.agg #[x,y])/\FmV w L f x/\FmV w L g y
 | .quant a s f,v=>∃ x,v=.iface 79 (.agg #[.bool a,.string s,x])/\FmV w L f x
theorem TmV.ext {w w':World} {L:Nat} (hx:Ext w w') {t:Tm} {v:Value} (h:TmV w L t v):TmV w' L t v:=by
 induction t generalizing v with
 | num z=>obtain ⟨x,e,h⟩:=h; exact ⟨x,e,h.ext hx⟩
 | name s=>exact h
 | add a b iha ihb=>obtain ⟨x,y,e,h,k⟩:=h; exact ⟨x,y,e,iha h,ihb k⟩
 | sub a b iha ihb=>obtain ⟨x,y,e,h,k⟩:=h; exact ⟨x,y,e,iha h,ihb k⟩
 | mul a b iha ihb=>obtain ⟨x,y,e,h,k⟩:=h; exact ⟨x,y,e,iha h,ihb k⟩
 | neg a iha=>obtain ⟨x,e,h⟩:=h; exact ⟨x,e,iha h⟩
 | pow a n iha=>obtain ⟨x,e,h⟩:=h; exact ⟨x,e,iha h⟩
theorem FmV.ext {w w':World} {L:Nat} (hx:Ext w w') {f:Fm} {v:Value} (h:FmV w L f v):FmV w' L f v:=by
 induction f generalizing v with
 | truth b=>exact h
 | atom l r k=>obtain ⟨x,y,e,h,k⟩:=h; exact ⟨x,y,e,h.ext hx,k.ext hx⟩
 | not f ihf=>obtain ⟨x,e,h⟩:=h; exact ⟨x,e,ihf h⟩
 | and f g ihf ihg=>obtain ⟨x,y,e,h,k⟩:=h; exact ⟨x,y,e,ihf h,ihg k⟩
 | or f g ihf ihg=>obtain ⟨x,y,e,h,k⟩:=h; exact ⟨x,y,e,ihf h,ihg k⟩
 | imp f g ihf ihg=>obtain ⟨x,y,e,h,k⟩:=h; exact ⟨x,y,e,ihf h,ihg k⟩
 | iff f g ihf ihg=>obtain ⟨x,y,e,h,k⟩:=h; exact ⟨x,y,e,ihf h,ihg k⟩
 | quant a s f ihf=>obtain ⟨x,e,h⟩:=h; exact ⟨x,e,ihf h⟩
theorem TmV.iface {w:World} {L:Nat} {t:Tm} {v:Value} (h:TmV w L t v):∃ T x,v=.iface T x:=by
 cases t <;> (simp only [TmV] at h) <;> first | exact ⟨_,_,h⟩ | (obtain ⟨_,e,_⟩:=h; exact ⟨_,_,e⟩) | (obtain ⟨_,_,e,_⟩:=h; exact ⟨_,_,e⟩)
theorem FmV.iface {w:World} {L:Nat} {f:Fm} {v:Value} (h:FmV w L f v):∃ T x,v=.iface T x:=by
 cases f <;> (simp only [FmV] at h) <;> first | exact ⟨_,_,h⟩ | (obtain ⟨_,e,_⟩:=h; exact ⟨_,_,e⟩) | (obtain ⟨_,_,e,_⟩:=h; exact ⟨_,_,e⟩)
def Fm.kids : Fm -> List Fm
 | .truth _=>[]
 | .atom _ _ _=>[]
 | .not f=>[f]
 | .and f g=>[f,g]
 | .or f g=>[f,g]
 | .imp f g=>[f,g]
 | .iff f g=>[f,g]
 | .quant _ _ f=>[f]
def Tm.kids : Tm -> List Tm
 | .num _=>[]
 | .name _=>[]
 | .add a b=>[a,b]
 | .sub a b=>[a,b]
 | .mul a b=>[a,b]
 | .neg a=>[a]
 | .pow a _=>[a]
def SlR {α:Type} (P:World->α->Value->Prop) (w:World) (v:Value) (l:List α):Prop:=
 ∃ A c,v=.slice A l.length c/\l.length<=c/\c<=9223372036854775807/\∀ j (h:j < l.length),∃ ad x,A=some ad/\ad.block < w.heap.size/\w.cell? (ad.add j)=some x/\P w l[j] x
theorem SlR.ext {α:Type} {P:World->α->Value->Prop} {w w':World} {v:Value} {l:List α} (h:SlR P w v l) (hP:∀ a x,P w a x->P w' a x) (k:Ext w w'):SlR P w' v l:=by
 obtain ⟨A,c,e,h1,h2,h3⟩:=h;refine ⟨A,c,e,h1,h2,fun j hj=>?_⟩;obtain ⟨ad,x,e,hb,hc,hp⟩:=h3 j hj;exact ⟨ad,x,e,Nat.lt_of_lt_of_le hb k.size,(k.cell (by rw [jb]; exact hb)).trans hc,hP _ _ hp⟩
theorem SlR.nil {α:Type} (P:World->α->Value->Prop) (w:World):SlR P w (.slice none 0 0) []:=⟨none,0,rfl,by simp,by simp,fun j h=>absurd h (by simp)⟩
theorem SlR.one {α:Type} {P:World->α->Value->Prop} {w:World} {g:Nat} {a:α} {x:Value} (hg:g < w.heap.size) (h0:w.cell? ⟨g,0,none⟩=some x) (p0:P w a x):SlR P w (.slice (some ⟨g,0,none⟩) 1 1) [a]:=by
 refine ⟨_,1,rfl,by simp,by simp,fun j hj=>?_⟩;have:j=0:=by simp at hj; omega
 subst this;exact ⟨_,x,rfl,hg,by rw [yx]; exact h0,p0⟩
theorem SlR.two {α:Type} {P:World->α->Value->Prop} {w:World} {g:Nat} {a b:α} {x y:Value} (hg:g < w.heap.size) (h0:w.cell? ⟨g,0,none⟩=some x) (h1:w.cell? ⟨g,1,none⟩=some y) (p0:P w a x) (p1:P w b y):SlR P w (.slice (some ⟨g,0,none⟩) 2 2) [a,b]:=by
 refine ⟨_,2,rfl,by simp,by simp,fun j hj=>?_⟩;rcases (show j=0\/j=1 by simp at hj; omega) with rfl | rfl
 · exact ⟨_,x,rfl,hg,by rw [yx]; exact h0,p0⟩
 · exact ⟨_,y,rfl,hg,by rw [yx]; exact h1,p1⟩
def yao (w0:World) (L:Nat) (l:List Fm) (w:World) (e:Ending) (w':World):Prop:=∃ s,e=.returned s/\SlR (fun _ f v=>FmV w0 L f v) w' s l/\zo w.heap.size s/\Ext w w'
def waq (w0:World) (L:Nat) (l:List Tm) (w:World) (e:Ending) (w':World):Prop:=∃ s,e=.returned s/\SlR (fun _ f v=>TmV w0 L f v) w' s l/\zo w.heap.size s/\Ext w w'
theorem jbp {w0 w:World} {L:Nat} {b:Bool} {v:Value} (h:FmV w0 L (Fm.truth b) v):Calls Tryz.prog 70 #[v] w (yao w0 L [] w):=by
 obtain rfl:=h;go_enter Tryz.func70,Tryz.ntmps70;go_wp2_with fail;go_ret;exact ⟨_,rfl,SlR.nil _ _,zo.nil _ _ _,Ext.refl _⟩
theorem gbw {w0 w:World} {L:Nat} {l k:Tm} {r:Int} {v:Value} (h:FmV w0 L (Fm.atom l r k) v):Calls Tryz.prog 70 #[v] w (yao w0 L [] w):=by
 obtain ⟨x,y,rfl,hx,hy⟩:=h;go_enter Tryz.func70,Tryz.ntmps70;go_wp2_with fail;go_ret;exact ⟨_,rfl,SlR.nil _ _,zo.nil _ _ _,Ext.refl _⟩
theorem kb4 {w0 w:World} {L:Nat} {f:Fm} {v:Value} (h:FmV w0 L (Fm.not f) v):Calls Tryz.prog 70 #[v] w (yao w0 L [f] w):=by
 obtain ⟨x,rfl,hx⟩:=h;obtain ⟨T,x,rfl⟩:=hx.iface;go_enter Tryz.func70,Tryz.ntmps70;go_wp2_with fail;go_ret;have hX:Ext w ((w.alloc (Obj.cells #[.iface T x] 134)).alloc (Obj.cells #[.iface T x] 37)):=((Ext.refl w).alloc _).alloc _;exact ⟨_,rfl,SlR.one (by simp) (by simp [go_sem]) hx,zo.mk _ _ _ _ (by simp),hX⟩
theorem gb4 {w0 w:World} {L:Nat} {f g:Fm} {v:Value} (h:FmV w0 L (Fm.and f g) v):Calls Tryz.prog 70 #[v] w (yao w0 L [f,g] w):=by
 obtain ⟨x,y,rfl,hx,hy⟩:=h;obtain ⟨T,x,rfl⟩:=hx.iface;obtain ⟨U,y,rfl⟩:=hy.iface;go_enter Tryz.func70,Tryz.ntmps70;go_wp2_with fail;go_ret;have hX:Ext w ((w.alloc (Obj.cells #[.iface T x,.iface U y] 136)).alloc (Obj.cells #[.iface T x,.iface U y] 37)):=((Ext.refl w).alloc _).alloc _;exact ⟨_,rfl,SlR.two (by simp) (by simp [go_sem]) (by simp [go_sem]) hx hy,zo.mk _ _ _ _ (by simp),hX⟩
theorem zcf {w0 w:World} {L:Nat} {f g:Fm} {v:Value} (h:FmV w0 L (Fm.or f g) v):Calls Tryz.prog 70 #[v] w (yao w0 L [f,g] w):=by
 obtain ⟨x,y,rfl,hx,hy⟩:=h;obtain ⟨T,x,rfl⟩:=hx.iface;obtain ⟨U,y,rfl⟩:=hy.iface;go_enter Tryz.func70,Tryz.ntmps70;go_wp2_with fail;go_ret;have hX:Ext w ((w.alloc (Obj.cells #[.iface T x,.iface U y] 137)).alloc (Obj.cells #[.iface T x,.iface U y] 37)):=((Ext.refl w).alloc _).alloc _;exact ⟨_,rfl,SlR.two (by simp) (by simp [go_sem]) (by simp [go_sem]) hx hy,zo.mk _ _ _ _ (by simp),hX⟩
theorem vb4 {w0 w:World} {L:Nat} {f g:Fm} {v:Value} (h:FmV w0 L (Fm.imp f g) v):Calls Tryz.prog 70 #[v] w (yao w0 L [f,g] w):=by
 obtain ⟨x,y,rfl,hx,hy⟩:=h;obtain ⟨T,x,rfl⟩:=hx.iface;obtain ⟨U,y,rfl⟩:=hy.iface;go_enter Tryz.func70,Tryz.ntmps70;go_wp2_with fail;go_ret;have hX:Ext w ((w.alloc (Obj.cells #[.iface T x,.iface U y] 138)).alloc (Obj.cells #[.iface T x,.iface U y] 37)):=((Ext.refl w).alloc _).alloc _;exact ⟨_,rfl,SlR.two (by simp) (by simp [go_sem]) (by simp [go_sem]) hx hy,zo.mk _ _ _ _ (by simp),hX⟩
theorem ub4 {w0 w:World} {L:Nat} {f g:Fm} {v:Value} (h:FmV w0 L (Fm.iff f g) v):Calls Tryz.prog 70 #[v] w (yao w0 L [f,g] w):=by
 obtain ⟨x,y,rfl,hx,hy⟩:=h;obtain ⟨T,x,rfl⟩:=hx.iface;obtain ⟨U,y,rfl⟩:=hy.iface;go_enter Tryz.func70,Tryz.ntmps70;go_wp2_with fail;go_ret;have hX:Ext w ((w.alloc (Obj.cells #[.iface T x,.iface U y] 139)).alloc (Obj.cells #[.iface T x,.iface U y] 37)):=((Ext.refl w).alloc _).alloc _;exact ⟨_,rfl,SlR.two (by simp) (by simp [go_sem]) (by simp [go_sem]) hx hy,zo.mk _ _ _ _ (by simp),hX⟩
theorem kbp {w0 w:World} {L:Nat} {a:Bool} {s:ByteArray} {f:Fm} {v:Value} (h:FmV w0 L (Fm.quant a s f) v):Calls Tryz.prog 70 #[v] w (yao w0 L [f] w):=by
 obtain ⟨x,rfl,hx⟩:=h;obtain ⟨T,x,rfl⟩:=hx.iface;go_enter Tryz.func70,Tryz.ntmps70;go_wp2_with fail;go_ret;have hX:Ext w ((w.alloc (Obj.cells #[.bool a,.string s,.iface T x] 79)).alloc (Obj.cells #[.iface T x] 37)):=((Ext.refl w).alloc _).alloc _;exact ⟨_,rfl,SlR.one (by simp) (by simp [go_sem]) hx,zo.mk _ _ _ _ (by simp),hX⟩
theorem zbi {w0 w:World} {L:Nat} {z:Int} {v:Value} (h:TmV w0 L (Tm.num z) v):Calls Tryz.prog 106 #[v] w (waq w0 L [] w):=by
 obtain ⟨x,rfl,hx⟩:=h;go_enter Tryz.func106,Tryz.ntmps106;go_wp2_with fail;go_ret;exact ⟨_,rfl,SlR.nil _ _,zo.nil _ _ _,Ext.refl _⟩
theorem wbf {w0 w:World} {L:Nat} {s:ByteArray} {v:Value} (h:TmV w0 L (Tm.name s) v):Calls Tryz.prog 106 #[v] w (waq w0 L [] w):=by
 obtain rfl:=h;go_enter Tryz.func106,Tryz.ntmps106;go_wp2_with fail;go_ret;exact ⟨_,rfl,SlR.nil _ _,zo.nil _ _ _,Ext.refl _⟩
theorem qbi {w0 w:World} {L:Nat} {a b:Tm} {v:Value} (h:TmV w0 L (Tm.add a b) v):Calls Tryz.prog 106 #[v] w (waq w0 L [a,b] w):=by
 obtain ⟨x,y,rfl,hx,hy⟩:=h;obtain ⟨T,x,rfl⟩:=hx.iface;obtain ⟨U,y,rfl⟩:=hy.iface;go_enter Tryz.func106,Tryz.ntmps106;go_wp2_with fail;go_ret;have hX:Ext w ((w.alloc (Obj.cells #[.iface T x,.iface U y] 175)).alloc (Obj.cells #[.iface T x,.iface U y] 75)):=((Ext.refl w).alloc _).alloc _;exact ⟨_,rfl,SlR.two (by simp) (by simp [go_sem]) (by simp [go_sem]) hx hy,zo.mk _ _ _ _ (by simp),hX⟩
theorem gbh {w0 w:World} {L:Nat} {a b:Tm} {v:Value} (h:TmV w0 L (Tm.sub a b) v):Calls Tryz.prog 106 #[v] w (waq w0 L [a,b] w):=by
 obtain ⟨x,y,rfl,hx,hy⟩:=h;obtain ⟨T,x,rfl⟩:=hx.iface;obtain ⟨U,y,rfl⟩:=hy.iface;go_enter Tryz.func106,Tryz.ntmps106;go_wp2_with fail;go_ret;have hX:Ext w ((w.alloc (Obj.cells #[.iface T x,.iface U y] 176)).alloc (Obj.cells #[.iface T x,.iface U y] 75)):=((Ext.refl w).alloc _).alloc _;exact ⟨_,rfl,SlR.two (by simp) (by simp [go_sem]) (by simp [go_sem]) hx hy,zo.mk _ _ _ _ (by simp),hX⟩
theorem xbi {w0 w:World} {L:Nat} {a b:Tm} {v:Value} (h:TmV w0 L (Tm.mul a b) v):Calls Tryz.prog 106 #[v] w (waq w0 L [a,b] w):=by
 obtain ⟨x,y,rfl,hx,hy⟩:=h;obtain ⟨T,x,rfl⟩:=hx.iface;obtain ⟨U,y,rfl⟩:=hy.iface;go_enter Tryz.func106,Tryz.ntmps106;go_wp2_with fail;go_ret;have hX:Ext w ((w.alloc (Obj.cells #[.iface T x,.iface U y] 177)).alloc (Obj.cells #[.iface T x,.iface U y] 75)):=((Ext.refl w).alloc _).alloc _;exact ⟨_,rfl,SlR.two (by simp) (by simp [go_sem]) (by simp [go_sem]) hx hy,zo.mk _ _ _ _ (by simp),hX⟩
theorem ybi {w0 w:World} {L:Nat} {a:Tm} {v:Value} (h:TmV w0 L (Tm.neg a) v):Calls Tryz.prog 106 #[v] w (waq w0 L [a] w):=by
 obtain ⟨x,rfl,hx⟩:=h;obtain ⟨T,x,rfl⟩:=hx.iface;go_enter Tryz.func106,Tryz.ntmps106;go_wp2_with fail;go_ret;have hX:Ext w ((w.alloc (Obj.cells #[.iface T x] 171)).alloc (Obj.cells #[.iface T x] 75)):=((Ext.refl w).alloc _).alloc _;exact ⟨_,rfl,SlR.one (by simp) (by simp [go_sem]) hx,zo.mk _ _ _ _ (by simp),hX⟩
theorem wbh {w0 w:World} {L:Nat} {a:Tm} {n:Int} {v:Value} (h:TmV w0 L (Tm.pow a n) v):Calls Tryz.prog 106 #[v] w (waq w0 L [a] w):=by
 obtain ⟨x,rfl,hx⟩:=h;obtain ⟨T,x,rfl⟩:=hx.iface;go_enter Tryz.func106,Tryz.ntmps106;go_wp2_with fail;go_ret;have hX:Ext w ((w.alloc (Obj.cells #[.iface T x,.int .i64 n] 173)).alloc (Obj.cells #[.iface T x] 75)):=((Ext.refl w).alloc _).alloc _;exact ⟨_,rfl,SlR.one (by simp) (by simp [go_sem]) hx,zo.mk _ _ _ _ (by simp),hX⟩
theorem yae {w0 w:World} {L:Nat} (f:Fm) {v:Value} (h:FmV w0 L f v):Calls Tryz.prog 70 #[v] w (yao w0 L f.kids w):=by
 cases f
 · exact jbp h
 · exact gbw h
 · exact kb4 h
 · exact gb4 h
 · exact zcf h
 · exact vb4 h
 · exact ub4 h
 · exact kbp h
theorem jaj {w0 w:World} {L:Nat} (t:Tm) {v:Value} (h:TmV w0 L t v):Calls Tryz.prog 106 #[v] w (waq w0 L t.kids w):=by
 cases t
 · exact zbi h
 · exact wbf h
 · exact qbi h
 · exact gbh h
 · exact xbi h
 · exact ybi h
 · exact wbh h
end Go.Proofs.YtheefiaoimbeiaaGreatDoor
