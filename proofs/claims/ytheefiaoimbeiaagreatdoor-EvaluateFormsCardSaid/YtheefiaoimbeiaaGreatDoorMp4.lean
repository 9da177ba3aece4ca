/- Layer 2 (integer): sign, comparison, sums, products. -/
import Derived.Test.YtheefiaoimbeiaaGreatDoorMp3
set_option linter.unusedSimpArgs false
set_option linter.unusedVariables false
set_option maxRecDepth 100000
set_option maxHeartbeats 8000000
namespace Go.Proofs.YtheefiaoimbeiaaGreatDoor
open Lib (hid)
open Go.RowKit
def sgI (z:Int):Int:=xdq z 0
theorem wd7 (x:Value) (z:Int) (L:Nat) (w:World) (h:wdl w x z L):Calls Tryz.prog 79 #[x] w fun e w'=>e=.returned (.int .i64 (sgI z))/\Ext w w':=by
 obtain ⟨neg,v,ds,rfl,⟨A,c,rfl,h1,h2,h3⟩,hz,hl⟩:=h;have HX0:Hid (Ext w (w.alloc (Obj.cells #[.bool neg,.slice A ds.length c] 25))):=(Ext.refl w).alloc _;have H3:=hid h3;have HZ:=hid hz;clear h3 hz;go_enter Tryz.func79,Tryz.ntmps79;go_wp2_with fail;refine (ud0 _ _ _ ⟨A,c,rfl,h1,h2,H3.out.ext HX0.out⟩).mono ?_;rintro e w2 ⟨rfl,rfl⟩
 by_cases h0:val ds=0
 · have hb:(val ds == 0)=true:=by simp [h0]
   have H0:=hid h0;clear h0;go_wp2_with fail;go_ret;exact ⟨zd8 (by rw [HZ.out,H0.out]; cases neg <;> rfl),HX0.out⟩
 · have hb:(val ds == 0)=false:=by simp [h0]
   cases neg
   · go_wp2_with fail;go_ret;exact ⟨zd8 (by rw [HZ.out]; exact (wd8 (by simp [sgn]; omega)).symm),HX0.out⟩
   · go_wp2_with fail;go_ret;exact ⟨zd8 (by rw [HZ.out]; exact (zd2 (by simp [sgn]; omega)).symm),HX0.out⟩
theorem of_int (z:Int) (w:World) (h0:-9223372036854775808<=z) (h1:z<=9223372036854775807):Calls Tryz.prog 40 #[.int .i64 z] w (vdz z w):=by
 have HX0:Hid (Ext w (w.alloc (Obj.cells #[.bool false,.slice none 0 0] 25))):=(Ext.refl w).alloc _
 by_cases hn:z < 0
 · go_enter Tryz.func40,Tryz.ntmps40;go_wp2_with fail;have e1:IntKind.u64.wrap (-IntKind.u64.wrap z)=((z.natAbs:Nat):Int):=by
    rw [IntKind.wrap_u64,IntKind.wrap_u64]; omega
   rw [e1];refine (gd9 _ _ (by omega)).mono ?_;rintro e w2 ⟨v,rfl,⟨A2,c2,rfl,q1,q2,q3⟩,hx2⟩;obtain ⟨hc,hf⟩:=hx2.cells;have hz:=hx2.size;have HF:=hid (jds (g:=w.heap.size) (z:=z) (u0:=.bool false) (u1:=.slice none 0 0) (HX0.out.trans hx2) (by omega) (by rw [hc _ _ (by simp)]; simp [rQ]) (by rw [hc _ _ (by simp)]; simp [rQ]) rfl rfl ⟨_,by rw [decide_eq_true hn],A2,c2,rfl,q1,q2,q3⟩);clear hx2 q3 e1;rw [pU] at hz;go_wp2_with fail;exact bodyPost_ret (v:=.agg #[.bool true,.slice A2 (dg z.natAbs).length c2]) (by simp [results,Tryz.results40,go_sem,hc]) rfl HF.out
 · obtain ⟨n,rfl⟩:=ry (show 0<=z by omega);go_enter Tryz.func40,Tryz.ntmps40;go_wp2_with fail;refine (gd9 _ _ (by omega)).mono ?_;rintro e w2 ⟨v,rfl,⟨A2,c2,rfl,q1,q2,q3⟩,hx2⟩;obtain ⟨hc,hf⟩:=hx2.cells;have hz:=hx2.size;have HF:=hid (jds (g:=w.heap.size) (z:=(n:Int)) (b:=.bool false) (u0:=.bool false) (u1:=.slice none 0 0) (HX0.out.trans hx2) (by omega) (by rw [hc _ _ (by simp)]; simp [rQ]) (by rw [hc _ _ (by simp)]; simp [rQ]) rfl rfl ⟨_,by rw [decide_eq_false (by omega)],A2,c2,rfl,q1,q2,q3⟩);clear hx2 q3;rw [pU] at hz;go_wp2_with fail;exact bodyPost_ret (v:=.agg #[.bool false,.slice A2 (dg n).length c2]) (by simp [results,Tryz.results40,go_sem,hc]) rfl HF.out
theorem jdz (x y:Value) (a b:Int) (L M:Nat) (w:World) (h:wdl w x a L) (k:wdl w y b M) (hs:L+M<=35184372088000) :
 Calls Tryz.prog 84 #[x,y] w (vdz (a * b) w):=by
 obtain ⟨neg,v,ds,rfl,⟨A,c,rfl,h1,h2,h3⟩,hz,hl⟩:=h;obtain ⟨abR,v',ds',rfl,⟨A',c',rfl,h1',h2',h3'⟩,hz',hl'⟩:=k;have hab:a * b=sgn (!neg == abR) (val ds * val ds'):=by
  rw [hz,hz']; cases neg <;> cases abR <;> simp [sgn,Int.neg_mul,Int.mul_neg]
 rw [hab];have H3:=hid h3;have H3':=hid h3';clear h3 h3' hz hz' hab;go_enter Tryz.func84,Tryz.ntmps84;go_wp2_with fail;generalize hW:((w.alloc (Obj.cells #[.bool neg,.slice A ds.length c] 25)).alloc (Obj.cells #[.bool abR,.slice A' ds'.length c'] 25)).alloc (Obj.cells #[.bool false,.slice none 0 0] 25)=W;have HX0:Hid (Ext w W):=by
  have:Ext w W:=by rw [<- hW]; exact (((Ext.refl w).alloc _).alloc _).alloc _
  exact this
 have HS:Hid (∀ W',Ext W W'->(Ext w W'/\W'.cell? ⟨w.heap.size,0,none⟩=some (.bool neg)/\W'.cell? ⟨w.heap.size,1,none⟩=some (.slice A ds.length c)/\W'.cell? ⟨w.heap.size+1,0,none⟩=some (.bool abR)/\W'.cell? ⟨w.heap.size+1,1,none⟩=some (.slice A' ds'.length c'))):=by
  intro W' hx;obtain ⟨hc,hf⟩:=hx.cells;have hsz:W.heap.size=w.heap.size+1+1+1:=by rw [<- hW]; simp
  refine ⟨HX0.out.trans hx,?_,?_,?_,?_⟩ <;> (rw [hc _ _ (by omega),<- hW]; simp [go_sem])
 have HR:Hid (∀ W',Ext W W'->(W'.cell? ⟨w.heap.size+1+1,0,none⟩=some (.bool false)/\W'.cell? ⟨w.heap.size+1+1,1,none⟩=some (.slice none 0 0)/\W'.frozen? ⟨w.heap.size+1+1,0,none⟩=false/\W'.frozen? ⟨w.heap.size+1+1,1,none⟩=false)):=by
  intro W' hx;obtain ⟨hc,hf⟩:=hx.cells;have hsz:W.heap.size=w.heap.size+1+1+1:=by rw [<- hW]; simp
  refine ⟨?_,?_,?_,?_⟩ <;> first | (rw [hc _ _ (by omega),<- hW]; simp [go_sem]; done) | (rw [hf _ _ (by omega),<- hW]; simp [go_sem]; done)
 have HS2:Hid (∀ W'' u v,Ext W W''->∀ W',W'=(W''.setCell ⟨w.heap.size+1+1,0,none⟩ u).setCell ⟨w.heap.size+1+1,1,none⟩ v->(Ext w W'/\W'.cell? ⟨w.heap.size,0,none⟩=some (.bool neg)/\W'.cell? ⟨w.heap.size,1,none⟩=some (.slice A ds.length c)/\W'.cell? ⟨w.heap.size+1,0,none⟩=some (.bool abR)/\W'.cell? ⟨w.heap.size+1,1,none⟩=some (.slice A' ds'.length c'))):=by
  intro W'' u v hx W' hW';obtain ⟨s1,s2,s3,s4,s5⟩:=HS.out W'' hx;rw [hW'];refine ⟨(s1.setCell (by simp; omega) _).setCell (by simp; omega) _,?_,?_,?_,?_⟩ <;> rw [pe _ _ _ _ (by simp),pe _ _ _ _ (by simp)] <;> assumption
 clear hW
 go_region_held3 (fun W' => Ext w W' /\ W'.cell? ⟨w.heap.size, 0, none⟩ = some (.bool neg) /\ W'.cell? ⟨w.heap.size, 1, none⟩ = some (.slice A ds.length c) /\ W'.cell? ⟨w.heap.size + 1, 0, none⟩ = some (.bool abR) /\ W'.cell? ⟨w.heap.size + 1, 1, none⟩ = some (.slice A' ds'.length c'))
  (first | exact HS.out _ ((Ext.refl W).drew) | exact HS.out _ (by assumption) | exact HS2.out _ _ _ (by assumption) _ rfl)
  (first
    | (go_at_call 116
       have hxx:=(‹Ext w _/\_›).1;refine (xgd _ _ ds ds' _ ⟨A,c,rfl,h1,h2,H3.out.ext hxx⟩ ⟨A',c',rfl,h1',h2',H3'.out.ext hxx⟩ (by omega)).mono ?_;rintro e w2 ⟨v2,rfl,nv2,x2⟩
       have y2:Ext W w2:=Ext.trans ((Ext.refl W).drew) x2)
    | (go_at_call 115
       refine (vd6 _ _ _ _ nv2).mono ?_;rintro e w3 ⟨v3,rfl,⟨v4,rfl,A2,c2,rfl,q1,q2,q3⟩,x3⟩;have y3:Ext W w3:=Ext.trans y2 x3
       obtain ⟨r1,r2,r3,r4⟩:=HR.out w3 y3))
 have HF:=hid (jds (g:=w.heap.size+1+1) (z:=sgn (!neg == abR) (val ds * val ds')) (u0:=.bool false) (u1:=.slice none 0 0) (HX0.out.trans y3) (by omega) r1 r2 rfl rfl ⟨_,rfl,A2,c2,rfl,q1,q2,q3⟩);clear HS HS2 HR y3 y2 x2 x3 q3 nv2;go_wp2_with fail;exact bodyPost_ret (v:=.agg #[.bool (decide (sgn (!neg == abR) (val ds * val ds') < 0)),.slice A2 (dg (sgn (!neg == abR) (val ds * val ds')).natAbs).length c2]) (by simp [results,Tryz.results84,go_sem,r1,r2]) rfl HF.out
theorem ke5 {a b:Int} (h:xdq a 0 < xdq b 0):a < b:=by
 rcases sU a 0 with ha | ha | ha
 · rcases sU b 0 with hb | hb | hb
   · rw [zd2 ha,zd2 hb] at h; omega
   · omega
   · omega
 · rcases sU b 0 with hb | hb | hb
   · rw [yeg ha,zd2 hb] at h; omega
   · rw [yeg ha,yeg hb] at h; omega
   · omega
 · have:=(xd6 b 0).2;rw [wd8 ha] at h; omega
theorem vew (x y:Value) (a b:Int) (L M:Nat) (w:World) (h:wdl w x a L) (k:wdl w y b M) (hs:L+M<=35184372088000) :
 Calls Tryz.prog 85 #[x,y] w (vdz (a+b) w):=by
 obtain ⟨neg,v,ds,rfl,⟨A,c,rfl,h1,h2,h3⟩,hz,hl⟩:=h;obtain ⟨abR,v',ds',rfl,⟨A',c',rfl,h1',h2',h3'⟩,hz',hl'⟩:=k;have H3:=hid h3;have H3':=hid h3';clear h3 h3'
 by_cases hn:neg=abR
 · subst hn;have hab:a+b=sgn neg (val ds+val ds'):=by rw [hz,hz']; cases neg <;> simp [sgn] <;> omega
   rw [hab];clear hz hz' hab;have hnb:(neg == neg)=true:=by simp
   go_enter Tryz.func85,Tryz.ntmps85;go_wp2_with fail;generalize hW:((w.alloc (Obj.cells #[.bool neg,.slice A ds.length c] 25)).alloc (Obj.cells #[.bool neg,.slice A' ds'.length c'] 25)).alloc (Obj.cells #[.bool false,.slice none 0 0] 25)=W;have HX0:Hid (Ext w W):=by
    have:Ext w W:=by rw [<- hW]; exact (((Ext.refl w).alloc _).alloc _).alloc _
    exact this
   have HWS:Hid (W.heap.size=w.heap.size+1+1+1):=by
    have:W.heap.size=w.heap.size+1+1+1:=by rw [<- hW]; simp
    exact this
   have HS:Hid (∀ W',Ext W W'->(Ext w W'/\W'.cell? ⟨w.heap.size,0,none⟩=some (.bool neg)/\W'.cell? ⟨w.heap.size,1,none⟩=some (.slice A ds.length c)/\W'.cell? ⟨w.heap.size+1,0,none⟩=some (.bool neg)/\W'.cell? ⟨w.heap.size+1,1,none⟩=some (.slice A' ds'.length c'))):=by
    intro W' hx;obtain ⟨hc,hf⟩:=hx.cells;have hsz:=HWS.out;refine ⟨HX0.out.trans hx,?_,?_,?_,?_⟩ <;> (rw [hc _ _ (by omega),<- hW]; simp [go_sem])
   have HR:Hid (∀ W',Ext W W'->(W'.cell? ⟨w.heap.size+1+1,0,none⟩=some (.bool false)/\W'.cell? ⟨w.heap.size+1+1,1,none⟩=some (.slice none 0 0)/\W'.frozen? ⟨w.heap.size+1+1,0,none⟩=false/\W'.frozen? ⟨w.heap.size+1+1,1,none⟩=false)):=by
    intro W' hx;obtain ⟨hc,hf⟩:=hx.cells;have hsz:=HWS.out;refine ⟨?_,?_,?_,?_⟩ <;> first | (rw [hc _ _ (by omega),<- hW]; simp [go_sem]; done) | (rw [hf _ _ (by omega),<- hW]; simp [go_sem]; done)
   have HS2:Hid (∀ W'' v0 v1,Ext W W''->∀ W',W'=(W''.setCell ⟨w.heap.size+1+1,0,none⟩ v0).setCell ⟨w.heap.size+1+1,1,none⟩ v1->(Ext w W'/\W'.cell? ⟨w.heap.size,0,none⟩=some (.bool neg)/\W'.cell? ⟨w.heap.size,1,none⟩=some (.slice A ds.length c)/\W'.cell? ⟨w.heap.size+1,0,none⟩=some (.bool neg)/\W'.cell? ⟨w.heap.size+1,1,none⟩=some (.slice A' ds'.length c'))):=by
    intro W'' v0 v1 hx W' hW';obtain ⟨s1,c0,c1,c2,c3⟩:=HS.out W'' hx;rw [hW'];refine ⟨(s1.setCell (by simp; try omega) _).setCell (by simp; try omega) _,?_,?_,?_,?_⟩ <;> rw [pe _ _ _ _ (by simp; try omega),pe _ _ _ _ (by simp; try omega)] <;> assumption
   clear hW
   go_region_held3 (fun W' => Ext w W' /\ W'.cell? ⟨w.heap.size, 0, none⟩ = some (.bool neg) /\ W'.cell? ⟨w.heap.size, 1, none⟩ = some (.slice A ds.length c) /\ W'.cell? ⟨w.heap.size + 1, 0, none⟩ = some (.bool neg) /\ W'.cell? ⟨w.heap.size + 1, 1, none⟩ = some (.slice A' ds'.length c'))
    (first | exact HS.out _ ((Ext.refl W).drew) | exact HS.out _ (by assumption) | exact HS2.out _ _ _ (by assumption) _ rfl)
    (first
      | (go_at_call 117
         have hxx:=(‹Ext w _/\_›).1;refine (yem _ _ ds ds' _ ⟨A,c,rfl,h1,h2,H3.out.ext hxx⟩ ⟨A',c',rfl,h1',h2',H3'.out.ext hxx⟩ (by omega)).mono ?_;rintro e w2 ⟨v2,rfl,nv2,x2⟩
         have y2:Ext W w2:=Ext.trans ((Ext.refl W).drew) x2)
      | (go_at_call 115
         refine (vd6 _ _ _ _ nv2).mono ?_;rintro e w3 ⟨v3,rfl,⟨v4,rfl,A2,c2,rfl,q1,q2,q3⟩,x3⟩;have y3:Ext W w3:=Ext.trans y2 x3
         obtain ⟨r0,r1,f0,f1⟩:=HR.out w3 y3))
   have HF:=hid (jds (g:=w.heap.size+1+1) (z:=sgn neg (val ds+val ds')) (u0:=.bool false) (u1:=.slice none 0 0) (HX0.out.trans y3) (by omega) r0 r1 rfl rfl ⟨_,rfl,A2,c2,rfl,q1,q2,q3⟩);clear HS HS2 HR y3 y2 x2 x3 q3 nv2;go_wp2_with fail;exact bodyPost_ret (v:=.agg #[.bool (decide (sgn neg (val ds+val ds') < 0)),.slice A2 (dg (sgn neg (val ds+val ds')).natAbs).length c2]) (by simp [results,Tryz.results85,go_sem,r0,r1]) rfl HF.out
 · have hnb:(neg == abR)=false:=by simp [hn]
   go_enter Tryz.func85,Tryz.ntmps85;go_wp2_with fail;generalize hW:((w.alloc (Obj.cells #[.bool neg,.slice A ds.length c] 25)).alloc (Obj.cells #[.bool abR,.slice A' ds'.length c'] 25)).alloc (Obj.cells #[.bool false,.slice none 0 0] 25)=W;have HX0:Hid (Ext w W):=by
    have:Ext w W:=by rw [<- hW]; exact (((Ext.refl w).alloc _).alloc _).alloc _
    exact this
   have HWS:Hid (W.heap.size=w.heap.size+1+1+1):=by
    have:W.heap.size=w.heap.size+1+1+1:=by rw [<- hW]; simp
    exact this
   have HS:Hid (∀ W',Ext W W'->(Ext w W'/\W'.cell? ⟨w.heap.size,0,none⟩=some (.bool neg)/\W'.cell? ⟨w.heap.size,1,none⟩=some (.slice A ds.length c)/\W'.cell? ⟨w.heap.size+1,0,none⟩=some (.bool abR)/\W'.cell? ⟨w.heap.size+1,1,none⟩=some (.slice A' ds'.length c'))):=by
    intro W' hx;obtain ⟨hc,hf⟩:=hx.cells;have hsz:=HWS.out;refine ⟨HX0.out.trans hx,?_,?_,?_,?_⟩ <;> (rw [hc _ _ (by omega),<- hW]; simp [go_sem])
   have HR:Hid (∀ W',Ext W W'->(W'.cell? ⟨w.heap.size+1+1,0,none⟩=some (.bool false)/\W'.cell? ⟨w.heap.size+1+1,1,none⟩=some (.slice none 0 0)/\W'.frozen? ⟨w.heap.size+1+1,0,none⟩=false/\W'.frozen? ⟨w.heap.size+1+1,1,none⟩=false)):=by
    intro W' hx;obtain ⟨hc,hf⟩:=hx.cells;have hsz:=HWS.out;refine ⟨?_,?_,?_,?_⟩ <;> first | (rw [hc _ _ (by omega),<- hW]; simp [go_sem]; done) | (rw [hf _ _ (by omega),<- hW]; simp [go_sem]; done)
   have HS2:Hid (∀ W'' v0 v1,Ext W W''->∀ W',W'=(W''.setCell ⟨w.heap.size+1+1,0,none⟩ v0).setCell ⟨w.heap.size+1+1,1,none⟩ v1->(Ext w W'/\W'.cell? ⟨w.heap.size,0,none⟩=some (.bool neg)/\W'.cell? ⟨w.heap.size,1,none⟩=some (.slice A ds.length c)/\W'.cell? ⟨w.heap.size+1,0,none⟩=some (.bool abR)/\W'.cell? ⟨w.heap.size+1,1,none⟩=some (.slice A' ds'.length c'))):=by
    intro W'' v0 v1 hx W' hW';obtain ⟨s1,c0,c1,c2,c3⟩:=HS.out W'' hx;rw [hW'];refine ⟨(s1.setCell (by simp; try omega) _).setCell (by simp; try omega) _,?_,?_,?_,?_⟩ <;> rw [pe _ _ _ _ (by simp; try omega),pe _ _ _ _ (by simp; try omega)] <;> assumption
   clear hW;obtain ⟨e0,b0,b1,b2,b3⟩:=HS.out W (Ext.refl W);refine (gd8 _ _ ds ds' _ ⟨A,c,rfl,h1,h2,H3.out.ext e0⟩ ⟨A',c',rfl,h1',h2',H3'.out.ext e0⟩).mono ?_;rintro e w1 ⟨rfl,n1,hw1⟩;have y1:Ext W w1:=by rw [hw1]; exact (Ext.refl W).drewN n1
   clear hw1 e0 b0 b1 b2 b3;obtain ⟨e0,b0,b1,b2,b3⟩:=HS.out w1 y1;have E0:=hid e0;have Y1:=hid y1;clear e0 y1;have HN:=hid hn;have HZ:=hid hz;have HZ':=hid hz';clear hn hz hz'
   by_cases hge:val ds'<=val ds
   · have hcm:0<=xdq (val ds) (val ds'):=by unfold xdq; split <;> (try split) <;> omega
     have amW:=(xd6 (val ds) (val ds')).2;generalize xdq (val ds) (val ds')=cm at *;go_wp2_with fail;refine (ueu _ _ ds ds' _ ⟨A,c,rfl,h1,h2,H3.out.ext E0.out⟩ ⟨A',c',rfl,h1',h2',H3'.out.ext E0.out⟩ (by omega) hge).mono ?_;rintro e w2 ⟨v2,rfl,nv2,-,x2⟩;have y2:=Y1.out.trans x2;obtain ⟨e0',b0',b1',b2',b3'⟩:=HS.out w2 y2;have NV2:=hid nv2;have Y2:=hid y2;clear nv2 y2 x2 e0' b0 b1 b2 b3;go_wp2_with fail;refine (vd6 _ _ _ _ NV2.out).mono ?_;rintro e w3 ⟨v3,rfl,⟨v4,rfl,A2,c2,rfl,q1,q2,q3⟩,x3⟩;have y3:Ext W w3:=Ext.trans Y2.out x3;obtain ⟨r0,r1,f0,f1⟩:=HR.out w3 y3;have HF:=hid (jds (g:=w.heap.size+1+1) (z:=sgn neg (val ds - val ds')) (u0:=.bool false) (u1:=.slice none 0 0) (HX0.out.trans y3) (by omega) r0 r1 rfl rfl ⟨_,rfl,A2,c2,rfl,q1,q2,q3⟩);have hab:a+b=sgn neg (val ds - val ds'):=by
      have:=HN.out;rw [HZ.out,HZ'.out]; cases neg <;> cases abR <;> simp_all [sgn] <;> omega
     have HAB:=hid hab;clear y3 q3 x3 hab;go_wp2_with fail;refine bodyPost_ret (v:=.agg #[.bool (decide (sgn neg (val ds - val ds') < 0)),.slice A2 (dg (sgn neg (val ds - val ds')).natAbs).length c2]) (by simp [results,Tryz.results85,go_sem,r0,r1]) rfl ?_;rw [HAB.out];exact HF.out
   · have hcm:xdq (val ds) (val ds') < 0:=by rw [zd2 (by omega)]; omega
     have amW:=(xd6 (val ds) (val ds')).1;generalize xdq (val ds) (val ds')=cm at *;go_wp2_with fail;refine (ueu _ _ ds' ds _ ⟨A',c',rfl,h1',h2',H3'.out.ext E0.out⟩ ⟨A,c,rfl,h1,h2,H3.out.ext E0.out⟩ (by omega) (by omega)).mono ?_;rintro e w2 ⟨v2,rfl,nv2,-,x2⟩;have y2:=Y1.out.trans x2;obtain ⟨e0',b0',b1',b2',b3'⟩:=HS.out w2 y2;have NV2:=hid nv2;have Y2:=hid y2;clear nv2 y2 x2 e0' b0 b1 b2 b3;go_wp2_with fail;refine (vd6 _ _ _ _ NV2.out).mono ?_;rintro e w3 ⟨v3,rfl,⟨v4,rfl,A2,c2,rfl,q1,q2,q3⟩,x3⟩;have y3:Ext W w3:=Ext.trans Y2.out x3;obtain ⟨r0,r1,f0,f1⟩:=HR.out w3 y3;have HF:=hid (jds (g:=w.heap.size+1+1) (z:=sgn abR (val ds' - val ds)) (u0:=.bool false) (u1:=.slice none 0 0) (HX0.out.trans y3) (by omega) r0 r1 rfl rfl ⟨_,rfl,A2,c2,rfl,q1,q2,q3⟩);have hab:a+b=sgn abR (val ds' - val ds):=by
      have:=HN.out;rw [HZ.out,HZ'.out]; cases neg <;> cases abR <;> simp_all [sgn] <;> omega
     have HAB:=hid hab;clear y3 q3 x3 hab;go_wp2_with fail;refine bodyPost_ret (v:=.agg #[.bool (decide (sgn abR (val ds' - val ds) < 0)),.slice A2 (dg (sgn abR (val ds' - val ds)).natAbs).length c2]) (by simp [results,Tryz.results85,go_sem,r0,r1]) rfl ?_;rw [HAB.out];exact HF.out
theorem qf9 (x y:Value) (a b:Int) (L M:Nat) (w:World) (h:wdl w x a L) (k:wdl w y b M) (hs:L+M<=35184372088000) :
 Calls Tryz.prog 86 #[x,y] w (vdz (a - b) w):=by
 obtain ⟨neg,v,ds,rfl,⟨A,c,rfl,h1,h2,h3⟩,hz,hl⟩:=h;obtain ⟨abR,v',ds',rfl,⟨A',c',rfl,h1',h2',h3'⟩,hz',hl'⟩:=k;have H3:=hid h3;have H3':=hid h3';have HZ:=hid hz;have HZ':=hid hz';clear h3 h3' hz hz';go_enter Tryz.func86,Tryz.ntmps86;go_wp2_with fail;generalize hW:((w.alloc (Obj.cells #[.bool neg,.slice A ds.length c] 25)).alloc (Obj.cells #[.bool abR,.slice A' ds'.length c'] 25)).alloc (Obj.cells #[.bool false,.slice none 0 0] 25)=W;have HX0:Hid (Ext w W):=by
  have:Ext w W:=by rw [<- hW]; exact (((Ext.refl w).alloc _).alloc _).alloc _
  exact this
 have HWS:Hid (W.heap.size=w.heap.size+1+1+1):=by
  have:W.heap.size=w.heap.size+1+1+1:=by rw [<- hW]; simp
  exact this
 have HS:Hid (∀ W',Ext W W'->(Ext w W'/\W'.cell? ⟨w.heap.size,0,none⟩=some (.bool neg)/\W'.cell? ⟨w.heap.size,1,none⟩=some (.slice A ds.length c)/\W'.cell? ⟨w.heap.size+1,0,none⟩=some (.bool abR)/\W'.cell? ⟨w.heap.size+1,1,none⟩=some (.slice A' ds'.length c'))):=by
  intro W' hx;obtain ⟨hc,hf⟩:=hx.cells;have hsz:=HWS.out;refine ⟨HX0.out.trans hx,?_,?_,?_,?_⟩ <;> (rw [hc _ _ (by omega),<- hW]; simp [go_sem])
 have HR:Hid (∀ W',Ext W W'->(W'.cell? ⟨w.heap.size+1+1,0,none⟩=some (.bool false)/\W'.cell? ⟨w.heap.size+1+1,1,none⟩=some (.slice none 0 0)/\W'.frozen? ⟨w.heap.size+1+1,0,none⟩=false/\W'.frozen? ⟨w.heap.size+1+1,1,none⟩=false)):=by
  intro W' hx;obtain ⟨hc,hf⟩:=hx.cells;have hsz:=HWS.out;refine ⟨?_,?_,?_,?_⟩ <;> first | (rw [hc _ _ (by omega),<- hW]; simp [go_sem]; done) | (rw [hf _ _ (by omega),<- hW]; simp [go_sem]; done)
 clear hW;obtain ⟨e0,b0,b1,b2,b3⟩:=HS.out W (Ext.refl W);refine (vew _ _ a (-b) L M _ ⟨neg,_,ds,rfl,⟨A,c,rfl,h1,h2,H3.out.ext e0⟩,HZ.out,hl⟩ ⟨!abR,_,ds',rfl,⟨A',c',rfl,h1',h2',H3'.out.ext e0⟩,by rw [HZ'.out]; cases abR <;> simp [sgn],hl'⟩ hs).mono ?_;rw [<- Int.sub_eq_add_neg];rintro e w3 ⟨v3,rfl,⟨v4,rfl,A2,c2,rfl,q1,q2,q3⟩,y3⟩;obtain ⟨r0,r1,f0,f1⟩:=HR.out w3 y3;have HF:=hid (jds (g:=w.heap.size+1+1) (z:=a - b) (u0:=.bool false) (u1:=.slice none 0 0) (HX0.out.trans y3) (by omega) r0 r1 rfl rfl ⟨_,rfl,A2,c2,rfl,q1,q2,q3⟩);clear y3 q3 e0 b0 b1 b2 b3;go_wp2_with fail;exact bodyPost_ret (v:=.agg #[.bool (decide (a - b < 0)),.slice A2 (dg (a - b).natAbs).length c2]) (by simp [results,Tryz.results86,go_sem,r0,r1]) rfl HF.out
theorem wgh (x y:Value) (a b:Int) (L M:Nat) (w:World) (h:wdl w x a L) (k:wdl w y b M) :
 Calls Tryz.prog 41 #[x,y] w fun e w'=>e=.returned (.int .i64 (xdq a b))/\Ext w w':=by
 obtain ⟨neg,v,ds,rfl,⟨A,c,rfl,h1,h2,h3⟩,hz,hl⟩:=h;obtain ⟨abR,v',ds',rfl,⟨A',c',rfl,h1',h2',h3'⟩,hz',hl'⟩:=k;have H3:=hid h3;have H3':=hid h3';have HZ:=hid hz;have HZ':=hid hz';clear h3 h3' hz hz';go_enter Tryz.func41,Tryz.ntmps41;go_wp2_with fail;generalize hW:(w.alloc (Obj.cells #[.bool neg,.slice A ds.length c] 25)).alloc (Obj.cells #[.bool abR,.slice A' ds'.length c'] 25)=W;have HX0:Hid (Ext w W):=by
  have:Ext w W:=by rw [<- hW]; exact ((Ext.refl w).alloc _).alloc _
  exact this
 have HWS:Hid (W.heap.size=w.heap.size+1+1):=by
  have:W.heap.size=w.heap.size+1+1:=by rw [<- hW]; simp
  exact this
 have HS:Hid (∀ W',Ext W W'->(Ext w W'/\W'.cell? ⟨w.heap.size,0,none⟩=some (.bool neg)/\W'.cell? ⟨w.heap.size,1,none⟩=some (.slice A ds.length c)/\W'.cell? ⟨w.heap.size+1,0,none⟩=some (.bool abR)/\W'.cell? ⟨w.heap.size+1,1,none⟩=some (.slice A' ds'.length c'))):=by
  intro W' hx;obtain ⟨hc,hf⟩:=hx.cells;have hsz:=HWS.out;refine ⟨HX0.out.trans hx,?_,?_,?_,?_⟩ <;> (rw [hc _ _ (by omega),<- hW]; simp [go_sem])
 clear hW
 go_region_held3 (fun W' => Ext w W' /\ W'.cell? ⟨w.heap.size, 0, none⟩ = some (.bool neg) /\ W'.cell? ⟨w.heap.size, 1, none⟩ = some (.slice A ds.length c) /\ W'.cell? ⟨w.heap.size + 1, 0, none⟩ = some (.bool abR) /\ W'.cell? ⟨w.heap.size + 1, 1, none⟩ = some (.slice A' ds'.length c'))
  (first | exact HS.out _ ((Ext.refl W).drew) | exact HS.out _ (by assumption))
  (first
    | (go_at_call_of 79 (Value.agg #[.bool neg,.slice A ds.length c])
       have hxx:=(‹Ext w _/\_›).1;refine (wd7 _ a L _ ⟨neg,_,ds,rfl,⟨A,c,rfl,h1,h2,H3.out.ext hxx⟩,HZ.out,hl⟩).mono ?_;rintro e w2 ⟨rfl,x2⟩
       have y2:Ext W w2:=Ext.trans ((Ext.refl W).drew) x2)
    | (go_at_call_of 79 (Value.agg #[.bool abR,.slice A' ds'.length c'])
       have hxx:=(‹Ext w _/\_›).1;refine (wd7 _ b M _ ⟨abR,_,ds',rfl,⟨A',c',rfl,h1',h2',H3'.out.ext hxx⟩,HZ'.out,hl'⟩).mono ?_;rintro e w3 ⟨rfl,x3⟩
       have y3:Ext W w3:=Ext.trans y2 x3))
 obtain ⟨e0,b0,b1,b2,b3⟩:=HS.out w3 y3;have E0:=hid e0;have bA:=xd6 a 0;have bB:=xd6 b 0;have HSA:Hid (sgI a=xdq a 0):=rfl;have HSB:Hid (sgI b=xdq b 0):=rfl
 change -1<=sgI a/\sgI a<=1 at bA
 change -1<=sgI b/\sgI b<=1 at bB
 obtain ⟨bA0,bA1⟩:=bA;obtain ⟨bB0,bB1⟩:=bB;clear e0 y2 y3 x2 x3 HS;generalize sgI a=sa at *;generalize sgI b=sb at *;rcases sU sa sb with hlt | heq | hgt
 · go_wp2_with fail;go_ret;exact ⟨zd8 (zd2 (ke5 (by rw [<- HSA.out,<- HSB.out]; exact hlt))).symm,E0.out⟩
 · subst heq
   by_cases akG:sa < 0
   · go_wp2_with fail;refine (gd8 _ _ ds' ds _ ⟨A',c',rfl,h1',h2',H3'.out.ext E0.out⟩ ⟨A,c,rfl,h1,h2,H3.out.ext E0.out⟩).mono ?_;rintro e w4 ⟨rfl,n4,hw4⟩;have y4:Ext w w4:=by rw [hw4]; exact E0.out.drewN n4
     have Y4:=hid y4;have hcm:xdq (val ds') (val ds)=xdq a b:=by
      have ha:a < 0:=by have:=HSA.out; unfold xdq at this; split at this <;> (try split at this) <;> omega
      have hb:b < 0:=by have:=HSB.out; unfold xdq at this; split at this <;> (try split at this) <;> omega
      have z1:=HZ.out;have z2:=HZ'.out;cases neg <;> cases abR <;> simp [sgn] at z1 z2 <;> first | omega | (rw [z1,z2]; unfold xdq; split <;> (try split) <;> (try split) <;> (try split) <;> omega)
     have HCM:=hid hcm;clear hw4 y4 hcm;go_wp2_with fail;go_ret;exact ⟨zd8 HCM.out,Y4.out⟩
   · go_wp2_with fail;refine (gd8 _ _ ds ds' _ ⟨A,c,rfl,h1,h2,H3.out.ext E0.out⟩ ⟨A',c',rfl,h1',h2',H3'.out.ext E0.out⟩).mono ?_;rintro e w4 ⟨rfl,n4,hw4⟩;have y4:Ext w w4:=by rw [hw4]; exact E0.out.drewN n4
     have Y4:=hid y4;have hcm:xdq (val ds) (val ds')=xdq a b:=by
      have ha:0<=a:=by have:=HSA.out; unfold xdq at this; split at this <;> (try split at this) <;> omega
      have hb:0<=b:=by have:=HSB.out; unfold xdq at this; split at this <;> (try split at this) <;> omega
      have z1:=HZ.out;have z2:=HZ'.out;have e1:a=val ds:=by cases neg <;> simp [sgn] at z1 <;> omega
      have e2:b=val ds':=by cases abR <;> simp [sgn] at z2 <;> omega
      rw [e1,e2]
     have HCM:=hid hcm;clear hw4 y4 hcm;go_wp2_with fail;go_ret;exact ⟨zd8 HCM.out,Y4.out⟩
 · go_wp2_with fail;go_ret;exact ⟨zd8 (wd8 (ke5 (by rw [<- HSA.out,<- HSB.out]; exact hgt))).symm,E0.out⟩
theorem wdl.unpack {w:World} {x:Value} {z:Int} {L:Nat} (h:wdl w x z L):∃ b A n c,x=.agg #[.bool b,.slice A n c]:=by
 obtain ⟨neg,v,ds,rfl,⟨A,c,rfl,-⟩,-⟩:=h;exact ⟨neg,A,_,c,rfl⟩
theorem udy.unpack {w:World} {x:Value} {z:Int} (h:udy w x z):∃ b A n c,x=.agg #[.bool b,.slice A n c]:=h.raw.unpack
def uel (P:Program) (T:TypeId):Bool:=match P.underlying T with
 | some (.struct _)=>true
 | _=>false
theorem qdl {P:Program} {T:TypeId} {z:Value} (h:uel P T=true) (hz:(P.info? T).map (·.zero)=some (some z)) (t:TypeId) (v:Value) (xT:TypeId) (w:World) :
 (Instr.typeAssert (.iface t v) xT T true).run P w=.ok (.tuple #[if t=T then v else z,.bool (decide (t=T))]) w:=by
 obtain ⟨j,hj,hz'⟩:=uw.1 hz;unfold uel at h
 split at h
 · rename_i fs hu
   by_cases ht:t=T
   · subst ht;simp [Instr.typeAssert,run_underlying hu]
   · simp [Instr.typeAssert,run_underlying hu,ht,zeroValue,typeInfo,hj,hz']
 · cases h
theorem uds (t:TypeId) (v:Value) (xT:TypeId) (w:World):(Instr.typeAssert (.iface t v) xT 110 true).run Tryz.prog w=.ok (.tuple #[if t=110 then v else .agg #[.bool false,.slice none 0 0],.bool (decide (t=110))]) w:=
 qdl (by kernel_rfl) (by kernel_rfl) t v xT w
theorem ydr (t:TypeId) (v:Value) (xT:TypeId) (w:World):(Instr.typeAssert (.iface t v) xT 73 true).run Tryz.prog w=.ok (.tuple #[if t=73 then v else .agg #[.string ByteArray.empty],.bool (decide (t=73))]) w:=
 qdl (by kernel_rfl) (by kernel_rfl) t v xT w
theorem qdt (t:TypeId) (v:Value) (xT:TypeId) (w:World):(Instr.typeAssert (.iface t v) xT 175 true).run Tryz.prog w=.ok (.tuple #[if t=175 then v else .agg #[.nilIface,.nilIface],.bool (decide (t=175))]) w:=
 qdl (by kernel_rfl) (by kernel_rfl) t v xT w
theorem kds (t:TypeId) (v:Value) (xT:TypeId) (w:World):(Instr.typeAssert (.iface t v) xT 176 true).run Tryz.prog w=.ok (.tuple #[if t=176 then v else .agg #[.nilIface,.nilIface],.bool (decide (t=176))]) w:=
 qdl (by kernel_rfl) (by kernel_rfl) t v xT w
theorem zdt (t:TypeId) (v:Value) (xT:TypeId) (w:World):(Instr.typeAssert (.iface t v) xT 177 true).run Tryz.prog w=.ok (.tuple #[if t=177 then v else .agg #[.nilIface,.nilIface],.bool (decide (t=177))]) w:=
 qdl (by kernel_rfl) (by kernel_rfl) t v xT w
theorem wds (t:TypeId) (v:Value) (xT:TypeId) (w:World):(Instr.typeAssert (.iface t v) xT 171 true).run Tryz.prog w=.ok (.tuple #[if t=171 then v else .agg #[.nilIface],.bool (decide (t=171))]) w:=
 qdl (by kernel_rfl) (by kernel_rfl) t v xT w
theorem vds (t:TypeId) (v:Value) (xT:TypeId) (w:World):(Instr.typeAssert (.iface t v) xT 173 true).run Tryz.prog w=.ok (.tuple #[if t=173 then v else .agg #[.nilIface,.int .i64 0],.bool (decide (t=173))]) w:=
 qdl (by kernel_rfl) (by kernel_rfl) t v xT w
theorem ydp (t:TypeId) (v:Value) (xT:TypeId) (w:World):(Instr.typeAssert (.iface t v) xT 85 true).run Tryz.prog w=.ok (.tuple #[if t=85 then v else .agg #[.bool false],.bool (decide (t=85))]) w:=
 qdl (by kernel_rfl) (by kernel_rfl) t v xT w
theorem xdr (t:TypeId) (v:Value) (xT:TypeId) (w:World):(Instr.typeAssert (.iface t v) xT 77 true).run Tryz.prog w=.ok (.tuple #[if t=77 then v else .agg #[.nilIface,.int .i64 0,.nilIface],.bool (decide (t=77))]) w:=
 qdl (by kernel_rfl) (by kernel_rfl) t v xT w
theorem gds (t:TypeId) (v:Value) (xT:TypeId) (w:World):(Instr.typeAssert (.iface t v) xT 134 true).run Tryz.prog w=.ok (.tuple #[if t=134 then v else .agg #[.nilIface],.bool (decide (t=134))]) w:=
 qdl (by kernel_rfl) (by kernel_rfl) t v xT w
theorem xdt (t:TypeId) (v:Value) (xT:TypeId) (w:World):(Instr.typeAssert (.iface t v) xT 136 true).run Tryz.prog w=.ok (.tuple #[if t=136 then v else .agg #[.nilIface,.nilIface],.bool (decide (t=136))]) w:=
 qdl (by kernel_rfl) (by kernel_rfl) t v xT w
theorem udv (t:TypeId) (v:Value) (xT:TypeId) (w:World):(Instr.typeAssert (.iface t v) xT 137 true).run Tryz.prog w=.ok (.tuple #[if t=137 then v else .agg #[.nilIface,.nilIface],.bool (decide (t=137))]) w:=
 qdl (by kernel_rfl) (by kernel_rfl) t v xT w
theorem qdn (t:TypeId) (v:Value) (xT:TypeId) (w:World):(Instr.typeAssert (.iface t v) xT 138 true).run Tryz.prog w=.ok (.tuple #[if t=138 then v else .agg #[.nilIface,.nilIface],.bool (decide (t=138))]) w:=
 qdl (by kernel_rfl) (by kernel_rfl) t v xT w
theorem ydt (t:TypeId) (v:Value) (xT:TypeId) (w:World):(Instr.typeAssert (.iface t v) xT 139 true).run Tryz.prog w=.ok (.tuple #[if t=139 then v else .agg #[.nilIface,.nilIface],.bool (decide (t=139))]) w:=
 qdl (by kernel_rfl) (by kernel_rfl) t v xT w
theorem xdp (t:TypeId) (v:Value) (xT:TypeId) (w:World):(Instr.typeAssert (.iface t v) xT 79 true).run Tryz.prog w=.ok (.tuple #[if t=79 then v else .agg #[.bool false,.string ByteArray.empty,.nilIface],.bool (decide (t=79))]) w:=
 qdl (by kernel_rfl) (by kernel_rfl) t v xT w
end Go.Proofs.YtheefiaoimbeiaaGreatDoor
