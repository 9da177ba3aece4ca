/- Layer 2 (integer): sums, differences, comparison. -/
import Derived.Test.YtopddaabiinboaaGreatMp4
import Derived.Deep.LoopGhost
set_option linter.unusedSimpArgs false
set_option linter.unusedVariables false
set_option maxRecDepth 100000
set_option maxHeartbeats 8000000
namespace Go.Proofs.YtopddaabiinboaaGreat
open Go.RowKit
theorem ghw {a b:Int} (h:kc4 a 0 < kc4 b 0):a < b:=by
 rcases Int.lt_trichotomy a 0 with ha | ha | ha
 · rcases Int.lt_trichotomy b 0 with hb | hb | hb
   · rw [kdg ha,kdg hb] at h; omega
   · omega
   · omega
 · rcases Int.lt_trichotomy b 0 with hb | hb | hb
   · rw [jda ha,kdg hb] at h; omega
   · rw [jda ha,jda hb] at h; omega
   · omega
 · have:=(jgw b 0).2;rw [qgw ha] at h; omega
theorem qhd (x y:Value) (a b:Int) (L M:Nat) (w:World) (h:xc4 w x a L) (k:xc4 w y b M) (hs:L+M<=35184372088000) :
 Calls Tryz.prog 89 #[x,y] w (vdh (a+b) w):=by
 obtain ⟨neg,v,ds,rfl,⟨A,c,rfl,h1,h2,h3⟩,hz,hl⟩:=h;obtain ⟨neg',v',ds',rfl,⟨A',c',rfl,h1',h2',h3'⟩,hz',hl'⟩:=k;have H3:=Lib.hid h3;have H3':=Lib.hid h3';clear h3 h3'
 by_cases hn:neg=neg'
 · subst hn;have hab:a+b=sgn neg (val ds+val ds'):=by rw [hz,hz']; cases neg <;> simp [sgn] <;> omega
   rw [hab];clear hz hz' hab;have hnb:(neg == neg)=true:=by simp
   go_enter Tryz.func89,Tryz.ntmps89;go_wp2_with fail;generalize hW:((w.alloc (Obj.cells #[.bool neg,.slice A ds.length c] 27)).alloc (Obj.cells #[.bool neg,.slice A' ds'.length c'] 27)).alloc (Obj.cells #[.bool false,.slice none 0 0] 27)=W;have HX0:Hid (Ext w W):=by
    have:Ext w W:=by rw [<- hW]; exact (((Ext.refl w).alloc _).alloc _).alloc _
    exact this
   have HWS:Hid (W.heap.size=w.heap.size+1+1+1):=by
    have:W.heap.size=w.heap.size+1+1+1:=by rw [<- hW]; simp
    exact this
   have HS:Hid (∀ W',Ext W W'->(Ext w W'/\W'.cell? ⟨w.heap.size,0,none⟩=some (.bool neg)/\W'.cell? ⟨w.heap.size,1,none⟩=some (.slice A ds.length c)/\W'.cell? ⟨w.heap.size+1,0,none⟩=some (.bool neg)/\W'.cell? ⟨w.heap.size+1,1,none⟩=some (.slice A' ds'.length c'))):=by
    intro W' hx;obtain ⟨hc,hf⟩:=hx.cells;have hsz:=HWS.out;refine ⟨HX0.out.trans hx,?_,?_,?_,?_⟩ <;> (rw [hc _ _ (by omega),<- hW]; simp [go_sem])
   have HR:Hid (∀ W',Ext W W'->(W'.cell? ⟨w.heap.size+1+1,0,none⟩=some (.bool false)/\W'.cell? ⟨w.heap.size+1+1,1,none⟩=some (.slice none 0 0)/\W'.frozen? ⟨w.heap.size+1+1,0,none⟩=false/\W'.frozen? ⟨w.heap.size+1+1,1,none⟩=false)):=by
    intro W' hx;obtain ⟨hc,hf⟩:=hx.cells;have hsz:=HWS.out;refine ⟨?_,?_,?_,?_⟩ <;> first | (rw [hc _ _ (by omega),<- hW]; simp [go_sem]; done) | (rw [hf _ _ (by omega),<- hW]; simp [go_sem]; done)
   have HS2:Hid (∀ W'' v0 v1,Ext W W''->∀ W',W'=(W''.setCell ⟨w.heap.size+1+1,0,none⟩ v0).setCell ⟨w.heap.size+1+1,1,none⟩ v1->(Ext w W'/\W'.cell? ⟨w.heap.size,0,none⟩=some (.bool neg)/\W'.cell? ⟨w.heap.size,1,none⟩=some (.slice A ds.length c)/\W'.cell? ⟨w.heap.size+1,0,none⟩=some (.bool neg)/\W'.cell? ⟨w.heap.size+1,1,none⟩=some (.slice A' ds'.length c'))):=by
    intro W'' v0 v1 hx W' hW';obtain ⟨s1,c0,c1,c2,c3⟩:=HS.out W'' hx;rw [hW'];refine ⟨(s1.setCell (by simp; try omega) _).setCell (by simp; try omega) _,?_,?_,?_,?_⟩ <;> rw [World.cell?_setCell_other _ _ _ _ (by simp; try omega),World.cell?_setCell_other _ _ _ _ (by simp; try omega)] <;> assumption
   clear hW
   go_region_held3 (fun W' => Ext w W' /\ W'.cell? ⟨w.heap.size, 0, none⟩ = some (.bool neg) /\ W'.cell? ⟨w.heap.size, 1, none⟩ = some (.slice A ds.length c) /\ W'.cell? ⟨w.heap.size + 1, 0, none⟩ = some (.bool neg) /\ W'.cell? ⟨w.heap.size + 1, 1, none⟩ = some (.slice A' ds'.length c'))
    (first | exact HS.out _ ((Ext.refl W).drew) | exact HS.out _ (by assumption) | exact HS2.out _ _ _ (by assumption) _ rfl)
    (first
      | (go_at_call 124
         have hxx:=(‹Ext w _/\_›).1;refine (xhd _ _ ds ds' _ ⟨A,c,rfl,h1,h2,H3.out.ext hxx⟩ ⟨A',c',rfl,h1',h2',H3'.out.ext hxx⟩ (by omega)).mono ?_;rintro e w2 ⟨v2,rfl,nv2,x2⟩
         have y2:Ext W w2:=Ext.trans ((Ext.refl W).drew) x2)
      | (go_at_call 93
         refine (zgx _ _ _ _ nv2).mono ?_;rintro e w3 ⟨v3,rfl,⟨v4,rfl,A2,c2,rfl,q1,q2,q3⟩,x3⟩;have y3:Ext W w3:=Ext.trans y2 x3
         obtain ⟨r0,r1,f0,f1⟩:=HR.out w3 y3))
   have HF:=Lib.hid (yc9 (g:=w.heap.size+1+1) (z:=sgn neg (val ds+val ds')) (u0:=.bool false) (u1:=.slice none 0 0) (HX0.out.trans y3) (by omega) r0 r1 rfl rfl ⟨_,rfl,A2,c2,rfl,q1,q2,q3⟩);clear HS HS2 HR y3 y2 x2 x3 q3 nv2;go_wp2_with fail;exact bodyPost_ret (v:=.agg #[.bool (decide (sgn neg (val ds+val ds') < 0)),.slice A2 (dg (sgn neg (val ds+val ds')).natAbs).length c2]) (by simp [results,Tryz.results89,go_sem,r0,r1]) rfl HF.out
 · have hnb:(neg == neg')=false:=by simp [hn]
   go_enter Tryz.func89,Tryz.ntmps89;go_wp2_with fail;generalize hW:((w.alloc (Obj.cells #[.bool neg,.slice A ds.length c] 27)).alloc (Obj.cells #[.bool neg',.slice A' ds'.length c'] 27)).alloc (Obj.cells #[.bool false,.slice none 0 0] 27)=W;have HX0:Hid (Ext w W):=by
    have:Ext w W:=by rw [<- hW]; exact (((Ext.refl w).alloc _).alloc _).alloc _
    exact this
   have HWS:Hid (W.heap.size=w.heap.size+1+1+1):=by
    have:W.heap.size=w.heap.size+1+1+1:=by rw [<- hW]; simp
    exact this
   have HS:Hid (∀ W',Ext W W'->(Ext w W'/\W'.cell? ⟨w.heap.size,0,none⟩=some (.bool neg)/\W'.cell? ⟨w.heap.size,1,none⟩=some (.slice A ds.length c)/\W'.cell? ⟨w.heap.size+1,0,none⟩=some (.bool neg')/\W'.cell? ⟨w.heap.size+1,1,none⟩=some (.slice A' ds'.length c'))):=by
    intro W' hx;obtain ⟨hc,hf⟩:=hx.cells;have hsz:=HWS.out;refine ⟨HX0.out.trans hx,?_,?_,?_,?_⟩ <;> (rw [hc _ _ (by omega),<- hW]; simp [go_sem])
   have HR:Hid (∀ W',Ext W W'->(W'.cell? ⟨w.heap.size+1+1,0,none⟩=some (.bool false)/\W'.cell? ⟨w.heap.size+1+1,1,none⟩=some (.slice none 0 0)/\W'.frozen? ⟨w.heap.size+1+1,0,none⟩=false/\W'.frozen? ⟨w.heap.size+1+1,1,none⟩=false)):=by
    intro W' hx;obtain ⟨hc,hf⟩:=hx.cells;have hsz:=HWS.out;refine ⟨?_,?_,?_,?_⟩ <;> first | (rw [hc _ _ (by omega),<- hW]; simp [go_sem]; done) | (rw [hf _ _ (by omega),<- hW]; simp [go_sem]; done)
   have HS2:Hid (∀ W'' v0 v1,Ext W W''->∀ W',W'=(W''.setCell ⟨w.heap.size+1+1,0,none⟩ v0).setCell ⟨w.heap.size+1+1,1,none⟩ v1->(Ext w W'/\W'.cell? ⟨w.heap.size,0,none⟩=some (.bool neg)/\W'.cell? ⟨w.heap.size,1,none⟩=some (.slice A ds.length c)/\W'.cell? ⟨w.heap.size+1,0,none⟩=some (.bool neg')/\W'.cell? ⟨w.heap.size+1,1,none⟩=some (.slice A' ds'.length c'))):=by
    intro W'' v0 v1 hx W' hW';obtain ⟨s1,c0,c1,c2,c3⟩:=HS.out W'' hx;rw [hW'];refine ⟨(s1.setCell (by simp; try omega) _).setCell (by simp; try omega) _,?_,?_,?_,?_⟩ <;> rw [World.cell?_setCell_other _ _ _ _ (by simp; try omega),World.cell?_setCell_other _ _ _ _ (by simp; try omega)] <;> assumption
   clear hW;obtain ⟨e0,b0,b1,b2,b3⟩:=HS.out W (Ext.refl W);refine (wgy _ _ ds ds' _ ⟨A,c,rfl,h1,h2,H3.out.ext e0⟩ ⟨A',c',rfl,h1',h2',H3'.out.ext e0⟩).mono ?_;rintro e w1 ⟨rfl,n1,hw1⟩;have y1:Ext W w1:=by rw [hw1]; exact (Ext.refl W).drewN n1
   clear hw1 e0 b0 b1 b2 b3;obtain ⟨e0,b0,b1,b2,b3⟩:=HS.out w1 y1;have E0:=Lib.hid e0;have Y1:=Lib.hid y1;clear e0 y1;have HN:=Lib.hid hn;have HZ:=Lib.hid hz;have HZ':=Lib.hid hz';clear hn hz hz'
   by_cases hge:val ds'<=val ds
   · have hcm:0<=kc4 (val ds) (val ds'):=by unfold kc4; split <;> (try split) <;> omega
     have hcm2:=(jgw (val ds) (val ds')).2;generalize kc4 (val ds) (val ds')=cm at *;go_wp2_with fail;refine (ghl _ _ ds ds' _ ⟨A,c,rfl,h1,h2,H3.out.ext E0.out⟩ ⟨A',c',rfl,h1',h2',H3'.out.ext E0.out⟩ (by omega) hge).mono ?_;rintro e w2 ⟨v2,rfl,nv2,-,x2⟩;have y2:=Y1.out.trans x2;obtain ⟨e0',b0',b1',b2',b3'⟩:=HS.out w2 y2;have NV2:=Lib.hid nv2;have Y2:=Lib.hid y2;clear nv2 y2 x2 e0' b0 b1 b2 b3;go_wp2_with fail;refine (zgx _ _ _ _ NV2.out).mono ?_;rintro e w3 ⟨v3,rfl,⟨v4,rfl,A2,c2,rfl,q1,q2,q3⟩,x3⟩;have y3:Ext W w3:=Ext.trans Y2.out x3;obtain ⟨r0,r1,f0,f1⟩:=HR.out w3 y3;have HF:=Lib.hid (yc9 (g:=w.heap.size+1+1) (z:=sgn neg (val ds - val ds')) (u0:=.bool false) (u1:=.slice none 0 0) (HX0.out.trans y3) (by omega) r0 r1 rfl rfl ⟨_,rfl,A2,c2,rfl,q1,q2,q3⟩);have hab:a+b=sgn neg (val ds - val ds'):=by
      have:=HN.out;rw [HZ.out,HZ'.out]; cases neg <;> cases neg' <;> simp_all [sgn] <;> omega
     have HAB:=Lib.hid hab;clear y3 q3 x3 hab;go_wp2_with fail;refine bodyPost_ret (v:=.agg #[.bool (decide (sgn neg (val ds - val ds') < 0)),.slice A2 (dg (sgn neg (val ds - val ds')).natAbs).length c2]) (by simp [results,Tryz.results89,go_sem,r0,r1]) rfl ?_;rw [HAB.out];exact HF.out
   · have hcm:kc4 (val ds) (val ds') < 0:=by rw [kdg (by omega)]; omega
     have hcm2:=(jgw (val ds) (val ds')).1;generalize kc4 (val ds) (val ds')=cm at *;go_wp2_with fail;refine (ghl _ _ ds' ds _ ⟨A',c',rfl,h1',h2',H3'.out.ext E0.out⟩ ⟨A,c,rfl,h1,h2,H3.out.ext E0.out⟩ (by omega) (by omega)).mono ?_;rintro e w2 ⟨v2,rfl,nv2,-,x2⟩;have y2:=Y1.out.trans x2;obtain ⟨e0',b0',b1',b2',b3'⟩:=HS.out w2 y2;have NV2:=Lib.hid nv2;have Y2:=Lib.hid y2;clear nv2 y2 x2 e0' b0 b1 b2 b3;go_wp2_with fail;refine (zgx _ _ _ _ NV2.out).mono ?_;rintro e w3 ⟨v3,rfl,⟨v4,rfl,A2,c2,rfl,q1,q2,q3⟩,x3⟩;have y3:Ext W w3:=Ext.trans Y2.out x3;obtain ⟨r0,r1,f0,f1⟩:=HR.out w3 y3;have HF:=Lib.hid (yc9 (g:=w.heap.size+1+1) (z:=sgn neg' (val ds' - val ds)) (u0:=.bool false) (u1:=.slice none 0 0) (HX0.out.trans y3) (by omega) r0 r1 rfl rfl ⟨_,rfl,A2,c2,rfl,q1,q2,q3⟩);have hab:a+b=sgn neg' (val ds' - val ds):=by
      have:=HN.out;rw [HZ.out,HZ'.out]; cases neg <;> cases neg' <;> simp_all [sgn] <;> omega
     have HAB:=Lib.hid hab;clear y3 q3 x3 hab;go_wp2_with fail;refine bodyPost_ret (v:=.agg #[.bool (decide (sgn neg' (val ds' - val ds) < 0)),.slice A2 (dg (sgn neg' (val ds' - val ds)).natAbs).length c2]) (by simp [results,Tryz.results89,go_sem,r0,r1]) rfl ?_;rw [HAB.out];exact HF.out
theorem qiy (x y:Value) (a b:Int) (L M:Nat) (w:World) (h:xc4 w x a L) (k:xc4 w y b M) (hs:L+M<=35184372088000) :
 Calls Tryz.prog 166 #[x,y] w (vdh (a - b) w):=by
 obtain ⟨neg,v,ds,rfl,⟨A,c,rfl,h1,h2,h3⟩,hz,hl⟩:=h;obtain ⟨neg',v',ds',rfl,⟨A',c',rfl,h1',h2',h3'⟩,hz',hl'⟩:=k;have H3:=Lib.hid h3;have H3':=Lib.hid h3';have HZ:=Lib.hid hz;have HZ':=Lib.hid hz';clear h3 h3' hz hz';go_enter Tryz.func166,Tryz.ntmps166;go_wp2_with fail;generalize hW:((w.alloc (Obj.cells #[.bool neg,.slice A ds.length c] 27)).alloc (Obj.cells #[.bool neg',.slice A' ds'.length c'] 27)).alloc (Obj.cells #[.bool false,.slice none 0 0] 27)=W;have HX0:Hid (Ext w W):=by
  have:Ext w W:=by rw [<- hW]; exact (((Ext.refl w).alloc _).alloc _).alloc _
  exact this
 have HWS:Hid (W.heap.size=w.heap.size+1+1+1):=by
  have:W.heap.size=w.heap.size+1+1+1:=by rw [<- hW]; simp
  exact this
 have HS:Hid (∀ W',Ext W W'->(Ext w W'/\W'.cell? ⟨w.heap.size,0,none⟩=some (.bool neg)/\W'.cell? ⟨w.heap.size,1,none⟩=some (.slice A ds.length c)/\W'.cell? ⟨w.heap.size+1,0,none⟩=some (.bool neg')/\W'.cell? ⟨w.heap.size+1,1,none⟩=some (.slice A' ds'.length c'))):=by
  intro W' hx;obtain ⟨hc,hf⟩:=hx.cells;have hsz:=HWS.out;refine ⟨HX0.out.trans hx,?_,?_,?_,?_⟩ <;> (rw [hc _ _ (by omega),<- hW]; simp [go_sem])
 have HR:Hid (∀ W',Ext W W'->(W'.cell? ⟨w.heap.size+1+1,0,none⟩=some (.bool false)/\W'.cell? ⟨w.heap.size+1+1,1,none⟩=some (.slice none 0 0)/\W'.frozen? ⟨w.heap.size+1+1,0,none⟩=false/\W'.frozen? ⟨w.heap.size+1+1,1,none⟩=false)):=by
  intro W' hx;obtain ⟨hc,hf⟩:=hx.cells;have hsz:=HWS.out;refine ⟨?_,?_,?_,?_⟩ <;> first | (rw [hc _ _ (by omega),<- hW]; simp [go_sem]; done) | (rw [hf _ _ (by omega),<- hW]; simp [go_sem]; done)
 clear hW;obtain ⟨e0,b0,b1,b2,b3⟩:=HS.out W (Ext.refl W);refine (qhd _ _ a (-b) L M _ ⟨neg,_,ds,rfl,⟨A,c,rfl,h1,h2,H3.out.ext e0⟩,HZ.out,hl⟩ ⟨!neg',_,ds',rfl,⟨A',c',rfl,h1',h2',H3'.out.ext e0⟩,by rw [HZ'.out]; cases neg' <;> simp [sgn],hl'⟩ hs).mono ?_;rw [<- Int.sub_eq_add_neg];rintro e w3 ⟨v3,rfl,⟨v4,rfl,A2,c2,rfl,q1,q2,q3⟩,y3⟩;obtain ⟨r0,r1,f0,f1⟩:=HR.out w3 y3;have HF:=Lib.hid (yc9 (g:=w.heap.size+1+1) (z:=a - b) (u0:=.bool false) (u1:=.slice none 0 0) (HX0.out.trans y3) (by omega) r0 r1 rfl rfl ⟨_,rfl,A2,c2,rfl,q1,q2,q3⟩);clear y3 q3 e0 b0 b1 b2 b3;go_wp2_with fail;exact bodyPost_ret (v:=.agg #[.bool (decide (a - b < 0)),.slice A2 (dg (a - b).natAbs).length c2]) (by simp [results,Tryz.results166,go_sem,r0,r1]) rfl HF.out
theorem qi4 (x y:Value) (a b:Int) (L M:Nat) (w:World) (h:xc4 w x a L) (k:xc4 w y b M) :
 Calls Tryz.prog 120 #[x,y] w fun e w'=>e=.returned (.int .i64 (kc4 a b))/\Ext w w':=by
 obtain ⟨neg,v,ds,rfl,⟨A,c,rfl,h1,h2,h3⟩,hz,hl⟩:=h;obtain ⟨neg',v',ds',rfl,⟨A',c',rfl,h1',h2',h3'⟩,hz',hl'⟩:=k;have H3:=Lib.hid h3;have H3':=Lib.hid h3';have HZ:=Lib.hid hz;have HZ':=Lib.hid hz';clear h3 h3' hz hz';go_enter Tryz.func120,Tryz.ntmps120;go_wp2_with fail;generalize hW:(w.alloc (Obj.cells #[.bool neg,.slice A ds.length c] 27)).alloc (Obj.cells #[.bool neg',.slice A' ds'.length c'] 27)=W;have HX0:Hid (Ext w W):=by
  have:Ext w W:=by rw [<- hW]; exact ((Ext.refl w).alloc _).alloc _
  exact this
 have HWS:Hid (W.heap.size=w.heap.size+1+1):=by
  have:W.heap.size=w.heap.size+1+1:=by rw [<- hW]; simp
  exact this
 have HS:Hid (∀ W',Ext W W'->(Ext w W'/\W'.cell? ⟨w.heap.size,0,none⟩=some (.bool neg)/\W'.cell? ⟨w.heap.size,1,none⟩=some (.slice A ds.length c)/\W'.cell? ⟨w.heap.size+1,0,none⟩=some (.bool neg')/\W'.cell? ⟨w.heap.size+1,1,none⟩=some (.slice A' ds'.length c'))):=by
  intro W' hx;obtain ⟨hc,hf⟩:=hx.cells;have hsz:=HWS.out;refine ⟨HX0.out.trans hx,?_,?_,?_,?_⟩ <;> (rw [hc _ _ (by omega),<- hW]; simp [go_sem])
 clear hW
 go_region_held3 (fun W' => Ext w W' /\ W'.cell? ⟨w.heap.size, 0, none⟩ = some (.bool neg) /\ W'.cell? ⟨w.heap.size, 1, none⟩ = some (.slice A ds.length c) /\ W'.cell? ⟨w.heap.size + 1, 0, none⟩ = some (.bool neg') /\ W'.cell? ⟨w.heap.size + 1, 1, none⟩ = some (.slice A' ds'.length c'))
  (first | exact HS.out _ ((Ext.refl W).drew) | exact HS.out _ (by assumption))
  (first
    | (go_at_call_of 68 (Value.agg #[.bool neg,.slice A ds.length c])
       have hxx:=(‹Ext w _/\_›).1;refine (wgr _ a L _ ⟨neg,_,ds,rfl,⟨A,c,rfl,h1,h2,H3.out.ext hxx⟩,HZ.out,hl⟩).mono ?_;rintro e w2 ⟨rfl,x2⟩
       have y2:Ext W w2:=Ext.trans ((Ext.refl W).drew) x2)
    | (go_at_call_of 68 (Value.agg #[.bool neg',.slice A' ds'.length c'])
       have hxx:=(‹Ext w _/\_›).1;refine (wgr _ b M _ ⟨neg',_,ds',rfl,⟨A',c',rfl,h1',h2',H3'.out.ext hxx⟩,HZ'.out,hl'⟩).mono ?_;rintro e w3 ⟨rfl,x3⟩
       have y3:Ext W w3:=Ext.trans y2 x3))
 obtain ⟨e0,b0,b1,b2,b3⟩:=HS.out w3 y3;have E0:=Lib.hid e0;have bA:=jgw a 0;have bB:=jgw b 0;have HSA:Hid (sgI a=kc4 a 0):=rfl;have HSB:Hid (sgI b=kc4 b 0):=rfl
 change -1<=sgI a/\sgI a<=1 at bA
 change -1<=sgI b/\sgI b<=1 at bB
 obtain ⟨bA0,bA1⟩:=bA;obtain ⟨bB0,bB1⟩:=bB;clear e0 y2 y3 x2 x3 HS;generalize sgI a=sa at *;generalize sgI b=sb at *;rcases Int.lt_trichotomy sa sb with hlt | heq | hgt
 · go_wp2_with fail;go_ret;exact ⟨qgy (kdg (ghw (by rw [<- HSA.out,<- HSB.out]; exact hlt))).symm,E0.out⟩
 · subst heq
   by_cases hneg:sa < 0
   · go_wp2_with fail;refine (wgy _ _ ds' ds _ ⟨A',c',rfl,h1',h2',H3'.out.ext E0.out⟩ ⟨A,c,rfl,h1,h2,H3.out.ext E0.out⟩).mono ?_;rintro e w4 ⟨rfl,n4,hw4⟩;have y4:Ext w w4:=by rw [hw4]; exact E0.out.drewN n4
     have Y4:=Lib.hid y4;have hcm:kc4 (val ds') (val ds)=kc4 a b:=by
      have ha:a < 0:=by have:=HSA.out; unfold kc4 at this; split at this <;> (try split at this) <;> omega
      have hb:b < 0:=by have:=HSB.out; unfold kc4 at this; split at this <;> (try split at this) <;> omega
      have z1:=HZ.out;have z2:=HZ'.out;cases neg <;> cases neg' <;> simp [sgn] at z1 z2 <;> first | omega | (rw [z1,z2]; unfold kc4; split <;> (try split) <;> (try split) <;> (try split) <;> omega)
     have HCM:=Lib.hid hcm;clear hw4 y4 hcm;go_wp2_with fail;go_ret;exact ⟨qgy HCM.out,Y4.out⟩
   · go_wp2_with fail;refine (wgy _ _ ds ds' _ ⟨A,c,rfl,h1,h2,H3.out.ext E0.out⟩ ⟨A',c',rfl,h1',h2',H3'.out.ext E0.out⟩).mono ?_;rintro e w4 ⟨rfl,n4,hw4⟩;have y4:Ext w w4:=by rw [hw4]; exact E0.out.drewN n4
     have Y4:=Lib.hid y4;have hcm:kc4 (val ds) (val ds')=kc4 a b:=by
      have ha:0<=a:=by have:=HSA.out; unfold kc4 at this; split at this <;> (try split at this) <;> omega
      have hb:0<=b:=by have:=HSB.out; unfold kc4 at this; split at this <;> (try split at this) <;> omega
      have z1:=HZ.out;have z2:=HZ'.out;have e1:a=val ds:=by cases neg <;> simp [sgn] at z1 <;> omega
      have e2:b=val ds':=by cases neg' <;> simp [sgn] at z2 <;> omega
      rw [e1,e2]
     have HCM:=Lib.hid hcm;clear hw4 y4 hcm;go_wp2_with fail;go_ret;exact ⟨qgy HCM.out,Y4.out⟩
 · go_wp2_with fail;go_ret;exact ⟨qgy (qgw (ghw (by rw [<- HSA.out,<- HSB.out]; exact hgt))).symm,E0.out⟩
theorem xc4.unpack {w:World} {x:Value} {z:Int} {L:Nat} (h:xc4 w x z L):∃ b A n c,x=.agg #[.bool b,.slice A n c]:=by
 obtain ⟨neg,v,ds,rfl,⟨A,c,rfl,-⟩,-⟩:=h;exact ⟨neg,A,_,c,rfl⟩
theorem kdb.unpack {w:World} {x:Value} {z:Int} (h:kdb w x z):∃ b A n c,x=.agg #[.bool b,.slice A n c]:=h.raw.unpack
/- Layer 3 (division): quotients of integers. -/
set_option maxRecDepth 100000
set_option maxHeartbeats 8000000
theorem uia (x:Value) (z:Int) (L:Nat) (w:World) (h:xc4 w x z L):Calls Tryz.prog 205 #[x] w fun e w'=>e=.returned (.bool (z == 0))/\Ext w w':=by
 obtain ⟨neg,v,ds,rfl,⟨A,c,rfl,h1,h2,h3⟩,hz,hl⟩:=h;have HX0:Hid (Ext w (w.alloc (Obj.cells #[.bool neg,.slice A ds.length c] 27))):=(Ext.refl w).alloc _;have H3:=Lib.hid h3;have HZ:=Lib.hid hz;clear h3 hz;go_enter Tryz.func205,Tryz.ntmps205;go_wp2_with fail;refine (wgr _ z L _ ⟨neg,_,ds,rfl,⟨A,c,rfl,h1,h2,H3.out.ext HX0.out⟩,HZ.out,hl⟩).mono ?_;rintro e w2 ⟨rfl,x2⟩;have X2:=Lib.hid (HX0.out.trans x2);clear x2;have HB:Hid ((sgI z == 0)=(z == 0)):=by
  have:(sgI z == 0)=(z == 0):=by
   unfold sgI;rcases Int.lt_trichotomy z 0 with h | h | h
   · rw [kdg h,Bool.eq_iff_iff,beq_iff_eq,beq_iff_eq]; omega
   · rw [jda h,Bool.eq_iff_iff,beq_iff_eq,beq_iff_eq]; omega
   · rw [qgw h,Bool.eq_iff_iff,beq_iff_eq,beq_iff_eq]; omega
  exact this
 generalize sgI z=sz at *;go_wp2_with fail;go_ret;exact ⟨by rw [<- HB.out]; rfl,X2.out⟩
theorem wio (neg neg':Bool) (m n:Nat):sgn (!neg == neg') (m / n)=(sgn neg m).tdiv (sgn neg' n):=by
 cases neg <;> cases neg' <;> simp [sgn,Int.neg_tdiv,Int.tdiv_neg]
theorem gio (neg neg':Bool) (m n:Nat):sgn neg (m % n)=(sgn neg m).tmod (sgn neg' n):=by
 have e:((m % n:Nat):Int)=(m:Int).tmod n:=rfl;cases neg <;> cases neg' <;> simp only [sgn,Int.neg_tmod,Int.tmod_neg,e,if_true,if_false,Bool.false_eq_true]
def zim (q r:Int) (w:World) (e:Ending) (w':World):Prop:=∃ x y,e=.returned (.tuple #[x,y,.int .i64 0])/\kdb w' x q/\kdb w' y r/\Ext w w'
theorem vic {w W : World} {g g' : Nat} {q r : Int} {b s b' s' u0 u1 u2 u3 : Value} (hx : Ext w W) (hg : w.heap.size <= g) (hg' : w.heap.size <= g') (hne : g ≠ g') (h0 : W.cell? ⟨g, 0, none⟩ = some u0) (h1 : W.cell? ⟨g, 1, none⟩ = some u1)
 (h2:W.cell? ⟨g',0,none⟩=some u2) (h3:W.cell? ⟨g',1,none⟩=some u3) (d0:gc6 u0=false) (d1:gc6 u1=false) (d2:gc6 u2=false) (d3:gc6 u3=false) (hN:kdb W (.agg #[b,s]) q) (hM:kdb W (.agg #[b',s']) r) :
 zim q r w (.returned (.tuple #[.agg #[b,s],.agg #[b',s'],.int .i64 0])) ((((W.setCell ⟨g,0,none⟩ b).setCell ⟨g,1,none⟩ s).setCell ⟨g',0,none⟩ b').setCell ⟨g',1,none⟩ s'):=by
 have k1:(W.setCell ⟨g,0,none⟩ b).cell? ⟨g,1,none⟩=some u1:=by rw [World.cell?_setCell_other _ _ _ _ (by simp),h1]
 have k2:((W.setCell ⟨g,0,none⟩ b).setCell ⟨g,1,none⟩ s).cell? ⟨g',0,none⟩=some u2:=by
  rw [World.cell?_setCell_other _ _ _ _ (by simp),World.cell?_setCell_other _ _ _ _ (by simp),h2]
 have k3:(((W.setCell ⟨g,0,none⟩ b).setCell ⟨g,1,none⟩ s).setCell ⟨g',0,none⟩ b').cell? ⟨g',1,none⟩=some u3:=by
  rw [World.cell?_setCell_other _ _ _ _ (by simp),World.cell?_setCell_other _ _ _ _ (by simp),World.cell?_setCell_other _ _ _ _ (by simp),h3]
 exact ⟨_,_,rfl,(((hN.box h0 d0 _).box k1 d1 _).box k2 d2 _).box k3 d3 _,(((hM.box h0 d0 _).box k1 d1 _).box k2 d2 _).box k3 d3 _,(((hx.setCell (by simpa using hg) _).setCell (by simpa using hg) _).setCell (by simpa using hg') _).setCell (by simpa using hg') _⟩
theorem xh5 (x y:Value) (a b:Int) (L M:Nat) (w:World) (h:xc4 w x a L) (k:xc4 w y b M) (hs:L<=17592186044416) (hs':M<=17592186044416) (hb0:b ≠ 0) :
 Calls Tryz.prog 157 #[x,y] w (zim (a.tdiv b) (a.tmod b) w):=by
 obtain ⟨neg,v,ds,rfl,⟨A,c,rfl,h1,h2,h3⟩,hz,hl⟩:=h;obtain ⟨neg',v',ds',rfl,⟨A',c',rfl,h1',h2',h3'⟩,hz',hl'⟩:=k;have hd0:val ds' ≠ 0:=by
  intro e;apply hb0;rw [hz',e]; cases neg' <;> rfl
 have HQ:Hid (a.tdiv b=sgn (!neg == neg') (val ds / val ds')/\a.tmod b=sgn neg (val ds % val ds')):=
  ⟨by rw [hz,hz',wio],by rw [hz,hz',gio neg neg']⟩
 rw [HQ.out.1,HQ.out.2];have H3:=Lib.hid h3;have H3':=Lib.hid h3';have HZ':=Lib.hid hz';have hbb:(b == 0)=false:=beq_eq_false_iff_ne.2 hb0;clear h3 h3' hz hz' hb0 HQ;go_enter Tryz.func157,Tryz.ntmps157;go_wp2_with fail;generalize hW:(((w.alloc (Obj.cells #[.bool neg,.slice A ds.length c] 27)).alloc (Obj.cells #[.bool neg',.slice A' ds'.length c'] 27)).alloc (Obj.cells #[.bool false,.slice none 0 0] 27)).alloc (Obj.cells #[.bool false,.slice none 0 0] 27)=W;have HX0:Hid (Ext w W):=by
  have:Ext w W:=by rw [<- hW]; exact ((((Ext.refl w).alloc _).alloc _).alloc _).alloc _
  exact this
 have HWS:Hid (W.heap.size=w.heap.size+1+1+1+1):=by
  have:W.heap.size=w.heap.size+1+1+1+1:=by rw [<- hW]; simp
  exact this
 have HS:Hid (∀ W',Ext W W'->(Ext w W'/\W'.cell? ⟨w.heap.size,0,none⟩=some (.bool neg)/\W'.cell? ⟨w.heap.size,1,none⟩=some (.slice A ds.length c)/\W'.cell? ⟨w.heap.size+1,0,none⟩=some (.bool neg')/\W'.cell? ⟨w.heap.size+1,1,none⟩=some (.slice A' ds'.length c'))):=by
  intro W' hx;obtain ⟨hc,hf⟩:=hx.cells;have hsz:=HWS.out;refine ⟨HX0.out.trans hx,?_,?_,?_,?_⟩ <;> (rw [hc _ _ (by omega),<- hW]; simp [go_sem])
 have HR:Hid (∀ W',Ext W W'->(W'.cell? ⟨w.heap.size+1+1,0,none⟩=some (.bool false)/\W'.cell? ⟨w.heap.size+1+1,1,none⟩=some (.slice none 0 0)/\W'.cell? ⟨w.heap.size+1+1+1,0,none⟩=some (.bool false)/\W'.cell? ⟨w.heap.size+1+1+1,1,none⟩=some (.slice none 0 0)/\W'.frozen? ⟨w.heap.size+1+1,0,none⟩=false/\W'.frozen? ⟨w.heap.size+1+1,1,none⟩=false/\W'.frozen? ⟨w.heap.size+1+1+1,0,none⟩=false/\W'.frozen? ⟨w.heap.size+1+1+1,1,none⟩=false)):=by
  intro W' hx;obtain ⟨hc,hf⟩:=hx.cells;have hsz:=HWS.out;refine ⟨?_,?_,?_,?_,?_,?_,?_,?_⟩ <;> first | (rw [hc _ _ (by omega),<- hW]; simp [go_sem]; done) | (rw [hf _ _ (by omega),<- hW]; simp [go_sem]; done)
 have HS2_2:Hid (∀ W'' v0 v1,Ext W W''->∀ W',W'=(W''.setCell ⟨w.heap.size+1+1,0,none⟩ v0).setCell ⟨w.heap.size+1+1,1,none⟩ v1->(Ext w W'/\W'.cell? ⟨w.heap.size,0,none⟩=some (.bool neg)/\W'.cell? ⟨w.heap.size,1,none⟩=some (.slice A ds.length c)/\W'.cell? ⟨w.heap.size+1,0,none⟩=some (.bool neg')/\W'.cell? ⟨w.heap.size+1,1,none⟩=some (.slice A' ds'.length c'))):=by
  intro W'' v0 v1 hx W' hW';obtain ⟨s1,c0,c1,c2,c3⟩:=HS.out W'' hx;rw [hW'];refine ⟨(s1.setCell (by simp; try omega) _).setCell (by simp; try omega) _,?_,?_,?_,?_⟩ <;> rw [World.cell?_setCell_other _ _ _ _ (by simp; try omega),World.cell?_setCell_other _ _ _ _ (by simp; try omega)] <;> assumption
 have HS2:Hid (∀ W'' v0 v1 v2 v3,Ext W W''->∀ W',W'=(((W''.setCell ⟨w.heap.size+1+1,0,none⟩ v0).setCell ⟨w.heap.size+1+1,1,none⟩ v1).setCell ⟨w.heap.size+1+1+1,0,none⟩ v2).setCell ⟨w.heap.size+1+1+1,1,none⟩ v3->(Ext w W'/\W'.cell? ⟨w.heap.size,0,none⟩=some (.bool neg)/\W'.cell? ⟨w.heap.size,1,none⟩=some (.slice A ds.length c)/\W'.cell? ⟨w.heap.size+1,0,none⟩=some (.bool neg')/\W'.cell? ⟨w.heap.size+1,1,none⟩=some (.slice A' ds'.length c'))):=by
  intro W'' v0 v1 v2 v3 hx W' hW';obtain ⟨s1,c0,c1,c2,c3⟩:=HS.out W'' hx;rw [hW'];refine ⟨(((s1.setCell (by simp; try omega) _).setCell (by simp; try omega) _).setCell (by simp; try omega) _).setCell (by simp; try omega) _,?_,?_,?_,?_⟩ <;> rw [World.cell?_setCell_other _ _ _ _ (by simp; try omega),World.cell?_setCell_other _ _ _ _ (by simp; try omega),World.cell?_setCell_other _ _ _ _ (by simp; try omega),World.cell?_setCell_other _ _ _ _ (by simp; try omega)] <;> assumption
 clear hW;obtain ⟨e0,b0,b1,b2,b3⟩:=HS.out W (Ext.refl W);refine (uia _ b M _ ⟨neg',_,ds',rfl,⟨A',c',rfl,h1',h2',H3'.out.ext e0⟩,HZ'.out,hl'⟩).mono ?_;rintro e w1 ⟨rfl,y1⟩;have Y1:=Lib.hid y1;clear e0 b0 b1 b2 b3;obtain ⟨e0,b0,b1,b2,b3⟩:=HS.out w1 y1;have E0:=Lib.hid e0;clear e0 y1;go_wp2_with fail;refine (jhk _ _ ds ds' _ ⟨A,c,rfl,h1,h2,H3.out.ext E0.out⟩ ⟨A',c',rfl,h1',h2',H3'.out.ext E0.out⟩ (by omega) (by omega) hd0).mono ?_;rintro e w2 ⟨vq,vr,rfl,nq,nr,x2⟩;have y2:=Y1.out.trans x2;have Y2:=Lib.hid y2;have NQ:=Lib.hid nq;have NR:=Lib.hid nr;have hlq:(dg (val ds / val ds')).length<=17592186044416:=Nat.le_trans (xc6 (Nat.div_le_self _ _)) (Nat.le_trans (vc3 H3.out.1) (by omega));have hlr:(dg (val ds % val ds')).length<=17592186044416:=Nat.le_trans (xc6 (Nat.mod_le _ _)) (Nat.le_trans (vc3 H3.out.1) (by omega));clear nq nr x2 y2 b0 b1 b2 b3 hd0;go_wp2_with fail
 go_region_held3 (fun W' => Ext w W' /\ W'.cell? ⟨w.heap.size, 0, none⟩ = some (.bool neg) /\ W'.cell? ⟨w.heap.size, 1, none⟩ = some (.slice A ds.length c) /\ W'.cell? ⟨w.heap.size + 1, 0, none⟩ = some (.bool neg') /\ W'.cell? ⟨w.heap.size + 1, 1, none⟩ = some (.slice A' ds'.length c'))
  (first | exact HS.out _ (Y2.out.drew) | exact HS.out _ (by assumption) | exact HS2_2.out _ _ _ (by assumption) _ rfl | exact HS2.out _ _ _ _ _ (by assumption) _ rfl)
  (first
    | (go_at_call_of 59 (Value.bool (!neg == neg'))
       refine (kgs _ _ _ _ (NQ.out.ext ((Ext.refl w2).drew)) (by omega)).mono ?_;rw [jc3];rintro e w3 ⟨x3,rfl,⟨v3,rfl,A3,c3,rfl,q1,q2,q3⟩,z3⟩;have y3:Ext W w3:=Ext.trans Y2.out.drew z3
       have z3':Ext w2 w3:=Ext.trans (Ext.refl w2).drew z3)
    | (go_at_call_of 59 (Value.bool neg)
       refine (kgs _ _ _ _ (NR.out.ext z3') (by omega)).mono ?_;rw [jc3];rintro e w4 ⟨x4,rfl,⟨v4,rfl,A4,c4,rfl,p1,p2,p3⟩,z4⟩;have y4:Ext W w4:=Ext.trans y3 z4
       obtain ⟨r0,r1,r2,r3,f0,f1,f2,f3⟩:=HR.out w4 y4))
 have n3:kdb w4 (.agg #[.bool (decide (sgn (!neg == neg') (val ds / val ds') < 0)),.slice A3 (dg (sgn (!neg == neg') (val ds / val ds')).natAbs).length c3]) (sgn (!neg == neg') (val ds / val ds')):=kdb.ext ⟨_,rfl,A3,c3,rfl,q1,q2,q3⟩ z4;have HF:=Lib.hid (vic (g:=w.heap.size+1+1) (g':=w.heap.size+1+1+1) (HX0.out.trans y4) (by omega) (by omega) (by omega) r0 r1 r2 r3 rfl rfl rfl rfl n3 ⟨_,rfl,A4,c4,rfl,p1,p2,p3⟩);clear HS HS2 HS2_2 HR y3 y4 z3 z3' z4 q3 p3 n3;go_wp2_with fail;exact bodyPost_ret (v:=.tuple #[.agg #[.bool (decide (sgn (!neg == neg') (val ds / val ds') < 0)),.slice A3 (dg (sgn (!neg == neg') (val ds / val ds')).natAbs).length c3],.agg #[.bool (decide (sgn neg (val ds % val ds') < 0)),.slice A4 (dg (sgn neg (val ds % val ds')).natAbs).length c4],.int .i64 0]) (by simp [results,Tryz.results157,go_sem,r0,r1,r2,r3]) rfl HF.out
/- Layer 3 (division): the greatest common divisor. -/
set_option maxRecDepth 100000
set_option maxHeartbeats 8000000
theorem whh (v:Value) (n:Nat) (w:World) (h:vc2 w v (dg n)) (hl:(dg n).length<=2) :
 Calls Tryz.prog 204 #[v] w fun e w'=>e=.returned (.tuple #[.int .u64 (n:Nat),.bool true])/\Ext w w':=by
 go_enter Tryz.func204,Tryz.ntmps204;go_wp2_with fail;refine (jc9 _ _ _ h).mono ?_;rw [jc3];rintro e w' ⟨v',rfl,hv,rfl⟩;clear h;obtain ⟨A,c,rfl,h1,h2,h3⟩:=hv
 by_cases hn0:n=0
 · subst hn0;rw [uc5] at h1 ⊢;clear h3 hl;go_wp2_with fail
   go_ret2
   exact ⟨rfl,Ext.refl w⟩
 · by_cases hn1:n < B32
   · rw [ugy hn0 hn1] at h1 h3 ⊢;obtain ⟨ad,rfl,hb,hcell,hd1⟩:=h3.at_ 0 (by simp);rw [show ad.add 0=ad from by simp [Addr.add]] at hcell
     change w.cell? ad=some (.int .u32 (n:Nat)) at hcell
     change n < 4294967296 at hd1
     clear h3 hl hn0 hn1;go_wp2_with fail
     go_ret2
     exact ⟨rfl,Ext.refl w⟩
   · have hB2:n < B32 * B32:=by
      have h4:=ydb n;have h5:B32 ^ (dg n).length<=B32 ^ 2:=Nat.pow_le_pow_right zc5 hl;rw [show B32 ^ 2=B32 * B32 from by rw [Nat.pow_succ,Nat.pow_one]] at h5;omega
     obtain ⟨lo,hi,hlo,hhi,hn⟩:∃ lo hi,lo < B32/\hi < B32/\n=lo+B32 * hi:=⟨n % B32,n / B32,Nat.mod_lt _ zc5,Nat.div_lt_of_lt_mul hB2,(Nat.mod_add_div _ _).symm⟩;have hhi0:hi ≠ 0:=by
      intro e;rw [e,Nat.mul_zero] at hn;omega
     have hdg:dg n=[lo,hi]:=by rw [hn]; exact gi8 lo hi hlo hhi0 hhi
     rw [hdg] at h1 h3 ⊢;obtain ⟨ad,rfl,hb,hcell,hd1⟩:=h3.at_ 0 (by simp);obtain ⟨ad',e',hb',hcell',hd1'⟩:=h3.at_ 1 (by simp);injection e' with e'
     subst e';rw [show ad.add 0=ad from by simp [Addr.add]] at hcell;rw [show ad.add 1=⟨ad.block,ad.off+1,none⟩ from by simp [Addr.add]] at hcell'
     change w.cell? ad=some (.int .u32 (lo:Nat)) at hcell
     change w.cell? ⟨ad.block,ad.off+1,none⟩=some (.int .u32 (hi:Nat)) at hcell'
     change lo < 4294967296 at hd1
     change hi < 4294967296 at hd1'
     have hor:bits .or .u64 ((hi:Int) * 4294967296) lo=(hi:Int) * 4294967296+lo:=by
      have:=u64_or_nat (hi * 4294967296) lo (by omega) (by omega);rw [nat_join 32 (hi * 4294967296) lo (by omega) (by omega)] at this;simpa using this
     have HN:Hid ((hi:Int) * 4294967296+lo=(n:Nat)):=by
      have:(hi:Int) * 4294967296+lo=(n:Nat):=by rw [hn,gc3]; omega
      exact this
     clear h3 hl hn0 hn1 hn hdg hB2 hlo hhi;go_wp2_with fail
     go_quiet (fail)
     go_wp2_with fail
     go_ret2
     exact ⟨by rw [<- HN.out]; rfl,(Ext.refl w).drewN _⟩
def xh0 (G:Nat) (W:World) (gk:Nat) (s5 s6:Value) (wr:World):Prop:=∃ X Y:Nat,gk=Y/\vc2 wr s5 (dg X)/\vc2 wr s6 (dg Y)/\Nat.gcd X Y=G/\(dg X).length<=17592186044416/\(dg Y).length<=17592186044416/\Ext W wr
theorem wi2 (x y:Value) (a b:Int) (L M:Nat) (w:World) (h:xc4 w x a L) (k:xc4 w y b M) (hs:L<=17592186044416) (hs':M<=17592186044416) :
 Calls Tryz.prog 156 #[x,y] w (vdh (Nat.gcd a.natAbs b.natAbs:Nat) w):=by
 have hLa:=h.len;have hLb:=k.len;obtain ⟨neg,v,ds,rfl,⟨A,c,rfl,h1,h2,h3⟩,hz,hl⟩:=h;obtain ⟨neg',v',ds',rfl,⟨A',c',rfl,h1',h2',h3'⟩,hz',hl'⟩:=k;have HA:Hid (a.natAbs=val ds):=by rw [hz]; exact qc7 _ _
 have HB:Hid (b.natAbs=val ds'):=by rw [hz']; exact qc7 _ _
 rw [HA.out] at hLa;rw [HB.out] at hLb;rw [HA.out,HB.out];have H3:=Lib.hid h3;have H3':=Lib.hid h3';clear h3 h3' hz hz' HA HB;go_enter Tryz.func156,Tryz.ntmps156;go_wp2_with fail;generalize hW:((w.alloc (Obj.cells #[.bool neg,.slice A ds.length c] 27)).alloc (Obj.cells #[.bool neg',.slice A' ds'.length c'] 27)).alloc (Obj.cells #[.bool false,.slice none 0 0] 27)=W;have HX0:Hid (Ext w W):=by
  have:Ext w W:=by rw [<- hW]; exact (((Ext.refl w).alloc _).alloc _).alloc _
  exact this
 have HWS:Hid (W.heap.size=w.heap.size+1+1+1):=by
  have:W.heap.size=w.heap.size+1+1+1:=by rw [<- hW]; simp
  exact this
 have HS:Hid (∀ W',Ext W W'->(Ext w W'/\W'.cell? ⟨w.heap.size,0,none⟩=some (.bool neg)/\W'.cell? ⟨w.heap.size,1,none⟩=some (.slice A ds.length c)/\W'.cell? ⟨w.heap.size+1,0,none⟩=some (.bool neg')/\W'.cell? ⟨w.heap.size+1,1,none⟩=some (.slice A' ds'.length c'))):=by
  intro W' hx;obtain ⟨hc,hf⟩:=hx.cells;have hsz:=HWS.out;refine ⟨HX0.out.trans hx,?_,?_,?_,?_⟩ <;> (rw [hc _ _ (by omega),<- hW]; simp [go_sem])
 have HR:Hid (∀ W',Ext W W'->(W'.cell? ⟨w.heap.size+1+1,0,none⟩=some (.bool false)/\W'.cell? ⟨w.heap.size+1+1,1,none⟩=some (.slice none 0 0)/\W'.frozen? ⟨w.heap.size+1+1,0,none⟩=false/\W'.frozen? ⟨w.heap.size+1+1,1,none⟩=false)):=by
  intro W' hx;obtain ⟨hc,hf⟩:=hx.cells;have hsz:=HWS.out;refine ⟨?_,?_,?_,?_⟩ <;> first | (rw [hc _ _ (by omega),<- hW]; simp [go_sem]; done) | (rw [hf _ _ (by omega),<- hW]; simp [go_sem]; done)
 have HS2:Hid (∀ W'' v0 v1,Ext W W''->∀ W',W'=(W''.setCell ⟨w.heap.size+1+1,0,none⟩ v0).setCell ⟨w.heap.size+1+1,1,none⟩ v1->(Ext w W'/\W'.cell? ⟨w.heap.size,0,none⟩=some (.bool neg)/\W'.cell? ⟨w.heap.size,1,none⟩=some (.slice A ds.length c)/\W'.cell? ⟨w.heap.size+1,0,none⟩=some (.bool neg')/\W'.cell? ⟨w.heap.size+1,1,none⟩=some (.slice A' ds'.length c'))):=by
  intro W'' v0 v1 hx W' hW';obtain ⟨s1,c0,c1,c2,c3⟩:=HS.out W'' hx;rw [hW'];refine ⟨(s1.setCell (by simp; try omega) _).setCell (by simp; try omega) _,?_,?_,?_,?_⟩ <;> rw [World.cell?_setCell_other _ _ _ _ (by simp; try omega),World.cell?_setCell_other _ _ _ _ (by simp; try omega)] <;> assumption
 clear hW
 go_region_held3 (fun W' => Ext w W' /\ W'.cell? ⟨w.heap.size, 0, none⟩ = some (.bool neg) /\ W'.cell? ⟨w.heap.size, 1, none⟩ = some (.slice A ds.length c) /\ W'.cell? ⟨w.heap.size + 1, 0, none⟩ = some (.bool neg') /\ W'.cell? ⟨w.heap.size + 1, 1, none⟩ = some (.slice A' ds'.length c'))
  (first | exact HS.out _ ((Ext.refl W).drew) | exact HS.out _ (by assumption) | exact HS2.out _ _ _ (by assumption) _ rfl)
  (first
    | (go_at_call_of 60 (Value.slice A ds.length c)
       have hxx:=(‹Ext w _/\_›).1;refine (xdc _ ds _ ⟨A,c,rfl,h1,h2,H3.out.ext hxx⟩ (by omega)).mono ?_;rintro e w2 ⟨v2,rfl,nv2,x2⟩
       have y2:Ext W w2:=Ext.trans ((Ext.refl W).drew) x2)
    | (go_at_call_of 60 (Value.slice A' ds'.length c')
       have hxx:=(‹Ext w _/\_›).1;refine (xdc _ ds' _ ⟨A',c',rfl,h1',h2',H3'.out.ext hxx⟩ (by omega)).mono ?_;rintro e w3 ⟨v3,rfl,nv3,x3⟩
       have y3:Ext W w3:=Ext.trans y2 x3))
 have HI0:Hid (xh0 (Nat.gcd (val ds) (val ds')) W (val ds') v2 v3 w3):=⟨_,_,rfl,nv2.ext x3,nv3,rfl,by omega,by omega,y3⟩;clear HS HS2 nv2 nv3 x2 x3 y2 y3;generalize Nat.gcd (val ds) (val ds')=G at *;go_wp2_with fail
 go_loopg [5,6] (val ds') (fun gk s5 s6 wr=>Hid (xh0 G W gk s5 s6 wr))
 case atStart=>exact HI0
 case round =>
  clear HI0;obtain ⟨X,Y,hgk,nx,ny,hg,lx,ly,hx⟩:=hrel.out;have NX:=Lib.hid nx;have NY:=Lib.hid ny;have HG:=Lib.hid hg;have HXX:=Lib.hid hx;have HGK:=Lib.hid hgk;obtain ⟨A5,c5,rfl,i1,i2,i3⟩:=nx;obtain ⟨A6,c6,rfl,j1,j2,j3⟩:=ny;clear hrel hg hx hgk i3 j3
  by_cases hbig:2 < (dg X).length\/2 < (dg Y).length
  · have hb:(decide ((2:Int) < ((dg X).length:Int))=true)\/(decide ((2:Int) < ((dg X).length:Int))=false/\decide ((2:Int) < ((dg Y).length:Int))=true):=by
     by_cases h:2 < (dg X).length
     · exact .inl (by simp; omega)
     · exact .inr ⟨by simp; omega,by simp; omega⟩
    clear hbig
    by_cases hY:Y=0
    · have hyl:(dg Y).length=0:=by rw [hY,uc5]; rfl
      rw [hyl] at hb ⊢;have hX:decide ((2:Int) < ((dg X).length:Int))=true:=by
       rcases hb with h | ⟨h1,h2⟩
       · exact h
       · simp at h2
      have HXG:Hid (X=G):=by
       have:=HG.out;rw [hY,Nat.gcd_zero_right] at this;exact this
      clear hb hyl hY;go_wp2_with fail;refine (kgs false _ _ _ NX.out (by omega)).mono ?_;rw [jc3,HXG.out,show sgn false G=((G:Nat):Int) from rfl];rintro e w9 ⟨x9,rfl,⟨v9,rfl,A2,c2,rfl,q1,q2,q3⟩,z9⟩;have y9:Ext W w9:=HXX.out.trans z9;obtain ⟨r0,r1,f0,f1⟩:=HR.out w9 y9
      change (dg ((G:Nat):Int).natAbs).length<=c2 at q1
      have HF:=Lib.hid (yc9 (g:=w.heap.size+1+1) (z:=((G:Nat):Int)) (u0:=.bool false) (u1:=.slice none 0 0) (HX0.out.trans y9) (by omega) r0 r1 rfl rfl ⟨_,rfl,A2,c2,rfl,q1,q2,q3⟩);clear y9 z9 q3;go_wp2_with fail;exact bodyPost_ret (v:=.agg #[.bool (decide (((G:Nat):Int) < 0)),.slice A2 (dg ((G:Nat):Int).natAbs).length c2]) (by simp [results,Tryz.results156,go_sem,r0,r1]) rfl HF.out
    · have hyl:0 < (dg Y).length:=yg0 hY;have hylb:(((dg Y).length:Int) == 0)=false:=beq_eq_false_iff_ne.2 (by omega);have hYp:0 < Y:=Nat.pos_of_ne_zero hY;rcases hb with hb1 | ⟨hb1,hb2⟩
      all_goals
       go_wp2_with fail;refine (jhk _ _ _ _ _ NX.out NY.out (by omega) (by omega) (by rw [jc3]; exact hY)).mono ?_;rw [jc3,jc3];rintro e w4 ⟨vq,vr,rfl,nq,nr,x4⟩
       have HS4:Hid (xh0 G W (X % Y) (.slice A6 (dg Y).length c6) vr w4):=
        ⟨Y,X % Y,rfl,NY.out.ext x4,nr,by rw [<- HG.out,Nat.gcd_comm X Y,Nat.gcd_rec Y X,Nat.gcd_comm],ly,Nat.le_trans (xc6 (Nat.mod_le _ _)) lx,HXX.out.trans x4⟩
       have hml:X % Y < Y:=Nat.mod_lt _ hYp;clear nq nr x4;go_wp2_with fail
       go_roundg (X % Y)
       case rel=>exact HS4
       case measure=>rw [HGK.out]; exact hml
  · have b1:decide ((2:Int) < ((dg X).length:Int))=false:=by simp; omega
    have b2:decide ((2:Int) < ((dg Y).length:Int))=false:=by simp; omega
    have hX64:X < 18446744073709551616:=by
     have h4:=ydb X;have h5:B32 ^ (dg X).length<=B32 ^ 2:=Nat.pow_le_pow_right zc5 (by omega);have h6:B32 ^ 2=18446744073709551616:=by decide
     omega
    have hY64:Y < 18446744073709551616:=by
     have h4:=ydb Y;have h5:B32 ^ (dg Y).length<=B32 ^ 2:=Nat.pow_le_pow_right zc5 (by omega);have h6:B32 ^ 2=18446744073709551616:=by decide
     omega
    go_wp2_with fail;refine (whh _ X _ NX.out (by omega)).mono ?_;rintro e w4 ⟨rfl,x4⟩;have X4:=Lib.hid x4;clear x4;go_wp2_with fail;refine (whh _ Y _ (NY.out.ext X4.out) (by omega)).mono ?_;rintro e w5 ⟨rfl,x5⟩;have Y5:=Lib.hid (HXX.out.trans (X4.out.trans x5));clear x5 X4;go_wp2_with fail
    go_loopw [9,11] (fun mv nv wr=>∃ m n:Nat,mv=.int .u64 m/\nv=.int .u64 n/\m < 18446744073709551616/\n < 18446744073709551616/\Hid (Nat.gcd m n=G/\Ext W wr)) (fun _ nv _=>(intOf nv).toNat)
    case atStart=>exact ⟨X,Y,rfl,rfl,hX64,hY64,Lib.hid ⟨HG.out,Y5.out⟩⟩
    case round =>
     obtain ⟨m,n,rfl,rfl,hm,hn,HI⟩:=hrel
     by_cases hn0:n=0
     · subst hn0;have HMG:Hid (m=G):=by
        have:=HI.out.1;rw [Nat.gcd_zero_right] at this;exact this
       go_wp2_with fail;refine (jgz m _ hm).mono ?_;rw [HMG.out];rintro e w6 ⟨v6,rfl,n6,x6⟩;go_wp2_with fail;refine (kgs false _ _ _ n6 ?_).mono ?_
       · have h4:=zc4 (n:=G) (k:=2) (by (rw [<- HMG.out]; have h6:B32 ^ 2=18446744073709551616:=by decide); omega);omega
       rw [jc3,show sgn false G=((G:Nat):Int) from rfl];rintro e w9 ⟨x9,rfl,⟨v9,rfl,A2,c2,rfl,q1,q2,q3⟩,z9⟩;have y9:Ext W w9:=HI.out.2.trans (x6.trans z9);obtain ⟨r0,r1,f0,f1⟩:=HR.out w9 y9
       change (dg ((G:Nat):Int).natAbs).length<=c2 at q1
       have HF:=Lib.hid (yc9 (g:=w.heap.size+1+1) (z:=((G:Nat):Int)) (u0:=.bool false) (u1:=.slice none 0 0) (HX0.out.trans y9) (by omega) r0 r1 rfl rfl ⟨_,rfl,A2,c2,rfl,q1,q2,q3⟩);clear y9 z9 q3 x6 n6;go_wp2_with fail;exact bodyPost_ret (v:=.agg #[.bool (decide (((G:Nat):Int) < 0)),.slice A2 (dg ((G:Nat):Int).natAbs).length c2]) (by simp [results,Tryz.results156,go_sem,r0,r1]) rfl HF.out
     · have hnb:((n:Int) != 0)=true:=by simp; omega
       have hnb2:((n:Int) == 0)=false:=beq_eq_false_iff_ne.2 (by omega);have hnp:0 < n:=by omega
       have hml:m % n < n:=Nat.mod_lt _ hnp;have HS5:Hid (Nat.gcd n (m % n)=G):=by
        have:=HI.out.1;rw [Nat.gcd_comm,<- Nat.gcd_rec,Nat.gcd_comm];exact this
       go_wp2_with fail
       go_quiet (fail)
       go_wp2_with fail
       go_roundw
       case rel=>exact ⟨n,m % n,rfl,by simp,hn,by omega,Lib.hid ⟨HS5.out,HI.out.2.drewN _⟩⟩
       case measure =>
        have e:(m:Int) % n=((m % n:Nat):Int):=by simp
        simp only [intOf];rw [e];omega
/- Layer 5 (rational): numerator and denominator. -/
set_option maxRecDepth 100000
set_option maxHeartbeats 8000000
def wc7 (w:World) (v:Value) (q:Rat) (L:Nat):Prop:=
 ∃ neg s1 s2 ds es,v=.agg #[.bool neg,s1,s2]/\vc2 w s1 ds/\vc2 w s2 es/\q=mkRat (sgn neg (val ds)) (val es)/\ds.length<=L/\es.length<=L
def uc7 (w:World) (v:Value) (q:Rat):Prop:=∃ s1 s2,v=.agg #[.bool (decide (q.num < 0)),s1,s2]/\vc2 w s1 (dg q.num.natAbs)/\vc2 w s2 (dg q.den)
def rlen (q:Rat):Nat:=max (dg q.num.natAbs).length (dg q.den).length
theorem wc7.ext {w w':World} {v:Value} {q:Rat} {L:Nat} (h:wc7 w v q L) (hx:Ext w w'):wc7 w' v q L:=by
 obtain ⟨neg,s1,s2,ds,es,e,h1,h2,h3,h4,h5⟩:=h;exact ⟨neg,s1,s2,ds,es,e,h1.ext hx,h2.ext hx,h3,h4,h5⟩
theorem wc7.mono {w:World} {v:Value} {q:Rat} {L L':Nat} (h:wc7 w v q L) (hl:L<=L'):wc7 w v q L':=by
 obtain ⟨neg,s1,s2,ds,es,e,h1,h2,h3,h4,h5⟩:=h;exact ⟨neg,s1,s2,ds,es,e,h1,h2,h3,Nat.le_trans h4 hl,Nat.le_trans h5 hl⟩
theorem uc7.ext {w w':World} {v:Value} {q:Rat} (h:uc7 w v q) (hx:Ext w w'):uc7 w' v q:=by
 obtain ⟨s1,s2,e,h1,h2⟩:=h;exact ⟨s1,s2,e,h1.ext hx,h2.ext hx⟩
theorem uc7.raw {w:World} {v:Value} {q:Rat} (h:uc7 w v q):wc7 w v q (rlen q):=by
 obtain ⟨s1,s2,e,h1,h2⟩:=h;exact ⟨_,s1,s2,_,_,e,h1,h2,by rw [jc3,jc3,zgs,Rat.mkRat_self],Nat.le_max_left _ _,Nat.le_max_right _ _⟩
theorem uc7.box {w:World} {x:Value} {q:Rat} {p:Addr} {u:Value} (h:uc7 w x q) (hp:w.cell? p=some u) (hu:gc6 u=false) (v:Value):uc7 (w.setCell p v) x q:=by
 obtain ⟨s1,s2,e,h1,h2⟩:=h;exact ⟨s1,s2,e,h1.box hp hu v,h2.box hp hu v⟩
def uhh (q:Rat) (L:Nat) (w:World) (e:Ending) (w':World):Prop:=
 ∃ (x y:Value) (n:Int) (d:Nat),e=.returned (.tuple #[x,y])/\xc4 w' x n L/\xc4 w' y (d:Nat) L/\0 < d/\q=mkRat n d/\Ext w w'
theorem uhf {w W : World} {g g' : Nat} {q : Rat} {n : Int} {d L : Nat} {b s b' s' u0 u1 u2 u3 : Value} (hx : Ext w W) (hg : w.heap.size <= g) (hg' : w.heap.size <= g') (hne : g ≠ g') (h0 : W.cell? ⟨g, 0, none⟩ = some u0) (h1 : W.cell? ⟨g, 1, none⟩ = some u1)
 (h2:W.cell? ⟨g',0,none⟩=some u2) (h3:W.cell? ⟨g',1,none⟩=some u3) (d0:gc6 u0=false) (d1:gc6 u1=false) (d2:gc6 u2=false) (d3:gc6 u3=false) (hN:xc4 W (.agg #[b,s]) n L) (hM:xc4 W (.agg #[b',s']) (d:Nat) L) (hd:0 < d) (hq:q=mkRat n d) :
 uhh q L w (.returned (.tuple #[.agg #[b,s],.agg #[b',s']])) ((((W.setCell ⟨g,0,none⟩ b).setCell ⟨g,1,none⟩ s).setCell ⟨g',0,none⟩ b').setCell ⟨g',1,none⟩ s'):=by
 have k1:(W.setCell ⟨g,0,none⟩ b).cell? ⟨g,1,none⟩=some u1:=by rw [World.cell?_setCell_other _ _ _ _ (by simp),h1]
 have k2:((W.setCell ⟨g,0,none⟩ b).setCell ⟨g,1,none⟩ s).cell? ⟨g',0,none⟩=some u2:=by
  rw [World.cell?_setCell_other _ _ _ _ (by simp),World.cell?_setCell_other _ _ _ _ (by intro e; injection e; omega),h2]
 have k3:(((W.setCell ⟨g,0,none⟩ b).setCell ⟨g,1,none⟩ s).setCell ⟨g',0,none⟩ b').cell? ⟨g',1,none⟩=some u3:=by
  rw [World.cell?_setCell_other _ _ _ _ (by simp),World.cell?_setCell_other _ _ _ _ (by intro e; injection e; omega),World.cell?_setCell_other _ _ _ _ (by simp),h3]
 exact ⟨_,_,n,d,rfl,(((hN.box h0 d0 _).box k1 d1 _).box k2 d2 _).box k3 d3 _,(((hM.box h0 d0 _).box k1 d1 _).box k2 d2 _).box k3 d3 _,hd,hq,(((hx.setCell (by simpa using hg) _).setCell (by simpa using hg) _).setCell (by simpa using hg') _).setCell (by simpa using hg') _⟩
theorem gdc (v:Value) (q:Rat) (L:Nat) (w:World) (h:wc7 w v q L) (hL:1<=L):Calls Tryz.prog 75 #[v] w (uhh q L w):=by
 obtain ⟨neg,s1,s2,ds,es,rfl,⟨A,c,rfl,h1,h2,h3⟩,⟨A',c',rfl,h1',h2',h3'⟩,hq,hl,hl'⟩:=h;have H3:=Lib.hid h3;have H3':=Lib.hid h3';have HQ:=Lib.hid hq;clear h3 h3' hq;go_enter Tryz.func75,Tryz.ntmps75;go_wp2_with fail;generalize hW:((w.alloc (Obj.cells #[.bool neg,.slice A ds.length c,.slice A' es.length c'] 37)).alloc (Obj.cells #[.bool false,.slice none 0 0] 27)).alloc (Obj.cells #[.bool false,.slice none 0 0] 27)=W;have HX0:Hid (Ext w W):=by
  have:Ext w W:=by rw [<- hW]; exact (((Ext.refl w).alloc _).alloc _).alloc _
  exact this
 have HWS:Hid (W.heap.size=w.heap.size+1+1+1):=by
  have:W.heap.size=w.heap.size+1+1+1:=by rw [<- hW]; simp
  exact this
 have HS:Hid (∀ W',Ext W W'->(Ext w W'/\W'.cell? ⟨w.heap.size,0,none⟩=some (.bool neg)/\W'.cell? ⟨w.heap.size,1,none⟩=some (.slice A ds.length c)/\W'.cell? ⟨w.heap.size,2,none⟩=some (.slice A' es.length c'))):=by
  intro W' hx;obtain ⟨hc,hf⟩:=hx.cells;have hsz:=HWS.out;refine ⟨HX0.out.trans hx,?_,?_,?_⟩ <;> (rw [hc _ _ (by omega),<- hW]; simp [go_sem])
 have HR:Hid (∀ W',Ext W W'->(W'.cell? ⟨w.heap.size+1,0,none⟩=some (.bool false)/\W'.cell? ⟨w.heap.size+1,1,none⟩=some (.slice none 0 0)/\W'.cell? ⟨w.heap.size+1+1,0,none⟩=some (.bool false)/\W'.cell? ⟨w.heap.size+1+1,1,none⟩=some (.slice none 0 0)/\W'.frozen? ⟨w.heap.size+1,0,none⟩=false/\W'.frozen? ⟨w.heap.size+1,1,none⟩=false/\W'.frozen? ⟨w.heap.size+1+1,0,none⟩=false/\W'.frozen? ⟨w.heap.size+1+1,1,none⟩=false)):=by
  intro W' hx;obtain ⟨hc,hf⟩:=hx.cells;have hsz:=HWS.out;refine ⟨?_,?_,?_,?_,?_,?_,?_,?_⟩ <;> first | (rw [hc _ _ (by omega),<- hW]; simp [go_sem]; done) | (rw [hf _ _ (by omega),<- hW]; simp [go_sem]; done)
 have HS2_2:Hid (∀ W'' v0 v1,Ext W W''->∀ W',W'=(W''.setCell ⟨w.heap.size+1,0,none⟩ v0).setCell ⟨w.heap.size+1,1,none⟩ v1->(Ext w W'/\W'.cell? ⟨w.heap.size,0,none⟩=some (.bool neg)/\W'.cell? ⟨w.heap.size,1,none⟩=some (.slice A ds.length c)/\W'.cell? ⟨w.heap.size,2,none⟩=some (.slice A' es.length c'))):=by
  intro W'' v0 v1 hx W' hW';obtain ⟨s1,c0,c1,c2⟩:=HS.out W'' hx;rw [hW'];refine ⟨(s1.setCell (by simp; try omega) _).setCell (by simp; try omega) _,?_,?_,?_⟩ <;> rw [World.cell?_setCell_other _ _ _ _ (by simp; try omega),World.cell?_setCell_other _ _ _ _ (by simp; try omega)] <;> assumption
 have HS2:Hid (∀ W'' v0 v1 v2 v3,Ext W W''->∀ W',W'=(((W''.setCell ⟨w.heap.size+1,0,none⟩ v0).setCell ⟨w.heap.size+1,1,none⟩ v1).setCell ⟨w.heap.size+1+1,0,none⟩ v2).setCell ⟨w.heap.size+1+1,1,none⟩ v3->(Ext w W'/\W'.cell? ⟨w.heap.size,0,none⟩=some (.bool neg)/\W'.cell? ⟨w.heap.size,1,none⟩=some (.slice A ds.length c)/\W'.cell? ⟨w.heap.size,2,none⟩=some (.slice A' es.length c'))):=by
  intro W'' v0 v1 v2 v3 hx W' hW';obtain ⟨s1,c0,c1,c2⟩:=HS.out W'' hx;rw [hW'];refine ⟨(((s1.setCell (by simp; try omega) _).setCell (by simp; try omega) _).setCell (by simp; try omega) _).setCell (by simp; try omega) _,?_,?_,?_⟩ <;> rw [World.cell?_setCell_other _ _ _ _ (by simp; try omega),World.cell?_setCell_other _ _ _ _ (by simp; try omega),World.cell?_setCell_other _ _ _ _ (by simp; try omega),World.cell?_setCell_other _ _ _ _ (by simp; try omega)] <;> assumption
 clear hW;obtain ⟨e0,b0,b1,b2⟩:=HS.out W (Ext.refl W);have E0:=Lib.hid e0;clear e0;refine (qdi _ es _ ⟨A',c',rfl,h1',h2',H3'.out.ext E0.out⟩).mono ?_;rintro e w1 ⟨rfl,rfl⟩
 by_cases h0:val es=0
 · have hb:(val es == 0)=true:=by simp [h0]
   have H0:=Lib.hid h0;clear h0;go_wp2_with fail;refine (of_int 1 _ (by omega) (by omega)).mono ?_;rintro e w2 ⟨x2,rfl,⟨v2,rfl,A2,c2,rfl,q1,q2,q3⟩,y2⟩;obtain ⟨r0,r1,r2,r3,f0,f1,f2,f3⟩:=HR.out w2 y2;have hN:xc4 w2 (.agg #[.bool (decide ((1:Int) < 0)),.slice A2 (dg (1:Int).natAbs).length c2]) ((1:Nat):Int) L:=xc4.mono (kdb.raw ⟨_,rfl,A2,c2,rfl,q1,q2,q3⟩) (by rw [show dg (((1:Nat):Int)).natAbs=[1] from ugy (by decide) vhd]; exact hL);have HF:=Lib.hid (uhf (q:=q) (n:=0) (d:=1) (g:=w.heap.size+1) (g':=w.heap.size+1+1) (E0.out.trans y2) (by omega) (by omega) (by omega) r0 r1 r2 r3 rfl rfl rfl rfl (show xc4 w2 (.agg #[.bool false,.slice none 0 0]) 0 L from ⟨false,_,[],rfl,vc2.nil _,rfl,Nat.zero_le _⟩) hN (by omega) (by rw [HQ.out,H0.out]; simp));clear hN q3 y2;go_wp2_with fail;exact bodyPost_ret (v:=.tuple #[.agg #[.bool false,.slice none 0 0],.agg #[.bool false,.slice A2 (dg 1).length c2]]) (by simp [results,Tryz.results75,go_sem,r0,r1,r2,r3]) rfl HF.out
 · have hb:(val es == 0)=false:=by simp [h0]
   obtain ⟨r0,r1,r2,r3,f0,f1,f2,f3⟩:=HR.out W (Ext.refl W);have HF:Hid (∀ W',W'=W.drewN 1->uhh q L w (.returned (.tuple #[.agg #[.bool neg,.slice A ds.length c],.agg #[.bool false,.slice A' es.length c']])) ((((W'.setCell ⟨w.heap.size+1,0,none⟩ (.bool neg)).setCell ⟨w.heap.size+1,1,none⟩ (.slice A ds.length c)).setCell ⟨w.heap.size+1+1,0,none⟩ (.bool false)).setCell ⟨w.heap.size+1+1,1,none⟩ (.slice A' es.length c'))):=by
    intro W' hW';have x1:Ext w W':=by rw [hW']; exact E0.out.drewN 1
    exact uhf (n:=sgn neg (val ds)) (d:=val es) x1 (by omega) (by omega) (by omega) (by rw [hW']; exact r0) (by rw [hW']; exact r1) (by rw [hW']; exact r2) (by rw [hW']; exact r3) rfl rfl rfl rfl ⟨neg,_,ds,rfl,⟨A,c,rfl,h1,h2,H3.out.ext x1⟩,rfl,hl⟩ ⟨false,_,es,rfl,⟨A',c',rfl,h1',h2',H3'.out.ext x1⟩,rfl,hl'⟩ (Nat.pos_of_ne_zero h0) HQ.out
   clear h0;go_wp2_with fail
   go_region_held3 (fun W' => Ext w W' /\ W'.cell? ⟨w.heap.size, 0, none⟩ = some (.bool neg) /\ W'.cell? ⟨w.heap.size, 1, none⟩ = some (.slice A ds.length c) /\ W'.cell? ⟨w.heap.size, 2, none⟩ = some (.slice A' es.length c'))
    (first | exact HS.out _ ((Ext.refl W).drew) | exact HS2_2.out _ _ _ ((Ext.refl W).drew) _ rfl | exact HS2.out _ _ _ _ _ ((Ext.refl W).drew) _ rfl)
    (fail)
   clear HS HS2 HS2_2 HR;go_wp2_with fail;exact bodyPost_ret (v:=.tuple #[.agg #[.bool neg,.slice A ds.length c],.agg #[.bool false,.slice A' es.length c']]) (by simp [results,Tryz.results75,go_sem,r0,r1,r2,r3]) rfl (HF.out _ rfl)
end Go.Proofs.YtopddaabiinboaaGreat
