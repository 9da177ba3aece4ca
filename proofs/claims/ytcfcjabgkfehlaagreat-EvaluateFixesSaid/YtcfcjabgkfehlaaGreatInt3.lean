/- Layer 2 (integer): sums, differences, comparison. -/
import Derived.Test.YtcfcjabgkfehlaaGreatMf12
set_option linter.unusedSimpArgs false
set_option linter.unusedVariables false

set_option maxRecDepth 100000
set_option maxHeartbeats 8000000
namespace Go.Proofs.YtcfcjabgkfehlaaGreat
open Go.RowKit
theorem gbk {a b:Int} (h:xh a 0 < xh b 0):a < b:=by
 rcases Int.lt_trichotomy a 0 with ha | ha | ha
 · rcases Int.lt_trichotomy b 0 with hb | hb | hb
   · rw [uaf ha,uaf hb] at h; omega
   · omega
   · omega
 · rcases Int.lt_trichotomy b 0 with hb | hb | hb
   · rw [vz ha,uaf hb] at h; omega
   · rw [vz ha,vz hb] at h; omega
   · omega
 · have:=(zan b 0).2;rw [wam ha] at h; omega
theorem ja2 (x y:Value) (a b:Int) (L M:Nat) (w:World) (h:yh w x a L) (k:yh w y b M) (hs:L+M<=35184372088000) :
 Calls Tryz.prog 143 #[x,y] w (xag (a+b) w):=by
 obtain ⟨neg,v,ds,rfl,⟨A,c,rfl,h1,h2,h3⟩,hz,hl⟩:=h;obtain ⟨neg',v',ds',rfl,⟨A',c',rfl,h1',h2',h3'⟩,hz',hl'⟩:=k;have H3:=Lib.hid h3;have H3':=Lib.hid h3';clear h3 h3'
 by_cases hn:neg=neg'
 · subst hn;have hab:a+b=sgn neg (val ds+val ds'):=by rw [hz,hz']; cases neg <;> simp [sgn] <;> omega
   rw [hab];clear hz hz' hab;have hnb:(neg == neg)=true:=by simp
   go_enter Tryz.func143,Tryz.ntmps143;go_wp2_with fail;generalize hW:((w.alloc (Obj.cells #[.bool neg,.slice A ds.length c] 33)).alloc (Obj.cells #[.bool neg,.slice A' ds'.length c'] 33)).alloc (Obj.cells #[.bool false,.slice none 0 0] 33)=W;have HX0:Hid (Ext w W):=by
    have:Ext w W:=by rw [<- hW]; exact (((Ext.refl w).alloc _).alloc _).alloc _
    exact this
   have HWS:Hid (W.heap.size=w.heap.size+1+1+1):=by
    have:W.heap.size=w.heap.size+1+1+1:=by rw [<- hW]; simp
    exact this
   have HS:Hid (∀ W',Ext W W'->(Ext w W'/\W'.cell? ⟨w.heap.size,0,none⟩=some (.bool neg)/\W'.cell? ⟨w.heap.size,1,none⟩=some (.slice A ds.length c)/\W'.cell? ⟨w.heap.size+1,0,none⟩=some (.bool neg)/\W'.cell? ⟨w.heap.size+1,1,none⟩=some (.slice A' ds'.length c'))):=by
    intro W' hx;obtain ⟨hc,hf⟩:=hx.cells;have hsz:=HWS.out;refine ⟨HX0.out.trans hx,?_,?_,?_,?_⟩ <;> (rw [hc _ _ (by omega),<- hW]; simp [go_sem])
   have HR:Hid (∀ W',Ext W W'->(W'.cell? ⟨w.heap.size+1+1,0,none⟩=some (.bool false)/\W'.cell? ⟨w.heap.size+1+1,1,none⟩=some (.slice none 0 0)/\W'.frozen? ⟨w.heap.size+1+1,0,none⟩=false/\W'.frozen? ⟨w.heap.size+1+1,1,none⟩=false)):=by
    intro W' hx;obtain ⟨hc,hf⟩:=hx.cells;have hsz:=HWS.out;refine ⟨?_,?_,?_,?_⟩ <;> first | (rw [hc _ _ (by omega),<- hW]; simp [go_sem]; done) | (rw [hf _ _ (by omega),<- hW]; simp [go_sem]; done)
   have HS2:Hid (∀ W'' v0 v1,Ext W W''->∀ W',W'=(W''.setCell ⟨w.heap.size+1+1,0,none⟩ v0).setCell ⟨w.heap.size+1+1,1,none⟩ v1->(Ext w W'/\W'.cell? ⟨w.heap.size,0,none⟩=some (.bool neg)/\W'.cell? ⟨w.heap.size,1,none⟩=some (.slice A ds.length c)/\W'.cell? ⟨w.heap.size+1,0,none⟩=some (.bool neg)/\W'.cell? ⟨w.heap.size+1,1,none⟩=some (.slice A' ds'.length c'))):=by
    intro W'' v0 v1 hx W' hW';obtain ⟨s1,c0,c1,c2,c3⟩:=HS.out W'' hx;rw [hW'];refine ⟨(s1.setCell (by simp; try omega) _).setCell (by simp; try omega) _,?_,?_,?_,?_⟩ <;> rw [World.cell?_setCell_other _ _ _ _ (by simp; try omega),World.cell?_setCell_other _ _ _ _ (by simp; try omega)] <;> assumption
   clear hW
   go_region_held3 (fun W' => Ext w W' /\ W'.cell? ⟨w.heap.size, 0, none⟩ = some (.bool neg) /\ W'.cell? ⟨w.heap.size, 1, none⟩ = some (.slice A ds.length c) /\ W'.cell? ⟨w.heap.size + 1, 0, none⟩ = some (.bool neg) /\ W'.cell? ⟨w.heap.size + 1, 1, none⟩ = some (.slice A' ds'.length c'))
    (first | exact HS.out _ ((Ext.refl W).drew) | exact HS.out _ (by assumption) | exact HS2.out _ _ _ (by assumption) _ rfl)
    (first
      | (go_at_call 179
         have hxx:=(‹Ext w _/\_›).1;refine (xa2 _ _ ds ds' _ ⟨A,c,rfl,h1,h2,H3.out.ext hxx⟩ ⟨A',c',rfl,h1',h2',H3'.out.ext hxx⟩ (by omega)).mono ?_;rintro e w2 ⟨v2,rfl,nv2,x2⟩
         have y2:Ext W w2:=Ext.trans ((Ext.refl W).drew) x2)
      | (go_at_call 136
         refine (jan _ _ _ _ nv2).mono ?_;rintro e w3 ⟨v3,rfl,⟨v4,rfl,A2,c2,rfl,q1,q2,q3⟩,x3⟩;have y3:Ext W w3:=Ext.trans y2 x3
         obtain ⟨r0,r1,f0,f1⟩:=HR.out w3 y3))
   have HF:=Lib.hid (jy (g:=w.heap.size+1+1) (z:=sgn neg (val ds+val ds')) (u0:=.bool false) (u1:=.slice none 0 0) (HX0.out.trans y3) (by omega) r0 r1 rfl rfl ⟨_,rfl,A2,c2,rfl,q1,q2,q3⟩);clear HS HS2 HR y3 y2 x2 x3 q3 nv2;go_wp2_with fail;exact bodyPost_ret (v:=.agg #[.bool (decide (sgn neg (val ds+val ds') < 0)),.slice A2 (dg (sgn neg (val ds+val ds')).natAbs).length c2]) (by simp [results,Tryz.results143,go_sem,r0,r1]) rfl HF.out
 · have hnb:(neg == neg')=false:=by simp [hn]
   go_enter Tryz.func143,Tryz.ntmps143;go_wp2_with fail;generalize hW:((w.alloc (Obj.cells #[.bool neg,.slice A ds.length c] 33)).alloc (Obj.cells #[.bool neg',.slice A' ds'.length c'] 33)).alloc (Obj.cells #[.bool false,.slice none 0 0] 33)=W;have HX0:Hid (Ext w W):=by
    have:Ext w W:=by rw [<- hW]; exact (((Ext.refl w).alloc _).alloc _).alloc _
    exact this
   have HWS:Hid (W.heap.size=w.heap.size+1+1+1):=by
    have:W.heap.size=w.heap.size+1+1+1:=by rw [<- hW]; simp
    exact this
   have HS:Hid (∀ W',Ext W W'->(Ext w W'/\W'.cell? ⟨w.heap.size,0,none⟩=some (.bool neg)/\W'.cell? ⟨w.heap.size,1,none⟩=some (.slice A ds.length c)/\W'.cell? ⟨w.heap.size+1,0,none⟩=some (.bool neg')/\W'.cell? ⟨w.heap.size+1,1,none⟩=some (.slice A' ds'.length c'))):=by
    intro W' hx;obtain ⟨hc,hf⟩:=hx.cells;have hsz:=HWS.out;refine ⟨HX0.out.trans hx,?_,?_,?_,?_⟩ <;> (rw [hc _ _ (by omega),<- hW]; simp [go_sem])
   have HR:Hid (∀ W',Ext W W'->(W'.cell? ⟨w.heap.size+1+1,0,none⟩=some (.bool false)/\W'.cell? ⟨w.heap.size+1+1,1,none⟩=some (.slice none 0 0)/\W'.frozen? ⟨w.heap.size+1+1,0,none⟩=false/\W'.frozen? ⟨w.heap.size+1+1,1,none⟩=false)):=by
    intro W' hx;obtain ⟨hc,hf⟩:=hx.cells;have hsz:=HWS.out;refine ⟨?_,?_,?_,?_⟩ <;> first | (rw [hc _ _ (by omega),<- hW]; simp [go_sem]; done) | (rw [hf _ _ (by omega),<- hW]; simp [go_sem]; done)
   have HS2:Hid (∀ W'' v0 v1,Ext W W''->∀ W',W'=(W''.setCell ⟨w.heap.size+1+1,0,none⟩ v0).setCell ⟨w.heap.size+1+1,1,none⟩ v1->(Ext w W'/\W'.cell? ⟨w.heap.size,0,none⟩=some (.bool neg)/\W'.cell? ⟨w.heap.size,1,none⟩=some (.slice A ds.length c)/\W'.cell? ⟨w.heap.size+1,0,none⟩=some (.bool neg')/\W'.cell? ⟨w.heap.size+1,1,none⟩=some (.slice A' ds'.length c'))):=by
    intro W'' v0 v1 hx W' hW';obtain ⟨s1,c0,c1,c2,c3⟩:=HS.out W'' hx;rw [hW'];refine ⟨(s1.setCell (by simp; try omega) _).setCell (by simp; try omega) _,?_,?_,?_,?_⟩ <;> rw [World.cell?_setCell_other _ _ _ _ (by simp; try omega),World.cell?_setCell_other _ _ _ _ (by simp; try omega)] <;> assumption
   clear hW;obtain ⟨e0,b0,b1,b2,b3⟩:=HS.out W (Ext.refl W);refine (kap _ _ ds ds' _ ⟨A,c,rfl,h1,h2,H3.out.ext e0⟩ ⟨A',c',rfl,h1',h2',H3'.out.ext e0⟩).mono ?_;rintro e w1 ⟨rfl,n1,hw1⟩;have y1:Ext W w1:=by rw [hw1]; exact (Ext.refl W).drewN n1
   clear hw1 e0 b0 b1 b2 b3;obtain ⟨e0,b0,b1,b2,b3⟩:=HS.out w1 y1;have E0:=Lib.hid e0;have Y1:=Lib.hid y1;clear e0 y1;have HN:=Lib.hid hn;have HZ:=Lib.hid hz;have HZ':=Lib.hid hz';clear hn hz hz'
   by_cases hge:val ds'<=val ds
   · have hcm:0<=xh (val ds) (val ds'):=by unfold xh; split <;> (try split) <;> omega
     have hcm2:=(zan (val ds) (val ds')).2;generalize xh (val ds) (val ds')=cm at *;go_wp2_with fail;refine (gba _ _ ds ds' _ ⟨A,c,rfl,h1,h2,H3.out.ext E0.out⟩ ⟨A',c',rfl,h1',h2',H3'.out.ext E0.out⟩ (by omega) hge).mono ?_;rintro e w2 ⟨v2,rfl,nv2,-,x2⟩;have y2:=Y1.out.trans x2;obtain ⟨e0',b0',b1',b2',b3'⟩:=HS.out w2 y2;have NV2:=Lib.hid nv2;have Y2:=Lib.hid y2;clear nv2 y2 x2 e0' b0 b1 b2 b3;go_wp2_with fail;refine (jan _ _ _ _ NV2.out).mono ?_;rintro e w3 ⟨v3,rfl,⟨v4,rfl,A2,c2,rfl,q1,q2,q3⟩,x3⟩;have y3:Ext W w3:=Ext.trans Y2.out x3;obtain ⟨r0,r1,f0,f1⟩:=HR.out w3 y3;have HF:=Lib.hid (jy (g:=w.heap.size+1+1) (z:=sgn neg (val ds - val ds')) (u0:=.bool false) (u1:=.slice none 0 0) (HX0.out.trans y3) (by omega) r0 r1 rfl rfl ⟨_,rfl,A2,c2,rfl,q1,q2,q3⟩);have hab:a+b=sgn neg (val ds - val ds'):=by
      have:=HN.out;rw [HZ.out,HZ'.out]; cases neg <;> cases neg' <;> simp_all [sgn] <;> omega
     have HAB:=Lib.hid hab;clear y3 q3 x3 hab;go_wp2_with fail;refine bodyPost_ret (v:=.agg #[.bool (decide (sgn neg (val ds - val ds') < 0)),.slice A2 (dg (sgn neg (val ds - val ds')).natAbs).length c2]) (by simp [results,Tryz.results143,go_sem,r0,r1]) rfl ?_;rw [HAB.out];exact HF.out
   · have hcm:xh (val ds) (val ds') < 0:=by rw [uaf (by omega)]; omega
     have hcm2:=(zan (val ds) (val ds')).1;generalize xh (val ds) (val ds')=cm at *;go_wp2_with fail;refine (gba _ _ ds' ds _ ⟨A',c',rfl,h1',h2',H3'.out.ext E0.out⟩ ⟨A,c,rfl,h1,h2,H3.out.ext E0.out⟩ (by omega) (by omega)).mono ?_;rintro e w2 ⟨v2,rfl,nv2,-,x2⟩;have y2:=Y1.out.trans x2;obtain ⟨e0',b0',b1',b2',b3'⟩:=HS.out w2 y2;have NV2:=Lib.hid nv2;have Y2:=Lib.hid y2;clear nv2 y2 x2 e0' b0 b1 b2 b3;go_wp2_with fail;refine (jan _ _ _ _ NV2.out).mono ?_;rintro e w3 ⟨v3,rfl,⟨v4,rfl,A2,c2,rfl,q1,q2,q3⟩,x3⟩;have y3:Ext W w3:=Ext.trans Y2.out x3;obtain ⟨r0,r1,f0,f1⟩:=HR.out w3 y3;have HF:=Lib.hid (jy (g:=w.heap.size+1+1) (z:=sgn neg' (val ds' - val ds)) (u0:=.bool false) (u1:=.slice none 0 0) (HX0.out.trans y3) (by omega) r0 r1 rfl rfl ⟨_,rfl,A2,c2,rfl,q1,q2,q3⟩);have hab:a+b=sgn neg' (val ds' - val ds):=by
      have:=HN.out;rw [HZ.out,HZ'.out]; cases neg <;> cases neg' <;> simp_all [sgn] <;> omega
     have HAB:=Lib.hid hab;clear y3 q3 x3 hab;go_wp2_with fail;refine bodyPost_ret (v:=.agg #[.bool (decide (sgn neg' (val ds' - val ds) < 0)),.slice A2 (dg (sgn neg' (val ds' - val ds)).natAbs).length c2]) (by simp [results,Tryz.results143,go_sem,r0,r1]) rfl ?_;rw [HAB.out];exact HF.out
theorem vcl (x y:Value) (a b:Int) (L M:Nat) (w:World) (h:yh w x a L) (k:yh w y b M) (hs:L+M<=35184372088000) :
 Calls Tryz.prog 232 #[x,y] w (xag (a - b) w):=by
 obtain ⟨neg,v,ds,rfl,⟨A,c,rfl,h1,h2,h3⟩,hz,hl⟩:=h;obtain ⟨neg',v',ds',rfl,⟨A',c',rfl,h1',h2',h3'⟩,hz',hl'⟩:=k;have H3:=Lib.hid h3;have H3':=Lib.hid h3';have HZ:=Lib.hid hz;have HZ':=Lib.hid hz';clear h3 h3' hz hz';go_enter Tryz.func232,Tryz.ntmps232;go_wp2_with fail;generalize hW:((w.alloc (Obj.cells #[.bool neg,.slice A ds.length c] 33)).alloc (Obj.cells #[.bool neg',.slice A' ds'.length c'] 33)).alloc (Obj.cells #[.bool false,.slice none 0 0] 33)=W;have HX0:Hid (Ext w W):=by
  have:Ext w W:=by rw [<- hW]; exact (((Ext.refl w).alloc _).alloc _).alloc _
  exact this
 have HWS:Hid (W.heap.size=w.heap.size+1+1+1):=by
  have:W.heap.size=w.heap.size+1+1+1:=by rw [<- hW]; simp
  exact this
 have HS:Hid (∀ W',Ext W W'->(Ext w W'/\W'.cell? ⟨w.heap.size,0,none⟩=some (.bool neg)/\W'.cell? ⟨w.heap.size,1,none⟩=some (.slice A ds.length c)/\W'.cell? ⟨w.heap.size+1,0,none⟩=some (.bool neg')/\W'.cell? ⟨w.heap.size+1,1,none⟩=some (.slice A' ds'.length c'))):=by
  intro W' hx;obtain ⟨hc,hf⟩:=hx.cells;have hsz:=HWS.out;refine ⟨HX0.out.trans hx,?_,?_,?_,?_⟩ <;> (rw [hc _ _ (by omega),<- hW]; simp [go_sem])
 have HR:Hid (∀ W',Ext W W'->(W'.cell? ⟨w.heap.size+1+1,0,none⟩=some (.bool false)/\W'.cell? ⟨w.heap.size+1+1,1,none⟩=some (.slice none 0 0)/\W'.frozen? ⟨w.heap.size+1+1,0,none⟩=false/\W'.frozen? ⟨w.heap.size+1+1,1,none⟩=false)):=by
  intro W' hx;obtain ⟨hc,hf⟩:=hx.cells;have hsz:=HWS.out;refine ⟨?_,?_,?_,?_⟩ <;> first | (rw [hc _ _ (by omega),<- hW]; simp [go_sem]; done) | (rw [hf _ _ (by omega),<- hW]; simp [go_sem]; done)
 clear hW;obtain ⟨e0,b0,b1,b2,b3⟩:=HS.out W (Ext.refl W);refine (ja2 _ _ a (-b) L M _ ⟨neg,_,ds,rfl,⟨A,c,rfl,h1,h2,H3.out.ext e0⟩,HZ.out,hl⟩ ⟨!neg',_,ds',rfl,⟨A',c',rfl,h1',h2',H3'.out.ext e0⟩,by rw [HZ'.out]; cases neg' <;> simp [sgn],hl'⟩ hs).mono ?_;rw [<- Int.sub_eq_add_neg];rintro e w3 ⟨v3,rfl,⟨v4,rfl,A2,c2,rfl,q1,q2,q3⟩,y3⟩;obtain ⟨r0,r1,f0,f1⟩:=HR.out w3 y3;have HF:=Lib.hid (jy (g:=w.heap.size+1+1) (z:=a - b) (u0:=.bool false) (u1:=.slice none 0 0) (HX0.out.trans y3) (by omega) r0 r1 rfl rfl ⟨_,rfl,A2,c2,rfl,q1,q2,q3⟩);clear y3 q3 e0 b0 b1 b2 b3;go_wp2_with fail;exact bodyPost_ret (v:=.agg #[.bool (decide (a - b < 0)),.slice A2 (dg (a - b).natAbs).length c2]) (by simp [results,Tryz.results232,go_sem,r0,r1]) rfl HF.out
theorem kcr (x y:Value) (a b:Int) (L M:Nat) (w:World) (h:yh w x a L) (k:yh w y b M) :
 Calls Tryz.prog 121 #[x,y] w fun e w'=>e=.returned (.int .i64 (xh a b))/\Ext w w':=by
 obtain ⟨neg,v,ds,rfl,⟨A,c,rfl,h1,h2,h3⟩,hz,hl⟩:=h;obtain ⟨neg',v',ds',rfl,⟨A',c',rfl,h1',h2',h3'⟩,hz',hl'⟩:=k;have H3:=Lib.hid h3;have H3':=Lib.hid h3';have HZ:=Lib.hid hz;have HZ':=Lib.hid hz';clear h3 h3' hz hz';go_enter Tryz.func121,Tryz.ntmps121;go_wp2_with fail;generalize hW:(w.alloc (Obj.cells #[.bool neg,.slice A ds.length c] 33)).alloc (Obj.cells #[.bool neg',.slice A' ds'.length c'] 33)=W;have HX0:Hid (Ext w W):=by
  have:Ext w W:=by rw [<- hW]; exact ((Ext.refl w).alloc _).alloc _
  exact this
 have HWS:Hid (W.heap.size=w.heap.size+1+1):=by
  have:W.heap.size=w.heap.size+1+1:=by rw [<- hW]; simp
  exact this
 have HS:Hid (∀ W',Ext W W'->(Ext w W'/\W'.cell? ⟨w.heap.size,0,none⟩=some (.bool neg)/\W'.cell? ⟨w.heap.size,1,none⟩=some (.slice A ds.length c)/\W'.cell? ⟨w.heap.size+1,0,none⟩=some (.bool neg')/\W'.cell? ⟨w.heap.size+1,1,none⟩=some (.slice A' ds'.length c'))):=by
  intro W' hx;obtain ⟨hc,hf⟩:=hx.cells;have hsz:=HWS.out;refine ⟨HX0.out.trans hx,?_,?_,?_,?_⟩ <;> (rw [hc _ _ (by omega),<- hW]; simp [go_sem])
 clear hW
 go_region_held3 (fun W' => Ext w W' /\ W'.cell? ⟨w.heap.size, 0, none⟩ = some (.bool neg) /\ W'.cell? ⟨w.heap.size, 1, none⟩ = some (.slice A ds.length c) /\ W'.cell? ⟨w.heap.size + 1, 0, none⟩ = some (.bool neg') /\ W'.cell? ⟨w.heap.size + 1, 1, none⟩ = some (.slice A' ds'.length c'))
  (first | exact HS.out _ ((Ext.refl W).drew) | exact HS.out _ (by assumption))
  (first
    | (go_at_call_of 113 (Value.agg #[.bool neg,.slice A ds.length c])
       have hxx:=(‹Ext w _/\_›).1;refine (zam _ a L _ ⟨neg,_,ds,rfl,⟨A,c,rfl,h1,h2,H3.out.ext hxx⟩,HZ.out,hl⟩).mono ?_;rintro e w2 ⟨rfl,x2⟩
       have y2:Ext W w2:=Ext.trans ((Ext.refl W).drew) x2)
    | (go_at_call_of 113 (Value.agg #[.bool neg',.slice A' ds'.length c'])
       have hxx:=(‹Ext w _/\_›).1;refine (zam _ b M _ ⟨neg',_,ds',rfl,⟨A',c',rfl,h1',h2',H3'.out.ext hxx⟩,HZ'.out,hl'⟩).mono ?_;rintro e w3 ⟨rfl,x3⟩
       have y3:Ext W w3:=Ext.trans y2 x3))
 obtain ⟨e0,b0,b1,b2,b3⟩:=HS.out w3 y3;have E0:=Lib.hid e0;have bA:=zan a 0;have bB:=zan b 0;have HSA:Hid (sgI a=xh a 0):=rfl;have HSB:Hid (sgI b=xh b 0):=rfl
 change -1<=sgI a/\sgI a<=1 at bA
 change -1<=sgI b/\sgI b<=1 at bB
 obtain ⟨bA0,bA1⟩:=bA;obtain ⟨bB0,bB1⟩:=bB;clear e0 y2 y3 x2 x3 HS;generalize sgI a=sa at *;generalize sgI b=sb at *;rcases Int.lt_trichotomy sa sb with hlt | heq | hgt
 · go_wp2_with fail;go_ret;exact ⟨wao (uaf (gbk (by rw [<- HSA.out,<- HSB.out]; exact hlt))).symm,E0.out⟩
 · subst heq
   by_cases hneg:sa < 0
   · go_wp2_with fail;refine (kap _ _ ds' ds _ ⟨A',c',rfl,h1',h2',H3'.out.ext E0.out⟩ ⟨A,c,rfl,h1,h2,H3.out.ext E0.out⟩).mono ?_;rintro e w4 ⟨rfl,n4,hw4⟩;have y4:Ext w w4:=by rw [hw4]; exact E0.out.drewN n4
     have Y4:=Lib.hid y4;have hcm:xh (val ds') (val ds)=xh a b:=by
      have ha:a < 0:=by have:=HSA.out; unfold xh at this; split at this <;> (try split at this) <;> omega
      have hb:b < 0:=by have:=HSB.out; unfold xh at this; split at this <;> (try split at this) <;> omega
      have z1:=HZ.out;have z2:=HZ'.out;cases neg <;> cases neg' <;> simp [sgn] at z1 z2 <;> first | omega | (rw [z1,z2]; unfold xh; split <;> (try split) <;> (try split) <;> (try split) <;> omega)
     have HCM:=Lib.hid hcm;clear hw4 y4 hcm;go_wp2_with fail;go_ret;exact ⟨wao HCM.out,Y4.out⟩
   · go_wp2_with fail;refine (kap _ _ ds ds' _ ⟨A,c,rfl,h1,h2,H3.out.ext E0.out⟩ ⟨A',c',rfl,h1',h2',H3'.out.ext E0.out⟩).mono ?_;rintro e w4 ⟨rfl,n4,hw4⟩;have y4:Ext w w4:=by rw [hw4]; exact E0.out.drewN n4
     have Y4:=Lib.hid y4;have hcm:xh (val ds) (val ds')=xh a b:=by
      have ha:0<=a:=by have:=HSA.out; unfold xh at this; split at this <;> (try split at this) <;> omega
      have hb:0<=b:=by have:=HSB.out; unfold xh at this; split at this <;> (try split at this) <;> omega
      have z1:=HZ.out;have z2:=HZ'.out;have e1:a=val ds:=by cases neg <;> simp [sgn] at z1 <;> omega
      have e2:b=val ds':=by cases neg' <;> simp [sgn] at z2 <;> omega
      rw [e1,e2]
     have HCM:=Lib.hid hcm;clear hw4 y4 hcm;go_wp2_with fail;go_ret;exact ⟨wao HCM.out,Y4.out⟩
 · go_wp2_with fail;go_ret;exact ⟨wao (wam (gbk (by rw [<- HSA.out,<- HSB.out]; exact hgt))).symm,E0.out⟩
theorem yh.unpack {w:World} {x:Value} {z:Int} {L:Nat} (h:yh w x z L):∃ b A n c,x=.agg #[.bool b,.slice A n c]:=by
 obtain ⟨neg,v,ds,rfl,⟨A,c,rfl,-⟩,-⟩:=h;exact ⟨neg,A,_,c,rfl⟩
theorem uab.unpack {w:World} {x:Value} {z:Int} (h:uab w x z):∃ b A n c,x=.agg #[.bool b,.slice A n c]:=h.raw.unpack
end Go.Proofs.YtcfcjabgkfehlaaGreat
