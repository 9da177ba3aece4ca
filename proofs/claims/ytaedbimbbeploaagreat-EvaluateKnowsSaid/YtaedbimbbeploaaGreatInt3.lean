/- Layer 2 (integer): sums, differences, comparison. -/
import Derived.Test.YtaedbimbbeploaaGreatMz14
set_option linter.unusedSimpArgs false
set_option linter.unusedVariables false

set_option maxRecDepth 100000
set_option maxHeartbeats 8000000
namespace Go.Proofs.YtaedbimbbeploaaGreat
open Go.RowKit
theorem qbg {a b:Int} (h:qg a 0 < qg b 0):a < b:=by
 rcases Int.lt_trichotomy a 0 with ha | ha | ha
 · rcases Int.lt_trichotomy b 0 with hb | hb | hb
   · rw [jae ha,jae hb] at h; omega
   · omega
   · omega
 · rcases Int.lt_trichotomy b 0 with hb | hb | hb
   · rw [zx ha,jae hb] at h; omega
   · rw [zx ha,zx hb] at h; omega
   · omega
 · have:=(vak b 0).2;rw [kak ha] at h; omega
theorem wa7 (x y:Value) (a b:Int) (L M:Nat) (w:World) (h:yg w x a L) (k:yg w y b M) (hs:L+M<=35184372088000) :
 Calls Tryz.prog 85 #[x,y] w (uaf (a+b) w):=by
 obtain ⟨neg,v,ds,rfl,⟨A,c,rfl,h1,h2,h3⟩,hz,hl⟩:=h;obtain ⟨neg',v',ds',rfl,⟨A',c',rfl,h1',h2',h3'⟩,hz',hl'⟩:=k;have H3:=Lib.hid h3;have H3':=Lib.hid h3';clear h3 h3'
 by_cases hn:neg=neg'
 · subst hn;have hab:a+b=sgn neg (val ds+val ds'):=by rw [hz,hz']; cases neg <;> simp [sgn] <;> omega
   rw [hab];clear hz hz' hab;have hnb:(neg == neg)=true:=by simp
   go_enter Tryz.func85,Tryz.ntmps85;go_wp2_with fail;generalize hW:((w.alloc (Obj.cells #[.bool neg,.slice A ds.length c] 26)).alloc (Obj.cells #[.bool neg,.slice A' ds'.length c'] 26)).alloc (Obj.cells #[.bool false,.slice none 0 0] 26)=W;have HX0:Hid (Ext w W):=by
    have:Ext w W:=by rw [<- hW]; exact (((Ext.refl w).alloc _).alloc _).alloc _
    exact this
   have HWS:Hid (W.heap.size=w.heap.size+1+1+1):=by
    have:W.heap.size=w.heap.size+1+1+1:=by rw [<- hW]; simp
    exact this
   have HS:Hid (∀ W',Ext W W'->(Ext w W'/\W'.cell? ⟨w.heap.size,0,none⟩=some (.bool neg)/\W'.cell? ⟨w.heap.size,1,none⟩=some (.slice A ds.length c)/\W'.cell? ⟨w.heap.size+1,0,none⟩=some (.bool neg)/\W'.cell? ⟨w.heap.size+1,1,none⟩=some (.slice A' ds'.length c'))):=by
    intro W' hx;obtain ⟨hc,hf⟩:=hx.cells;have hsz:=HWS.out;refine ⟨HX0.out.trans hx,?_,?_,?_,?_⟩ <;> (rw [hc _ _ (by omega),<- hW]; simp [go_sem])
   have HR:Hid (∀ W',Ext W W'->(W'.cell? ⟨w.heap.size+1+1,0,none⟩=some (.bool false)/\W'.cell? ⟨w.heap.size+1+1,1,none⟩=some (.slice none 0 0)/\W'.frozen? ⟨w.heap.size+1+1,0,none⟩=false/\W'.frozen? ⟨w.heap.size+1+1,1,none⟩=false)):=by
    intro W' hx;obtain ⟨hc,hf⟩:=hx.cells;have hsz:=HWS.out;refine ⟨?_,?_,?_,?_⟩ <;> first | (rw [hc _ _ (by omega),<- hW]; simp [go_sem]; done) | (rw [hf _ _ (by omega),<- hW]; simp [go_sem]; done)
   have HS2:Hid (∀ W'' v0 v1,Ext W W''->∀ W',W'=(W''.setCell ⟨w.heap.size+1+1,0,none⟩ v0).setCell ⟨w.heap.size+1+1,1,none⟩ v1->(Ext w W'/\W'.cell? ⟨w.heap.size,0,none⟩=some (.bool neg)/\W'.cell? ⟨w.heap.size,1,none⟩=some (.slice A ds.length c)/\W'.cell? ⟨w.heap.size+1,0,none⟩=some (.bool neg)/\W'.cell? ⟨w.heap.size+1,1,none⟩=some (.slice A' ds'.length c'))):=by
    intro W'' v0 v1 hx W' hW';obtain ⟨s1,c0,c1,c2,c3⟩:=HS.out W'' hx;rw [hW'];refine ⟨(s1.setCell (by simp; try omega) _).setCell (by simp; try omega) _,?_,?_,?_,?_⟩ <;> rw [World.cell?_setCell_other _ _ _ _ (by simp; try omega),World.cell?_setCell_other _ _ _ _ (by simp; try omega)] <;> assumption
   clear hW
   go_region_held3 (fun W' => Ext w W' /\ W'.cell? ⟨w.heap.size, 0, none⟩ = some (.bool neg) /\ W'.cell? ⟨w.heap.size, 1, none⟩ = some (.slice A ds.length c) /\ W'.cell? ⟨w.heap.size + 1, 0, none⟩ = some (.bool neg) /\ W'.cell? ⟨w.heap.size + 1, 1, none⟩ = some (.slice A' ds'.length c'))
    (first | exact HS.out _ ((Ext.refl W).drew) | exact HS.out _ (by assumption) | exact HS2.out _ _ _ (by assumption) _ rfl)
    (first
      | (go_at_call 108
         have hxx:=(‹Ext w _/\_›).1;refine (xay _ _ ds ds' _ ⟨A,c,rfl,h1,h2,H3.out.ext hxx⟩ ⟨A',c',rfl,h1',h2',H3'.out.ext hxx⟩ (by omega)).mono ?_;rintro e w2 ⟨v2,rfl,nv2,x2⟩
         have y2:Ext W w2:=Ext.trans ((Ext.refl W).drew) x2)
      | (go_at_call 64
         refine (wak _ _ _ _ nv2).mono ?_;rintro e w3 ⟨v3,rfl,⟨v4,rfl,A2,c2,rfl,q1,q2,q3⟩,x3⟩;have y3:Ext W w3:=Ext.trans y2 x3
         obtain ⟨r0,r1,f0,f1⟩:=HR.out w3 y3))
   have HF:=Lib.hid (qw (g:=w.heap.size+1+1) (z:=sgn neg (val ds+val ds')) (u0:=.bool false) (u1:=.slice none 0 0) (HX0.out.trans y3) (by omega) r0 r1 rfl rfl ⟨_,rfl,A2,c2,rfl,q1,q2,q3⟩);clear HS HS2 HR y3 y2 x2 x3 q3 nv2;go_wp2_with fail;exact bodyPost_ret (v:=.agg #[.bool (decide (sgn neg (val ds+val ds') < 0)),.slice A2 (dg (sgn neg (val ds+val ds')).natAbs).length c2]) (by simp [results,Tryz.results85,go_sem,r0,r1]) rfl HF.out
 · have hnb:(neg == neg')=false:=by simp [hn]
   go_enter Tryz.func85,Tryz.ntmps85;go_wp2_with fail;generalize hW:((w.alloc (Obj.cells #[.bool neg,.slice A ds.length c] 26)).alloc (Obj.cells #[.bool neg',.slice A' ds'.length c'] 26)).alloc (Obj.cells #[.bool false,.slice none 0 0] 26)=W;have HX0:Hid (Ext w W):=by
    have:Ext w W:=by rw [<- hW]; exact (((Ext.refl w).alloc _).alloc _).alloc _
    exact this
   have HWS:Hid (W.heap.size=w.heap.size+1+1+1):=by
    have:W.heap.size=w.heap.size+1+1+1:=by rw [<- hW]; simp
    exact this
   have HS:Hid (∀ W',Ext W W'->(Ext w W'/\W'.cell? ⟨w.heap.size,0,none⟩=some (.bool neg)/\W'.cell? ⟨w.heap.size,1,none⟩=some (.slice A ds.length c)/\W'.cell? ⟨w.heap.size+1,0,none⟩=some (.bool neg')/\W'.cell? ⟨w.heap.size+1,1,none⟩=some (.slice A' ds'.length c'))):=by
    intro W' hx;obtain ⟨hc,hf⟩:=hx.cells;have hsz:=HWS.out;refine ⟨HX0.out.trans hx,?_,?_,?_,?_⟩ <;> (rw [hc _ _ (by omega),<- hW]; simp [go_sem])
   have HR:Hid (∀ W',Ext W W'->(W'.cell? ⟨w.heap.size+1+1,0,none⟩=some (.bool false)/\W'.cell? ⟨w.heap.size+1+1,1,none⟩=some (.slice none 0 0)/\W'.frozen? ⟨w.heap.size+1+1,0,none⟩=false/\W'.frozen? ⟨w.heap.size+1+1,1,none⟩=false)):=by
    intro W' hx;obtain ⟨hc,hf⟩:=hx.cells;have hsz:=HWS.out;refine ⟨?_,?_,?_,?_⟩ <;> first | (rw [hc _ _ (by omega),<- hW]; simp [go_sem]; done) | (rw [hf _ _ (by omega),<- hW]; simp [go_sem]; done)
   have HS2:Hid (∀ W'' v0 v1,Ext W W''->∀ W',W'=(W''.setCell ⟨w.heap.size+1+1,0,none⟩ v0).setCell ⟨w.heap.size+1+1,1,none⟩ v1->(Ext w W'/\W'.cell? ⟨w.heap.size,0,none⟩=some (.bool neg)/\W'.cell? ⟨w.heap.size,1,none⟩=some (.slice A ds.length c)/\W'.cell? ⟨w.heap.size+1,0,none⟩=some (.bool neg')/\W'.cell? ⟨w.heap.size+1,1,none⟩=some (.slice A' ds'.length c'))):=by
    intro W'' v0 v1 hx W' hW';obtain ⟨s1,c0,c1,c2,c3⟩:=HS.out W'' hx;rw [hW'];refine ⟨(s1.setCell (by simp; try omega) _).setCell (by simp; try omega) _,?_,?_,?_,?_⟩ <;> rw [World.cell?_setCell_other _ _ _ _ (by simp; try omega),World.cell?_setCell_other _ _ _ _ (by simp; try omega)] <;> assumption
   clear hW;obtain ⟨e0,b0,b1,b2,b3⟩:=HS.out W (Ext.refl W);refine (wam _ _ ds ds' _ ⟨A,c,rfl,h1,h2,H3.out.ext e0⟩ ⟨A',c',rfl,h1',h2',H3'.out.ext e0⟩).mono ?_;rintro e w1 ⟨rfl,n1,hw1⟩;have y1:Ext W w1:=by rw [hw1]; exact (Ext.refl W).drewN n1
   clear hw1 e0 b0 b1 b2 b3;obtain ⟨e0,b0,b1,b2,b3⟩:=HS.out w1 y1;have E0:=Lib.hid e0;have Y1:=Lib.hid y1;clear e0 y1;have HN:=Lib.hid hn;have HZ:=Lib.hid hz;have HZ':=Lib.hid hz';clear hn hz hz'
   by_cases hge:val ds'<=val ds
   · have hcm:0<=qg (val ds) (val ds'):=by unfold qg; split <;> (try split) <;> omega
     have hcm2:=(vak (val ds) (val ds')).2;generalize qg (val ds) (val ds')=cm at *;go_wp2_with fail;refine (ka6 _ _ ds ds' _ ⟨A,c,rfl,h1,h2,H3.out.ext E0.out⟩ ⟨A',c',rfl,h1',h2',H3'.out.ext E0.out⟩ (by omega) hge).mono ?_;rintro e w2 ⟨v2,rfl,nv2,-,x2⟩;have y2:=Y1.out.trans x2;obtain ⟨e0',b0',b1',b2',b3'⟩:=HS.out w2 y2;have NV2:=Lib.hid nv2;have Y2:=Lib.hid y2;clear nv2 y2 x2 e0' b0 b1 b2 b3;go_wp2_with fail;refine (wak _ _ _ _ NV2.out).mono ?_;rintro e w3 ⟨v3,rfl,⟨v4,rfl,A2,c2,rfl,q1,q2,q3⟩,x3⟩;have y3:Ext W w3:=Ext.trans Y2.out x3;obtain ⟨r0,r1,f0,f1⟩:=HR.out w3 y3;have HF:=Lib.hid (qw (g:=w.heap.size+1+1) (z:=sgn neg (val ds - val ds')) (u0:=.bool false) (u1:=.slice none 0 0) (HX0.out.trans y3) (by omega) r0 r1 rfl rfl ⟨_,rfl,A2,c2,rfl,q1,q2,q3⟩);have hab:a+b=sgn neg (val ds - val ds'):=by
      have:=HN.out;rw [HZ.out,HZ'.out]; cases neg <;> cases neg' <;> simp_all [sgn] <;> omega
     have HAB:=Lib.hid hab;clear y3 q3 x3 hab;go_wp2_with fail;refine bodyPost_ret (v:=.agg #[.bool (decide (sgn neg (val ds - val ds') < 0)),.slice A2 (dg (sgn neg (val ds - val ds')).natAbs).length c2]) (by simp [results,Tryz.results85,go_sem,r0,r1]) rfl ?_;rw [HAB.out];exact HF.out
   · have hcm:qg (val ds) (val ds') < 0:=by rw [jae (by omega)]; omega
     have hcm2:=(vak (val ds) (val ds')).1;generalize qg (val ds) (val ds')=cm at *;go_wp2_with fail;refine (ka6 _ _ ds' ds _ ⟨A',c',rfl,h1',h2',H3'.out.ext E0.out⟩ ⟨A,c,rfl,h1,h2,H3.out.ext E0.out⟩ (by omega) (by omega)).mono ?_;rintro e w2 ⟨v2,rfl,nv2,-,x2⟩;have y2:=Y1.out.trans x2;obtain ⟨e0',b0',b1',b2',b3'⟩:=HS.out w2 y2;have NV2:=Lib.hid nv2;have Y2:=Lib.hid y2;clear nv2 y2 x2 e0' b0 b1 b2 b3;go_wp2_with fail;refine (wak _ _ _ _ NV2.out).mono ?_;rintro e w3 ⟨v3,rfl,⟨v4,rfl,A2,c2,rfl,q1,q2,q3⟩,x3⟩;have y3:Ext W w3:=Ext.trans Y2.out x3;obtain ⟨r0,r1,f0,f1⟩:=HR.out w3 y3;have HF:=Lib.hid (qw (g:=w.heap.size+1+1) (z:=sgn neg' (val ds' - val ds)) (u0:=.bool false) (u1:=.slice none 0 0) (HX0.out.trans y3) (by omega) r0 r1 rfl rfl ⟨_,rfl,A2,c2,rfl,q1,q2,q3⟩);have hab:a+b=sgn neg' (val ds' - val ds):=by
      have:=HN.out;rw [HZ.out,HZ'.out]; cases neg <;> cases neg' <;> simp_all [sgn] <;> omega
     have HAB:=Lib.hid hab;clear y3 q3 x3 hab;go_wp2_with fail;refine bodyPost_ret (v:=.agg #[.bool (decide (sgn neg' (val ds' - val ds) < 0)),.slice A2 (dg (sgn neg' (val ds' - val ds)).natAbs).length c2]) (by simp [results,Tryz.results85,go_sem,r0,r1]) rfl ?_;rw [HAB.out];exact HF.out
theorem uce (x y:Value) (a b:Int) (L M:Nat) (w:World) (h:yg w x a L) (k:yg w y b M) (hs:L+M<=35184372088000) :
 Calls Tryz.prog 130 #[x,y] w (uaf (a - b) w):=by
 obtain ⟨neg,v,ds,rfl,⟨A,c,rfl,h1,h2,h3⟩,hz,hl⟩:=h;obtain ⟨neg',v',ds',rfl,⟨A',c',rfl,h1',h2',h3'⟩,hz',hl'⟩:=k;have H3:=Lib.hid h3;have H3':=Lib.hid h3';have HZ:=Lib.hid hz;have HZ':=Lib.hid hz';clear h3 h3' hz hz';go_enter Tryz.func130,Tryz.ntmps130;go_wp2_with fail;generalize hW:((w.alloc (Obj.cells #[.bool neg,.slice A ds.length c] 26)).alloc (Obj.cells #[.bool neg',.slice A' ds'.length c'] 26)).alloc (Obj.cells #[.bool false,.slice none 0 0] 26)=W;have HX0:Hid (Ext w W):=by
  have:Ext w W:=by rw [<- hW]; exact (((Ext.refl w).alloc _).alloc _).alloc _
  exact this
 have HWS:Hid (W.heap.size=w.heap.size+1+1+1):=by
  have:W.heap.size=w.heap.size+1+1+1:=by rw [<- hW]; simp
  exact this
 have HS:Hid (∀ W',Ext W W'->(Ext w W'/\W'.cell? ⟨w.heap.size,0,none⟩=some (.bool neg)/\W'.cell? ⟨w.heap.size,1,none⟩=some (.slice A ds.length c)/\W'.cell? ⟨w.heap.size+1,0,none⟩=some (.bool neg')/\W'.cell? ⟨w.heap.size+1,1,none⟩=some (.slice A' ds'.length c'))):=by
  intro W' hx;obtain ⟨hc,hf⟩:=hx.cells;have hsz:=HWS.out;refine ⟨HX0.out.trans hx,?_,?_,?_,?_⟩ <;> (rw [hc _ _ (by omega),<- hW]; simp [go_sem])
 have HR:Hid (∀ W',Ext W W'->(W'.cell? ⟨w.heap.size+1+1,0,none⟩=some (.bool false)/\W'.cell? ⟨w.heap.size+1+1,1,none⟩=some (.slice none 0 0)/\W'.frozen? ⟨w.heap.size+1+1,0,none⟩=false/\W'.frozen? ⟨w.heap.size+1+1,1,none⟩=false)):=by
  intro W' hx;obtain ⟨hc,hf⟩:=hx.cells;have hsz:=HWS.out;refine ⟨?_,?_,?_,?_⟩ <;> first | (rw [hc _ _ (by omega),<- hW]; simp [go_sem]; done) | (rw [hf _ _ (by omega),<- hW]; simp [go_sem]; done)
 clear hW;obtain ⟨e0,b0,b1,b2,b3⟩:=HS.out W (Ext.refl W);refine (wa7 _ _ a (-b) L M _ ⟨neg,_,ds,rfl,⟨A,c,rfl,h1,h2,H3.out.ext e0⟩,HZ.out,hl⟩ ⟨!neg',_,ds',rfl,⟨A',c',rfl,h1',h2',H3'.out.ext e0⟩,by rw [HZ'.out]; cases neg' <;> simp [sgn],hl'⟩ hs).mono ?_;rw [<- Int.sub_eq_add_neg];rintro e w3 ⟨v3,rfl,⟨v4,rfl,A2,c2,rfl,q1,q2,q3⟩,y3⟩;obtain ⟨r0,r1,f0,f1⟩:=HR.out w3 y3;have HF:=Lib.hid (qw (g:=w.heap.size+1+1) (z:=a - b) (u0:=.bool false) (u1:=.slice none 0 0) (HX0.out.trans y3) (by omega) r0 r1 rfl rfl ⟨_,rfl,A2,c2,rfl,q1,q2,q3⟩);clear y3 q3 e0 b0 b1 b2 b3;go_wp2_with fail;exact bodyPost_ret (v:=.agg #[.bool (decide (a - b < 0)),.slice A2 (dg (a - b).natAbs).length c2]) (by simp [results,Tryz.results130,go_sem,r0,r1]) rfl HF.out
theorem ubo (x y:Value) (a b:Int) (L M:Nat) (w:World) (h:yg w x a L) (k:yg w y b M) :
 Calls Tryz.prog 104 #[x,y] w fun e w'=>e=.returned (.int .i64 (qg a b))/\Ext w w':=by
 obtain ⟨neg,v,ds,rfl,⟨A,c,rfl,h1,h2,h3⟩,hz,hl⟩:=h;obtain ⟨neg',v',ds',rfl,⟨A',c',rfl,h1',h2',h3'⟩,hz',hl'⟩:=k;have H3:=Lib.hid h3;have H3':=Lib.hid h3';have HZ:=Lib.hid hz;have HZ':=Lib.hid hz';clear h3 h3' hz hz';go_enter Tryz.func104,Tryz.ntmps104;go_wp2_with fail;generalize hW:(w.alloc (Obj.cells #[.bool neg,.slice A ds.length c] 26)).alloc (Obj.cells #[.bool neg',.slice A' ds'.length c'] 26)=W;have HX0:Hid (Ext w W):=by
  have:Ext w W:=by rw [<- hW]; exact ((Ext.refl w).alloc _).alloc _
  exact this
 have HWS:Hid (W.heap.size=w.heap.size+1+1):=by
  have:W.heap.size=w.heap.size+1+1:=by rw [<- hW]; simp
  exact this
 have HS:Hid (∀ W',Ext W W'->(Ext w W'/\W'.cell? ⟨w.heap.size,0,none⟩=some (.bool neg)/\W'.cell? ⟨w.heap.size,1,none⟩=some (.slice A ds.length c)/\W'.cell? ⟨w.heap.size+1,0,none⟩=some (.bool neg')/\W'.cell? ⟨w.heap.size+1,1,none⟩=some (.slice A' ds'.length c'))):=by
  intro W' hx;obtain ⟨hc,hf⟩:=hx.cells;have hsz:=HWS.out;refine ⟨HX0.out.trans hx,?_,?_,?_,?_⟩ <;> (rw [hc _ _ (by omega),<- hW]; simp [go_sem])
 clear hW
 go_region_held3 (fun W' => Ext w W' /\ W'.cell? ⟨w.heap.size, 0, none⟩ = some (.bool neg) /\ W'.cell? ⟨w.heap.size, 1, none⟩ = some (.slice A ds.length c) /\ W'.cell? ⟨w.heap.size + 1, 0, none⟩ = some (.bool neg') /\ W'.cell? ⟨w.heap.size + 1, 1, none⟩ = some (.slice A' ds'.length c'))
  (first | exact HS.out _ ((Ext.refl W).drew) | exact HS.out _ (by assumption))
  (first
    | (go_at_call_of 43 (Value.agg #[.bool neg,.slice A ds.length c])
       have hxx:=(‹Ext w _/\_›).1;refine (wag _ a L _ ⟨neg,_,ds,rfl,⟨A,c,rfl,h1,h2,H3.out.ext hxx⟩,HZ.out,hl⟩).mono ?_;rintro e w2 ⟨rfl,x2⟩
       have y2:Ext W w2:=Ext.trans ((Ext.refl W).drew) x2)
    | (go_at_call_of 43 (Value.agg #[.bool neg',.slice A' ds'.length c'])
       have hxx:=(‹Ext w _/\_›).1;refine (wag _ b M _ ⟨neg',_,ds',rfl,⟨A',c',rfl,h1',h2',H3'.out.ext hxx⟩,HZ'.out,hl'⟩).mono ?_;rintro e w3 ⟨rfl,x3⟩
       have y3:Ext W w3:=Ext.trans y2 x3))
 obtain ⟨e0,b0,b1,b2,b3⟩:=HS.out w3 y3;have E0:=Lib.hid e0;have bA:=vak a 0;have bB:=vak b 0;have HSA:Hid (sgI a=qg a 0):=rfl;have HSB:Hid (sgI b=qg b 0):=rfl
 change -1<=sgI a/\sgI a<=1 at bA
 change -1<=sgI b/\sgI b<=1 at bB
 obtain ⟨bA0,bA1⟩:=bA;obtain ⟨bB0,bB1⟩:=bB;clear e0 y2 y3 x2 x3 HS;generalize sgI a=sa at *;generalize sgI b=sb at *;rcases Int.lt_trichotomy sa sb with hlt | heq | hgt
 · go_wp2_with fail;go_ret;exact ⟨kam (jae (qbg (by rw [<- HSA.out,<- HSB.out]; exact hlt))).symm,E0.out⟩
 · subst heq
   by_cases hneg:sa < 0
   · go_wp2_with fail;refine (wam _ _ ds' ds _ ⟨A',c',rfl,h1',h2',H3'.out.ext E0.out⟩ ⟨A,c,rfl,h1,h2,H3.out.ext E0.out⟩).mono ?_;rintro e w4 ⟨rfl,n4,hw4⟩;have y4:Ext w w4:=by rw [hw4]; exact E0.out.drewN n4
     have Y4:=Lib.hid y4;have hcm:qg (val ds') (val ds)=qg a b:=by
      have ha:a < 0:=by have:=HSA.out; unfold qg at this; split at this <;> (try split at this) <;> omega
      have hb:b < 0:=by have:=HSB.out; unfold qg at this; split at this <;> (try split at this) <;> omega
      have z1:=HZ.out;have z2:=HZ'.out;cases neg <;> cases neg' <;> simp [sgn] at z1 z2 <;> first | omega | (rw [z1,z2]; unfold qg; split <;> (try split) <;> (try split) <;> (try split) <;> omega)
     have HCM:=Lib.hid hcm;clear hw4 y4 hcm;go_wp2_with fail;go_ret;exact ⟨kam HCM.out,Y4.out⟩
   · go_wp2_with fail;refine (wam _ _ ds ds' _ ⟨A,c,rfl,h1,h2,H3.out.ext E0.out⟩ ⟨A',c',rfl,h1',h2',H3'.out.ext E0.out⟩).mono ?_;rintro e w4 ⟨rfl,n4,hw4⟩;have y4:Ext w w4:=by rw [hw4]; exact E0.out.drewN n4
     have Y4:=Lib.hid y4;have hcm:qg (val ds) (val ds')=qg a b:=by
      have ha:0<=a:=by have:=HSA.out; unfold qg at this; split at this <;> (try split at this) <;> omega
      have hb:0<=b:=by have:=HSB.out; unfold qg at this; split at this <;> (try split at this) <;> omega
      have z1:=HZ.out;have z2:=HZ'.out;have e1:a=val ds:=by cases neg <;> simp [sgn] at z1 <;> omega
      have e2:b=val ds':=by cases neg' <;> simp [sgn] at z2 <;> omega
      rw [e1,e2]
     have HCM:=Lib.hid hcm;clear hw4 y4 hcm;go_wp2_with fail;go_ret;exact ⟨kam HCM.out,Y4.out⟩
 · go_wp2_with fail;go_ret;exact ⟨kam (kak (qbg (by rw [<- HSA.out,<- HSB.out]; exact hgt))).symm,E0.out⟩
theorem yg.unpack {w:World} {x:Value} {z:Int} {L:Nat} (h:yg w x z L):∃ b A n c,x=.agg #[.bool b,.slice A n c]:=by
 obtain ⟨neg,v,ds,rfl,⟨A,c,rfl,-⟩,-⟩:=h;exact ⟨neg,A,_,c,rfl⟩
theorem xaa.unpack {w:World} {x:Value} {z:Int} (h:xaa w x z):∃ b A n c,x=.agg #[.bool b,.slice A n c]:=h.raw.unpack
end Go.Proofs.YtaedbimbbeploaaGreat
