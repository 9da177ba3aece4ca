/- Layer 2 (integer): sums, differences, comparison. -/
import Derived.Test.YtaedbimbbeploaaGreatDoorMb4
set_option linter.unusedSimpArgs false
set_option linter.unusedVariables false
set_option maxRecDepth 100000
set_option maxHeartbeats 8000000
namespace Go.Proofs.YtaedbimbbeploaaGreatDoor
open Go.RowKit
theorem wbo {a b:Int} (h:vg a 0 < vg b 0):a < b:=by
 rcases Int.lt_trichotomy a 0 with ha | ha | ha
 · rcases Int.lt_trichotomy b 0 with hb | hb | hb
   · rw [xai ha,xai hb] at h; omega
   · omega
   · omega
 · rcases Int.lt_trichotomy b 0 with hb | hb | hb
   · rw [uaa ha,xai hb] at h; omega
   · rw [uaa ha,uaa hb] at h; omega
   · omega
 · have:=(xas b 0).2;rw [yas ha] at h; omega
theorem qby (x y:Value) (a b:Int) (L M:Nat) (w:World) (h:xq w x a L) (k:xq w y b M) (hs:L+M<=35184372088000) :
 Calls Tryz.prog 160 #[x,y] w (zal (a+b) w):=by
 obtain ⟨neg,v,ds,rfl,⟨A,c,rfl,h1,h2,h3⟩,hz,hl⟩:=h;obtain ⟨neg',v',ds',rfl,⟨A',c',rfl,h1',h2',h3'⟩,hz',hl'⟩:=k;have H3:=Lib.hid h3;have H3':=Lib.hid h3';clear h3 h3'
 by_cases hn:neg=neg'
 · subst hn;have hab:a+b=sgn neg (val ds+val ds'):=by rw [hz,hz']; cases neg <;> simp [sgn] <;> omega
   rw [hab];clear hz hz' hab;have hnb:(neg == neg)=true:=by simp
   go_enter Tryz.func160,Tryz.ntmps160;go_wp2_with fail;generalize hW:((w.alloc (Obj.cells #[.bool neg,.slice A ds.length c] 25)).alloc (Obj.cells #[.bool neg,.slice A' ds'.length c'] 25)).alloc (Obj.cells #[.bool false,.slice none 0 0] 25)=W;have HX0:Hid (Ext w W):=by
    have:Ext w W:=by rw [<- hW]; exact (((Ext.refl w).alloc _).alloc _).alloc _
    exact this
   have HWS:Hid (W.heap.size=w.heap.size+1+1+1):=by
    have:W.heap.size=w.heap.size+1+1+1:=by rw [<- hW]; simp
    exact this
   have HS:Hid (∀ W',Ext W W'->(Ext w W'/\W'.cell? ⟨w.heap.size,0,none⟩=some (.bool neg)/\W'.cell? ⟨w.heap.size,1,none⟩=some (.slice A ds.length c)/\W'.cell? ⟨w.heap.size+1,0,none⟩=some (.bool neg)/\W'.cell? ⟨w.heap.size+1,1,none⟩=some (.slice A' ds'.length c'))):=by
    intro W' hx;obtain ⟨hc,hf⟩:=hx.cells;have hsz:=HWS.out;refine ⟨HX0.out.trans hx,?_,?_,?_,?_⟩ <;> (rw [hc _ _ (by omega),<- hW]; simp [go_sem])
   have HR:Hid (∀ W',Ext W W'->(W'.cell? ⟨w.heap.size+1+1,0,none⟩=some (.bool false)/\W'.cell? ⟨w.heap.size+1+1,1,none⟩=some (.slice none 0 0)/\W'.frozen? ⟨w.heap.size+1+1,0,none⟩=false/\W'.frozen? ⟨w.heap.size+1+1,1,none⟩=false)):=by
    intro W' hx;obtain ⟨hc,hf⟩:=hx.cells;have hsz:=HWS.out;refine ⟨?_,?_,?_,?_⟩ <;> first | (rw [hc _ _ (by omega),<- hW]; simp [go_sem]; done) | (rw [hf _ _ (by omega),<- hW]; simp [go_sem]; done)
   have HS2:Hid (∀ W'' v0 v1,Ext W W''->∀ W',W'=(W''.setCell ⟨w.heap.size+1+1,0,none⟩ v0).setCell ⟨w.heap.size+1+1,1,none⟩ v1->(Ext w W'/\W'.cell? ⟨w.heap.size,0,none⟩=some (.bool neg)/\W'.cell? ⟨w.heap.size,1,none⟩=some (.slice A ds.length c)/\W'.cell? ⟨w.heap.size+1,0,none⟩=some (.bool neg)/\W'.cell? ⟨w.heap.size+1,1,none⟩=some (.slice A' ds'.length c'))):=by
    intro W'' v0 v1 hx W' hW';obtain ⟨s1,c0,c1,c2,c3⟩:=HS.out W'' hx;rw [hW'];refine ⟨(s1.setCell (by simp; try omega) _).setCell (by simp; try omega) _,?_,?_,?_,?_⟩ <;> rw [World.cell?_setCell_other _ _ _ _ (by simp; try omega),World.cell?_setCell_other _ _ _ _ (by simp; try omega)] <;> assumption
   clear hW
   go_region_held3 (fun W' => Ext w W' /\ W'.cell? ⟨w.heap.size, 0, none⟩ = some (.bool neg) /\ W'.cell? ⟨w.heap.size, 1, none⟩ = some (.slice A ds.length c) /\ W'.cell? ⟨w.heap.size + 1, 0, none⟩ = some (.bool neg) /\ W'.cell? ⟨w.heap.size + 1, 1, none⟩ = some (.slice A' ds'.length c'))
    (first | exact HS.out _ ((Ext.refl W).drew) | exact HS.out _ (by assumption) | exact HS2.out _ _ _ (by assumption) _ rfl)
    (first
      | (go_at_call 190
         have hxx:=(‹Ext w _/\_›).1;refine (qa3 _ _ ds ds' _ ⟨A,c,rfl,h1,h2,H3.out.ext hxx⟩ ⟨A',c',rfl,h1',h2',H3'.out.ext hxx⟩ (by omega)).mono ?_;rintro e w2 ⟨v2,rfl,nv2,x2⟩
         have y2:Ext W w2:=Ext.trans ((Ext.refl W).drew) x2)
      | (go_at_call 165
         refine (wam _ _ _ _ nv2).mono ?_;rintro e w3 ⟨v3,rfl,⟨v4,rfl,A2,c2,rfl,q1,q2,q3⟩,x3⟩;have y3:Ext W w3:=Ext.trans y2 x3
         obtain ⟨r0,r1,f0,f1⟩:=HR.out w3 y3))
   have HF:=Lib.hid (vae (g:=w.heap.size+1+1) (z:=sgn neg (val ds+val ds')) (u0:=.bool false) (u1:=.slice none 0 0) (HX0.out.trans y3) (by omega) r0 r1 rfl rfl ⟨_,rfl,A2,c2,rfl,q1,q2,q3⟩);clear HS HS2 HR y3 y2 x2 x3 q3 nv2;go_wp2_with fail;exact bodyPost_ret (v:=.agg #[.bool (decide (sgn neg (val ds+val ds') < 0)),.slice A2 (dg (sgn neg (val ds+val ds')).natAbs).length c2]) (by simp [results,Tryz.results160,go_sem,r0,r1]) rfl HF.out
 · have hnb:(neg == neg')=false:=by simp [hn]
   go_enter Tryz.func160,Tryz.ntmps160;go_wp2_with fail;generalize hW:((w.alloc (Obj.cells #[.bool neg,.slice A ds.length c] 25)).alloc (Obj.cells #[.bool neg',.slice A' ds'.length c'] 25)).alloc (Obj.cells #[.bool false,.slice none 0 0] 25)=W;have HX0:Hid (Ext w W):=by
    have:Ext w W:=by rw [<- hW]; exact (((Ext.refl w).alloc _).alloc _).alloc _
    exact this
   have HWS:Hid (W.heap.size=w.heap.size+1+1+1):=by
    have:W.heap.size=w.heap.size+1+1+1:=by rw [<- hW]; simp
    exact this
   have HS:Hid (∀ W',Ext W W'->(Ext w W'/\W'.cell? ⟨w.heap.size,0,none⟩=some (.bool neg)/\W'.cell? ⟨w.heap.size,1,none⟩=some (.slice A ds.length c)/\W'.cell? ⟨w.heap.size+1,0,none⟩=some (.bool neg')/\W'.cell? ⟨w.heap.size+1,1,none⟩=some (.slice A' ds'.length c'))):=by
    intro W' hx;obtain ⟨hc,hf⟩:=hx.cells;have hsz:=HWS.out;refine ⟨HX0.out.trans hx,?_,?_,?_,?_⟩ <;> (rw [hc _ _ (by omega),<- hW]; simp [go_sem])
   have HR:Hid (∀ W',Ext W W'->(W'.cell? ⟨w.heap.size+1+1,0,none⟩=some (.bool false)/\W'.cell? ⟨w.heap.size+1+1,1,none⟩=some (.slice none 0 0)/\W'.frozen? ⟨w.heap.size+1+1,0,none⟩=false/\W'.frozen? ⟨w.heap.size+1+1,1,none⟩=false)):=by
    intro W' hx;obtain ⟨hc,hf⟩:=hx.cells;have hsz:=HWS.out;refine ⟨?_,?_,?_,?_⟩ <;> first | (rw [hc _ _ (by omega),<- hW]; simp [go_sem]; done) | (rw [hf _ _ (by omega),<- hW]; simp [go_sem]; done)
   have HS2:Hid (∀ W'' v0 v1,Ext W W''->∀ W',W'=(W''.setCell ⟨w.heap.size+1+1,0,none⟩ v0).setCell ⟨w.heap.size+1+1,1,none⟩ v1->(Ext w W'/\W'.cell? ⟨w.heap.size,0,none⟩=some (.bool neg)/\W'.cell? ⟨w.heap.size,1,none⟩=some (.slice A ds.length c)/\W'.cell? ⟨w.heap.size+1,0,none⟩=some (.bool neg')/\W'.cell? ⟨w.heap.size+1,1,none⟩=some (.slice A' ds'.length c'))):=by
    intro W'' v0 v1 hx W' hW';obtain ⟨s1,c0,c1,c2,c3⟩:=HS.out W'' hx;rw [hW'];refine ⟨(s1.setCell (by simp; try omega) _).setCell (by simp; try omega) _,?_,?_,?_,?_⟩ <;> rw [World.cell?_setCell_other _ _ _ _ (by simp; try omega),World.cell?_setCell_other _ _ _ _ (by simp; try omega)] <;> assumption
   clear hW;obtain ⟨e0,b0,b1,b2,b3⟩:=HS.out W (Ext.refl W);refine (xa3 _ _ ds ds' _ ⟨A,c,rfl,h1,h2,H3.out.ext e0⟩ ⟨A',c',rfl,h1',h2',H3'.out.ext e0⟩).mono ?_;rintro e w1 ⟨rfl,n1,hw1⟩;have y1:Ext W w1:=by rw [hw1]; exact (Ext.refl W).drewN n1
   clear hw1 e0 b0 b1 b2 b3;obtain ⟨e0,b0,b1,b2,b3⟩:=HS.out w1 y1;have E0:=Lib.hid e0;have Y1:=Lib.hid y1;clear e0 y1;have HN:=Lib.hid hn;have HZ:=Lib.hid hz;have HZ':=Lib.hid hz';clear hn hz hz'
   by_cases hge:val ds'<=val ds
   · have hcm:0<=vg (val ds) (val ds'):=by unfold vg; split <;> (try split) <;> omega
     have hcm2:=(xas (val ds) (val ds')).2;generalize vg (val ds) (val ds')=cm at *;go_wp2_with fail;refine (gbb _ _ ds ds' _ ⟨A,c,rfl,h1,h2,H3.out.ext E0.out⟩ ⟨A',c',rfl,h1',h2',H3'.out.ext E0.out⟩ (by omega) hge).mono ?_;rintro e w2 ⟨v2,rfl,nv2,-,x2⟩;have y2:=Y1.out.trans x2;obtain ⟨e0',b0',b1',b2',b3'⟩:=HS.out w2 y2;have NV2:=Lib.hid nv2;have Y2:=Lib.hid y2;clear nv2 y2 x2 e0' b0 b1 b2 b3;go_wp2_with fail;refine (wam _ _ _ _ NV2.out).mono ?_;rintro e w3 ⟨v3,rfl,⟨v4,rfl,A2,c2,rfl,q1,q2,q3⟩,x3⟩;have y3:Ext W w3:=Ext.trans Y2.out x3;obtain ⟨r0,r1,f0,f1⟩:=HR.out w3 y3;have HF:=Lib.hid (vae (g:=w.heap.size+1+1) (z:=sgn neg (val ds - val ds')) (u0:=.bool false) (u1:=.slice none 0 0) (HX0.out.trans y3) (by omega) r0 r1 rfl rfl ⟨_,rfl,A2,c2,rfl,q1,q2,q3⟩);have hab:a+b=sgn neg (val ds - val ds'):=by
      have:=HN.out;rw [HZ.out,HZ'.out]; cases neg <;> cases neg' <;> simp_all [sgn] <;> omega
     have HAB:=Lib.hid hab;clear y3 q3 x3 hab;go_wp2_with fail;refine bodyPost_ret (v:=.agg #[.bool (decide (sgn neg (val ds - val ds') < 0)),.slice A2 (dg (sgn neg (val ds - val ds')).natAbs).length c2]) (by simp [results,Tryz.results160,go_sem,r0,r1]) rfl ?_;rw [HAB.out];exact HF.out
   · have hcm:vg (val ds) (val ds') < 0:=by rw [xai (by omega)]; omega
     have hcm2:=(xas (val ds) (val ds')).1;generalize vg (val ds) (val ds')=cm at *;go_wp2_with fail;refine (gbb _ _ ds' ds _ ⟨A',c',rfl,h1',h2',H3'.out.ext E0.out⟩ ⟨A,c,rfl,h1,h2,H3.out.ext E0.out⟩ (by omega) (by omega)).mono ?_;rintro e w2 ⟨v2,rfl,nv2,-,x2⟩;have y2:=Y1.out.trans x2;obtain ⟨e0',b0',b1',b2',b3'⟩:=HS.out w2 y2;have NV2:=Lib.hid nv2;have Y2:=Lib.hid y2;clear nv2 y2 x2 e0' b0 b1 b2 b3;go_wp2_with fail;refine (wam _ _ _ _ NV2.out).mono ?_;rintro e w3 ⟨v3,rfl,⟨v4,rfl,A2,c2,rfl,q1,q2,q3⟩,x3⟩;have y3:Ext W w3:=Ext.trans Y2.out x3;obtain ⟨r0,r1,f0,f1⟩:=HR.out w3 y3;have HF:=Lib.hid (vae (g:=w.heap.size+1+1) (z:=sgn neg' (val ds' - val ds)) (u0:=.bool false) (u1:=.slice none 0 0) (HX0.out.trans y3) (by omega) r0 r1 rfl rfl ⟨_,rfl,A2,c2,rfl,q1,q2,q3⟩);have hab:a+b=sgn neg' (val ds' - val ds):=by
      have:=HN.out;rw [HZ.out,HZ'.out]; cases neg <;> cases neg' <;> simp_all [sgn] <;> omega
     have HAB:=Lib.hid hab;clear y3 q3 x3 hab;go_wp2_with fail;refine bodyPost_ret (v:=.agg #[.bool (decide (sgn neg' (val ds' - val ds) < 0)),.slice A2 (dg (sgn neg' (val ds' - val ds)).natAbs).length c2]) (by simp [results,Tryz.results160,go_sem,r0,r1]) rfl ?_;rw [HAB.out];exact HF.out
theorem zcv (x y:Value) (a b:Int) (L M:Nat) (w:World) (h:xq w x a L) (k:xq w y b M) :
 Calls Tryz.prog 101 #[x,y] w fun e w'=>e=.returned (.int .i64 (vg a b))/\Ext w w':=by
 obtain ⟨neg,v,ds,rfl,⟨A,c,rfl,h1,h2,h3⟩,hz,hl⟩:=h;obtain ⟨neg',v',ds',rfl,⟨A',c',rfl,h1',h2',h3'⟩,hz',hl'⟩:=k;have H3:=Lib.hid h3;have H3':=Lib.hid h3';have HZ:=Lib.hid hz;have HZ':=Lib.hid hz';clear h3 h3' hz hz';go_enter Tryz.func101,Tryz.ntmps101;go_wp2_with fail;generalize hW:(w.alloc (Obj.cells #[.bool neg,.slice A ds.length c] 25)).alloc (Obj.cells #[.bool neg',.slice A' ds'.length c'] 25)=W;have HX0:Hid (Ext w W):=by
  have:Ext w W:=by rw [<- hW]; exact ((Ext.refl w).alloc _).alloc _
  exact this
 have HWS:Hid (W.heap.size=w.heap.size+1+1):=by
  have:W.heap.size=w.heap.size+1+1:=by rw [<- hW]; simp
  exact this
 have HS:Hid (∀ W',Ext W W'->(Ext w W'/\W'.cell? ⟨w.heap.size,0,none⟩=some (.bool neg)/\W'.cell? ⟨w.heap.size,1,none⟩=some (.slice A ds.length c)/\W'.cell? ⟨w.heap.size+1,0,none⟩=some (.bool neg')/\W'.cell? ⟨w.heap.size+1,1,none⟩=some (.slice A' ds'.length c'))):=by
  intro W' hx;obtain ⟨hc,hf⟩:=hx.cells;have hsz:=HWS.out;refine ⟨HX0.out.trans hx,?_,?_,?_,?_⟩ <;> (rw [hc _ _ (by omega),<- hW]; simp [go_sem])
 clear hW
 go_region_held3 (fun W' => Ext w W' /\ W'.cell? ⟨w.heap.size, 0, none⟩ = some (.bool neg) /\ W'.cell? ⟨w.heap.size, 1, none⟩ = some (.slice A ds.length c) /\ W'.cell? ⟨w.heap.size + 1, 0, none⟩ = some (.bool neg') /\ W'.cell? ⟨w.heap.size + 1, 1, none⟩ = some (.slice A' ds'.length c'))
  (first | exact HS.out _ ((Ext.refl W).drew) | exact HS.out _ (by assumption))
  (first
    | (go_at_call_of 122 (Value.agg #[.bool neg,.slice A ds.length c])
       have hxx:=(‹Ext w _/\_›).1;refine (jax _ a L _ ⟨neg,_,ds,rfl,⟨A,c,rfl,h1,h2,H3.out.ext hxx⟩,HZ.out,hl⟩).mono ?_;rintro e w2 ⟨rfl,x2⟩
       have y2:Ext W w2:=Ext.trans ((Ext.refl W).drew) x2)
    | (go_at_call_of 122 (Value.agg #[.bool neg',.slice A' ds'.length c'])
       have hxx:=(‹Ext w _/\_›).1;refine (jax _ b M _ ⟨neg',_,ds',rfl,⟨A',c',rfl,h1',h2',H3'.out.ext hxx⟩,HZ'.out,hl'⟩).mono ?_;rintro e w3 ⟨rfl,x3⟩
       have y3:Ext W w3:=Ext.trans y2 x3))
 obtain ⟨e0,b0,b1,b2,b3⟩:=HS.out w3 y3;have E0:=Lib.hid e0;have bA:=xas a 0;have bB:=xas b 0;have HSA:Hid (sgI a=vg a 0):=rfl;have HSB:Hid (sgI b=vg b 0):=rfl
 change -1<=sgI a/\sgI a<=1 at bA
 change -1<=sgI b/\sgI b<=1 at bB
 obtain ⟨bA0,bA1⟩:=bA;obtain ⟨bB0,bB1⟩:=bB;clear e0 y2 y3 x2 x3 HS;generalize sgI a=sa at *;generalize sgI b=sb at *;rcases Int.lt_trichotomy sa sb with hlt | heq | hgt
 · go_wp2_with fail;go_ret;exact ⟨kao (xai (wbo (by rw [<- HSA.out,<- HSB.out]; exact hlt))).symm,E0.out⟩
 · subst heq
   by_cases hneg:sa < 0
   · go_wp2_with fail;refine (xa3 _ _ ds' ds _ ⟨A',c',rfl,h1',h2',H3'.out.ext E0.out⟩ ⟨A,c,rfl,h1,h2,H3.out.ext E0.out⟩).mono ?_;rintro e w4 ⟨rfl,n4,hw4⟩;have y4:Ext w w4:=by rw [hw4]; exact E0.out.drewN n4
     have Y4:=Lib.hid y4;have hcm:vg (val ds') (val ds)=vg a b:=by
      have ha:a < 0:=by have:=HSA.out; unfold vg at this; split at this <;> (try split at this) <;> omega
      have hb:b < 0:=by have:=HSB.out; unfold vg at this; split at this <;> (try split at this) <;> omega
      have z1:=HZ.out;have z2:=HZ'.out;cases neg <;> cases neg' <;> simp [sgn] at z1 z2 <;> first | omega | (rw [z1,z2]; unfold vg; split <;> (try split) <;> (try split) <;> (try split) <;> omega)
     have HCM:=Lib.hid hcm;clear hw4 y4 hcm;go_wp2_with fail;go_ret;exact ⟨kao HCM.out,Y4.out⟩
   · go_wp2_with fail;refine (xa3 _ _ ds ds' _ ⟨A,c,rfl,h1,h2,H3.out.ext E0.out⟩ ⟨A',c',rfl,h1',h2',H3'.out.ext E0.out⟩).mono ?_;rintro e w4 ⟨rfl,n4,hw4⟩;have y4:Ext w w4:=by rw [hw4]; exact E0.out.drewN n4
     have Y4:=Lib.hid y4;have hcm:vg (val ds) (val ds')=vg a b:=by
      have ha:0<=a:=by have:=HSA.out; unfold vg at this; split at this <;> (try split at this) <;> omega
      have hb:0<=b:=by have:=HSB.out; unfold vg at this; split at this <;> (try split at this) <;> omega
      have z1:=HZ.out;have z2:=HZ'.out;have e1:a=val ds:=by cases neg <;> simp [sgn] at z1 <;> omega
      have e2:b=val ds':=by cases neg' <;> simp [sgn] at z2 <;> omega
      rw [e1,e2]
     have HCM:=Lib.hid hcm;clear hw4 y4 hcm;go_wp2_with fail;go_ret;exact ⟨kao HCM.out,Y4.out⟩
 · go_wp2_with fail;go_ret;exact ⟨kao (yas (wbo (by rw [<- HSA.out,<- HSB.out]; exact hgt))).symm,E0.out⟩
theorem xq.unpack {w:World} {x:Value} {z:Int} {L:Nat} (h:xq w x z L):∃ b A n c,x=.agg #[.bool b,.slice A n c]:=by
 obtain ⟨neg,v,ds,rfl,⟨A,c,rfl,-⟩,-⟩:=h;exact ⟨neg,A,_,c,rfl⟩
theorem xae.unpack {w:World} {x:Value} {z:Int} (h:xae w x z):∃ b A n c,x=.agg #[.bool b,.slice A n c]:=h.raw.unpack
/- Polynomials in four variables, plain: monomials, sums of terms, recursive polynomials, and their values. No program in sight. -/
structure Mo where
 a:Int
 b:Int
 c:Int
 d:Int
deriving DecidableEq
def Mo.one:Mo:=⟨0,0,0,0⟩
def Mo.get (m:Mo) (i:Int):Int:=if i=1 then m.a else if i=2 then m.b else if i=3 then m.c else m.d
def Mo.put (m:Mo) (i e:Int):Mo:=if i=1 then { m with a:=e } else if i=2 then { m with b:=e } else if i=3 then { m with c:=e } else { m with d:=e }
def Mo.nonneg (m:Mo):Prop:=0<=m.a/\0<=m.b/\0<=m.c/\0<=m.d
instance (m:Mo):Decidable m.nonneg:=by unfold Mo.nonneg; infer_instance
def Mo.lt (m n:Mo):Prop:=m.d < n.d\/(m.d=n.d/\(m.c < n.c\/(m.c=n.c/\(m.b < n.b\/(m.b=n.b/\m.a < n.a)))))
instance (m n:Mo):Decidable (m.lt n):=by unfold Mo.lt; infer_instance
theorem Mo.ext_ {m n:Mo} (h1:m.a=n.a) (h2:m.b=n.b) (h3:m.c=n.c) (h4:m.d=n.d):m=n:=by cases m; cases n; simp_all
theorem Mo.lt_irrefl (m:Mo):¬ m.lt m:=by unfold Mo.lt; omega
theorem Mo.lt_trans {m n k:Mo} (h1:m.lt n) (h2:n.lt k):m.lt k:=by unfold Mo.lt at *; omega
theorem Mo.tri (m n:Mo):m.lt n\/m=n\/n.lt m:=by
 by_cases h:m=n
 · exact .inr (.inl h)
 · have:¬ (m.a=n.a/\m.b=n.b/\m.c=n.c/\m.d=n.d):=fun hh=>h (Mo.ext_ hh.1 hh.2.1 hh.2.2.1 hh.2.2.2)
   unfold Mo.lt; omega
abbrev Sp:=List (Int × Mo)
def qc : Sp -> Mo -> Int
 | [],_=>0
 | (c,n) :: r,m=>(if n=m then c else 0)+qc r m
theorem zan (l r:Sp) (m:Mo):qc (l ++ r) m=qc l m+qc r m:=by
 induction l with
 | nil=>simp [qc]
 | cons x l ih=>simp only [List.cons_append,qc,ih]; omega
def kaa : Sp -> Prop
 | []=>True
 | (c,m) :: r=>c ≠ 0/\(∀ x ∈ r,x.2.lt m)/\kaa r
theorem xad {l:Sp} {m:Mo} (h:∀ x ∈ l,x.2 ≠ m):qc l m=0:=by
 induction l with
 | nil=>rfl
 | cons x l ih =>
   rw [qc,if_neg (h x (by simp)),ih (fun y hy=>h y (by simp [hy]))]; rfl
theorem uaj {c:Int} {m:Mo} {r:Sp} (h:kaa ((c,m) :: r)):qc ((c,m) :: r) m=c/\∀ n,m.lt n->qc ((c,m) :: r) n=0:=by
 have hlt:=h.2.1
 constructor
 · rw [qc,if_pos rfl,xad (m:=m) (fun x hx e=>Mo.lt_irrefl m (by have:=hlt x hx; rw [e] at this; exact this))]; omega
 · intro n hn;refine xad fun x hx e=>?_
   rcases List.mem_cons.1 hx with rfl | hx
   · exact Mo.lt_irrefl m (by rw [<- e] at hn; exact hn)
   · exact Mo.lt_irrefl m (Mo.lt_trans (by rw [<- e] at hn; exact hn) (hlt x hx))
theorem kaa.uniq : ∀ (l l' : Sp), kaa l -> kaa l' -> (∀ m, qc l m = qc l' m) -> l = l'
 | [],[],_,_,_=>rfl
 | [],(c,m) :: r,_,h',e=>by
   have h1:=(uaj h').1;rw [<- e m] at h1;exact absurd h1.symm h'.1
 | (c,m) :: r,[],h,_,e=>by
   have h1:=(uaj h).1;rw [e m] at h1;exact absurd h1.symm h.1
 | (c,m) :: r,(c',m') :: r',h,h',e=>by
   have h1:=uaj h;have h2:=uaj h';have hm:m=m':=by
    rcases Mo.tri m m' with hlt | he | hlt
    · have:=h1.2 m' hlt;rw [e m',h2.1] at this;exact absurd this h'.1
    · exact he
    · have:=h2.2 m hlt;rw [<- e m,h1.1] at this;exact absurd this h.1
   subst hm;have hc:c=c':=by rw [<- h1.1,e m,h2.1]
   subst hc;have hr:r=r':=kaa.uniq r r' h.2.2 h'.2.2 (fun n=>by
    have:=e n;simp only [qc] at this
    omega)
   rw [hr]
def Mo.val (ρ:Int->Rat) (m:Mo):Rat:=ρ 1 ^ m.a.toNat * ρ 2 ^ m.b.toNat * ρ 3 ^ m.c.toNat * ρ 4 ^ m.d.toNat
def yl (ρ : Int -> Rat) : Sp -> Rat
 | []=>0
 | (c,m) :: r=>(c:Rat) * m.val ρ+yl ρ r
theorem gah (ρ:Int->Rat) (l r:Sp):yl ρ (l ++ r)=yl ρ l+yl ρ r:=by
 induction l with
 | nil=>simp [yl]; grind
 | cons x l ih=>obtain ⟨c,m⟩:=x; simp only [List.cons_append,yl,ih]; grind
theorem qbz (ρ:Int->Rat) (m:Mo) (l:Sp):yl ρ l=(qc l m:Rat) * m.val ρ+yl ρ (l.filter fun x=>decide (x.2 ≠ m)):=by
 induction l with
 | nil=>simp [yl,qc]; grind
 | cons x l ih =>
   obtain ⟨c,n⟩:=x
   by_cases h:n=m
   · subst h;simp only [yl,qc,if_true,List.filter_cons,ne_eq,not_true,decide_false,Bool.false_eq_true,if_false];rw [ih]
     push_cast
     grind
   · have:decide (n ≠ m)=true:=by simpa using h
     simp only [yl,qc,if_neg h,List.filter_cons,this,if_true];rw [ih]
     push_cast
     grind
theorem ybm (l:Sp) (m n:Mo):qc (l.filter fun x=>decide (x.2 ≠ m)) n=if n=m then 0 else qc l n:=by
 induction l with
 | nil=>simp [qc]
 | cons x l ih =>
   obtain ⟨c,k⟩:=x
   by_cases h:k=m
   · subst h;simp only [List.filter_cons,ne_eq,not_true,decide_false,Bool.false_eq_true,if_false,qc];rw [ih]
     by_cases h2:n=k
     · simp [h2]
     · rw [if_neg h2,if_neg h2,if_neg (fun e=>h2 e.symm)]; omega
   · have:decide (k ≠ m)=true:=by simpa using h
     simp only [List.filter_cons,this,if_true,qc,ih]
     by_cases h2:n=m
     · subst h2; simp [h]
     · simp [h2]
theorem kb6 (ρ:Int->Rat) (n:Nat):∀ l:Sp,l.length<=n->(∀ m,qc l m=0)->yl ρ l=0:=by
 induction n with
 | zero=>intro l h _; obtain rfl:l=[]:=List.eq_nil_of_length_eq_zero (by omega); rfl
 | succ n ih =>
   intro l h h0;cases l with
   | nil=>rfl
   | cons x l =>
     obtain ⟨c,m⟩:=x;rw [qbz ρ m,h0 m];have hl:(((c,m) :: l).filter fun x=>decide (x.2 ≠ m)).length<=n:=by
      rw [List.filter_cons];simp only [ne_eq,not_true,decide_false,Bool.false_eq_true,if_false];have:=List.length_filter_le (fun x:Int × Mo=>decide (x.2 ≠ m)) l;simp only [List.length_cons] at h;simp only [ne_eq] at this ⊢;omega
     rw [ih _ hl (fun k=>by rw [ybm]; split <;> simp [h0])];simp; grind
def jao (l:Sp):Sp:=l.map fun x=>(-x.1,x.2)
theorem wbe (l:Sp) (m:Mo):qc (jao l) m=- qc l m:=by
 induction l with
 | nil=>rfl
 | cons x l ih =>
   obtain ⟨c,n⟩:=x;simp only [jao,List.map_cons,qc];rw [show (List.map (fun x:Int × Mo=>(-x.1,x.2)) l)=jao l from rfl,ih]
   split <;> omega
theorem zbk (ρ:Int->Rat) (l:Sp):yl ρ (jao l)=- yl ρ l:=by
 induction l with
 | nil=>simp [jao,yl]
 | cons x l ih =>
   obtain ⟨c,n⟩:=x;simp only [jao,List.map_cons,yl];rw [show (List.map (fun x:Int × Mo=>(-x.1,x.2)) l)=jao l from rfl,ih]
   push_cast
   grind
theorem yaq (ρ:Int->Rat) {l l':Sp} (h:∀ m,qc l m=qc l' m):yl ρ l=yl ρ l':=by
 have h1:=kb6 ρ (l ++ jao l').length (l ++ jao l') (Nat.le_refl _) (fun m=>by rw [zan,wbe,h m]; omega);rw [gah,zbk] at h1
 grind
inductive Pl where
 | mk (lv:Int) (neg:Bool) (ds:List Nat) (cs:List Pl)
def Pl.lv : Pl -> Int
 | .mk l _ _ _=>l
def Pl.neg : Pl -> Bool
 | .mk _ n _ _=>n
def Pl.ds : Pl -> List Nat
 | .mk _ _ d _=>d
def Pl.cs : Pl -> List Pl
 | .mk _ _ _ c=>c
def Pl.z (p:Pl):Int:=sgn p.neg (val p.ds)
mutual
def Pl.terms (m : Mo) : Pl -> Sp
 | .mk l n d cs=>if l<=0 then [(sgn n (val d),m)] else if 4 < l then [] else yc m l (m.get l) cs
def yc (m : Mo) (l e : Int) : List Pl -> Sp
 | []=>[]
 | c :: r=>c.terms (m.put l e) ++ yc m l (e+1) r
end
mutual
def Pl.val (ρ : Int -> Rat) : Pl -> Rat
 | .mk l n d cs=>if l<=0 then ((sgn n (val d):Int):Rat) else if 4 < l then 0 else qh ρ l cs
def qh (ρ : Int -> Rat) (l : Int) : List Pl -> Rat
 | []=>0
 | c :: r=>c.val ρ+ρ l * qh ρ l r
end
theorem Mo.val_put (ρ:Int->Rat) (m:Mo) (l e:Int) (h1:0 < l) (h2:l<=4) (he:0<=e):(m.put l (e+1)).val ρ=ρ l * (m.put l e).val ρ:=by
 have ht:(e+1).toNat=e.toNat+1:=by omega
 rcases (show l=1\/l=2\/l=3\/l=4 by omega) with rfl | rfl | rfl | rfl
 · show ρ 1 ^ (e+1).toNat * ρ 2 ^ m.b.toNat * ρ 3 ^ m.c.toNat * ρ 4 ^ m.d.toNat=ρ 1 * (ρ 1 ^ e.toNat * ρ 2 ^ m.b.toNat * ρ 3 ^ m.c.toNat * ρ 4 ^ m.d.toNat);rw [ht,Rat.pow_succ]; grind
 · show ρ 1 ^ m.a.toNat * ρ 2 ^ (e+1).toNat * ρ 3 ^ m.c.toNat * ρ 4 ^ m.d.toNat=ρ 2 * (ρ 1 ^ m.a.toNat * ρ 2 ^ e.toNat * ρ 3 ^ m.c.toNat * ρ 4 ^ m.d.toNat);rw [ht,Rat.pow_succ]; grind
 · show ρ 1 ^ m.a.toNat * ρ 2 ^ m.b.toNat * ρ 3 ^ (e+1).toNat * ρ 4 ^ m.d.toNat=ρ 3 * (ρ 1 ^ m.a.toNat * ρ 2 ^ m.b.toNat * ρ 3 ^ e.toNat * ρ 4 ^ m.d.toNat);rw [ht,Rat.pow_succ]; grind
 · show ρ 1 ^ m.a.toNat * ρ 2 ^ m.b.toNat * ρ 3 ^ m.c.toNat * ρ 4 ^ (e+1).toNat=ρ 4 * (ρ 1 ^ m.a.toNat * ρ 2 ^ m.b.toNat * ρ 3 ^ m.c.toNat * ρ 4 ^ e.toNat);rw [ht,Rat.pow_succ]; grind
mutual
theorem Pl.terms_val (ρ : Int -> Rat) : ∀ (p : Pl) (m : Mo), m.nonneg -> yl ρ (p.terms m) = m.val ρ * p.val ρ
 | .mk l n d cs,m,hm=>by
   rw [Pl.terms,Pl.val]
   by_cases h1:l<=0
   · rw [if_pos h1,if_pos h1]; simp only [yl]; grind
   · rw [if_neg h1,if_neg h1]
     by_cases h2:4 < l
     · rw [if_pos h2,if_pos h2]; simp only [yl]; grind
     · rw [if_neg h2,if_neg h2];have hg:0<=m.get l:=by unfold Mo.nonneg at hm; unfold Mo.get; split <;> (try split) <;> (try split) <;> omega
       rw [ka4 ρ cs m l (m.get l) (by omega) (by omega) hg hm];have:m.put l (m.get l)=m:=by unfold Mo.put Mo.get; split <;> (try split) <;> (try split) <;> rfl
       rw [this]
theorem ka4 (ρ : Int -> Rat) : ∀ (cs : List Pl) (m : Mo) (l e : Int), 0 < l -> l <= 4 -> 0 <= e -> m.nonneg -> yl ρ (yc m l e cs) = (m.put l e).val ρ * qh ρ l cs
 | [],m,l,e,h1,h2,he,hm=>by rw [yc,qh]; simp only [yl]; grind
 | c :: r,m,l,e,h1,h2,he,hm=>by
   have hp:(m.put l e).nonneg:=by unfold Mo.nonneg at *; unfold Mo.put; split <;> (try split) <;> (try split) <;> simp_all
   rw [yc,qh,gah,Pl.terms_val ρ c _ hp,ka4 ρ r m l (e+1) h1 h2 (by omega) hm,Mo.val_put ρ m l e h1 h2 he]
   grind
end
theorem Mo.val_one (ρ:Int->Rat):Mo.one.val ρ=1:=by simp [Mo.one,Mo.val]
theorem Pl.val_coef (ρ:Int->Rat) {p q:Pl} (h:∀ m,qc (p.terms Mo.one) m=qc (q.terms Mo.one) m):p.val ρ=q.val ρ:=by
 have h1:=yaq ρ h;rw [Pl.terms_val ρ p _ (by unfold Mo.nonneg Mo.one; simp),Pl.terms_val ρ q _ (by unfold Mo.nonneg Mo.one; simp),Mo.val_one] at h1
 grind
end Go.Proofs.YtaedbimbbeploaaGreatDoor
