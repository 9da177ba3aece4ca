/- Layer 32: a frame's Admits and Push at rational coordinates. -/
import Derived.Test.YtopddaabiinboaaGreatMp24
import Derived.Test.YtopddaabiinboaaGreatMp25
import Derived.Test.YtopddaabiinboaaGreatMp16
import Derived.Test.YtopddaabiinboaaGreatMp18
import Derived.Test.YtopddaabiinboaaGreatMp19
set_option linter.unusedSimpArgs false
set_option linter.unusedVariables false
set_option maxRecDepth 100000
set_option maxHeartbeats 8000000
namespace Go.Proofs.YtopddaabiinboaaGreat
open Go.RowKit
theorem yid {w:World} {base F:Nat} {xs:List Rat} {va vd vt vl:Value} {nd nt nl:Nat} {v:Value} {q:Rat} (hf:ydc base F w xs va vd vt vl nd nt nl) (hn:xs.length<=3) (h:CoV w v q) (hq:rlen q<=1000000):Calls Tryz.prog 64 #[.pointer (some ⟨F,0,none⟩),v] w (ydd true w):=by
 have hFlt:=hf.lt;have H:=Lib.hid h;obtain ⟨b1,A1,n1,c1,B1,m1,d1,b2,A2,n2,c2,B2,m2,d2,rfl,-,-⟩:=h;obtain ⟨VA,vc,rfl,hva1,hva2⟩:=hf.2.ra.len;have hcf:w.cell? ⟨F,0,none⟩=some (.slice VA xs.length vc):=by simp [World.cell?,hf.1]
 obtain ⟨W,hW⟩:=n_m (w.alloc (.cells #[.int .i64 0,.bool false,.slice none 0 0,.slice none 0 0,.bool b1,.slice A1 n1 c1,.slice B1 m1 d1,.bool b2,.slice A2 n2 c2,.slice B2 m2 d2] 40));have hWx:Ext w W:=by rw [<- hW]; exact (Ext.refl w).alloc _
 have hbx:W.heap[w.heap.size]?=some (.cells #[.int .i64 0,.bool false,.slice none 0 0,.slice none 0 0,.bool b1,.slice A1 n1 c1,.slice B1 m1 d1,.bool b2,.slice A2 n2 c2,.slice B2 m2 d2] 40 (0,0)):=by rw [<- hW]; exact heap_alloc_new w _
 have k0:W.cell? ⟨w.heap.size,0,none⟩=some (.int .i64 0):=by simp [World.cell?,hbx]
 have k1:W.cell? ⟨w.heap.size,1,none⟩=some (.bool false):=by simp [World.cell?,hbx]
 have k2:W.cell? ⟨w.heap.size,2,none⟩=some (.slice none 0 0):=by simp [World.cell?,hbx]
 have k3:W.cell? ⟨w.heap.size,3,none⟩=some (.slice none 0 0):=by simp [World.cell?,hbx]
 have k4:W.cell? ⟨w.heap.size,4,none⟩=some (.bool b1):=by simp [World.cell?,hbx]
 have k5:W.cell? ⟨w.heap.size,5,none⟩=some (.slice A1 n1 c1):=by simp [World.cell?,hbx]
 have k6:W.cell? ⟨w.heap.size,6,none⟩=some (.slice B1 m1 d1):=by simp [World.cell?,hbx]
 have k7:W.cell? ⟨w.heap.size,7,none⟩=some (.bool b2):=by simp [World.cell?,hbx]
 have k8:W.cell? ⟨w.heap.size,8,none⟩=some (.slice A2 n2 c2):=by simp [World.cell?,hbx]
 have k9:W.cell? ⟨w.heap.size,9,none⟩=some (.slice B2 m2 d2):=by simp [World.cell?,hbx]
 have hcf2:W.cell? ⟨F,0,none⟩=some (.slice VA xs.length vc):=(hWx.cell (p:=⟨F,0,none⟩) hFlt).trans hcf;have HWX:=Lib.hid hWx;have HC:=Lib.hid (ugt (H.out.ext hWx) hq);have hl3:(xs.length:Int)<=3:=by omega
 clear hf hbx hWx hcf;go_enter Tryz.func64,Tryz.ntmps64;go_wp2_with fail;clear hW k0 k1 k2 k3 k4 k5 k6 k7 k8 k9 hcf2;refine HC.out.mono ?_;rintro e w1 ⟨rfl,x1⟩;have X1:=Lib.hid (HWX.out.trans x1);clear x1 HC;go_wp2_with fail;go_ret;exact ⟨rfl,X1.out⟩
theorem kdf {w:World} {a:Addr} {v:Value} (h:w.cell? a=some v):w.setCell a v=w:=by
 unfold World.cell? at h;have key:(w.setCell a v).heap=w.heap:=by
  unfold World.setCell;apply Array.ext
  · simp
  · intro i h1 h2;rw [Array.getElem_modify]
    split
    · rename_i e;subst e;rw [Array.getElem?_eq_getElem h2] at h
      revert h
      generalize w.heap[a.block]=o;intro h;cases o with
      | cells c el fr =>
        simp only at h ⊢
        split at h
        · cases h
        · rename_i hs;rw [if_neg hs]
          congr 1
          apply Array.ext
          · simp
          · intro j k1 k2;rw [Array.getElem_setIfInBounds]
            split
            · rename_i e;subst e;rw [Array.getElem?_eq_getElem k2] at h;injection h with h
              exact h.symm
            · rfl
            all_goals simpa using k2
      | _=>rfl
    · rfl
 show { w with heap:=(w.setCell a v).heap }=w;rw [key]
theorem push_any {w:World} {base F:Nat} {xs:List Rat} {va vd vt vl:Value} {v:Value} {q:Rat} (hf:ydc base F w xs va vd vt vl xs.length xs.length xs.length) (hbase:base<=w.heap.size) (hn:xs.length<=1000) (h:CoV w v q) (hq:rlen q<=1000000):Calls Tryz.prog 65 #[.pointer (some ⟨F,0,none⟩),v] w fun e w'=>e=.returned (.tuple #[])/\(∃ va' vd' vt' vl',ydc base F w' (xs ++ [q]) va' vd' vt' vl' (xs.length+1) (xs.length+1) (xs.length+1))/\FrK base F w w':=by
 have hFlt:=hf.lt;have H:=Lib.hid h;obtain ⟨b1,A1,n1,c1,B1,m1,d1,b2,A2,n2,c2,B2,m2,d2,rfl,hlo,hhi⟩:=h;obtain ⟨yd,hyd⟩:=hf.2.rd;obtain ⟨yt,hyt⟩:=hf.2.rt;obtain ⟨yl,hyl⟩:=hf.2.rl;have oA:=fun R (e:va.ownBlock=some R)=>(hf.2.ra.own e).2
 have oD:=fun R (e:vd.ownBlock=some R)=>(hyd.own e).2
 have oT:=fun R (e:vt.ownBlock=some R)=>(hyt.own e).2
 have oL:=fun R (e:vl.ownBlock=some R)=>(hyl.own e).2
 have HOA:=Lib.hid oA;have HOD:=Lib.hid oD;have HOT:=Lib.hid oT;have HOL:=Lib.hid oL;obtain ⟨VA,vac,rfl,ha1,ha2⟩:=hf.2.ra.len;obtain ⟨VD,vdc,rfl,hd1,hd2⟩:=hyd.len;obtain ⟨VT,vtc,rfl,ht1,ht2⟩:=hyt.len;obtain ⟨VL,vlc,rfl,hl1,hl2⟩:=hyl.len;obtain ⟨W1,hW1⟩:=n_m (w.alloc (.cells #[.int .i64 0,.bool false,.slice none 0 0,.slice none 0 0,.bool b1,.slice A1 n1 c1,.slice B1 m1 d1,.bool b2,.slice A2 n2 c2,.slice B2 m2 d2] 40));have hW1x:Ext w W1:=by rw [<- hW1]; exact (Ext.refl w).alloc _
 have hW1s:W1.heap.size=w.heap.size+1:=by rw [<- hW1]; simp
 have hb1:W1.heap[w.heap.size]?=some (.cells #[.int .i64 0,.bool false,.slice none 0 0,.slice none 0 0,.bool b1,.slice A1 n1 c1,.slice B1 m1 d1,.bool b2,.slice A2 n2 c2,.slice B2 m2 d2] 40 (0,0)):=by rw [<- hW1]; exact heap_alloc_new w _
 have j0:W1.cell? ⟨w.heap.size,0,none⟩=some (.int .i64 0):=by simp [World.cell?,hb1]
 have j1:W1.cell? ⟨w.heap.size,1,none⟩=some (.bool false):=by simp [World.cell?,hb1]
 have j2:W1.cell? ⟨w.heap.size,2,none⟩=some (.slice none 0 0):=by simp [World.cell?,hb1]
 have j3:W1.cell? ⟨w.heap.size,3,none⟩=some (.slice none 0 0):=by simp [World.cell?,hb1]
 have j4:W1.cell? ⟨w.heap.size,4,none⟩=some (.bool b1):=by simp [World.cell?,hb1]
 have j5:W1.cell? ⟨w.heap.size,5,none⟩=some (.slice A1 n1 c1):=by simp [World.cell?,hb1]
 have j6:W1.cell? ⟨w.heap.size,6,none⟩=some (.slice B1 m1 d1):=by simp [World.cell?,hb1]
 have j7:W1.cell? ⟨w.heap.size,7,none⟩=some (.bool b2):=by simp [World.cell?,hb1]
 have j8:W1.cell? ⟨w.heap.size,8,none⟩=some (.slice A2 n2 c2):=by simp [World.cell?,hb1]
 have j9:W1.cell? ⟨w.heap.size,9,none⟩=some (.slice B2 m2 d2):=by simp [World.cell?,hb1]
 obtain ⟨W,hW⟩:=n_m (W1.alloc (.cells #[.int .i64 0,.bool false,.slice none 0 0,.slice none 0 0] 30));have hWx:Ext w W:=by rw [<- hW]; exact hW1x.alloc _
 have hWs:W.heap.size=w.heap.size+1+1:=by rw [<- hW,<- hW1s]; simp
 have hbx:W.heap[w.heap.size]?=some (.cells #[.int .i64 0,.bool false,.slice none 0 0,.slice none 0 0,.bool b1,.slice A1 n1 c1,.slice B1 m1 d1,.bool b2,.slice A2 n2 c2,.slice B2 m2 d2] 40 (0,0)):=by rw [<- hW,Below.heap_alloc _ _ _ (by omega)]; exact hb1
 have hby:W.heap[w.heap.size+1]?=some (.cells #[.int .i64 0,.bool false,.slice none 0 0,.slice none 0 0] 30 (0,0)):=by
  rw [<- hW,<- hW1s];exact heap_alloc_new W1 _
 have HF0:=Lib.hid hf;have HWX:=Lib.hid hWx;have HBX:=Lib.hid hbx;have HBY:=Lib.hid hby;have HWE:=Lib.hid hW;have HC:=Lib.hid (ugt (H.out.ext hWx) hq);have HLO:=Lib.hid hlo;have HHI:=Lib.hid hhi;have hW1s':W1.heap.size<=w.heap.size+1:=by omega
 have k0:W.cell? ⟨w.heap.size,0,none⟩=some (.int .i64 0):=by simp [World.cell?,hbx]
 have k1:W.cell? ⟨w.heap.size,1,none⟩=some (.bool false):=by simp [World.cell?,hbx]
 have k2:W.cell? ⟨w.heap.size,2,none⟩=some (.slice none 0 0):=by simp [World.cell?,hbx]
 have k3:W.cell? ⟨w.heap.size,3,none⟩=some (.slice none 0 0):=by simp [World.cell?,hbx]
 have k4:W.cell? ⟨w.heap.size,4,none⟩=some (.bool b1):=by simp [World.cell?,hbx]
 have k5:W.cell? ⟨w.heap.size,5,none⟩=some (.slice A1 n1 c1):=by simp [World.cell?,hbx]
 have k6:W.cell? ⟨w.heap.size,6,none⟩=some (.slice B1 m1 d1):=by simp [World.cell?,hbx]
 have k7:W.cell? ⟨w.heap.size,7,none⟩=some (.bool b2):=by simp [World.cell?,hbx]
 have k8:W.cell? ⟨w.heap.size,8,none⟩=some (.slice A2 n2 c2):=by simp [World.cell?,hbx]
 have k9:W.cell? ⟨w.heap.size,9,none⟩=some (.slice B2 m2 d2):=by simp [World.cell?,hbx]
 clear hf hbx hby hWx hyd hyt hyl oA oD oT oL hlo hhi hW hb1 hW1x;have HS1:=Lib.hid hW1s;clear hW1s;go_enter Tryz.func65,Tryz.ntmps65;go_upto_region 2 with fail;clear hW1
 try rw [HWE.out]
 clear j0 j1 j2 j3 j4 j5 j6 j7 j8 j9;go_wp2_with fail;clear k0 k1 k2 k3 k4 k5 k6 k7 k8 k9;refine HC.out.mono ?_;rintro e w3 ⟨rfl,x3⟩;have hs3:=x3.size;have HX3:=Lib.hid (HWX.out.trans x3);have hbx:=(x3.below.block _ (by omega)).trans HBX.out;have hby:=(x3.below.block _ (by omega)).trans HBY.out;clear x3 HC HBX HBY;have hxd:=HX3.out.drew;obtain ⟨v4,w4,hrun,c0,fz,HF4,HK4,hb4⟩:=(HF0.out.ext hxd).push_a (by have:=hxd.size; omega) (HLO.out.ext hxd) (HHI.out.ext hxd) (by omega) 42;obtain ⟨XQ,hXQ⟩:=n_m (xs ++ [q]);have hXl:XQ.length=xs.length+1:=by rw [<- hXQ]; simp
 rw [hXQ] at HF4;obtain ⟨VA4,vac4,e4,ha14,ha24⟩:=HF4.2.ra.len;rw [hXl] at e4;subst e4;have HSB:Hid (∀ W':World,W'.heap[w.heap.size]?=some (.cells #[.int .i64 0,.bool false,.slice none 0 0,.slice none 0 0,.bool b1,.slice A1 n1 c1,.slice B1 m1 d1,.bool b2,.slice A2 n2 c2,.slice B2 m2 d2] 40 (0,0))->W'.cell? ⟨w.heap.size,0,none⟩=some (.int .i64 0)/\W'.cell? ⟨w.heap.size,1,none⟩=some (.bool false)/\W'.cell? ⟨w.heap.size,2,none⟩=some (.slice none 0 0)/\W'.cell? ⟨w.heap.size,3,none⟩=some (.slice none 0 0)/\W'.cell? ⟨w.heap.size,4,none⟩=some (.bool b1)/\W'.cell? ⟨w.heap.size,5,none⟩=some (.slice A1 n1 c1)/\W'.cell? ⟨w.heap.size,6,none⟩=some (.slice B1 m1 d1)/\W'.cell? ⟨w.heap.size,7,none⟩=some (.bool b2)/\W'.cell? ⟨w.heap.size,8,none⟩=some (.slice A2 n2 c2)/\W'.cell? ⟨w.heap.size,9,none⟩=some (.slice B2 m2 d2)):=by
  intro W' hb;refine ⟨?_,?_,?_,?_,?_,?_,?_,?_,?_,?_⟩ <;> simp [World.cell?,hb]
 have HSZ:Hid (∀ W':World,W'.heap[w.heap.size+1]?=some (.cells #[.int .i64 0,.bool false,.slice none 0 0,.slice none 0 0] 30 (0,0))->W'.cell? ⟨W1.heap.size,0,none⟩=some (.int .i64 0)/\W'.cell? ⟨W1.heap.size,1,none⟩=some (.bool false)/\W'.cell? ⟨W1.heap.size,2,none⟩=some (.slice none 0 0)/\W'.cell? ⟨W1.heap.size,3,none⟩=some (.slice none 0 0)):=by
  intro W' hb;rw [HS1.out];refine ⟨?_,?_,?_,?_⟩ <;> simp [World.cell?,hb]
 have hcf:w3.cell? ⟨F,0,none⟩=some (.slice VA xs.length vac):=by have:=(HF0.out.ext HX3.out).1; simp [World.cell?,this]
 have hcfa:(w3.alloc (.cells #[.int .i64 0,.bool false,.slice none 0 0,.slice none 0 0,.bool b1,.slice A1 n1 c1,.slice B1 m1 d1,.bool b2,.slice A2 n2 c2,.slice B2 m2 d2] 40)).cell? ⟨F,0,none⟩=some (.slice VA xs.length vac):=(World.cell?_of_block (a:=⟨F,0,none⟩) (Below.heap_alloc _ _ _ (by show F < w3.heap.size; omega))).trans hcf;have hbd:w3.drew.heap[w.heap.size]?=some (.cells #[.int .i64 0,.bool false,.slice none 0 0,.slice none 0 0,.bool b1,.slice A1 n1 c1,.slice B1 m1 d1,.bool b2,.slice A2 n2 c2,.slice B2 m2 d2] 40 (0,0)):=hbx;have hal:(w3.drew.alloc (.cells #[.int .i64 0,.bool false,.slice none 0 0,.slice none 0 0,.bool b1,.slice A1 n1 c1,.slice B1 m1 d1,.bool b2,.slice A2 n2 c2,.slice B2 m2 d2] 40)).heap[w.heap.size]?=some (.cells #[.int .i64 0,.bool false,.slice none 0 0,.slice none 0 0,.bool b1,.slice A1 n1 c1,.slice B1 m1 d1,.bool b2,.slice A2 n2 c2,.slice B2 m2 d2] 40 (0,0)):=by rw [Below.heap_alloc _ _ _ (by show w.heap.size < w3.heap.size; omega)]; exact hbd
 have hsd:w3.drew.heap.size=w3.heap.size:=rfl;have hw4:w4.heap[w.heap.size]?=some (.cells #[.int .i64 0,.bool false,.slice none 0 0,.slice none 0 0,.bool b1,.slice A1 n1 c1,.slice B1 m1 d1,.bool b2,.slice A2 n2 c2,.slice B2 m2 d2] 40 (0,0)):=(hb4 _ (by omega) (fun e=>by have:=HOA.out _ e; omega)).trans hbd;have hw4z:w4.heap[w.heap.size+1]?=some (.cells #[.int .i64 0,.bool false,.slice none 0 0,.slice none 0 0] 30 (0,0)):=(hb4 _ (by omega) (fun e=>by have:=HOA.out _ e; omega)).trans (show w3.drew.heap[w.heap.size+1]?=_ from hby);have hs4:=HK4.size;obtain ⟨V4,hV4⟩:=n_m (w4.setCell ⟨F,0,none⟩ (.slice VA4 (xs.length+1) vac4));have hv4:V4.heap[w.heap.size]?=some (.cells #[.int .i64 0,.bool false,.slice none 0 0,.slice none 0 0,.bool b1,.slice A1 n1 c1,.slice B1 m1 d1,.bool b2,.slice A2 n2 c2,.slice B2 m2 d2] 40 (0,0)):=by rw [<- hV4,Below.heap_setCell _ _ _ _ (by show w.heap.size ≠ F; omega)]; exact hw4
 have hv4z:V4.heap[w.heap.size+1]?=some (.cells #[.int .i64 0,.bool false,.slice none 0 0,.slice none 0 0] 30 (0,0)):=by rw [<- hV4,Below.heap_setCell _ _ _ _ (by show w.heap.size+1 ≠ F; omega)]; exact hw4z
 rw [hV4] at HF4 HK4 hs4;have HBD:=Lib.hid hbd;have HAL:=Lib.hid hal;have HW4:=Lib.hid hw4;have HV4:=Lib.hid hv4;have HV4Z:=Lib.hid hv4z;have HFS4:=Lib.hid HF4;have HKS4:=Lib.hid HK4;have HXQ:=Lib.hid hXQ;have HXL:=Lib.hid hXl;clear hbd hal hw4 hw4z hv4 hv4z HF4 HK4 hb4 hbx hby HLO HHI HF0 hXQ hXl hxd hsd;go_upto_region 4 with fail;refine wp_region_held_drew (S:=fun W'=>W'.heap[w.heap.size]?=some (.cells #[.int .i64 0,.bool false,.slice none 0 0,.slice none 0 0,.bool b1,.slice A1 n1 c1,.slice B1 m1 d1,.bool b2,.slice A2 n2 c2,.slice B2 m2 d2] 40 (0,0))) (by kernel_rfl) HBD.out (fun hHeld=>?_);refine tk 0 ?_;refine tk 1 ?_;refine tk 2 ?_;refine tk 3 ?_;refine tk 5 ?_ (hy:=Or.inl ⟨by rfl,by intro w' hSw; obtain ⟨k0,k1,k2,k3,k4,k5,k6,k7,k8,k9⟩:=HSB.out w' hSw; go_simp; (try (with_reducible rfl))⟩);refine r_2 4 6 (fun K hK=>?ordA) fun K hK=>?ordB
 case' ordA =>
  go_simp;refine k_t hK HBD.out fun hHeld=>?_
  clear hK K;refine r_1 6 fun K hK=>?_
  go_simp;refine k_t hK HAL.out fun hHeld=>?_
  clear hK K
 case' ordB =>
  go_simp;refine k_t hK HAL.out fun hHeld=>?_
  clear hK K;refine r_1 4 fun K hK=>?_
  go_simp;refine k_t hK HAL.out fun hHeld=>?_
  clear hK K
 all_goals
  refine r_1 7 fun K hK=>?_
  refine kgw rfl (.tmp 17) (.tmp 19) 42 42 rfl _ _ _ _ (by rfl) (by rfl) hrun ?_;refine k_t hK HW4.out fun hHeld=>?_
  clear hK K;refine tk 8 ?_;refine tk 9 ?_;refine r_1 10 fun K hK=>?_
  go_simp
  try rw [hV4]
  refine k_t hK HV4.out fun hHeld=>?_
  clear hK K;refine w_d ?_;clear hrun c0 fz hcf hcfa hV4 HBD HAL HW4 HV4 HSB hHeld;obtain ⟨v5,w5,hrun,c0,fz,HF5,HK5,hb5,g5,c5,e5,hg5,⟨y0,y1,y2,y3⟩,hgf⟩:=(HFS4.out.ext (Ext.refl V4).drew).push_d (by have:=HKS4.out.size; show base<=V4.heap.size; have:w3.drew.heap.size=w3.heap.size:=rfl; omega) (by omega) 28;subst e5;have y3f:=hgf (xs.length * 4+3);have y2f:=hgf (xs.length * 4+2);have y1f:=hgf (xs.length * 4+1);have y0f:=hgf (xs.length * 4);have hid0:=kdf y0;have hid1:=kdf y1;have hid2:=kdf y2;have hid3:=kdf y3;have hcf:V4.cell? ⟨F,1,none⟩=some (.slice VD xs.length vdc):=by have:=HFS4.out.1; simp [World.cell?,this]
  have hFV4:=HFS4.out.lt;have hcfa:(V4.alloc (.cells #[.int .i64 0,.bool false,.slice none 0 0,.slice none 0 0] 30)).cell? ⟨F,1,none⟩=some (.slice VD xs.length vdc):=(World.cell?_of_block (a:=⟨F,1,none⟩) (Below.heap_alloc _ _ _ hFV4)).trans hcf;have hvd:V4.drew.heap[w.heap.size+1]?=some (.cells #[.int .i64 0,.bool false,.slice none 0 0,.slice none 0 0] 30 (0,0)):=HV4Z.out;have hvs:w.heap.size+1 < V4.heap.size:=(Array.getElem?_eq_some_iff.1 HV4Z.out).1;have hva:(V4.drew.alloc (.cells #[.int .i64 0,.bool false,.slice none 0 0,.slice none 0 0] 30)).heap[w.heap.size+1]?=some (.cells #[.int .i64 0,.bool false,.slice none 0 0,.slice none 0 0] 30 (0,0)):=by rw [Below.heap_alloc _ _ _ (by exact hvs)]; exact hvd
  have hw5:w5.heap[w.heap.size+1]?=some (.cells #[.int .i64 0,.bool false,.slice none 0 0,.slice none 0 0] 30 (0,0)):=(hb5 _ (by exact hvs) (fun e=>by have:=HOD.out _ e; omega)).trans hvd;obtain ⟨V5,hV5⟩:=n_m (w5.setCell ⟨F,1,none⟩ (.slice (some ⟨g5,0,none⟩) (xs.length+1) c5));have hv5:V5.heap[w.heap.size+1]?=some (.cells #[.int .i64 0,.bool false,.slice none 0 0,.slice none 0 0] 30 (0,0)):=by rw [<- hV5,Below.heap_setCell _ _ _ _ (by show w.heap.size+1 ≠ F; omega)]; exact hw5
  have hgb:V5.heap[g5]?=w5.heap[g5]?:=by rw [<- hV5]; exact Below.heap_setCell _ _ _ _ hg5
  have z0:=(World.cell?_of_block (a:=⟨g5,xs.length * 4,none⟩) hgb).trans y0;have z1:=(World.cell?_of_block (a:=⟨g5,xs.length * 4+1,none⟩) hgb).trans y1;have z2:=(World.cell?_of_block (a:=⟨g5,xs.length * 4+2,none⟩) hgb).trans y2;have z3:=(World.cell?_of_block (a:=⟨g5,xs.length * 4+3,none⟩) hgb).trans y3;have z0f:=(World.frozen?_of_block (a:=⟨g5,xs.length * 4,none⟩) hgb).trans y0f;have z1f:=(World.frozen?_of_block (a:=⟨g5,xs.length * 4+1,none⟩) hgb).trans y1f;have z2f:=(World.frozen?_of_block (a:=⟨g5,xs.length * 4+2,none⟩) hgb).trans y2f;have z3f:=(World.frozen?_of_block (a:=⟨g5,xs.length * 4+3,none⟩) hgb).trans y3f;have hie0:=kdf z0;have hie1:=kdf z1;have hie2:=kdf z2;have hie3:=kdf z3;rw [hV5] at HF5 HK5;have HVD:=Lib.hid hvd;have HVA:=Lib.hid hva;have HW5:=Lib.hid hw5;have HV5:=Lib.hid hv5;have HFS5:=Lib.hid HF5;have HKS5:=Lib.hid HK5;have hnb:(xs.length:Int) < (xs.length:Int)+1:=by omega
  have hn0:(0:Int)<=(xs.length:Int):=by omega
  clear hvd hva hw5 hv5 HF5 HK5 hb5 hgf HV4Z;go_upto_region 5 with fail;refine wp_region_held_drew (S:=fun W'=>W'.heap[w.heap.size+1]?=some (.cells #[.int .i64 0,.bool false,.slice none 0 0,.slice none 0 0] 30 (0,0))) (by kernel_rfl) HVD.out (fun hHeld=>?_);refine tk 0 ?_;refine tk 1 ?_;refine tk 2 ?_;refine tk 4 ?_ (hy:=Or.inl ⟨by rfl,by intro w' hSw; obtain ⟨k0,k1,k2,k3⟩:=HSZ.out w' hSw; go_simp; (try (with_reducible rfl))⟩);refine r_2 3 6 (fun K hK=>?_) fun K hK=>?_
  go_simp;refine k_t hK HVD.out fun hHeld=>?_
  clear hK K;refine tk 5 ?_;refine r_1 6 fun K hK=>?_
  go_simp;refine k_t hK HVA.out fun hHeld=>?_
  clear hK K;rotate_left;go_simp;refine k_t hK HVA.out fun hHeld=>?_
  clear hK K;refine r_1 3 fun K hK=>?_
  go_simp;refine k_t hK HVA.out fun hHeld=>?_
  clear hK K;refine tk 5 ?_
  all_goals
   refine r_1 7 fun K hK=>?_
   refine kgw rfl (.tmp 26) (.tmp 29) 28 28 rfl _ _ _ _ (by rfl) (by rfl) hrun ?_;refine k_t hK HW5.out fun hHeld=>?_
   clear hK K;refine tk 8 ?_;refine tk 10 ?_;refine tk 11 ?_;refine r_2 9 12 (fun K hK=>?_) fun K hK=>?_
   go_simp
   try rw [hid0,hid1,hid2,hid3]
   refine k_t hK HW5.out fun hHeld=>?_
   clear hK K;refine r_1 12 fun K hK=>?_
   go_simp
   try rw [hV5]
   refine k_t hK HV5.out fun hHeld=>?_
   clear hK K;rotate_left;go_simp
   try rw [hV5]
   refine k_t hK HV5.out fun hHeld=>?_
   clear hK K;refine r_1 9 fun K hK=>?_
   go_simp
   try rw [hie0,hie1,hie2,hie3]
   refine k_t hK HV5.out fun hHeld=>?_
   clear hK K
   all_goals
    refine w_d ?_;clear hrun c0 fz hcf hcfa hV5 HVD HVA HW5 HV5 HSZ hHeld hid0 hid1 hid2 hid3 y0 y1 y2 y3 y0f y1f y2f y3f hnb hn0 hie0 hie1 hie2 hie3 z0 z1 z2 z3 z0f z1f z2f z3f hgb;have hz4:base<=V4.heap.size:=by have:=HKS4.out.size; have h5:w3.drew.heap.size=w3.heap.size:=rfl; omega
    have hz5:base<=V5.heap.size:=by have:=HKS5.out.size; have h5:V4.drew.heap.size=V4.heap.size:=rfl; omega
    obtain ⟨v6,w6,hrun,c0,fz,HF6,HK6,hb6⟩:=HFS5.out.push_t (by exact hz5) (by omega) 122;obtain ⟨Y6,ye6⟩:=HF6.2.rt;obtain ⟨VX6,vxc6,e6,-,-⟩:=ye6.len;subst e6;have hcf:V5.cell? ⟨F,2,none⟩=some (.slice VT xs.length vtc):=by have:=HFS5.out.1; simp [World.cell?,this]
    obtain ⟨V6,hV6⟩:=n_m (w6.setCell ⟨F,2,none⟩ (.slice VX6 (xs.length+1) vxc6));rw [hV6] at HF6 HK6;have HFS6:=Lib.hid HF6;have HKS6:=Lib.hid HK6;clear HF6 HK6 hb6 ye6
    go_upto_region 7 with (at_builtin
                           refine wpList_append_run rfl (.tmp 38) (.tmp 39) _ _ rfl _ _ _ _ rfl rfl hrun ?_)
    try rw [hV6]
    clear hrun c0 fz hcf hV6;have hz6:base<=V6.heap.size:=by have:=HKS6.out.size; omega
    obtain ⟨v7,w7,hrun,c0,fz,HF7,HK7,hb7⟩:=HFS6.out.push_l (by exact hz6) (by omega) 117;obtain ⟨Y7,ye7⟩:=HF7.2.rl;obtain ⟨VX7,vxc7,e7,-,-⟩:=ye7.len;subst e7;have hcf:V6.cell? ⟨F,3,none⟩=some (.slice VL xs.length vlc):=by have:=HFS6.out.1; simp [World.cell?,this]
    obtain ⟨V7,hV7⟩:=n_m (w7.setCell ⟨F,3,none⟩ (.slice VX7 (xs.length+1) vxc7));rw [hV7] at HF7 HK7;have HFS7:=Lib.hid HF7;have HKS7:=Lib.hid HK7;clear HF7 HK7 hb7 ye7
    go_wp2_with (at_builtin
                 refine wpList_append_run rfl (.tmp 47) (.tmp 48) _ _ rfl _ _ _ _ rfl rfl hrun ?_)
    try rw [hV7]
    clear hrun c0 fz hcf hV7;have hx0:FrK base F w w3.drew:=FrK.of_ext (HX3.out.drew) hbase;have HKF:=Lib.hid ((((hx0.trans HKS4.out).trans ((FrK.of_ext (Ext.refl V4).drew hz4).trans HKS5.out)).trans HKS6.out).trans HKS7.out);have HFF:=HFS7.out;rw [<- HXQ.out] at HFF;have HFG:=Lib.hid HFF;clear HFF hx0
    go_end0
    exact ⟨rfl,⟨_,_,_,_,HFG.out⟩,HKF.out⟩
/- Layer 32: pointsign.Check at rational coordinates. -/
set_option maxRecDepth 100000
set_option maxHeartbeats 8000000
theorem gc8.less {base base':Nat} {W:World} {v:Value} {l:List Rat} (h:gc8 base W v l) (hb:base'<=base):gc8 base' W v l:=by
 obtain ⟨rs,e,g,f⟩:=h;exact ⟨rs,e,g.less hb,f⟩
theorem FrR.less {base base' F:Nat} {W:World} {xs:List Rat} {va vd vt vl:Value} {nd nt nl:Nat} (h:FrR base F W xs va vd vt vl nd nt nl) (hb:base'<=base):FrR base' F W xs va vd vt vl nd nt nl:=by
 obtain ⟨ha,⟨yd,hd⟩,⟨yt,ht⟩,⟨yl,hl⟩,dis,off⟩:=h;exact ⟨ha.less hb,⟨yd,hd.less hb⟩,⟨yt,ht.less hb⟩,⟨yl,hl.less hb⟩,dis,off⟩
def kiw (w W:World) (F:Nat) (xs:List Rat) (k:Nat) (wr:World):Prop:=(∃ va vd vt vl,ydc W.heap.size F wr (xs.take k) va vd vt vl k k k)/\Ext w wr/\W.heap.size<=wr.heap.size/\(∀ i,i < W.heap.size->i ≠ F->wr.heap[i]?=W.heap[i]?)/\∀ v ds,vc2 W v ds->vc2 wr v ds
theorem viv {w:World} {base L:Nat} {xv:Value} {xs:List Rat} (h1:1<=L) (hL:L<=1000000) (hn:xs.length<=4) (hq:∀ q ∈ xs,rlen q<=L) (hxs:gc8 base w xv xs) :
 Calls Tryz.prog 32 #[xv] w fun e w'=>∃ F va vd vt vl,e=.returned (.tuple #[.pointer (some ⟨F,0,none⟩),.bool true])/\ydc w.heap.size F w' xs va vd vt vl xs.length xs.length xs.length/\Ext w w':=by
 have HXS:=Lib.hid hxs;obtain ⟨Ax,cx,rfl,hx1,hx2⟩:=hxs.len;have HQ:=Lib.hid hq;obtain ⟨W0,hW0⟩:=n_m (w.alloc (.cells #[.slice none 0 0,.slice none 0 0,.slice none 0 0,.slice none 0 0] 124));have hx0:Ext w W0:=by rw [<- hW0]; exact (Ext.refl w).alloc _
 have hs0:W0.heap.size=w.heap.size+1:=by rw [<- hW0]; simp
 have hf0:W0.heap[w.heap.size]?=some (.cells #[.slice none 0 0,.slice none 0 0,.slice none 0 0,.slice none 0 0] 124 (0,0)):=by rw [<- hW0]; exact heap_alloc_new w _
 have HF0:=Lib.hid hf0;have HX0:=Lib.hid hx0;have HN:=Lib.hid (whu (w:=W0) hL hq (by omega) (hxs.ext hx0));have hn4:(xs.length:Int)<=4:=by omega
 clear hxs hq hf0 hx0;go_enter Tryz.func32,Tryz.ntmps32;go_wp2_with fail;clear hW0;refine HN.out.mono ?_;rintro e W ⟨rv,rfl,hrow,xW⟩;obtain ⟨RA,rc,rfl,hr1,hr2⟩:=hrow.len;have hsW:=xW.size;have HROW:=Lib.hid hrow;have hFW:W.heap[w.heap.size]?=some (.cells #[.slice none 0 0,.slice none 0 0,.slice none 0 0,.slice none 0 0] 124 (0,0)):=(xW.below.block _ (by omega)).trans HF0.out;have HI0:Hid (kiw w W w.heap.size xs 0 W):=Lib.hid ⟨⟨_,_,_,_,hFW,gc8.nil _ _,⟨_,zc8.nil _ _ _ _⟩,⟨_,zc8.nil _ _ _ _⟩,⟨_,zc8.nil _ _ _ _⟩,⟨(by intro R e; cases e),(by intro R e; cases e),(by intro R e; cases e),(by intro R e; cases e),(by intro R e; cases e),(by intro R e; cases e)⟩,(by intro R e; cases e),(by intro R e; cases e),(by intro R e; cases e),(by intro R e; cases e)⟩,HX0.out.trans xW,Nat.le_refl _,fun _ _ _=>rfl,fun _ _ h=>h⟩;clear hrow xW hFW HN HF0;go_wp2_with fail
 go_loopw [15] (fun iv wr=>∃ (k:Nat),k<=xs.length/\iv=.int .i64 k/\Hid (kiw w W w.heap.size xs k wr)) (fun iv _=>xs.length - (intOf iv).toNat)
 case atStart=>exact ⟨0,by omega,rfl,HI0⟩
 case round =>
  obtain ⟨k,hk,rfl,HI⟩:=hrel;clear HI0
  by_cases hlt:k < xs.length
  · obtain ⟨⟨va,vd,vt,vl,hfr⟩,hxw,hsz,hblk,hnat⟩:=HI.out;obtain ⟨g,c',b1,A1,n1,c1,B1,m1,d1,b2,A2,n2,c2,B2,m2,d2,e',hgb,hg,⟨a0',a1',a2',a3',a4',a5',a6',a7',a8',a9'⟩,hlo',hhi'⟩:=HROW.out.get_ k hlt;injection e' with e1 e2 e3
    subst e1;have hgF:g ≠ w.heap.size:=by omega
    have hgc:=fun i=>World.cell?_of_block (a:=⟨g,i,none⟩) (hblk g hg hgF)
    have a0:=(hgc _).trans a0';have a1:=(hgc _).trans a1';have a2:=(hgc _).trans a2';have a3:=(hgc _).trans a3';have a4:=(hgc _).trans a4';have a5:=(hgc _).trans a5';have a6:=(hgc _).trans a6';have a7:=(hgc _).trans a7';have a8:=(hgc _).trans a8';have a9:=(hgc _).trans a9';have hlo:=hlo'.natq hnat;have hhi:=hhi'.natq hnat;have HS:Hid (xs.take (k+1)=xs.take k ++ [xs[k]]):=Lib.hid (List.take_succ_eq_append_getElem hlt);have hzl:=HQ.out _ (List.getElem_mem hlt);generalize xs[k]=z at *;have hki:(k:Int) < (xs.length:Int):=by omega
    have hk0:(0:Int)<=(k:Int):=by omega
    have hlk:(xs.take k).length=k:=by rw [List.length_take]; omega
    obtain ⟨V,hV⟩:=n_m (wr.alloc (.cells #[.int .i64 0,.bool false,.slice none 0 0,.slice none 0 0,.bool b1,.slice A1 n1 c1,.slice B1 m1 d1,.bool b2,.slice A2 n2 c2,.slice B2 m2 d2] 40));have hxa:Ext wr V:=by rw [<- hV]; exact (Ext.refl wr).alloc _
    have hbx:V.heap[wr.heap.size]?=some (.cells #[.int .i64 0,.bool false,.slice none 0 0,.slice none 0 0,.bool b1,.slice A1 n1 c1,.slice B1 m1 d1,.bool b2,.slice A2 n2 c2,.slice B2 m2 d2] 40 (0,0)):=by rw [<- hV]; exact heap_alloc_new wr _
    have hVs:V.heap.size=wr.heap.size+1:=by rw [<- hV]; simp
    have HC:Hid (CoV V (.agg #[.int .i64 0,.bool false,.slice none 0 0,.slice none 0 0,.bool b1,.slice A1 n1 c1,.slice B1 m1 d1,.bool b2,.slice A2 n2 c2,.slice B2 m2 d2]) z):=⟨b1,A1,n1,c1,B1,m1,d1,b2,A2,n2,c2,B2,m2,d2,rfl,hlo.ext hxa,hhi.ext hxa⟩;have HFV:=Lib.hid (hfr.ext hxa);have HXV:=Lib.hid (hxw.trans hxa);have HBX:=Lib.hid hbx;have HXA:=Lib.hid hxa;have HAD:=Lib.hid (yid HFV.out (by omega) HC.out (by omega));have k0:V.cell? ⟨wr.heap.size,0,none⟩=some (.int .i64 0):=by simp [World.cell?,hbx]
    have k1:V.cell? ⟨wr.heap.size,1,none⟩=some (.bool false):=by simp [World.cell?,hbx]
    have k2:V.cell? ⟨wr.heap.size,2,none⟩=some (.slice none 0 0):=by simp [World.cell?,hbx]
    have k3:V.cell? ⟨wr.heap.size,3,none⟩=some (.slice none 0 0):=by simp [World.cell?,hbx]
    have k4:V.cell? ⟨wr.heap.size,4,none⟩=some (.bool b1):=by simp [World.cell?,hbx]
    have k5:V.cell? ⟨wr.heap.size,5,none⟩=some (.slice A1 n1 c1):=by simp [World.cell?,hbx]
    have k6:V.cell? ⟨wr.heap.size,6,none⟩=some (.slice B1 m1 d1):=by simp [World.cell?,hbx]
    have k7:V.cell? ⟨wr.heap.size,7,none⟩=some (.bool b2):=by simp [World.cell?,hbx]
    have k8:V.cell? ⟨wr.heap.size,8,none⟩=some (.slice A2 n2 c2):=by simp [World.cell?,hbx]
    have k9:V.cell? ⟨wr.heap.size,9,none⟩=some (.slice B2 m2 d2):=by simp [World.cell?,hbx]
    clear hlo hhi hlo' hhi' hxa hbx a0' a1' a2' a3' a4' a5' a6' a7' a8' a9' hgc hfr e2 e3;go_wp2_with fail;clear hV a0 a1 a2 a3 a4 a5 a6 a7 a8 a9 k0 k1 k2 k3 k4 k5 k6 k7 k8 k9;refine HAD.out.mono ?_;rintro e w3 ⟨rfl,x3⟩;have hs3:=x3.size;have hbx:=(x3.below.block _ (by omega)).trans HBX.out;have hfr3:=HFV.out.ext x3;have hpu:=push_any (w:=w3) (xs:=xs.take k) (by rw [hlk]; exact hfr3) (by omega) (by omega) (HC.out.ext x3) (by omega);rw [hlk,<- HS.out] at hpu;have HPU:=Lib.hid hpu;have HX3:=Lib.hid (HXV.out.trans x3);have HXR:Hid (Ext wr w3):=Lib.hid (HXA.out.trans x3);have k0:w3.cell? ⟨wr.heap.size,0,none⟩=some (.int .i64 0):=by simp [World.cell?,hbx]
    have k1:w3.cell? ⟨wr.heap.size,1,none⟩=some (.bool false):=by simp [World.cell?,hbx]
    have k2:w3.cell? ⟨wr.heap.size,2,none⟩=some (.slice none 0 0):=by simp [World.cell?,hbx]
    have k3:w3.cell? ⟨wr.heap.size,3,none⟩=some (.slice none 0 0):=by simp [World.cell?,hbx]
    have k4:w3.cell? ⟨wr.heap.size,4,none⟩=some (.bool b1):=by simp [World.cell?,hbx]
    have k5:w3.cell? ⟨wr.heap.size,5,none⟩=some (.slice A1 n1 c1):=by simp [World.cell?,hbx]
    have k6:w3.cell? ⟨wr.heap.size,6,none⟩=some (.slice B1 m1 d1):=by simp [World.cell?,hbx]
    have k7:w3.cell? ⟨wr.heap.size,7,none⟩=some (.bool b2):=by simp [World.cell?,hbx]
    have k8:w3.cell? ⟨wr.heap.size,8,none⟩=some (.slice A2 n2 c2):=by simp [World.cell?,hbx]
    have k9:w3.cell? ⟨wr.heap.size,9,none⟩=some (.slice B2 m2 d2):=by simp [World.cell?,hbx]
    clear x3 hbx hfr3 hpu HAD HC HFV HXV HXA HBX hlk HS;go_wp2_with fail;clear k0 k1 k2 k3 k4 k5 k6 k7 k8 k9;refine HPU.out.mono ?_;rintro e w4 ⟨rfl,hfr4,hk4⟩;have HN:Hid (kiw w W w.heap.size xs (k+1) w4):=Lib.hid ⟨hfr4,hk4.ext w (by omega) (Nat.le_refl _) HX3.out,by have:=hk4.size; have:=HXR.out.size; omega,fun i h1' h2'=>(hk4.blk i h1' h2').trans ((HXR.out.below.block i (by omega)).trans (hblk i h1' h2')),fun v ds hv=>hk4.nat v ds ((hnat v ds hv).ext HXR.out)⟩;clear hfr4 hk4 hblk hnat HPU;go_wp2_with fail
    go_roundw
    case rel=>exact ⟨k+1,by omega,by go_num,HN⟩
    case measure=>simp [intOf]; omega
  · obtain rfl:k=xs.length:=by omega
    obtain ⟨⟨va,vd,vt,vl,hfr⟩,hxw,-,-,-⟩:=HI.out;rw [List.take_length] at hfr;have HFF:Hid (ydc w.heap.size w.heap.size wr xs va vd vt vl xs.length xs.length xs.length):=Lib.hid ⟨hfr.1,hfr.2.less (by omega)⟩;have HXX:=Lib.hid hxw;clear hfr hxw HI HROW;go_wp2_with fail
    go_ret2
    exact ⟨_,_,_,_,_,rfl,HFF.out,HXX.out⟩
/- Plain: a matrix with values for its first variables: what evaluate.Fix computes. -/
theorem jhe (x:Rat):x * (((x.den:Int)):Rat)=((x.num:Int):Rat):=by
 have h:((x.den:Int):Rat)=(x.den:Rat):=by push_cast; rfl
 have h1:=Rat.mkRat_self x;rw [Rat.mkRat_eq_div] at h1;have h2:(x.den:Rat) ≠ 0:=fun e=>by
  have:x.den=0:=by exact_mod_cast e
  have:=x.den_pos;omega
 have h3:((x.num:Rat) / (x.den:Rat)) * (x.den:Rat)=(x.num:Rat):=Rat.div_mul_cancel h2;rw [h1] at h3;rw [h];exact h3
theorem qhe {b : Rat} (h : 0 < b) : ∀ n : Nat, 0 < b ^ n
 | 0=>by rw [Rat.pow_zero]; decide
 | n+1=>by rw [Rat.pow_succ]; exact Rat.mul_pos (qhe h n) h
/- Plain: a polynomial with rational values for its variables, one after the other, where it has them. -/
def xc9 (xs : List Rat) (p : Pl) : Nat -> Pl
 | 0=>p
 | k+1=>if 0 < mdg (k+1) (xc9 xs p k) then (xc9 xs p k).atQ (k+1) (xs.getD k 0).num (xs.getD k 0).den else xc9 xs p k
theorem Fit.mono_ {p:Pl} {E D D':Nat} (h:Fit p E D) (hd:D<=D'):Fit p E D':=⟨h.can,h.ex,Nat.lt_of_lt_of_le h.nr (Nat.pow_le_pow_right (by decide) hd)⟩
theorem qg8 {xs : List Rat} {L : Nat} (hL : ∀ x ∈ xs, rlen x <= L) (h1 : 1 <= L) {p : Pl} {E D : Nat} (h : Fit p E D) : ∀ k, Fit (xc9 xs p k) E (D + L * E * k)
 | 0=>h
 | k+1=>by
   have hx:rlen (xs.getD k 0)<=L:=by
    rw [List.getD_eq_getElem?_getD]
    by_cases hk:k < xs.length
    · rw [List.getElem?_eq_getElem hk];exact hL _ (List.getElem_mem hk)
    · rw [List.getElem?_eq_none (by omega)];exact zdi 0 (by simp [uc5]) h1
   have hdg:∀ k:Nat,(dg k).length<=L->k < B32 ^ L:=fun k hk=>by
    have h1:=gc9 (qdj k);rw [jc3] at h1;exact Nat.lt_of_lt_of_le h1 (Nat.pow_le_pow_right (by decide) hk)
   rw [xc9,Nat.mul_succ,<- Nat.add_assoc]
   split
   · exact (qg8 hL h1 h k).atQ (by omega) (hdg _ (Nat.le_trans (zg2 _) hx)) (hdg _ (Nat.le_trans (ygv _) hx))
   · exact (qg8 hL h1 h k).mono_ (Nat.le_add_right _ _)
theorem xgv {xs : List Rat} {p : Pl} (h : p.Can) : ∀ k, (xc9 xs p k).Can
 | 0=>h
 | k+1=>by
   rw [xc9]
   split
   · exact Pl.atQ_can (by omega) (xgv h k)
   · exact xgv h k
theorem qhb {xs : List Rat} {p : Pl} (h : p.Can) : ∀ k, (xc9 xs p k).lv <= p.lv
 | 0=>Int.le_refl _
 | k+1=>by
   rw [xc9]
   split
   · exact Int.le_trans (Pl.atL_all (by omega) _ (xgv h k)).2 (qhb h k)
   · exact qhb h k
theorem uhy (x:Rat):(0:Rat) < (((x.den:Int)):Rat):=by
 have:(0:Int) < (x.den:Int):=by have:=x.den_pos; omega
 exact_mod_cast this
theorem xhx {xs : List Rat} {p : Pl} (h : p.Can) {ρ : Int -> Rat} : ∀ k, (∀ i : Nat, i < k -> ρ ((i : Int) + 1) = xs.getD i 0) -> ∃ c : Rat, 0 < c /\ (xc9 xs p k).val ρ = c * p.val ρ
 | 0,_=>⟨1,by decide,by rw [xc9]; grind⟩
 | k+1,hρ=>by
   obtain ⟨c,hc,e⟩:=xhx h k fun i hi=>hρ i (by omega)
   rw [xc9]
   split
   · have hx:ρ ((k:Int)+1) * ((((xs.getD k 0).den:Int)):Rat)=(((xs.getD k 0).num:Int):Rat):=by
      rw [hρ k (by omega)];exact jhe _
     refine ⟨((((xs.getD k 0).den:Int)):Rat) ^ ((xc9 xs p k).dgL ((k:Int)+1)).toNat * c,Rat.mul_pos (qhe (uhy _) _) hc,?_⟩;rw [Pl.atQ_val (by omega) hx (xgv h k),e]
     grind
   · exact ⟨c,hc,e⟩
theorem vdj {l z:Int} {p:Pl} (h:vdb l p):vdb l (p.mul (Pl.const z)):=fun ρ ρ' he=>by
 rw [Pl.mul_val,Pl.mul_val,Pl.const_val,Pl.const_val,h ρ ρ' he]
theorem khj {l a b : Int} : ∀ cs : List Pl, (∀ c ∈ cs, vdb l c) -> vdb l (horP a b cs)
 | [],_=>jg8 l
 | [c],h=>h c (by simp)
 | c :: d :: r,h=>fun ρ ρ' he=>by
   have h1:=vdj (z:=a) (khj (a:=a) (b:=b) (d :: r) fun x hx=>h x (List.mem_cons_of_mem _ hx)) ρ ρ' he;have h2:=vdj (z:=b ^ (r.length+1)) (h c (by simp)) ρ ρ' he;simp only [horP];rw [Pl.add_val,Pl.add_val,h1,h2]
theorem Pl.atL_indep {l a b : Int} {n : Nat} (hl : 1 <= l) : ∀ p : Pl, p.Can -> vdb l (p.atL l a b n)
 | .mk lv ng ds cs,h=>by
   have h4:=h.lv_nonneg;simp only [Pl.lv] at h4;rw [Pl.atL]
   by_cases h1:lv < l
   · rw [if_pos h1];exact vdj (ygw h h1)
   · obtain ⟨-,-,h2,hk,-⟩:=h.kids (by omega);rw [if_neg h1]
     by_cases h3:lv=l
     · rw [if_pos h3];exact vdj (khj _ fun c hc=>ygw (hk.mem c hc).2 (by have:=(hk.mem c hc).1; omega))
     · rw [if_neg h3,kgv];have hk2:vc7 lv (cs.map (Pl.atL l a b n)):=xgs fun x hx=>by
        obtain ⟨c,hc,rfl⟩:=List.mem_map.1 hx;have h5:=hk.mem c hc;have h6:=Pl.atL_all (a:=a) (b:=b) (n:=n) hl c h5.2;exact ⟨by omega,h6.1⟩
       intro ρ ρ' he;have ht:=(xg3 (by omega) h4.2 hk2).2.2;rw [ht,ht];refine kgu (he lv h3) _ fun x hx=>?_
       obtain ⟨c,hc,rfl⟩:=List.mem_map.1 hx;exact Pl.atL_indep hl c (hk.mem c hc).2 ρ ρ' he
theorem zij {l:Int} (hl:1<=l) (hl4:l<=4) {p:Pl} (h:p.Can) (hd:mdg l p<=0):vdb l p:=by
 have hc:=Pl.cfL_coefs hl hl4 h;unfold mdg at hd;intro ρ ρ' he;rw [<- hc.val ρ,<- hc.val ρ'];have hi:=hc.ind
 revert hi hd
 generalize p.cfL l=L;intro hd hi
 match L,hd with
 | [],_=>rfl
 | [c],_=>simp only [zc3,Rat.mul_zero,Rat.add_zero]; exact hi c (by simp) ρ ρ' he
 | c :: d :: r,hd=>simp only [List.length_cons] at hd; omega
theorem xg8 {xs : List Rat} {p : Pl} (h : p.Can) : ∀ (k : Nat) (j : Int), k <= 4 -> 1 <= j -> j <= k -> vdb j (xc9 xs p k)
 | 0,j,_,h1,h2=>by omega
 | k+1,j,h0,h1,h2=>by
   have hc:=xgv (xs:=xs) h k;rw [xc9]
   by_cases hd:0 < mdg (k+1) (xc9 xs p k)
   · rw [if_pos hd];have hi:vdb ((k:Int)+1) ((xc9 xs p k).atQ (k+1) (xs.getD k 0).num (xs.getD k 0).den):=Pl.atL_indep (by omega) _ hc
     by_cases hj:j=k+1
     · rw [hj]; exact hi
     · have ih:=xg8 (xs:=xs) h k j (by omega) h1 (by omega);intro ρ ρ' he
       let up:(Int->Rat)->Int->Rat:=fun σ i=>if i=(k:Int)+1 then xs.getD k 0 else σ i
       have key:∀ σ:Int->Rat,((xc9 xs p k).atQ (k+1) (xs.getD k 0).num (xs.getD k 0).den).val σ=((((xs.getD k 0).den:Int)):Rat) ^ ((xc9 xs p k).dgL ((k:Int)+1)).toNat * (xc9 xs p k).val (up σ):=fun σ=>by
        rw [hi σ (up σ) (fun i hne=>by show σ i=if i=(k:Int)+1 then _ else σ i; rw [if_neg hne])];refine Pl.atQ_val (by omega) ?_ hc;show (if (k:Int)+1=(k:Int)+1 then xs.getD k 0 else σ _) * _=_;rw [if_pos rfl];exact jhe _
       rw [key ρ,key ρ',ih (up ρ) (up ρ') (fun i hne=>by
        show (if i=(k:Int)+1 then _ else ρ i)=(if i=(k:Int)+1 then _ else ρ' i)
        rw [he i hne])]
   · rw [if_neg hd]
     by_cases hj:j=k+1
     · rw [hj]; exact zij (by omega) (by omega) hc (by omega)
     · exact xg8 h k j (by omega) h1 (by omega)
theorem uhw {p:Pl} (h:p.Can) (hi:1<=p.lv->vdb p.lv p):p.lv=0:=by
 have h4:=h.lv_nonneg
 by_cases h0:p.lv=0
 · exact h0
 exfalso
 replace hi:=hi (by omega)
 cases p with
 | mk lv ng ds cs =>
   simp only [Pl.lv] at h4 h0 hi;obtain ⟨-,-,h2,hk,-⟩:=h.kids (by omega)
   match cs,h2 with
   | c :: r,h2 =>
     have hc:=hk.mem c (by simp);have:Pl.mk lv ng ds (c :: r)=c:=Pl.val_uniq h hc.2 fun ρ=>by
      rw [hi ρ (fun i=>if i=lv then 0 else ρ i) (fun i hne=>by rw [if_neg hne]),Pl.mk_val _ _ _ _ (by omega) h4.2,zc3,if_pos rfl,Rat.zero_mul,Rat.add_zero];exact Pl.val_low c hc.2 fun j hj=>by rw [if_neg (by omega)]
     have h5:=congrArg Pl.lv this;simp only [Pl.lv] at h5;have:=hc.1;simp only [Pl.lv] at this;cases c with
     | mk l' n' d' c'=>simp only [Pl.lv] at h5 this; omega
theorem qhj {xs:List Rat} {p:Pl} (h:p.Can) {n:Nat} (h4:n<=4) (hn:p.lv<=n):(xc9 xs p n).lv=0:=
 uhw (xgv h n) fun h1=>xg8 h n _ h4 h1 (Int.le_trans (qhb h n) hn)
/- Layer 22: recpoly.add of two. -/
theorem Fit.copy {p:Pl} {E D:Nat} (h:Fit p E D) (hE:E<=1000):p.sz<=1099511627776:=Nat.le_trans h.sz (Nat.le_trans (Nat.pow_le_pow_left (show E+2<=1002 by omega) 4) (by decide))
theorem jiz {w:World} {qa qb:Nat->Prop} {p q:Pl} {A0 A1 B0 B1:Option Addr} {n0 c0 c1 m0 d0 d1:Nat} (hp:PlV w qa p (plV p (.slice A0 n0 c0) (.slice A1 p.cs.length c1))) (hq:PlV w qb q (plV q (.slice B0 m0 d0) (.slice B1 q.cs.length d1))) (T:TypeId) :
 kc3 (w.alloc (.cells #[.int .i64 p.lv,.bool p.neg,.slice A0 n0 c0,.slice A1 p.cs.length c1,.int .i64 q.lv,.bool q.neg,.slice B0 m0 d0,.slice B1 q.cs.length d1] T)) (fun _=>True) [p,q] (some ⟨w.heap.size,0,none⟩) 0:=by
 refine ⟨⟨⟨w.heap.size,0,none⟩,_,_,rfl,by simp,trivial,?_,(hp.ext ((Ext.refl w).alloc _)).mono fun _ _=>trivial⟩,⟨⟨w.heap.size,0,none⟩,_,_,rfl,by simp,trivial,?_,(hq.ext ((Ext.refl w).alloc _)).mono fun _ _=>trivial⟩,trivial⟩
 · refine ⟨?_,?_,?_,?_⟩ <;> simp [go_sem,zc9]
 · refine ⟨?_,?_,?_,?_⟩ <;> simp [go_sem,zc9]
theorem ui4 {w:World} {qa:Nat->Prop} {p q:Pl} {A:Option Addr} {c E D:Nat} (hp:Fit p E D) (hq:Fit q E D) (hE:E<=1000000) (hD:D+1<=17592186044000) (hc1:2<=c) (hc2:c<=9223372036854775807) (h:kc3 w qa [p,q] A 0) :
 Calls Tryz.prog 23 #[.slice A 2 c] w (vc4 (fun b=>w.heap.size<=b) (p.add q) w):=by
 have h1:=wi4 (E:=E) (D:=D+1) [p,q] A c hE hD (fun x hx=>by
  simp only [List.mem_cons,List.not_mem_nil,or_false] at hx;rcases hx with rfl | rfl
  · exact ⟨hp.can,hp.ex⟩
  · exact ⟨hq.can,hq.ex⟩) (by
  have:=hp.nr; have:=hq.nr;rw [lnr,lnr,lnr,Nat.pow_succ];have:2<=B32:=by decide
  have:=Nat.mul_le_mul_left (B32 ^ D) this
  omega) (by simp) hc1 hc2 h
 rw [qiw] at h1;exact h1
end Go.Proofs.YtopddaabiinboaaGreat
