/- Layer 20: sparse.SignNormal; layer 23: mainvar.SignNormal. -/
import Derived.Test.YtklnlgnnlmdibaaGreatMr48
import Derived.Test.YtklnlgnnlmdibaaGreatMr40
import Derived.Test.YtklnlgnnlmdibaaGreatMr25
set_option linter.unusedSimpArgs false
set_option linter.unusedVariables false
set_option maxRecDepth 100000
set_option maxHeartbeats 8000000
namespace Go.Proofs.YtklnlgnnlmdibaaGreat
open Go.RowKit
theorem vag (d:Int) (l:Sp):(kz d l).length=l.length:=by unfold kz; rw [List.length_map]
theorem xb8 (d:Int) (l:Sp) (k:Nat) (h:k < l.length) (h':k < (kz d l).length):(kz d l)[k]=(l[k].1.tdiv d,l[k].2):=by simp [kz]
theorem gcg (z:Int):decide (sgI z < 0)=decide (z < 0):=by
 unfold sgI zh
 split
 · simp_all
 · split
   · simp; omega
   · simp; omega
theorem yb8 {l:Sp} (h:0 < l.length):sdv l=if l[0].1 < 0 then -(snc l:Int) else (snc l:Int):=by
 cases l with
 | nil=>simp at h
 | cons x r=>rfl
theorem zcl {l:Sp} {D:Nat} (h:∀ x ∈ l,(dg x.1.natAbs).length<=D) (hl:l ≠ []):(dg (sdv l).natAbs).length<=D:=by
 have:=ybg h;rw [Int.natAbs_natCast] at this;rw [xa9 hl]; exact this
theorem wb6 {w:World} {l:Sp} {D:Nat} (v:Value) (h:SpV w none v l) (hself:yh l=l) (hdg:∀ x ∈ l,(dg x.1.natAbs).length<=D) (hnz:∀ x ∈ l,x.1 ≠ 0) (hnr:(dg (xg l)).length<=D) (hlen:l.length<=1099511627776) (hD:D<=1099511627776):Calls Tryz.prog 60 #[v] w (xa8 (ssn l) w):=by
 have HV:=Lib.hid h;obtain ⟨A0,c0,rfl,-,-,-⟩:=h;have HDG:=Lib.hid hdg;have HNZ:=Lib.hid hnz;have hko:∀ z:Int,(∃ x ∈ l,x.1=z)->(none:Option Nat).getD (dg z.natAbs).length<=D:=fun z ⟨x,hx,e⟩=>by rw [<- e]; exact hdg x hx
 have HNO:=Lib.hid (zax D HV.out hko (by omega) hlen);rw [hself] at HNO;have HCN:=Lib.hid (fun (W':World) (u:Value) (hu:SpV W' none u l)=>vbp hu hself (fun x hx=>by have:=hdg x hx; omega) (by omega) hlen);have HSV:=Lib.hid (And.intro hself hnr);clear hko hself hnr hdg hnz;go_enter Tryz.func60,Tryz.ntmps60;go_wp2_with fail;refine HNO.out.mono ?_;rintro e w2 ⟨v2,rfl,s2,x2⟩;obtain ⟨A2,c2,rfl,hc2,hm2,-⟩:=id s2.1;have S2:=Lib.hid s2;have X2:=Lib.hid x2;have hs2:=x2.size;clear HNO s2 x2
 by_cases hl:l.length=0
 · have HF:Hid (SpV w2 none (.slice A2 l.length c2) (ssn l)):=Lib.hid (by
    have:l=[]:=List.eq_nil_of_length_eq_zero hl;subst this
    exact S2.out.1)
   rw [hl] at HF ⊢;clear hl;go_wp2_with fail;go_ret;exact ⟨_,rfl,HF.out,X2.out⟩
 have hl0:¬ (l.length:Int)=0:=by omega
 have hlp:0 < l.length:=by omega
 have hln:l ≠ []:=fun e=>by rw [e] at hlp; simp at hlp
 go_wp2_with fail;refine (HCN.out _ _ S2.out.1).mono ?_;rintro e w3 ⟨v3,rfl,i3,x3⟩;obtain ⟨b3,B3,n3,d3,rfl⟩:=i3.unpack;obtain ⟨W,hW⟩:∃ W,(w3.alloc (.cells #[.bool b3,.slice B3 n3 d3] 33))=W:=⟨_,rfl⟩;obtain ⟨o,ho⟩:∃ o,w3.heap.size=o:=⟨_,rfl⟩;have hxW:Ext w3 W:=by rw [<- hW]; exact (Ext.refl w3).alloc _
 have o0:W.cell? ⟨o,0,none⟩=some (.bool b3)/\W.cell? ⟨o,1,none⟩=some (.slice B3 n3 d3)/\(∀ i,W.frozen? ⟨o,i,none⟩=false):=by rw [<- hW,<- ho]; exact ⟨by simp [go_sem],by simp [go_sem],fun i=>by simp [go_sem]⟩
 have iW:yl W (.agg #[.bool b3,.slice B3 n3 d3]) ((snc l:Nat):Int):=i3.ext hxW;have soW:∀ W',Ext w2 W'->SpO w.heap.size W' (.slice A2 l.length c2) l:=fun W' hx=>by
  refine ⟨S2.out.1.ext hx,fun hp=>?_⟩;obtain ⟨g',c',e,h4,h5,h6⟩:=S2.out.2 hp;exact ⟨g',c',e,h4,Nat.lt_of_lt_of_le h5 hx.size,fun i hi=>(hx.frozen (p:=⟨g',i,none⟩) h5).trans (h6 i hi)⟩
 obtain ⟨g,cg,eg,hgb,hgl,hgf⟩:=S2.out.2 hlp;injection eg with e1 e2 e3
 subst e1 e3;have hgo:g < o:=by have:=x3.size; omega
 have h2o':w2.heap.size<=o:=by have:=x3.size; omega
 have how:o < W.heap.size:=by rw [<- hW]; simp; omega
 have HXW:=Lib.hid (x3.trans hxW);have SOW:=Lib.hid soW;have IW:=Lib.hid iW;have HO0:=Lib.hid o0;obtain ⟨Aq,cq,e,-,-,hat⟩:=(soW W (x3.trans hxW)).1;injection e with e1 e2' e3
 subst e1 e3;obtain ⟨ad,bz,Bz,nz,dz,e,hadb,htm,hcf⟩:=hat 0 hlp;injection e with e
 subst e;rw [yt,Nat.zero_add] at htm;obtain ⟨t0,t1,-⟩:=htm;simp only [Nat.zero_mul,Nat.zero_add] at t0 t1;have IZ:=Lib.hid (show yl W (.agg #[.bool bz,.slice Bz nz dz]) l[0].1 from hcf);have HSD:=Lib.hid (yb8 hlp);have HTL:=Lib.hid (zcl HDG.out hln);obtain ⟨z0,hz0⟩:∃ z0,l[0].1=z0:=⟨_,rfl⟩;rw [hz0] at IZ HSD;have HZ0:=Lib.hid hz0;have hgo':¬ g=o:=by omega
 clear i3 x3 hxW o0 iW soW e2 e2' hat hcf hadb hz0;go_wp2_with fail
 try rw [ho]
 clear hW ho t0 t1;refine (kan _ z0 _ W IZ.out.raw).mono ?_;rintro e w4 ⟨rfl,x4⟩;have hsg:=gcg z0;obtain ⟨p0,p1,pf⟩:=HO0.out;have hq0:w4.cell? ⟨o,0,none⟩=some (.bool b3):=(x4.cell (p:=⟨o,0,none⟩) how).trans p0;have hq1:w4.cell? ⟨o,1,none⟩=some (.slice B3 n3 d3):=(x4.cell (p:=⟨o,1,none⟩) how).trans p1;have hqf:∀ i,w4.frozen? ⟨o,i,none⟩=false:=fun i=>(x4.frozen (p:=⟨o,i,none⟩) how).trans (pf i)
 have I4:=Lib.hid (IW.out.ext x4);have X4:=Lib.hid (HXW.out.trans x4);have ho4:o < w4.heap.size:=by have:=x4.size; omega
 clear x4 p0 p1 pf HO0 IW HXW IZ
 by_cases hneg:z0 < 0
 case' pos =>
  have hd:decide (sgI z0 < 0)=true:=by rw [hsg]; simpa using hneg
  have HDV:Hid (-((snc l:Nat):Int)=sdv l):=Lib.hid (by rw [HSD.out,if_pos hneg]);have HNG:=Lib.hid (wch _ _ _ w4 I4.out.raw (by have:=ybg HDG.out; omega));rw [HDV.out] at HNG;generalize sgI z0=sg at *;clear hneg hsg;go_wp2_with fail;refine HNG.out.mono ?_;rintro e w5 ⟨v5,rfl,i5,x5⟩;obtain ⟨bd,Bd,nd,dd,rfl⟩:=i5.unpack;have hr0:=(x5.cell (p:=⟨o,0,none⟩) ho4).trans hq0;have hr1:=(x5.cell (p:=⟨o,1,none⟩) ho4).trans hq1;have hrf:∀ i,w5.frozen? ⟨o,i,none⟩=false:=fun i=>(x5.frozen (p:=⟨o,i,none⟩) ho4).trans (hqf i)
  obtain ⟨V,hV⟩:∃ V,((w5.setCell ⟨o,0,none⟩ (.bool bd)).setCell ⟨o,1,none⟩ (.slice Bd nd dd))=V:=⟨_,rfl⟩;have k1:(w5.setCell ⟨o,0,none⟩ (.bool bd)).cell? ⟨o,1,none⟩=some (.slice B3 n3 d3):=by rw [World.cell?_setCell_other _ _ _ _ (by simp),hr1]
  have HS:Hid (Ext w2 V/\(V.cell? ⟨o,0,none⟩=some (.bool bd)/\V.cell? ⟨o,1,none⟩=some (.slice Bd nd dd))/\yl V (.agg #[.bool bd,.slice Bd nd dd]) (sdv l)):=Lib.hid (by
   have h2o:w2.heap.size<=o:=h2o';rw [<- hV]
   exact ⟨((X4.out.trans x5).setCell h2o _).setCell h2o _,⟨by rw [World.cell?_setCell_other _ _ _ _ (by simp)]; exact World.cell?_setCell_same _ _ _ hr0,World.cell?_setCell_same _ _ _ k1⟩,(i5.box hr0 rfl _).box k1 rfl _⟩)
  have x5s:=x5.size;clear hq0 hq1 hqf i5 x5 k1 HNG;have hwo:o < V.heap.size:=by rw [<- hV]; simp only [World.setCell,Array.size_modify]; have:=x5s; omega
  go_wp2_with fail;clear hV hr0 hr1 hrf
 case' neg =>
  have hd:decide (sgI z0 < 0)=false:=by rw [hsg]; simpa using hneg
  have HDV:Hid (((snc l:Nat):Int)=sdv l):=Lib.hid (by rw [HSD.out,if_neg hneg]);rw [HDV.out] at I4;generalize sgI z0=sg at *;clear hneg hsg;obtain ⟨V,rfl⟩:∃ V,V=w4:=⟨_,rfl⟩;obtain ⟨bd,rfl⟩:∃ x,x=b3:=⟨_,rfl⟩;obtain ⟨Bd,rfl⟩:∃ x,x=B3:=⟨_,rfl⟩;obtain ⟨nd,rfl⟩:∃ x,x=n3:=⟨_,rfl⟩;obtain ⟨dd,rfl⟩:∃ x,x=d3:=⟨_,rfl⟩;have HS:=Lib.hid (And.intro X4.out (And.intro (And.intro hq0 hq1) I4.out));have hwo:=ho4;clear hq0 hq1 hqf;go_wp2_with fail
 all_goals
  have hml:∀ k,((kz (sdv l) l).take k ++ l.drop k).length=l.length:=fun k=>ga9 (vag _ l) k
  have HML:=Lib.hid hml;have hwsz:=X2.out.size
  go_loopw [24] (fun iv wr=>∃ k:Nat,k<=l.length/\iv=.int .i64 k/\Hid (SpO w.heap.size wr (.slice (some ⟨g,0,none⟩) l.length c2) ((kz (sdv l) l).take k ++ l.drop k)/\Ext w wr/\V.heap.size<=wr.heap.size/\(wr.cell? ⟨o,0,none⟩=some (.bool bd)/\wr.cell? ⟨o,1,none⟩=some (.slice Bd nd dd))/\yl wr (.agg #[.bool bd,.slice Bd nd dd]) (sdv l))) (fun iv _=>l.length - (intOf iv).toNat)
  case atStart=>exact ⟨0,Nat.zero_le _,rfl,Lib.hid ⟨by simpa using SOW.out _ HS.out.1,X2.out.trans HS.out.1,Nat.le_refl _,HS.out.2.1,HS.out.2.2⟩⟩
  case round =>
   obtain ⟨k,hk,rfl,HI⟩:=hrel
   by_cases hlt:k < l.length
   · obtain ⟨hso,hxw,hvs,⟨r0,r1⟩,hdiv⟩:=HI.out;have hlen:=HML.out k;obtain ⟨Aq,cq,e,-,-,hat⟩:=hso.1;rw [hlen] at e;injection e with e1 e2 e3
     subst e1 e3;obtain ⟨g',c',e,hgb1,hgl1,hgf1⟩:=hso.2 (by rw [hlen]; omega);rw [hlen] at e;injection e with e1 e2' e3
     injection e1 with e1
     injection e1 with e1
     subst e1 e3;obtain ⟨ad,b0,B0,n0,d0,e,hadb,htm,hcf⟩:=hat k (by rw [hlen]; exact hlt);injection e with e
     subst e;rw [wa9 (vag _ l) k hlt] at htm hcf;rw [yt,Nat.zero_add] at htm;obtain ⟨t0,t1,-⟩:=htm;simp only at t0 t1;have hq6:(⟨g,0,none⟩:Addr).add (k * 6)=⟨g,k * 6,none⟩:=by rw [yt,Nat.zero_add]
     have hg0:=hgf1 (k * 6) (by rw [hlen]; omega);have hg1:=hgf1 (k * 6+1) (by rw [hlen]; omega);have hkp:k < (kz (sdv l) l).length:=by rw [vag]; exact hlt
     have HST:=Lib.hid (ubr (vag (sdv l) l) k hlt hkp);rw [xb8 _ l k hlt] at HST;have HGT:=Lib.hid (wa9 (vag (sdv l) l) k hlt (by rw [hlen]; exact hlt));have hdk:=HDG.out l[k] (List.getElem_mem hlt);have hzk:=HNZ.out l[k] (List.getElem_mem hlt);have hdvd:=ya9 l[k] (List.getElem_mem hlt);have hsd0:=wck HNZ.out;have hdl:=HTL.out;have HEX:=Lib.hid (fun W' (hx:Ext wr W')=>qb4 (.agg #[.bool b0,.slice B0 n0 d0]) (.agg #[.bool bd,.slice Bd nd dd]) l[k].1 (sdv l) _ _ W' (yl.raw (yl.ext (show yl wr (.agg #[.bool b0,.slice B0 n0 d0]) l[k].1 from hcf) hx)) (yl.raw (hdiv.ext hx)) (by omega) (by omega) hsd0);rw [Int.tmod_eq_zero_of_dvd hdvd] at HEX;obtain ⟨z,hz⟩:∃ z,l[k].1=z:=⟨_,rfl⟩;rw [hz] at HEX HST;obtain ⟨q,hq⟩:∃ q,z.tdiv (sdv l)=q:=⟨_,rfl⟩;rw [hq] at HEX HST;have hnext:Hid ((((kz (sdv l) l).take k ++ l.drop k).set k (q,(((kz (sdv l) l).take k ++ l.drop k)[k]'(by rw [hlen]; exact hlt)).2))=(kz (sdv l) l).take (k+1) ++ l.drop (k+1)):=Lib.hid (by rw [HGT.out]; exact HST.out);have hgo2:g ≠ o:=by omega
     have hwr:o < wr.heap.size:=by omega
     have HSTEP:Hid (∀ (w3:World) (x3:Value),yl w3 x3 q->Ext wr w3->∃ b3 A3 n3 c3,x3=.agg #[.bool b3,.slice A3 n3 c3]/\(w3.cell? ⟨o,0,none⟩=some (.bool bd)/\w3.cell? ⟨o,1,none⟩=some (.slice Bd nd dd))/\(w3.cell? ⟨g,k * 6,none⟩=some (.bool b0)/\w3.cell? ⟨g,k * 6+1,none⟩=some (.slice B0 n0 d0)/\w3.frozen? ⟨g,k * 6,none⟩=false/\w3.frozen? ⟨g,k * 6+1,none⟩=false)/\(SpO w.heap.size ((w3.setCell ⟨g,k * 6,none⟩ (.bool b3)).setCell ⟨g,k * 6+1,none⟩ (.slice A3 n3 c3)) (.slice (some ⟨g,0,none⟩) l.length c2) ((kz (sdv l) l).take (k+1) ++ l.drop (k+1))/\Ext w ((w3.setCell ⟨g,k * 6,none⟩ (.bool b3)).setCell ⟨g,k * 6+1,none⟩ (.slice A3 n3 c3))/\V.heap.size<=((w3.setCell ⟨g,k * 6,none⟩ (.bool b3)).setCell ⟨g,k * 6+1,none⟩ (.slice A3 n3 c3)).heap.size/\(((w3.setCell ⟨g,k * 6,none⟩ (.bool b3)).setCell ⟨g,k * 6+1,none⟩ (.slice A3 n3 c3)).cell? ⟨o,0,none⟩=some (.bool bd)/\((w3.setCell ⟨g,k * 6,none⟩ (.bool b3)).setCell ⟨g,k * 6+1,none⟩ (.slice A3 n3 c3)).cell? ⟨o,1,none⟩=some (.slice Bd nd dd))/\yl ((w3.setCell ⟨g,k * 6,none⟩ (.bool b3)).setCell ⟨g,k * 6+1,none⟩ (.slice A3 n3 c3)) (.agg #[.bool bd,.slice Bd nd dd]) (sdv l))):=Lib.hid (by
      intro w3 x3 hn hx;obtain ⟨b3,A3,n3,c3,rfl⟩:=hn.unpack;have ev:∀ i,w3.cell? ⟨g,i,none⟩=wr.cell? ⟨g,i,none⟩:=fun i=>hx.cell (p:=⟨g,i,none⟩) hgl1
      have eo:∀ i,w3.cell? ⟨o,i,none⟩=wr.cell? ⟨o,i,none⟩:=fun i=>hx.cell (p:=⟨o,i,none⟩) hwr
      have hso3:SpO w.heap.size w3 (.slice (some ⟨g,0,none⟩) ((kz (sdv l) l).take k ++ l.drop k).length c2) ((kz (sdv l) l).take k ++ l.drop k):=by
       have h3:=HI.out.1;rw [<- hlen] at h3;refine ⟨h3.1.ext hx,fun hp=>?_⟩;obtain ⟨g',c',e,h4,h5,h6⟩:=h3.2 hp;exact ⟨g',c',e,h4,Nat.lt_of_lt_of_le h5 hx.size,fun i hi=>(hx.frozen (p:=⟨g',i,none⟩) h5).trans (h6 i hi)⟩
      have hs:=hso3.set_ k (by rw [hlen]; exact hlt) hn;rw [hnext.out,hlen] at hs;have oth:∀ i,((w3.setCell ⟨g,k * 6,none⟩ (.bool b3)).setCell ⟨g,k * 6+1,none⟩ (.slice A3 n3 c3)).cell? ⟨o,i,none⟩=w3.cell? ⟨o,i,none⟩:=fun i=>World.cell?_of_block (a:=⟨o,i,none⟩) (by rw [Below.heap_setCell _ _ _ o (by show o ≠ g; omega),Below.heap_setCell _ _ _ o (by show o ≠ g; omega)])
      have hi3:=HI.out.2.2.2.2;obtain ⟨y,ey,hy⟩:=hi3.ext hx
      refine ⟨b3,A3,n3,c3,rfl,⟨(eo 0).trans r0,(eo 1).trans r1⟩,⟨(ev _).trans t0,(ev _).trans t1,(hx.frozen (p:=⟨g,k * 6,none⟩) hgl1).trans hg0,(hx.frozen (p:=⟨g,k * 6+1,none⟩) hgl1).trans hg1⟩,hs.1,((hxw.trans hx).setCell hgb _).setCell hgb _,by simp only [World.setCell,Array.size_modify]; have:=hx.size; omega,⟨(oth 0).trans ((eo 0).trans r0),(oth 1).trans ((eo 1).trans r1)⟩,y,ey,hs.2 _ _ hy⟩)
     have y0:Ext wr wr.drew:=(Ext.refl wr).drew;have Y0:=Lib.hid y0;clear hso hxw hat hcf hadb hgf1 HST HGT hz hq hnext hdvd hzk hdk hdl hsd0 hdiv y0 e2 e2' hkp HI hml;go_upto_region 10 with fail
     go_region_law (first
      | (go_simp
         go_at_call 89
         refine (HEX.out _ Y0.out).mono ?_;rintro e w3 ⟨x3,rfl,n3',y3⟩;rw [if_pos rfl] at n3';rw [if_pos rfl];obtain ⟨b3,A3,n3,c3,rfl,⟨G0,G1⟩,⟨T0,T1,TF0,TF1⟩,hfin⟩:=HSTEP.out _ _ n3' (Y0.out.trans y3);have HFIN:=Lib.hid hfin
         clear n3' y3 hfin))
     all_goals
      clear G0 G1 T0 T1 TF0 TF1 r0 r1 t0 t1 HSTEP hg0 hg1 HEX;go_wp2_with fail
      go_roundw
      case rel=>exact ⟨k+1,by omega,by go_num,HFIN.out⟩
      case measure=>simp [intOf]; omega
   · have hke:k=l.length:=by omega
     have HF:Hid (SpV wr none (.slice (some ⟨g,0,none⟩) l.length c2) (ssn l)/\Ext w wr):=Lib.hid (by
      have h1:=HI.out.1.1;rw [hke,List.drop_length,List.append_nil,<- vag (sdv l) l,List.take_length] at h1;rw [vag] at h1
      exact ⟨h1,HI.out.2.1⟩)
     clear HI hke hml;go_wp2_with fail;go_ret;exact ⟨_,rfl,HF.out⟩
/- Layer 23: mainvar.SignNormal. -/
set_option maxRecDepth 100000
set_option maxHeartbeats 8000000
theorem jcg {w:World} {q:Nat->Prop} {p:Pl} {E D:Nat} (v:Value) (h0:PlV w q p v) (hp:Fit p E D) (hE:E<=170) (hD:D<=1099511627776):Calls Tryz.prog 69 #[v] w (jf (fun b=>w.heap.size<=b) (snP p) w):=by
 have H0:=Lib.hid h0;obtain ⟨A0,m0,e0,B0,f0,rfl,-⟩:=h0.open_;obtain ⟨Wx0,hV0⟩:∃ V,(w.alloc (.cells #[.int .i64 p.lv,.bool p.neg,.slice A0 m0 e0,.slice B0 p.cs.length f0] 35))=V:=⟨_,rfl⟩;obtain ⟨W,hV1⟩:∃ V,(Wx0.alloc (.cells #[.int .i64 0,.bool false,.slice none 0 0,.slice none 0 0] 35))=V:=⟨_,rfl⟩;have hs0:Wx0.heap.size=w.heap.size+1:=by rw [<- hV0]; simp
 have hx0:Ext w Wx0:=by rw [<- hV0]; exact (Ext.refl w).alloc _
 have hs1:W.heap.size=w.heap.size+1+1:=by rw [<- hV1,<- hs0]; simp
 have hx1:Ext Wx0 W:=by rw [<- hV1]; exact (Ext.refl Wx0).alloc _
 have hb0:jb W (w.heap.size) p (.slice A0 m0 e0) (.slice B0 p.cs.length f0):=by
  have hh:jb Wx0 w.heap.size p (.slice A0 m0 e0) (.slice B0 p.cs.length f0):=by rw [<- hV0]; exact jb.new w p _ _ _
  exact hh.ext hx1 (by omega)
 have hz:yf W (w.heap.size+1):=by
  have hh:yf W Wx0.heap.size:=by rw [<- hV1]; exact yf.new Wx0 _
  rw [hs0] at hh;exact hh
 have HZ:=Lib.hid hz;have HX:=Lib.hid (hx0.trans hx1);have HB0:=Lib.hid hb0;have hsw:W.heap.size=w.heap.size+1+1:=hs1;clear h0 hx0 hx1 hb0 hz;have HT:=Lib.hid (fun (W':World) (hx:Ext w W')=>jck p _ (H0.out.ext hx) (hp.small hE) (by have:=hp.dm; omega));have hsl:=Nat.le_trans hp.sp_len (zbr (show E<=900 by omega));have HS:=Lib.hid (fun (W':World) (u:Value) (hu:SpV W' none u p.sp)=>wb6 u hu p.sp_self hp.sp_dg (ubq _ p.sp_can) (qf hp.sp_nrm) (by omega) hD);have HO:=Lib.hid (fun (W':World) (u:Value) (hu:SpV W' none u (snP p).sp)=>xch u hu (za9 hp) (by omega) (by omega));obtain ⟨b0,b1,b2,b3⟩:=HB0.out;unfold plV at HT ⊢;clear hp hsl;go_enter Tryz.func69,Tryz.ntmps69;go_wp2_with fail;clear hV0 hV1;clear b0 b1 b2 b3;refine (HT.out _ HX.out).mono ?_;rintro e w1 ⟨v1,rfl,s1,x1⟩;have hs:=HS.out _ _ (show SpV w1 none v1 p.sp from s1);obtain ⟨A1,c1,rfl,-⟩:=s1;have X1:=Lib.hid (HX.out.trans x1);have HZ1:=Lib.hid (HZ.out.ext x1 (by omega));have hs1:=x1.size;clear x1 HT HZ;go_wp2_with fail;refine hs.mono ?_;rintro e w2 ⟨v2,rfl,s2,x2⟩;have ho:=HO.out _ _ (by rw [gck]; exact s2);obtain ⟨A2,c2,rfl,-⟩:=s2;have X2:=Lib.hid (X1.out.trans x2);have HZ2:=Lib.hid (HZ1.out.ext x2 (by omega));have hs2:=x2.size;clear x2 hs HZ1;go_wp2_with fail;refine ho.mono ?_;rintro e w3 ⟨v3,rfl,p3,x3⟩;obtain ⟨C0,j0,k0,C1,k1,rfl,-⟩:=id p3.open_;have hzn:=HZ2.out.ext x3 (by omega);have HFI:=Lib.hid (yg (q':=fun b=>w.heap.size<=b) (X2.out.trans x3) (by omega) hzn p3 (fun b _ hb=>⟨by omega,by omega⟩));obtain ⟨⟨z0,z1,z2,z3⟩,zf⟩:=hzn;obtain ⟨P,hP⟩:∃ P,snP p=P:=⟨_,rfl⟩;rw [hP] at HFI ⊢;have HPP:=Lib.hid hP;clear p3 x3 ho hP HO;unfold plV;go_wp2_with fail;obtain ⟨v9,e9,q3,q4⟩:=HFI.out;injection e9 with e9
 subst e9;exact bodyPost_ret (v:=plV P (.slice C0 j0 k0) (.slice C1 P.cs.length k1)) (by simp [results,Tryz.results69,go_sem,z0,z1,z2,z3,plV]) rfl (by rw [HPP.out]; exact ⟨_,rfl,q3,q4⟩)
end Go.Proofs.YtklnlgnnlmdibaaGreat
