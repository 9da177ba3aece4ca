/- Law 41: CollinsReducta. -/
import Derived.Test.YtklnlgnnlmdibaaGreatMr25
import Derived.Test.YtklnlgnnlmdibaaGreatMr36
import Derived.Test.YtklnlgnnlmdibaaGreatMr37
import Derived.Test.YtklnlgnnlmdibaaGreatFitW
set_option linter.unusedSimpArgs false
set_option linter.unusedVariables false

set_option maxRecDepth 100000
set_option maxHeartbeats 8000000
namespace Go.Proofs.YtklnlgnnlmdibaaGreat
open Go.RowKit
theorem yba {w:World} {ts:List qaf} {l:Int} (v:Value) (h:jak w v ts):Calls Tryz.prog 4 #[v,.int .i64 l] w (kak true w):=by
 have H0:=Lib.hid h;have HFW:=Lib.hid (fun W' (hx:Ext w W')=>zb4 8 5 (h.ext hx));obtain ⟨A,c,rfl,hc1,hc2,-⟩:=h;go_enter Tryz.func4,Tryz.ntmps4;go_wp2_with fail;refine (wb3 w).mono ?_;rintro e w1 ⟨rfl,x1⟩;have X1:=Lib.hid x1;clear x1;go_wp2_with fail;refine (HFW.out _ X1.out).mono ?_;rintro e w2 ⟨b,rfl,hb,x2⟩;have X2:=Lib.hid (X1.out.trans x2);clear x2;cases b with
 | false =>
   go_wp2_with fail;go_ret;exact ⟨rfl,X2.out⟩
 | true =>
   obtain ⟨hn,hf⟩:=hb rfl;have HOF:=Lib.hid (kb1 (n:=8) (d:=4) (E:=5) _ (H0.out.ext X2.out) hf hn (by omega) (by omega) (by omega));have HFIT:=Lib.hid (wbq (n:=8) (d:=4) (E:=5) H0.out.dig hf hn (by omega)).1;generalize Pl.ofS (yad ts)=f at *;clear hb hn hf HFW H0;go_wp2_with fail;refine HOF.out.mono ?_;rintro e w3 ⟨v3,rfl,p3,x3⟩;obtain ⟨A0,m0,e0,B0,f0,rfl,-⟩:=id p3.open_;have X3:=Lib.hid (X2.out.trans x3);have P3:=Lib.hid p3;clear p3 x3 HOF;unfold plV;obtain ⟨V,hV⟩:∃ V,(w3.alloc (.cells #[.int .i64 f.lv,.bool f.neg,.slice A0 m0 e0,.slice B0 f.cs.length f0] 35))=V:=⟨_,rfl⟩;obtain ⟨g,hg⟩:∃ g,w3.heap.size=g:=⟨_,rfl⟩;have hbx:jb V g f (.slice A0 m0 e0) (.slice B0 f.cs.length f0):=by rw [<- hV,<- hg]; exact jb.new w3 f _ _ _
   have hxV:Ext w3 V:=by rw [<- hV]; exact (Ext.refl w3).alloc _
   have hgV:g < V.heap.size:=by rw [<- hV,<- hg]; simp
   have HBX:=Lib.hid hbx;have HXV:=Lib.hid (X3.out.trans hxV);have HP:=Lib.hid (P3.out.ext hxV);clear hxV P3 X3
   by_cases hl:l < 1\/4 < l
   · have HR:=Lib.hid (kbl (l:=l) _ hl HP.out);have hdl:(decide (l < 1) || decide (4 < l))=true:=by simpa using hl
     obtain ⟨b0,b1,b2,b3⟩:=hbx;unfold plV at HR;go_wp2_with fail;clear hV hg b0 b1 b2 b3;refine HR.out.mono ?_;rintro e w4 ⟨v4,rfl,⟨D4,c4,rfl,-,-,-⟩,x4⟩;have X4:=Lib.hid (HXV.out.trans x4);simp only [List.length_nil];clear x4 HR;rcases hl with hl | hl
     all_goals
      go_wp2_with fail;go_ret;exact ⟨rfl,X4.out⟩
   · have hl1:1<=l:=by omega
     have hl4:l<=4:=by omega
     have hdl1:¬ l < 1:=by omega
     have hdl2:¬ 4 < l:=by omega
     have HR:=Lib.hid (vbl (l:=l) _ hl1 hl4 HP.out HFIT.out (by omega) (by omega));have HRR:=Lib.hid (fun (W':World) (hx:Ext V W')=>qbu (l:=l) _ hl1 hl4 (HP.out.ext hx) HFIT.out (by omega) (by omega));have HDF:=Lib.hid (fun (W':World) (hx:Ext V W')=>vac (l:=l) _ HFIT.out.can (HFIT.out.copy_ (by omega)) (by have:=HFIT.out.dm; omega) (HP.out.ext hx));have hmf:=xal (l:=l) HFIT.out.can HFIT.out.ex;have HADJ:Hid (∀ i x y,(xh l f)[i]?=some x->(xh l f)[i+1]?=some y->y=jy l x/\(ul l x).lv ≠ 0):=Lib.hid (fun i x y hx hy=>by
      obtain ⟨h1,e1⟩:=List.getElem?_eq_some_iff.1 hx;obtain ⟨h2,e2⟩:=List.getElem?_eq_some_iff.1 hy;have:=ja5 (l:=l) _ _ i h2;rw [<- e1,<- e2]
      exact this)
     have HFT:Hid (∀ x ∈ xh l f,Fit x 5 10/\0 < mdg l x):=Lib.hid (fun x hx=>by
      have:=xa5 HFIT.out (by have:B32=4294967296:=rfl; omega) x hx
      exact ⟨this.1.mono (by omega) (by omega),this.2⟩)
     have HNIL:Hid ((xh l f).length=0 ↔ mdg l f < 1):=Lib.hid yb0;have hlen:(xh l f).length<=5:=by have:=yai (l:=l) (mdg l f).toNat f; unfold xh; omega
     obtain ⟨b0,b1,b2,b3⟩:=hbx;unfold plV at HR HRR HDF;generalize xh l f=L at *;generalize mdg l f=mf at *;go_wp2_with fail;clear hV hg b0 b1 b2 b3 hmf;refine HR.out.mono ?_;rintro e w4 ⟨v4,rfl,⟨D4,c4,rfl,hr1,hr2,hat⟩,x4⟩;have HAT:=Lib.hid hat;have X4:=Lib.hid x4;clear x4 HR hat;go_wp2_with fail
     go_loopw [8] (fun iv wr=>∃ k:Nat,(k=0\/k+1<=L.length)/\iv=.int .i64 ((k+1:Nat):Int)/\Hid (Ext w4 wr)) (fun iv _=>L.length - (intOf iv).toNat)
     case atStart=>exact ⟨0,.inl rfl,rfl,Ext.refl w4⟩
     case round =>
      obtain ⟨k,hk,rfl,HXR⟩:=hrel
      by_cases hlt:k+1 < L.length
      · obtain ⟨ad,C0,Cn,Cc,C1,Cm,Cd,rfl,hadb,hnd,hkt⟩:=jd.kid (HAT.out.ext HXR.out) k (by omega);obtain ⟨ad',S0,Sn,Sc,S1,Sm,Sd,e9,hadb',hnd',hkt'⟩:=jd.kid (HAT.out.ext HXR.out) (k+1) hlt;injection e9 with e9
        subst e9;obtain ⟨r,hr⟩:∃ r,L[k]=r:=⟨_,rfl⟩;obtain ⟨s,hs⟩:∃ s,L[k+1]=s:=⟨_,rfl⟩;obtain ⟨hsr,hlv⟩:=HADJ.out k r s (by rw [List.getElem?_eq_getElem (by omega),hr]) (by rw [List.getElem?_eq_getElem hlt,hs]);obtain ⟨hfr,hd0⟩:=HFT.out r (by rw [<- hr]; exact List.getElem_mem _);obtain ⟨hfs,-⟩:=HFT.out s (by rw [<- hs]; exact List.getElem_mem _);rw [hr] at hnd hkt;rw [hs] at hnd' hkt';have hmd:=xal (l:=l) hfr.can hfr.ex;have hlf:=zaq (l:=l) hfr;have hvf:=(Pl.var_fit l).1;have hpf:=hvf.pow_le (n:=(mdg l r).toNat) (m:=5) (by omega);have hmf2:=hlf.mul hpf;have hrl:=yb9 hl1 hl4 hfr.can (by omega:0<=mdg l r);rw [<- hsr] at hrl;have HNR:=Lib.hid hnd;have HNS:=Lib.hid hnd';have HPR:=Lib.hid hkt;have HPS:=Lib.hid hkt';have HLD:=Lib.hid (fun (W':World) (q:Nat->Prop) (u:Value) (hu:PlV W' q r u)=>qal u hl1 hl4 hfr (by omega) (by omega) hu);have HDG:=Lib.hid (fun (W':World) (q:Nat->Prop) (u:Value) (hu:PlV W' q r u)=>vac (l:=l) u hfr.can (hfr.copy_ (by omega)) (by have:=hfr.dm; omega) hu);have HVAR:=Lib.hid (fun W'=>ua8 l W');have HPOW:=Lib.hid (fun (W':World) (q:Nat->Prop) (u:Value) (hu:PlV W' q (Pl.var l) u)=>kao (n:=mdg l r) u hu hvf (by omega) (by omega) (by omega));have HMUL:=Lib.hid (fun (W':World) (q1 q2:Nat->Prop) (u1 u2:Value) (h1:PlV W' q1 (ul l r) u1) (h2:PlV W' q2 ((Pl.var l).pow (mdg l r).toNat) u2)=>qav u1 u2 h1 h2 hlf hpf (by omega) (by omega));have HADD:=Lib.hid (fun (W':World) (q1 q2:Nat->Prop) (u1 u2:Value) (h1:PlV W' q1 s u1) (h2:PlV W' q2 ((ul l r).mul ((Pl.var l).pow (mdg l r).toNat)) u2)=>ubl (E:=20) (D:=20) u1 u2 h1 h2 (hfs.mono (by omega) (by omega)) (hmf2.mono (by omega) (by omega)) (by omega) (by omega));rw [hrl] at HADD;have HSAME:=Lib.hid (fun (W':World) (q1 q2:Nat->Prop) (u1 u2:Value) (h1:PlV W' q1 r u1) (h2:PlV W' q2 r u2)=>yax (E:=5) (D:=10) u1 u2 h1 h2 (hfr.small (by omega)) (by have:=hfr.dm; omega) (hfr.small (by omega)) (by have:=hfr.dm; omega) (by rw [Pl.nf_of_can hfr.can]; exact hfr) (by omega));rw [qag rfl] at HSAME;have HLEV:=Lib.hid (fun (W':World) (q:Nat->Prop) (u:Value) (hu:PlV W' q (ul l r) u)=>ubv (ul l r) u hu (hlf.small (by omega)) (by rw [Pl.nf_of_can hlf.can]; have:=hlf.small (by omega); omega) (by have:=hlf.dm; omega));rw [Pl.nf_of_can hlf.can] at HLEV;have hbr:(ad.add (k * 4)).block < wr.heap.size:=by rw [ja]; exact hadb
        have hbs:(ad.add ((k+1) * 4)).block < wr.heap.size:=by rw [ja]; exact hadb
        have hwk:IntKind.i64.wrap (k:Int)=k:=by simp [IntKind.wrap,IntKind.bits,IntKind.signed]; omega
        have hkl:k < L.length:=by omega
        have hk0:(0:Int)<=(k:Int)+1:=by omega
        have hk1:(k:Int)+1 < L.length:=by omega
        clear hnd hnd' hkt hkt' hfr hfs hsr hmd hlf hvf hpf hmf2 hrl hr hs hd0 hadb' hk;generalize mdg l r=md at *;generalize ul l r=ld at *;obtain ⟨xv,hxv⟩:∃ xv,Pl.var l=xv:=⟨_,rfl⟩;rw [hxv] at HVAR HPOW HMUL HADD;obtain ⟨pw,hpw⟩:∃ pw,xv.pow md.toNat=pw:=⟨_,rfl⟩;rw [hpw] at HPOW HMUL HADD;obtain ⟨pm,hpm⟩:∃ pm,ld.mul pw=pm:=⟨_,rfl⟩;rw [hpm] at HMUL HADD;clear hxv hpw hpm;have HSS:Hid (∀ W',Ext wr W'->(Ext wr W'/\(W'.cell? (ad.add (k * 4))=some (.int .i64 r.lv)/\W'.cell? ⟨(ad.add (k * 4)).block,(ad.add (k * 4)).off+1,none⟩=some (.bool r.neg)/\W'.cell? ⟨(ad.add (k * 4)).block,(ad.add (k * 4)).off+2,none⟩=some (.slice C0 Cn Cc)/\W'.cell? ⟨(ad.add (k * 4)).block,(ad.add (k * 4)).off+3,none⟩=some (.slice C1 Cm Cd)))):=Lib.hid (fun W' hx=>⟨hx,HNR.out.ext hx hbr⟩);have y0:Ext wr wr.drew:=(Ext.refl wr).drew;have Y0:=Lib.hid y0;clear y0;go_upto_region 12 with fail
        go_cut [9] from 36 to 83 (fun sv wc=>∃ o:Nat,sv=.pointer (some ⟨o,0,none⟩)/\Hid (Ext wr wc/\PBx wc (fun _=>True) o pm))
        case' first =>
         refine wp_region_held_drew (S:=fun W'=>Ext wr W'/\(W'.cell? (ad.add (k * 4))=some (.int .i64 r.lv)/\W'.cell? ⟨(ad.add (k * 4)).block,(ad.add (k * 4)).off+1,none⟩=some (.bool r.neg)/\W'.cell? ⟨(ad.add (k * 4)).block,(ad.add (k * 4)).off+2,none⟩=some (.slice C0 Cn Cc)/\W'.cell? ⟨(ad.add (k * 4)).block,(ad.add (k * 4)).off+3,none⟩=some (.slice C1 Cm Cd))) (by kernel_rfl) (HSS.out _ Y0.out) (fun hHeld=>?_);refine tk 0 ?_;refine tk 1 ?_;refine tk 2 ?_;refine tk 3 ?_;refine tk 4 ?_ (hy:=Or.inl ⟨by rfl,by intro w' hSw; obtain ⟨-,k0,k1,k2,k3⟩:=hSw; go_simp; (try (with_reducible rfl))⟩);refine tk 5 ?_;refine tk 7 ?_;refine tk 9 ?_;refine tk 10 ?_;refine tk 11 ?_;refine tk 12 ?_;refine tk 13 ?_ (hy:=Or.inl ⟨by rfl,by intro w' hSw; obtain ⟨-,k0,k1,k2,k3⟩:=hSw; go_simp; (try (with_reducible rfl))⟩);refine tk 14 ?_;refine wpAnyH_ready (rs:=[6,18]) (by kernel_rfl) (by simp) ?_;refine AllReadyH.cons rfl (fun K hK=>?c1) (AllReadyH.cons rfl (fun K hK=>?a1) AllReadyH.nil)
         case' c1 =>
          go_simp
          go_at_call 18
          refine (HLD.out _ _ _ (HPR.out.ext Y0.out)).mono ?_;rintro e u1 ⟨z1,rfl,pl,x1⟩;obtain ⟨F1,i1,h1,G1,d1,rfl,-⟩:=id pl.open_;unfold plV;have y1:=Y0.out.trans x1;refine hK.out _ _ (HSS.out _ y1) (fun hHeld=>?_);clear hK K
          try simp only [Act.put,List.getElem_toArray,List.getElem_cons_zero,List.getElem_cons_succ,List.setIfInBounds_toArray,List.set_cons_zero,List.set_cons_succ]
          refine wpAnyH_ready (rs:=[8,18]) (by kernel_rfl) (by simp) ?_;refine AllReadyH.cons rfl (fun K hK=>?c2) (AllReadyH.cons rfl (fun K hK=>?a2) AllReadyH.nil)
          case' c2 =>
           go_simp
           go_at_call 20
           refine (HVAR.out u1).mono ?_;rintro e u2 ⟨z2,rfl,pv,x2⟩;obtain ⟨F2,i2,h2,G2,d2,rfl,-⟩:=id pv.open_;unfold plV
           replace pl:=pl.ext x2
           have y2:=y1.trans x2;refine hK.out _ _ (HSS.out _ y2) (fun hHeld=>?_);clear hK K
           try simp only [Act.put,List.getElem_toArray,List.getElem_cons_zero,List.getElem_cons_succ,List.setIfInBounds_toArray,List.set_cons_zero,List.set_cons_succ]
           refine wpAnyH_ready (rs:=[15,18]) (by kernel_rfl) (by simp) ?_;refine AllReadyH.cons rfl (fun K hK=>?c3) (AllReadyH.cons rfl (fun K hK=>?a3) AllReadyH.nil)
           case' c3 =>
            go_simp
            go_at_call 21
            refine (HDG.out _ _ _ (HPR.out.ext y2)).mono ?_;rintro e u3 ⟨rfl,x3⟩
            replace pl:=pl.ext x3
            replace pv:=pv.ext x3
            have y3:=y2.trans x3;refine hK.out _ _ (HSS.out _ y3) (fun hHeld=>?_);clear hK K
            try simp only [Act.put,List.getElem_toArray,List.getElem_cons_zero,List.getElem_cons_succ,List.setIfInBounds_toArray,List.set_cons_zero,List.set_cons_succ]
            refine wpAnyH_ready (rs:=[16,18]) (by kernel_rfl) (by simp) ?_;refine AllReadyH.cons rfl (fun K hK=>?c4) (AllReadyH.cons rfl (fun K hK=>?a4) AllReadyH.nil)
            case' c4 =>
             go_simp
             go_at_call 19
             refine (HPOW.out _ _ _ pv).mono ?_;rintro e u4 ⟨z4,rfl,pp,x4⟩;obtain ⟨F4,i4,h4,G4,d4,rfl,-⟩:=id pp.open_;unfold plV
             replace pl:=pl.ext x4
             clear pv;have y4:=y3.trans x4;refine hK.out _ _ (HSS.out _ y4) (fun hHeld=>?_);clear hK K
             try simp only [Act.put,List.getElem_toArray,List.getElem_cons_zero,List.getElem_cons_succ,List.setIfInBounds_toArray,List.set_cons_zero,List.set_cons_succ]
             refine wpAnyH_ready (rs:=[17,18]) (by kernel_rfl) (by simp) ?_;refine AllReadyH.cons rfl (fun K hK=>?c5) (AllReadyH.cons rfl (fun K hK=>?a5) AllReadyH.nil)
             case' c5 =>
              go_simp
              go_at_call 17
              refine (HMUL.out _ _ _ _ _ pl pp).mono ?_;rintro e u5 ⟨z5,rfl,pm1,x5⟩;obtain ⟨F5,i5,h5,G5,d5,rfl,-⟩:=id pm1.open_;unfold plV;clear pl;clear pp;have y5:=y4.trans x5;refine hK.out _ _ (HSS.out _ y5) (fun hHeld=>?_);clear hK K
              try simp only [Act.put,List.getElem_toArray,List.getElem_cons_zero,List.getElem_cons_succ,List.setIfInBounds_toArray,List.set_cons_zero,List.set_cons_succ]
              refine wpAnyH_ready (rs:=[18]) (by kernel_rfl) (by simp) ?_;refine AllReadyH.cons rfl (fun K hK=>?_) AllReadyH.nil;go_simp;obtain ⟨Vz,hV⟩:∃ V,(u5.alloc (.cells #[.int .i64 0,.bool false,.slice none 0 0,.slice none 0 0] 35))=V:=⟨_,rfl⟩;obtain ⟨o,ho⟩:∃ o,u5.heap.size=o:=⟨_,rfl⟩;have hz:PBx Vz (fun _=>False) o Pl.zero:=by rw [<- hV,<- ho]; exact PBx.new (Pl.zero_v _ _ none 0 (by omega)) _
              have y6:Ext wr Vz:=by rw [<- hV]; exact y5.alloc _
              have hoW:wr.heap.size<=o:=by rw [<- ho]; exact y5.size
              have hovo:o < Vz.heap.size:=hz.1;have hopo:=Lib.hid ho.symm;have yxVz:Ext u5 Vz:=by rw [<- hV]; exact (Ext.refl _).alloc _
              try rw [hV]
              try rw [ho]
              refine hK.out _ _ (HSS.out _ y6) (fun hHeld=>?_);clear hK K hV ho
              try simp only [Act.put,List.getElem_toArray,List.getElem_cons_zero,List.getElem_cons_succ,List.setIfInBounds_toArray,List.set_cons_zero,List.set_cons_succ]
              replace pm1:=pm1.below_.ext yxVz
              have yE:=y6;have hpo:PlV _ (fun b=>b ≠ o) pm _:=pm1.mono fun b hb=>by have:=hb.2; have:=hopo.out; omega
             case' a5 =>
              go_simp;obtain ⟨Vz,hV⟩:∃ V,(u4.alloc (.cells #[.int .i64 0,.bool false,.slice none 0 0,.slice none 0 0] 35))=V:=⟨_,rfl⟩;obtain ⟨o,ho⟩:∃ o,u4.heap.size=o:=⟨_,rfl⟩;have hz:PBx Vz (fun _=>False) o Pl.zero:=by rw [<- hV,<- ho]; exact PBx.new (Pl.zero_v _ _ none 0 (by omega)) _
              have y5:Ext wr Vz:=by rw [<- hV]; exact y4.alloc _
              have hoW:wr.heap.size<=o:=by rw [<- ho]; exact y4.size
              have hovo:o < Vz.heap.size:=hz.1;have hopo:=Lib.hid ho.symm;have yxVz:Ext u4 Vz:=by rw [<- hV]; exact (Ext.refl _).alloc _
              try rw [hV]
              try rw [ho]
              refine hK.out _ _ (HSS.out _ y5) (fun hHeld=>?_);clear hK K hV ho
              try simp only [Act.put,List.getElem_toArray,List.getElem_cons_zero,List.getElem_cons_succ,List.setIfInBounds_toArray,List.set_cons_zero,List.set_cons_succ]
              replace pl:=pl.ext yxVz
              replace pp:=pp.ext yxVz
              refine wpAnyH_ready (rs:=[17]) (by kernel_rfl) (by simp) ?_;refine AllReadyH.cons rfl (fun K hK=>?_) AllReadyH.nil;go_simp
              go_at_call 17
              have hos:o < Vz.heap.size:=hz.1;refine (HMUL.out _ _ _ _ _ pl pp).mono ?_;rintro e u6 ⟨z6,rfl,pm1,x6⟩;obtain ⟨F6,i6,h6,G6,d6,rfl,-⟩:=id pm1.open_;unfold plV;clear pl;clear pp
              replace hz:=hz.ext x6
              have y6:=y5.trans x6;refine hK.out _ _ (HSS.out _ y6) (fun hHeld=>?_);clear hK K
              try simp only [Act.put,List.getElem_toArray,List.getElem_cons_zero,List.getElem_cons_succ,List.setIfInBounds_toArray,List.set_cons_zero,List.set_cons_succ]
              have yE:=y6;have hpo:PlV _ (fun b=>b ≠ o) pm _:=pm1.mono fun b hb=>by have:=hos; omega
            case' a4 =>
             go_simp;obtain ⟨Vz,hV⟩:∃ V,(u3.alloc (.cells #[.int .i64 0,.bool false,.slice none 0 0,.slice none 0 0] 35))=V:=⟨_,rfl⟩;obtain ⟨o,ho⟩:∃ o,u3.heap.size=o:=⟨_,rfl⟩;have hz:PBx Vz (fun _=>False) o Pl.zero:=by rw [<- hV,<- ho]; exact PBx.new (Pl.zero_v _ _ none 0 (by omega)) _
             have y4:Ext wr Vz:=by rw [<- hV]; exact y3.alloc _
             have hoW:wr.heap.size<=o:=by rw [<- ho]; exact y3.size
             have hovo:o < Vz.heap.size:=hz.1;have hopo:=Lib.hid ho.symm;have yxVz:Ext u3 Vz:=by rw [<- hV]; exact (Ext.refl _).alloc _
             try rw [hV]
             try rw [ho]
             refine hK.out _ _ (HSS.out _ y4) (fun hHeld=>?_);clear hK K hV ho
             try simp only [Act.put,List.getElem_toArray,List.getElem_cons_zero,List.getElem_cons_succ,List.setIfInBounds_toArray,List.set_cons_zero,List.set_cons_succ]
             replace pl:=pl.ext yxVz
             replace pv:=pv.ext yxVz
             refine wpAnyH_ready (rs:=[16]) (by kernel_rfl) (by simp) ?_;refine AllReadyH.cons rfl (fun K hK=>?_) AllReadyH.nil;go_simp
             go_at_call 19
             refine (HPOW.out _ _ _ pv).mono ?_;rintro e u5 ⟨z5,rfl,pp,x5⟩;obtain ⟨F5,i5,h5,G5,d5,rfl,-⟩:=id pp.open_;unfold plV
             replace pl:=pl.ext x5
             clear pv
             replace hz:=hz.ext x5
             have y5:=y4.trans x5;refine hK.out _ _ (HSS.out _ y5) (fun hHeld=>?_);clear hK K
             try simp only [Act.put,List.getElem_toArray,List.getElem_cons_zero,List.getElem_cons_succ,List.setIfInBounds_toArray,List.set_cons_zero,List.set_cons_succ]
             refine wpAnyH_ready (rs:=[17]) (by kernel_rfl) (by simp) ?_;refine AllReadyH.cons rfl (fun K hK=>?_) AllReadyH.nil;go_simp
             go_at_call 17
             have hos:o < u5.heap.size:=hz.1;refine (HMUL.out _ _ _ _ _ pl pp).mono ?_;rintro e u6 ⟨z6,rfl,pm1,x6⟩;obtain ⟨F6,i6,h6,G6,d6,rfl,-⟩:=id pm1.open_;unfold plV;clear pl
             replace hz:=hz.ext x6
             clear pp;have y6:=y5.trans x6;refine hK.out _ _ (HSS.out _ y6) (fun hHeld=>?_);clear hK K
             try simp only [Act.put,List.getElem_toArray,List.getElem_cons_zero,List.getElem_cons_succ,List.setIfInBounds_toArray,List.set_cons_zero,List.set_cons_succ]
             have yE:=y6;have hpo:PlV _ (fun b=>b ≠ o) pm _:=pm1.mono fun b hb=>by have:=hos; omega
           case' a3 =>
            go_simp;obtain ⟨Vz,hV⟩:∃ V,(u2.alloc (.cells #[.int .i64 0,.bool false,.slice none 0 0,.slice none 0 0] 35))=V:=⟨_,rfl⟩;obtain ⟨o,ho⟩:∃ o,u2.heap.size=o:=⟨_,rfl⟩;have hz:PBx Vz (fun _=>False) o Pl.zero:=by rw [<- hV,<- ho]; exact PBx.new (Pl.zero_v _ _ none 0 (by omega)) _
            have y3:Ext wr Vz:=by rw [<- hV]; exact y2.alloc _
            have hoW:wr.heap.size<=o:=by rw [<- ho]; exact y2.size
            have hovo:o < Vz.heap.size:=hz.1;have hopo:=Lib.hid ho.symm;have yxVz:Ext u2 Vz:=by rw [<- hV]; exact (Ext.refl _).alloc _
            try rw [hV]
            try rw [ho]
            refine hK.out _ _ (HSS.out _ y3) (fun hHeld=>?_);clear hK K hV ho
            try simp only [Act.put,List.getElem_toArray,List.getElem_cons_zero,List.getElem_cons_succ,List.setIfInBounds_toArray,List.set_cons_zero,List.set_cons_succ]
            replace pl:=pl.ext yxVz
            replace pv:=pv.ext yxVz
            refine wpAnyH_ready (rs:=[15]) (by kernel_rfl) (by simp) ?_;refine AllReadyH.cons rfl (fun K hK=>?_) AllReadyH.nil;go_simp
            go_at_call 21
            refine (HDG.out _ _ _ (HPR.out.ext y3)).mono ?_;rintro e u4 ⟨rfl,x4⟩
            replace pl:=pl.ext x4
            replace pv:=pv.ext x4
            replace hz:=hz.ext x4
            have y4:=y3.trans x4;refine hK.out _ _ (HSS.out _ y4) (fun hHeld=>?_);clear hK K
            try simp only [Act.put,List.getElem_toArray,List.getElem_cons_zero,List.getElem_cons_succ,List.setIfInBounds_toArray,List.set_cons_zero,List.set_cons_succ]
            refine wpAnyH_ready (rs:=[16]) (by kernel_rfl) (by simp) ?_;refine AllReadyH.cons rfl (fun K hK=>?_) AllReadyH.nil;go_simp
            go_at_call 19
            refine (HPOW.out _ _ _ pv).mono ?_;rintro e u5 ⟨z5,rfl,pp,x5⟩;obtain ⟨F5,i5,h5,G5,d5,rfl,-⟩:=id pp.open_;unfold plV
            replace pl:=pl.ext x5
            clear pv
            replace hz:=hz.ext x5
            have y5:=y4.trans x5;refine hK.out _ _ (HSS.out _ y5) (fun hHeld=>?_);clear hK K
            try simp only [Act.put,List.getElem_toArray,List.getElem_cons_zero,List.getElem_cons_succ,List.setIfInBounds_toArray,List.set_cons_zero,List.set_cons_succ]
            refine wpAnyH_ready (rs:=[17]) (by kernel_rfl) (by simp) ?_;refine AllReadyH.cons rfl (fun K hK=>?_) AllReadyH.nil;go_simp
            go_at_call 17
            have hos:o < u5.heap.size:=hz.1;refine (HMUL.out _ _ _ _ _ pl pp).mono ?_;rintro e u6 ⟨z6,rfl,pm1,x6⟩;obtain ⟨F6,i6,h6,G6,d6,rfl,-⟩:=id pm1.open_;unfold plV;clear pl
            replace hz:=hz.ext x6
            clear pp;have y6:=y5.trans x6;refine hK.out _ _ (HSS.out _ y6) (fun hHeld=>?_);clear hK K
            try simp only [Act.put,List.getElem_toArray,List.getElem_cons_zero,List.getElem_cons_succ,List.setIfInBounds_toArray,List.set_cons_zero,List.set_cons_succ]
            have yE:=y6;have hpo:PlV _ (fun b=>b ≠ o) pm _:=pm1.mono fun b hb=>by have:=hos; omega
          case' a2 =>
           go_simp;obtain ⟨Vz,hV⟩:∃ V,(u1.alloc (.cells #[.int .i64 0,.bool false,.slice none 0 0,.slice none 0 0] 35))=V:=⟨_,rfl⟩;obtain ⟨o,ho⟩:∃ o,u1.heap.size=o:=⟨_,rfl⟩;have hz:PBx Vz (fun _=>False) o Pl.zero:=by rw [<- hV,<- ho]; exact PBx.new (Pl.zero_v _ _ none 0 (by omega)) _
           have y2:Ext wr Vz:=by rw [<- hV]; exact y1.alloc _
           have hoW:wr.heap.size<=o:=by rw [<- ho]; exact y1.size
           have hovo:o < Vz.heap.size:=hz.1;have hopo:=Lib.hid ho.symm;have yxVz:Ext u1 Vz:=by rw [<- hV]; exact (Ext.refl _).alloc _
           try rw [hV]
           try rw [ho]
           refine hK.out _ _ (HSS.out _ y2) (fun hHeld=>?_);clear hK K hV ho
           try simp only [Act.put,List.getElem_toArray,List.getElem_cons_zero,List.getElem_cons_succ,List.setIfInBounds_toArray,List.set_cons_zero,List.set_cons_succ]
           replace pl:=pl.ext yxVz
           refine wpAnyH_ready (rs:=[8]) (by kernel_rfl) (by simp) ?_;refine AllReadyH.cons rfl (fun K hK=>?_) AllReadyH.nil;go_simp
           go_at_call 20
           refine (HVAR.out Vz).mono ?_;rintro e u3 ⟨z3,rfl,pv,x3⟩;obtain ⟨F3,i3,h3,G3,d3,rfl,-⟩:=id pv.open_;unfold plV
           replace pl:=pl.ext x3
           replace hz:=hz.ext x3
           have y3:=y2.trans x3;refine hK.out _ _ (HSS.out _ y3) (fun hHeld=>?_);clear hK K
           try simp only [Act.put,List.getElem_toArray,List.getElem_cons_zero,List.getElem_cons_succ,List.setIfInBounds_toArray,List.set_cons_zero,List.set_cons_succ]
           refine wpAnyH_ready (rs:=[15]) (by kernel_rfl) (by simp) ?_;refine AllReadyH.cons rfl (fun K hK=>?_) AllReadyH.nil;go_simp
           go_at_call 21
           refine (HDG.out _ _ _ (HPR.out.ext y3)).mono ?_;rintro e u4 ⟨rfl,x4⟩
           replace pl:=pl.ext x4
           replace hz:=hz.ext x4
           replace pv:=pv.ext x4
           have y4:=y3.trans x4;refine hK.out _ _ (HSS.out _ y4) (fun hHeld=>?_);clear hK K
           try simp only [Act.put,List.getElem_toArray,List.getElem_cons_zero,List.getElem_cons_succ,List.setIfInBounds_toArray,List.set_cons_zero,List.set_cons_succ]
           refine wpAnyH_ready (rs:=[16]) (by kernel_rfl) (by simp) ?_;refine AllReadyH.cons rfl (fun K hK=>?_) AllReadyH.nil;go_simp
           go_at_call 19
           refine (HPOW.out _ _ _ pv).mono ?_;rintro e u5 ⟨z5,rfl,pp,x5⟩;obtain ⟨F5,i5,h5,G5,d5,rfl,-⟩:=id pp.open_;unfold plV
           replace pl:=pl.ext x5
           replace hz:=hz.ext x5
           clear pv;have y5:=y4.trans x5;refine hK.out _ _ (HSS.out _ y5) (fun hHeld=>?_);clear hK K
           try simp only [Act.put,List.getElem_toArray,List.getElem_cons_zero,List.getElem_cons_succ,List.setIfInBounds_toArray,List.set_cons_zero,List.set_cons_succ]
           refine wpAnyH_ready (rs:=[17]) (by kernel_rfl) (by simp) ?_;refine AllReadyH.cons rfl (fun K hK=>?_) AllReadyH.nil;go_simp
           go_at_call 17
           have hos:o < u5.heap.size:=hz.1;refine (HMUL.out _ _ _ _ _ pl pp).mono ?_;rintro e u6 ⟨z6,rfl,pm1,x6⟩;obtain ⟨F6,i6,h6,G6,d6,rfl,-⟩:=id pm1.open_;unfold plV;clear pl
           replace hz:=hz.ext x6
           clear pp;have y6:=y5.trans x6;refine hK.out _ _ (HSS.out _ y6) (fun hHeld=>?_);clear hK K
           try simp only [Act.put,List.getElem_toArray,List.getElem_cons_zero,List.getElem_cons_succ,List.setIfInBounds_toArray,List.set_cons_zero,List.set_cons_succ]
           have yE:=y6;have hpo:PlV _ (fun b=>b ≠ o) pm _:=pm1.mono fun b hb=>by have:=hos; omega
         case' a1 =>
          go_simp;obtain ⟨Vz,hV⟩:∃ V,(wr.alloc (.cells #[.int .i64 0,.bool false,.slice none 0 0,.slice none 0 0] 35)).drew=V:=⟨_,rfl⟩;obtain ⟨o,ho⟩:∃ o,wr.heap.size=o:=⟨_,rfl⟩;have hz:PBx Vz (fun _=>False) o Pl.zero:=by rw [<- hV,<- ho]; exact (PBx.new (Pl.zero_v _ _ none 0 (by omega)) _).ext (Ext.refl _).drew
          have y1:Ext wr Vz:=by rw [<- hV]; exact ((Ext.refl wr).alloc _).drew
          have hoW:wr.heap.size<=o:=by rw [<- ho]; exact (Ext.refl wr).size
          have hovo:o < Vz.heap.size:=hz.1;have hopo:=Lib.hid ho.symm;have yxVz:Ext wr Vz:=by rw [<- hV]; exact ((Ext.refl _).alloc _).drew
          try rw [hV]
          try rw [ho]
          refine hK.out _ _ (HSS.out _ y1) (fun hHeld=>?_);clear hK K hV ho
          try simp only [Act.put,List.getElem_toArray,List.getElem_cons_zero,List.getElem_cons_succ,List.setIfInBounds_toArray,List.set_cons_zero,List.set_cons_succ]
          refine wpAnyH_ready (rs:=[6]) (by kernel_rfl) (by simp) ?_;refine AllReadyH.cons rfl (fun K hK=>?_) AllReadyH.nil;go_simp
          go_at_call 18
          refine (HLD.out _ _ _ (HPR.out.ext y1)).mono ?_;rintro e u2 ⟨z2,rfl,pl,x2⟩;obtain ⟨F2,i2,h2,G2,d2,rfl,-⟩:=id pl.open_;unfold plV
          replace hz:=hz.ext x2
          have y2:=y1.trans x2;refine hK.out _ _ (HSS.out _ y2) (fun hHeld=>?_);clear hK K
          try simp only [Act.put,List.getElem_toArray,List.getElem_cons_zero,List.getElem_cons_succ,List.setIfInBounds_toArray,List.set_cons_zero,List.set_cons_succ]
          refine wpAnyH_ready (rs:=[8]) (by kernel_rfl) (by simp) ?_;refine AllReadyH.cons rfl (fun K hK=>?_) AllReadyH.nil;go_simp
          go_at_call 20
          refine (HVAR.out u2).mono ?_;rintro e u3 ⟨z3,rfl,pv,x3⟩;obtain ⟨F3,i3,h3,G3,d3,rfl,-⟩:=id pv.open_;unfold plV
          replace hz:=hz.ext x3
          replace pl:=pl.ext x3
          have y3:=y2.trans x3;refine hK.out _ _ (HSS.out _ y3) (fun hHeld=>?_);clear hK K
          try simp only [Act.put,List.getElem_toArray,List.getElem_cons_zero,List.getElem_cons_succ,List.setIfInBounds_toArray,List.set_cons_zero,List.set_cons_succ]
          refine wpAnyH_ready (rs:=[15]) (by kernel_rfl) (by simp) ?_;refine AllReadyH.cons rfl (fun K hK=>?_) AllReadyH.nil;go_simp
          go_at_call 21
          refine (HDG.out _ _ _ (HPR.out.ext y3)).mono ?_;rintro e u4 ⟨rfl,x4⟩
          replace hz:=hz.ext x4
          replace pl:=pl.ext x4
          replace pv:=pv.ext x4
          have y4:=y3.trans x4;refine hK.out _ _ (HSS.out _ y4) (fun hHeld=>?_);clear hK K
          try simp only [Act.put,List.getElem_toArray,List.getElem_cons_zero,List.getElem_cons_succ,List.setIfInBounds_toArray,List.set_cons_zero,List.set_cons_succ]
          refine wpAnyH_ready (rs:=[16]) (by kernel_rfl) (by simp) ?_;refine AllReadyH.cons rfl (fun K hK=>?_) AllReadyH.nil;go_simp
          go_at_call 19
          refine (HPOW.out _ _ _ pv).mono ?_;rintro e u5 ⟨z5,rfl,pp,x5⟩;obtain ⟨F5,i5,h5,G5,d5,rfl,-⟩:=id pp.open_;unfold plV
          replace hz:=hz.ext x5
          replace pl:=pl.ext x5
          clear pv;have y5:=y4.trans x5;refine hK.out _ _ (HSS.out _ y5) (fun hHeld=>?_);clear hK K
          try simp only [Act.put,List.getElem_toArray,List.getElem_cons_zero,List.getElem_cons_succ,List.setIfInBounds_toArray,List.set_cons_zero,List.set_cons_succ]
          refine wpAnyH_ready (rs:=[17]) (by kernel_rfl) (by simp) ?_;refine AllReadyH.cons rfl (fun K hK=>?_) AllReadyH.nil;go_simp
          go_at_call 17
          have hos:o < u5.heap.size:=hz.1;refine (HMUL.out _ _ _ _ _ pl pp).mono ?_;rintro e u6 ⟨z6,rfl,pm1,x6⟩;obtain ⟨F6,i6,h6,G6,d6,rfl,-⟩:=id pm1.open_;unfold plV
          replace hz:=hz.ext x6
          clear pl;clear pp;have y6:=y5.trans x6;refine hK.out _ _ (HSS.out _ y6) (fun hHeld=>?_);clear hK K
          try simp only [Act.put,List.getElem_toArray,List.getElem_cons_zero,List.getElem_cons_succ,List.setIfInBounds_toArray,List.set_cons_zero,List.set_cons_succ]
          have yE:=y6;have hpo:PlV _ (fun b=>b ≠ o) pm _:=pm1.mono fun b hb=>by have:=hos; omega
         all_goals
          have hfo:=hz.2.1;obtain ⟨Z0,zn,zc,Z1,zc1,⟨g0,g1,g2,g3⟩,-⟩:=hz.2.2;refine wpAnyH_ready (rs:=[19]) (by kernel_rfl) (by simp) ?_;refine AllReadyH.cons rfl (fun K hK=>?_) AllReadyH.nil;go_simp;clear g0 g1 g2 g3 hfo;refine yaf (P:=fun V7=>Ext wr V7/\PBx V7 (fun _=>True) o pm) ⟨(((yE.setCell hoW _).setCell hoW _).setCell hoW _).setCell hoW _,hz.store (hpo.mono fun b hb=>⟨trivial,hb⟩)⟩ (fun V7 hV7=>?_);obtain ⟨y9,b9⟩:=hV7;refine hK.out _ _ (HSS.out _ y9) (fun hHeld=>?_);clear hK K
          try simp only [Act.put,List.getElem_toArray,List.getElem_cons_zero,List.getElem_cons_succ,List.setIfInBounds_toArray,List.set_cons_zero,List.set_cons_succ]
          refine wpAnyH_done (by kernel_rfl) ?_ _;have HE9:Hid (Ext wr V7/\PBx V7 (fun _=>True) o pm):=Lib.hid ⟨y9,b9⟩;clear y9 b9 hHeld;go_wp2_with fail
          go_meet
          exact ⟨o,rfl,HE9⟩
        case rest =>
         obtain ⟨o,rfl,HE9⟩:=hcut;obtain ⟨y9,hoV,-,P0,Pn,Pc,P1,Pd,hbo,hpx⟩:=HE9.out;have HS3:Hid (∀ W',Ext wc W'->(Ext wc W'/\W'.cell? (ad.add (k * 4))=some (.int .i64 r.lv)/\W'.cell? ⟨(ad.add (k * 4)).block,(ad.add (k * 4)).off+1,none⟩=some (.bool r.neg)/\W'.cell? ⟨(ad.add (k * 4)).block,(ad.add (k * 4)).off+2,none⟩=some (.slice C0 Cn Cc)/\W'.cell? ⟨(ad.add (k * 4)).block,(ad.add (k * 4)).off+3,none⟩=some (.slice C1 Cm Cd)/\W'.cell? (ad.add ((k+1) * 4))=some (.int .i64 s.lv)/\W'.cell? ⟨(ad.add ((k+1) * 4)).block,(ad.add ((k+1) * 4)).off+1,none⟩=some (.bool s.neg)/\W'.cell? ⟨(ad.add ((k+1) * 4)).block,(ad.add ((k+1) * 4)).off+2,none⟩=some (.slice S0 Sn Sc)/\W'.cell? ⟨(ad.add ((k+1) * 4)).block,(ad.add ((k+1) * 4)).off+3,none⟩=some (.slice S1 Sm Sd)/\W'.cell? ⟨o,0,none⟩=some (.int .i64 pm.lv)/\W'.cell? ⟨o,1,none⟩=some (.bool pm.neg)/\W'.cell? ⟨o,2,none⟩=some (.slice P0 Pn Pc)/\W'.cell? ⟨o,3,none⟩=some (.slice P1 pm.cs.length Pd))):=Lib.hid (fun W' hx=>by
          obtain ⟨a0,a1,a2,a3⟩:=HNR.out.ext (y9.trans hx) hbr;obtain ⟨c0,c1,c2,c3⟩:=HNS.out.ext (y9.trans hx) hbs;obtain ⟨d0,d1,d2,d3⟩:=hbo.ext hx hoV
          exact ⟨hx,a0,a1,a2,a3,c0,c1,c2,c3,d0,d1,d2,d3⟩)
         have HPX:=Lib.hid hpx;have HPR9:=Lib.hid (HPR.out.ext y9);have HPS9:=Lib.hid (HPS.out.ext y9);have Y9:=Lib.hid (HXR.out.trans y9);have y0:Ext wc wc.drew:=(Ext.refl wc).drew;have D0:=Lib.hid y0;clear y9 hoV hbo hpx HE9 y0 HSS Y0 HNR HNS HPR HPS hbr hbs HVAR HPOW HMUL HDG;unfold plV at HPX HPR9 HPS9;go_upto_region 13 with fail
         go_region_held3 (fun W2 => Ext wc W2 /\ W2.cell? (ad.add (k * 4)) = some (.int .i64 r.lv) /\ W2.cell? ⟨(ad.add (k * 4)).block, (ad.add (k * 4)).off + 1, none⟩ = some (.bool r.neg) /\ W2.cell? ⟨(ad.add (k * 4)).block, (ad.add (k * 4)).off + 2, none⟩ = some (.slice C0 Cn Cc) /\ W2.cell? ⟨(ad.add (k * 4)).block, (ad.add (k * 4)).off + 3, none⟩ = some (.slice C1 Cm Cd) /\ W2.cell? (ad.add ((k + 1) * 4)) = some (.int .i64 s.lv) /\ W2.cell? ⟨(ad.add ((k + 1) * 4)).block, (ad.add ((k + 1) * 4)).off + 1, none⟩ = some (.bool s.neg) /\ W2.cell? ⟨(ad.add ((k + 1) * 4)).block, (ad.add ((k + 1) * 4)).off + 2, none⟩ = some (.slice S0 Sn Sc) /\ W2.cell? ⟨(ad.add ((k + 1) * 4)).block, (ad.add ((k + 1) * 4)).off + 3, none⟩ = some (.slice S1 Sm Sd) /\ W2.cell? ⟨o, 0, none⟩ = some (.int .i64 pm.lv) /\ W2.cell? ⟨o, 1, none⟩ = some (.bool pm.neg) /\ W2.cell? ⟨o, 2, none⟩ = some (.slice P0 Pn Pc) /\ W2.cell? ⟨o, 3, none⟩ = some (.slice P1 pm.cs.length Pd))
          (first | with_reducible exact HS3.out _ D0.out | with_reducible exact HS3.out _ y1 | with_reducible exact HS3.out _ y2 | with_reducible exact HS3.out _ y3 | with_reducible exact HS3.out _ y4)
          (first
            | (go_at_call 23
               refine (HADD.out _ _ _ _ _ (HPS9.out.ext D0.out) (HPX.out.ext D0.out)).mono ?_;rintro e v1 ⟨z1,rfl,p1,x1⟩
               have y1:Ext wc v1:=Ext.trans D0.out x1)
            | (go_at_call 22
               refine (HSAME.out _ _ _ _ _ p1 (HPR9.out.ext y1)).mono ?_;rintro e v2 ⟨rfl,x2⟩
               have y2:Ext wc v2:=Ext.trans y1 x2)
            | (go_at_call 18
               refine (HLD.out _ _ _ (HPR9.out.ext y2)).mono ?_;rintro e v3 ⟨z3,rfl,p3,x3⟩
               have y3:Ext wc v3:=Ext.trans y2 x3)
            | (go_at_call 11
               refine (HLEV.out _ _ _ p3).mono ?_;rintro e v4 ⟨rfl,x4⟩
               have y4:Ext wc v4:=Ext.trans y3 x4))
         all_goals
          have Y5:=Lib.hid (Y9.out.trans y4);clear y1 y2 y3 y4 x1 x2 x3 x4 p1 p3 HS3;go_wp2_with fail
          go_roundw
          case rel=>exact ⟨k+1,.inr (by omega),by go_num,Y5.out⟩
          case measure=>simp [intOf]; omega
      · obtain ⟨b0,b1,b2,b3⟩:=HBX.out.ext (X4.out.trans HXR.out) hgV;have HX9:=Lib.hid (X4.out.trans HXR.out);have HAT9:=Lib.hid (HAT.out.ext HXR.out);clear HAT HXR;have hk2:¬ (k:Int)+1 < L.length:=by omega
        have hnn:(decide (L.length=0))=decide (mf < 1):=by have:=HNIL.out; simp only [this]
        have HNN:=Lib.hid hnn;clear hnn HNIL;go_wp2_with fail;clear b0 b1 b2 b3;refine (HRR.out _ HX9.out).mono ?_;rintro e w5 ⟨v5,rfl,⟨D5,c5,rfl,hs1,hs2,hat5⟩,x5⟩;have HSM:=Lib.hid (zbu (c0:=c4) (c1:=c5) (E:=5) (D:=10) (HAT9.out.ext x5) hat5 (fun x hx=>(HFT.out x hx).1) (by omega) (by omega) (by omega));have X5:=Lib.hid (HX9.out.trans x5);clear x5 hat5 HRR HX9;go_wp2_with fail;refine HSM.out.mono ?_;rintro e w6 ⟨rfl,x6⟩;have X6:=Lib.hid (X5.out.trans x6);obtain ⟨b0,b1,b2,b3⟩:=HBX.out.ext X6.out hgV;clear x6 HSM;go_wp2_with fail;clear b0 b1 b2 b3;refine (HDF.out _ X6.out).mono ?_;rintro e w7 ⟨rfl,x7⟩;have X7:=Lib.hid (HXV.out.trans (X6.out.trans x7));clear x7
        by_cases hz:L.length=0
        · obtain rfl:L=[]:=List.length_eq_zero_iff.1 hz;have hm:mf < 1:=by have:=HNN.out; simpa using this
          have hmd:decide (mf < 1)=true:=by simpa using hm
          simp only [List.length_nil];go_wp2_with fail;go_ret;exact ⟨rfl,X7.out⟩
        · have hm:¬ mf < 1:=by have:=HNN.out; simpa [hz] using this
          have hmd:decide (mf < 1)=false:=by simpa using hm
          have hzd:((L.length:Int) == 0)=false:=by rw [beq_eq_false_iff_ne]; omega
          have hzn:¬ L=[]:=fun e=>hz (by rw [e]; rfl)
          clear HNN;go_wp2_with fail;go_ret;exact ⟨rfl,X7.out⟩
end Go.Proofs.YtklnlgnnlmdibaaGreat
