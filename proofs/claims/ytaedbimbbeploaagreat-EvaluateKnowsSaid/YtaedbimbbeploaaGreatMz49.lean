/- Layer 40: evaluate.known: the sign of a polynomial, as facts state it. -/
import Derived.Test.YtaedbimbbeploaaGreatMz44
import Derived.Deep.CutBlock
import Derived.Test.YtaedbimbbeploaaGreatMz0
import Derived.Test.YtaedbimbbeploaaGreatMz48
import Derived.Test.YtaedbimbbeploaaGreatMz45
set_option linter.unusedSimpArgs false
set_option linter.unusedVariables false
set_option maxRecDepth 100000
set_option maxHeartbeats 8000000
namespace Go.Proofs.YtaedbimbbeploaaGreat
open Go.RowKit
def yz (s:Int):Int:=min (max s (-1)) 1
noncomputable def knF (P : Pl) : List (Pl × Int) -> Option Int
 | []=>none
 | (f,s) :: r=>if eqB P f.nf then some (yz s) else if eqB P.opp f.nf then some (-yz s) else knF P r
noncomputable def knP (P:Pl) (l:List (Pl × Int)):Int × Bool:=if P.lv=0 then (sgI P.z,true) else match knF P l with
 | some s=>(s,true)
 | none=>(0,false)
def vax (w:World) (v:Value) (l:List (Pl × Int)):Prop:=
 ∃ A c,v=.slice A l.length c/\l.length<=c/\c<=9223372036854775807/\∀ k (h:k < l.length),∃ ad A0 n0 c0 A1 n1 c1,A=some ad/\ad.block < w.heap.size/\jai w (ad.add (k * 5)) l[k].1 (.slice A0 n0 c0) (.slice A1 n1 c1)/\w.cell? ⟨(ad.add (k * 5)).block,(ad.add (k * 5)).off+4,none⟩=some (.int .i64 l[k].2)/\PlV w (fun _=>True) l[k].1 (plV l[k].1 (.slice A0 n0 c0) (.slice A1 n1 c1))
theorem vax.ext {w w':World} {v:Value} {l:List (Pl × Int)} (h:vax w v l) (hx:Ext w w'):vax w' v l:=by
 obtain ⟨A,c,rfl,h1,h2,h3⟩:=h;refine ⟨A,c,rfl,h1,h2,fun k hk=>?_⟩;obtain ⟨ad,A0,n0,c0,A1,n1,c1,rfl,h4,h5,h6,h7⟩:=h3 k hk;exact ⟨ad,A0,n0,c0,A1,n1,c1,rfl,Nat.lt_of_lt_of_le h4 hx.size,h5.ext hx (by rw [jb]; exact h4),(hx.cell (p:=⟨(ad.add (k * 5)).block,(ad.add (k * 5)).off+4,none⟩) (by show (ad.add (k * 5)).block < _; rw [jb]; exact h4)).trans h6,h7.ext hx⟩
def kax (l:List (Pl × Int)):Prop:=∀ x ∈ l,x.1.sz<=1073741824/\x.1.dm<=1099511627776
theorem qb9 (P:Pl) (l:List (Pl × Int)) (k:Nat) (h:k < l.length):knF P (l.drop k)=if eqB P l[k].1.nf then some (yz l[k].2) else if eqB P.opp l[k].1.nf then some (-yz l[k].2) else knF P (l.drop (k+1)):=by
 rw [List.drop_eq_getElem_cons h]
 rfl
def kcq (r:Int × Bool) (w:World) (e:Ending) (w':World):Prop:=e=.returned (.tuple #[.int .i64 r.1,.bool r.2])/\Ext w w'
theorem wbz {w:World} {q:Nat->Prop} {fv:Value} {l:List (Pl × Int)} (p:Pl) (v:Value) (h:PlV w q p v) (hsz:p.sz<=40) (hdm:p.dm<=4) (hf:vax w fv l) (hfs:kax l) :
 Calls Tryz.prog 45 #[v,fv] w (kcq (knP p.nf l) w):=by
 have hfit:=Fit.of_raw h.dig hsz hdm (by decide);have HH:=Lib.hid h;have HF:=Lib.hid hf;have HFS:=Lib.hid hfs;obtain ⟨A0,n0,c0,A,c,rfl,-,-,-,-⟩:=h.open_;obtain ⟨FA,fc,rfl,hf1,hf2,-⟩:=hf;clear h hfs;obtain ⟨W,hW⟩:∃ W,w.alloc (.cells #[.int .i64 p.lv,.bool p.neg,.slice A0 n0 c0,.slice A p.cs.length c] 29)=W:=⟨_,rfl⟩;have hWx:Ext w W:=by rw [<- hW]; exact (Ext.refl w).alloc _
 have hWs:W.heap.size=w.heap.size+1:=by rw [<- hW]; simp
 have hbx:uf W w.heap.size p (.slice A0 n0 c0) (.slice A p.cs.length c):=by rw [<- hW]; exact uf.new w p _ _ _
 have hfr:∀ i,W.frozen? ⟨w.heap.size,i,none⟩=false:=fun i=>by rw [<- hW]; simp [go_sem]
 have HFR:=Lib.hid hfr;have HBX:=Lib.hid hbx;have HWX:=Lib.hid hWx;have HCO:=Lib.hid (gbi p _ (HH.out.ext hWx) (by omega) (by omega) hfit (by omega));obtain ⟨b0,b1,b2,b3⟩:=hbx;obtain ⟨rr,hrr⟩:∃ rr,knP p.nf l=rr:=⟨_,rfl⟩;rw [hrr];have HRR:=Lib.hid hrr;have HFT:=Lib.hid hfit;clear hrr hWx hfr hfit;unfold plV at HCO;unfold plV;obtain ⟨zz,hzz⟩:∃ zz,(if p.nf.lv=0 then p.nf.z else 0)=zz:=⟨_,rfl⟩;rw [hzz] at HCO;have HZZ:=Lib.hid hzz;clear hzz;go_enter Tryz.func45,Tryz.ntmps45;go_wp2_with fail;clear hW b0 b1 b2 b3;refine HCO.out.mono ?_;rintro e w1 ⟨x1v,rfl,n1,x1⟩;obtain ⟨C0,hx1v,hn1⟩:=id n1;obtain ⟨CA,cc,rfl,-⟩:=id hn1;subst hx1v;obtain ⟨U,hU⟩:∃ U,w1.alloc (.cells #[.bool (decide (zz < 0)),.slice CA (dg zz.natAbs).length cc] 26)=U:=⟨_,rfl⟩;have hUx:Ext w1 U:=by rw [<- hU]; exact (Ext.refl _).alloc _
 have hUs:U.heap.size=w1.heap.size+1:=by rw [<- hU]; simp
 have f0:U.cell? ⟨w1.heap.size,0,none⟩=some (.bool (decide (zz < 0))):=by rw [<- hU]; simp [go_sem]
 have f1:U.cell? ⟨w1.heap.size,1,none⟩=some (.slice CA (dg zz.natAbs).length cc):=by rw [<- hU]; simp [go_sem]
 have hs1:=x1.size;have XU:=Lib.hid (x1.trans hUx)
 by_cases hl:p.nf.lv=0
 · have HR:Hid (rr=(sgI p.nf.z,true)):=Lib.hid (HRR.out.symm.trans (if_pos hl));have hzv:zz=p.nf.z:=HZZ.out.symm.trans (if_pos hl);have hd:decide (p.nf.lv=0)=true:=by simpa using hl
   have HSG:=Lib.hid (wag _ _ _ U (n1.ext hUx).raw);rw [hd];have HZV:=Lib.hid hzv;clear hzv hd hl x1 hUx n1 hn1 HCO;go_wp2_with fail;clear hU f0 f1;refine HSG.out.mono ?_;rintro e w2 ⟨rfl,x2⟩;have X2:=Lib.hid (HWX.out.trans (XU.out.trans x2));clear x2 HSG;go_wp2_with fail;exact bodyPost_ret (v:=.tuple #[.int .i64 (sgI zz),.bool true]) (by simp [results,Tryz.results45,go_sem]) rfl ⟨by rw [HR.out,HZV.out],X2.out⟩
 · have hd:decide (p.nf.lv=0)=false:=by simpa using hl
   have HR:Hid (∀ o,knF p.nf l=o->rr=match (motive:=Option Int->Int × Bool) o with | some s=>(s,true) | none=>(0,false)):=Lib.hid (fun o ho=>by rw [<- HRR.out,knP,if_neg hl,ho]);rw [hd];obtain ⟨b0,b1,b2,b3⟩:=HBX.out.ext XU.out (by omega);have HNO:=Lib.hid (war p _ (HH.out.ext (HWX.out.trans XU.out)) (by omega) (Nat.le_trans (HFT.out.small (by omega)) (by decide)) (by omega));have HNC:=Lib.hid p.nf_can;unfold plV at HNO;clear hd hl x1 hUx n1 hn1 HCO;generalize p.nf=P at *;go_wp2_with fail;clear hU b0 b1 b2 b3 f0 f1;refine HNO.out.mono ?_;rintro e w2 ⟨v2,rfl,m2,x2⟩;obtain ⟨D0,i0,g0,D1,g1,rfl,-⟩:=id m2.open_;have hs2:=x2.size;obtain ⟨b0,b1,b2,b3⟩:=HBX.out.ext (XU.out.trans x2) (by omega);have fr:∀ i,w2.frozen? ⟨w.heap.size,i,none⟩=false:=fun i=>((XU.out.trans x2).frozen (p:=⟨w.heap.size,i,none⟩) (by show w.heap.size < _; omega)).trans (HFR.out i)
   obtain ⟨W1,hW1⟩:∃ W1,((((w2.setCell ⟨w.heap.size,0,none⟩ (.int .i64 P.lv)).setCell ⟨w.heap.size,1,none⟩ (.bool P.neg)).setCell ⟨w.heap.size,2,none⟩ (.slice D0 i0 g0)).setCell ⟨w.heap.size,3,none⟩ (.slice D1 P.cs.length g1))=W1:=⟨_,rfl⟩;have X1:Hid (Ext w W1):=Lib.hid (by rw [<- hW1]; exact ((((HWX.out.trans (XU.out.trans x2)).setCell (Nat.le_refl _) _).setCell (Nat.le_refl _) _).setCell (Nat.le_refl _) _).setCell (Nat.le_refl _) _);have hbb:uf W1 w.heap.size P (.slice D0 i0 g0) (.slice D1 P.cs.length g1):=by rw [<- hW1]; exact uf.set (HBX.out.ext (XU.out.trans x2) (by omega))
   have hs3:W1.heap.size=w2.heap.size:=by rw [<- hW1]; simp [World.setCell]
   have hpl:PlV W1 (fun _=>True) P (plV P (.slice D0 i0 g0) (.slice D1 P.cs.length g1)):=by
    rw [<- hW1];exact (HBX.out.ext (XU.out.trans x2) (by omega)).keep _ _ _ _ m2 (fun b _ hb=>⟨by omega,trivial⟩)
   have HBB:=Lib.hid hbb;have HPL:=Lib.hid hpl;have HNE:=Lib.hid (wbe _ hpl HFT.out (by omega) (by omega));unfold plV at HNE;unfold plV;go_upto_region 5 with fail;obtain ⟨d0,d1,d2,d3⟩:=hbb;clear hW1 b0 b1 b2 b3 fr hpl m2 x2 HNO;go_wp2_with fail;clear d0 d1 d2 d3;refine HNE.out.mono ?_;rintro e w3 ⟨v3,rfl,m3,x3⟩;obtain ⟨E0,i1,g2,E1,g3,rfl,-⟩:=id m3.open_;have hopp:=HFT.out.opp;obtain ⟨V,hV⟩:∃ V,w3.alloc (.cells #[.int .i64 P.opp.lv,.bool P.opp.neg,.slice E0 i1 g2,.slice E1 P.opp.cs.length g3] 29)=V:=⟨_,rfl⟩;have hVx:Ext w3 V:=by rw [<- hV]; exact (Ext.refl _).alloc _
   have hVs:V.heap.size=w3.heap.size+1:=by rw [<- hV]; simp
   have hb8:uf V w3.heap.size P.opp (.slice E0 i1 g2) (.slice E1 P.opp.cs.length g3):=by rw [<- hV]; exact uf.new w3 P.opp _ _ _
   have hs4:=x3.size;have HB8:=Lib.hid hb8;have HB2:=Lib.hid (HBB.out.ext (x3.trans hVx) (by omega));have HPV:=Lib.hid (HPL.out.ext (x3.trans hVx));have HOV:=Lib.hid (m3.ext hVx);have XV:=Lib.hid (X1.out.trans (x3.trans hVx));have HOF:=Lib.hid hopp;clear x3 hVx hb8 m3 hopp HNE HBB HPL;unfold plV;go_wp2_with fail;clear hV
   go_loopw [26] (fun iv wr=>∃ k:Nat,k<=l.length/\iv=.int .i64 k/\Hid (knF P l=knF P (l.drop k)/\Ext V wr)) (fun iv _=>l.length - (intOf iv).toNat)
   case atStart=>exact ⟨0,Nat.zero_le _,rfl,⟨rfl,Ext.refl _⟩⟩
   case round =>
    obtain ⟨k,hk,rfl,⟨hkn,hx⟩⟩:=hrel;have HX:=Lib.hid hx;have HKN:=Lib.hid hkn;have hws:=hx.size;clear hx hkn
    by_cases hlt:k < l.length
    · obtain ⟨FA',fc',efv,hf1',hf2',hfk⟩:=(HF.out.ext (XV.out.trans HX.out));obtain ⟨ad,a0,a1,a2,a3,a4,a5,rfl,hadb,hat,hsg,hpl⟩:=hfk k hlt;injection efv with e1 e2 e3
      subst e1 e3;obtain ⟨hfs1,hfs2⟩:=HFS.out l[k] (List.getElem_mem hlt);have HST:=Lib.hid (HKN.out.trans (qb9 P l k hlt));obtain ⟨f,s,hfs⟩:∃ f s,l[k]=(f,s):=⟨_,_,rfl⟩;rw [hfs] at HST hat hsg hpl hfs1 hfs2;simp only at HST hat hsg hpl hfs1 hfs2;have HPL:=Lib.hid hpl;obtain ⟨U2,hU2⟩:∃ U2,wr.alloc (.cells #[.int .i64 f.lv,.bool f.neg,.slice a0 a1 a2,.slice a3 a4 a5,.int .i64 s] 56)=U2:=⟨_,rfl⟩;have hUx:Ext wr U2:=by rw [<- hU2]; exact (Ext.refl _).alloc _
      have hUs:U2.heap.size=wr.heap.size+1:=by rw [<- hU2]; simp
      have hbf:uf U2 wr.heap.size f (.slice a0 a1 a2) (.slice a3 a4 a5):=by rw [<- hU2]; refine ⟨?_,?_,?_,?_⟩ <;> simp [go_sem]
      have hb5:U2.cell? ⟨wr.heap.size,4,none⟩=some (.int .i64 s):=by rw [<- hU2]; simp [go_sem]
      have XU2:=Lib.hid (HX.out.trans hUx);have HBF:=Lib.hid hbf;obtain ⟨b0,b1,b2,b3⟩:=HB2.out.ext XU2.out (by omega);obtain ⟨d0,d1,d2,d3⟩:=hbf;obtain ⟨c0',c1',c2',c3'⟩:=hat;have hsa:=qa9 _ _ (HPV.out.ext XU2.out) (hpl.ext hUx) (HFT.out.small (by omega)) (Nat.le_trans HFT.out.dm (by omega)) (by omega) (by omega) (by rw [Pl.nf_of_can HNC.out]; exact HFT.out) (by omega);rw [Pl.nf_of_can HNC.out] at hsa;have HSA:=Lib.hid hsa;have HSB:Hid (∀ W',Ext U2 W'->Calls Tryz.prog 73 #[plV P.opp (.slice E0 i1 g2) (.slice E1 P.opp.cs.length g3),plV f (.slice a0 a1 a2) (.slice a3 a4 a5)] W' (zaa (eqB P.opp f.nf) W')):=by
       have:∀ W',Ext U2 W'->Calls Tryz.prog 73 #[plV P.opp (.slice E0 i1 g2) (.slice E1 P.opp.cs.length g3),plV f (.slice a0 a1 a2) (.slice a3 a4 a5)] W' (zaa (eqB P.opp f.nf) W'):=fun W' hx'=>by
        have h1:=qa9 _ _ (HOV.out.ext (XU2.out.trans hx')) ((HPL.out.ext hUx).ext hx') (HOF.out.small (by omega)) (Nat.le_trans HOF.out.dm (by omega)) (by omega) (by omega) (by rw [Pl.nf_of_can P.opp_can]; exact HOF.out) (by omega);rw [Pl.nf_of_can P.opp_can] at h1;exact h1
       exact this
      unfold plV at HSA HSB;have hcl:yz s=min (max s (-1)) 1:=rfl;have hcb:-1<=yz s/\yz s<=1:=by rw [hcl]; omega
      have hwn:IntKind.i64.wrap (-yz s)=-yz s:=by rw [IntKind.wrap_i64]; omega
      have HCL:=Lib.hid hcl;clear hcl hsa hpl hadb hfk hUx hfs;have H3:Hid (eqB P f.nf=true->rr=(yz s,true)):=Lib.hid (fun he=>by
       have h1:=HST.out;rw [if_pos he] at h1
       exact HR.out _ h1)
      have H4:Hid (eqB P f.nf=false->eqB P.opp f.nf=true->rr=(-yz s,true)):=Lib.hid (fun he he2=>by
       have h1:=HST.out;rw [he,if_neg (by simp),if_pos he2] at h1
       exact HR.out _ h1)
      have H5:Hid (eqB P f.nf=false->eqB P.opp f.nf=false->knF P l=knF P (l.drop (k+1))):=Lib.hid (fun he he2=>by
       have h1:=HST.out;rw [he,he2,if_neg (by simp),if_neg (by simp)] at h1
       exact h1)
      clear HST;generalize eqB P f.nf=r1 at *;generalize eqB P.opp f.nf=r2 at *;go_upto_region 10 with fail;have hcl:=HCL.out;rw [<- hcl];clear hcl HCL;generalize yz s=cl at *;go_wp2_with fail;clear hU2 b0 b1 b2 b3 d0 d1 d2 d3 c0' c1' c2' c3';refine HSA.out.mono ?_;rintro e w5 ⟨rfl,x5⟩;have hs5:=x5.size;have X5:=Lib.hid x5;clear x5 HSA;cases r1
      · have H4b:=Lib.hid (H4.out rfl);have H5b:=Lib.hid (H5.out rfl);obtain ⟨b0,b1,b2,b3⟩:=HB8.out.ext (XU2.out.trans X5.out) (by omega);obtain ⟨d0,d1,d2,d3⟩:=HBF.out.ext X5.out (by omega);go_wp2_with fail;clear b0 b1 b2 b3 d0 d1 d2 d3;refine (HSB.out _ X5.out).mono ?_;rintro e w6 ⟨rfl,x6⟩;have X6:=Lib.hid ((XU2.out.trans X5.out).trans x6);clear x6 HSB;cases r2
        · have HK2:=Lib.hid (H5b.out rfl);go_wp2_with fail
          go_roundw
          case rel=>exact ⟨k+1,by omega,by go_num,⟨HK2.out,X6.out⟩⟩
          case measure=>simp [intOf]; omega
        · have HRF:=Lib.hid (H4b.out rfl);go_wp2_with fail;exact bodyPost_ret (v:=.tuple #[.int .i64 (-cl),.bool true]) (by simp [results,Tryz.results45,go_sem]) rfl ⟨by rw [HRF.out],XV.out.trans X6.out⟩
      · have HRF:=Lib.hid (H3.out rfl);go_wp2_with fail;exact bodyPost_ret (v:=.tuple #[.int .i64 cl,.bool true]) (by simp [results,Tryz.results45,go_sem]) rfl ⟨by rw [HRF.out],XV.out.trans (XU2.out.trans X5.out)⟩
    · have hke:k=l.length:=by omega
      have HRF:Hid (rr=(0,false)):=Lib.hid (by
       have h1:=HKN.out;rw [hke,List.drop_length] at h1
       exact HR.out _ h1)
      clear hke;go_wp2_with fail;exact bodyPost_ret (v:=.tuple #[.int .i64 0,.bool false]) (by simp [results,Tryz.results45,go_sem]) rfl ⟨by rw [HRF.out],XV.out.trans HX.out⟩
/- Layer 40: Holds, and the reference's Holds. -/
def jac (r s:Int):Bool:=if r=1 then decide (s < 0) else if r=2 then decide (s<=0) else if r=4 then s != 0 else if r=5 then decide (0<=s) else if r=6 then decide (0 < s) else s == 0
theorem uar (r s:Int) (w:World):Calls Tryz.prog 21 #[.int .i64 r,.int .i64 s] w fun e w'=>e=.returned (.bool (jac r s))/\w'=w:=by
 by_cases h1:r=1
 · have hv:jac r s=(decide (s < 0)):=by subst h1; rfl
   have b1:(r == 1)=true:=by simpa using h1
   rw [hv];clear hv h1;go_enter Tryz.func21,Tryz.ntmps21;go_wp2_with fail;go_ret;exact ⟨rfl,rfl⟩
 by_cases h2:r=2
 · have hv:jac r s=(decide (s<=0)):=by subst h2; rfl
   have b1:(r == 1)=false:=by simpa using h1
   have b2:(r == 2)=true:=by simpa using h2
   rw [hv];clear hv h1 h2;go_enter Tryz.func21,Tryz.ntmps21;go_wp2_with fail;go_ret;exact ⟨rfl,rfl⟩
 by_cases h4:r=4
 · have hv:jac r s=(s != 0):=by subst h4; rfl
   have b1:(r == 1)=false:=by simpa using h1
   have b2:(r == 2)=false:=by simpa using h2
   have b4:(r == 4)=true:=by simpa using h4
   rw [hv];clear hv h1 h2 h4;go_enter Tryz.func21,Tryz.ntmps21;go_wp2_with fail;go_ret;exact ⟨rfl,rfl⟩
 by_cases h5:r=5
 · have hv:jac r s=(decide (0<=s)):=by subst h5; rfl
   have b1:(r == 1)=false:=by simpa using h1
   have b2:(r == 2)=false:=by simpa using h2
   have b4:(r == 4)=false:=by simpa using h4
   have b5:(r == 5)=true:=by simpa using h5
   rw [hv];clear hv h1 h2 h4 h5;go_enter Tryz.func21,Tryz.ntmps21;go_wp2_with fail;go_ret;exact ⟨rfl,rfl⟩
 by_cases h6:r=6
 · have hv:jac r s=(decide (0 < s)):=by subst h6; rfl
   have b1:(r == 1)=false:=by simpa using h1
   have b2:(r == 2)=false:=by simpa using h2
   have b4:(r == 4)=false:=by simpa using h4
   have b5:(r == 5)=false:=by simpa using h5
   have b6:(r == 6)=true:=by simpa using h6
   rw [hv];clear hv h1 h2 h4 h5 h6;go_enter Tryz.func21,Tryz.ntmps21;go_wp2_with fail;go_ret;exact ⟨rfl,rfl⟩
 have hv:jac r s=(s == 0):=by simp [jac,h1,h2,h4,h5,h6]
 have b1:(r == 1)=false:=by simpa using h1
 have b2:(r == 2)=false:=by simpa using h2
 have b4:(r == 4)=false:=by simpa using h4
 have b5:(r == 5)=false:=by simpa using h5
 have b6:(r == 6)=false:=by simpa using h6
 rw [hv];clear hv h1 h2 h4 h5 h6;go_enter Tryz.func21,Tryz.ntmps21;go_wp2_with fail;go_ret;exact ⟨rfl,rfl⟩
/- Relations of atoms. -/
/- Layer 40: evaluate.Known. -/
set_option maxRecDepth 100000
set_option maxHeartbeats 8000000
def knA (x:Int × Bool) (r:Int):Int:=if x.2=true then (if jac r x.1=true then 1 else -1) else 0
mutual
def Mx.kn (g : Pl -> Int × Bool) : Mx -> Int
 | .mk kd r p ks=>if kd=1 then 1 else if kd=2 then knA (g p) r else if kd=3 then uab g 1 ks else if kd=4 then gab g (-1) ks else -1
def uab (g : Pl -> Int × Bool) (a : Int) : List Mx -> Int
 | []=>a
 | t :: r=>uab g (min a (t.kn g)) r
def gab (g : Pl -> Int × Bool) (a : Int) : List Mx -> Int
 | []=>a
 | t :: r=>gab g (max a (t.kn g)) r
end
theorem Mx.kn_eq (g:Pl->Int × Bool) (t:Mx):t.kn g=if t.kind=1 then 1 else if t.kind=2 then knA (g t.p) t.rel else if t.kind=3 then uab g 1 t.ks else if t.kind=4 then gab g (-1) t.ks else -1:=by
 cases t; rw [Mx.kn]; rfl
theorem qco (x:Int × Bool) (r:Int):-1<=knA x r/\knA x r<=1:=by unfold knA; split <;> (try split) <;> omega
mutual
theorem Mx.kn_bd (g : Pl -> Int × Bool) : ∀ t : Mx, -1 <= t.kn g /\ t.kn g <= 1
 | .mk kd r p ks=>by
   rw [Mx.kn]
   split
   · omega
   · split
     · exact qco _ _
     · split
       · exact gbg g ks 1 (by omega)
       · split
         · exact wbg g ks (-1) (by omega)
         · omega
theorem gbg (g : Pl -> Int × Bool) : ∀ (l : List Mx) (a : Int), -1 <= a /\ a <= 1 -> -1 <= uab g a l /\ uab g a l <= 1
 | [],a,h=>by rw [uab]; exact h
 | t :: r,a,h=>by rw [uab]; have:=t.kn_bd g; exact gbg g r _ (by omega)
theorem wbg (g : Pl -> Int × Bool) : ∀ (l : List Mx) (a : Int), -1 <= a /\ a <= 1 -> -1 <= gab g a l /\ gab g a l <= 1
 | [],a,h=>by rw [gab]; exact h
 | t :: r,a,h=>by rw [gab]; have:=t.kn_bd g; exact wbg g r _ (by omega)
end
theorem yb0 (g:Pl->Int × Bool) (l:List Mx):uab g (-1) l=-1:=by
 induction l with
 | nil=>rfl
 | cons t r ih=>rw [uab,show min (-1) (t.kn g)=-1 by have:=t.kn_bd g; omega,ih]
theorem xb0 (g:Pl->Int × Bool) (l:List Mx):gab g 1 l=1:=by
 induction l with
 | nil=>rfl
 | cons t r ih=>rw [gab,show max 1 (t.kn g)=1 by have:=t.kn_bd g; omega,ih]
theorem ubs (g:Pl->Int × Bool) (a:Int) (l:List Mx) (k:Nat) (h:k < l.length):uab g a (l.drop k)=uab g (min a (l[k].kn g)) (l.drop (k+1)):=by
 rw [List.drop_eq_getElem_cons h,uab]
theorem gbs (g:Pl->Int × Bool) (a:Int) (l:List Mx) (k:Nat) (h:k < l.length):gab g a (l.drop k)=gab g (max a (l[k].kn g)) (l.drop (k+1)):=by
 rw [List.drop_eq_getElem_cons h,gab]
def gcq (w0:World) (q:Nat->Prop) (fv:Value) (l:List (Pl × Int)) (n:Nat):Prop:=∀ (t:Mx) (v:Value) (w:World),t.sz < n->t.sz<=1000000->t.small->MxV w0 q t v->Ext w0 w->Calls Tryz.prog 18 #[v,fv] w (jl (t.kn fun p=>knP p.nf l) w)
theorem xcq {w0:World} {q:Nat->Prop} {fv:Value} {l:List (Pl × Int)} (hf:vax w0 fv l) (hfs:kax l) (n:Nat):gcq w0 q fv l n:=by
 induction n with
 | zero=>intro t v w h; omega
 | succ n ih =>
 intro t v w hn hbig hsm h hx0;have hkl:t.ks.length<=1000000:=by have:=t.ks_len; omega
 have IH:=Lib.hid ih;have HSZ:=Lib.hid (fun k hk=>t.kid_le k hk);have HSM:=Lib.hid (Mx.ks_small hsm);have hps:=Mx.p_small hsm;obtain ⟨A0,n0,c0,A,n1,c1,K,c,rfl,hp,hl1,hl2,h4⟩:=h.open_;obtain ⟨FA,fc,rfl,-,-,-⟩:=id hf;have HF:=Lib.hid hf;have HP:=Lib.hid hp;have H4:=Lib.hid h4;obtain ⟨W,hW⟩:∃ W,w.alloc (.cells #[.int .i64 t.kind,.int .i64 t.rel,.int .i64 t.p.lv,.bool t.p.neg,.slice A0 n0 c0,.slice A n1 c1,.slice K t.ks.length c] 32)=W:=⟨_,rfl⟩;have hWx:Ext w W:=by rw [<- hW]; exact (Ext.refl w).alloc _
 have hWs:W.heap.size=w.heap.size+1:=by rw [<- hW]; simp
 have hbx:jab W w.heap.size t (.slice A0 n0 c0) (.slice A n1 c1) (.slice K t.ks.length c):=by rw [<- hW]; exact jab.new w t _ _ _ _
 have HWX:=Lib.hid hWx;have HX0:=Lib.hid (hx0.trans hWx);have HBX:=Lib.hid hbx;obtain ⟨b0,b1,b2,b3,b4,b5,b6⟩:=hbx;have HKC:=Lib.hid (wbz t.p _ (HP.out.ext HX0.out) hps.1 hps.2 (HF.out.ext HX0.out) hfs);clear h ih h4 hWx hp hx0 hf hsm hps;unfold mxV;unfold plV at HKC;obtain ⟨g,hg⟩:∃ g:Pl->Int × Bool,(fun p=>knP p.nf l)=g:=⟨_,rfl⟩;have hgp:knP t.p.nf l=g t.p:=by rw [<- hg]
 rw [hg];have HKN:=Lib.hid (t.kn_eq g);rw [hgp] at HKC;have HG:=Lib.hid hg;clear hg hgp;generalize t.kn g=res at *;go_enter Tryz.func18,Tryz.ntmps18
 by_cases k1:t.kind=1
 · have htv:=HKN.out;rw [if_pos k1] at htv;have q1:(t.kind == 1)=true:=by simpa using k1
   clear k1;go_wp2_with fail;go_ret;exact ⟨by rw [htv]; rfl,HWX.out⟩
 have q1:(t.kind == 1)=false:=by simpa using k1
 by_cases k2:t.kind=2
 · have htv:=HKN.out;rw [if_neg k1,if_pos k2] at htv;have q2:(t.kind == 2)=true:=by simpa using k2
   obtain ⟨gs,gb,hgb⟩:∃ gs gb,g t.p=(gs,gb):=⟨_,_,rfl⟩;rw [hgb] at HKC htv;have HT:=Lib.hid htv;clear k1 k2 htv hgb;go_wp2_with fail;clear hW b0 b1 b2 b3 b4 b5 b6;refine HKC.out.mono ?_;rintro e w1 ⟨rfl,x1⟩;have X1:=Lib.hid (HWX.out.trans x1);obtain ⟨b0,b1,b2,b3,b4,b5,b6⟩:=HBX.out.ext x1 (by omega);clear x1 HKC;cases gb
   · have HR:Hid (res=0):=Lib.hid (by rw [HT.out]; rfl);go_wp2_with fail;go_ret;exact ⟨by rw [HR.out]; rfl,X1.out⟩
   · go_wp2_with fail;clear b0 b1 b2 b3 b4 b5 b6;refine (uar _ _ _).mono ?_;rintro e w2 ⟨rfl,rfl⟩;have HR:Hid (res=if jac t.rel gs=true then 1 else -1):=Lib.hid (by rw [HT.out]; rfl);generalize jac t.rel gs=hb at *;cases hb
     · go_wp2_with fail;go_ret;exact ⟨by rw [HR.out]; rfl,X1.out⟩
     · go_wp2_with fail;go_ret;exact ⟨by rw [HR.out]; rfl,X1.out⟩
 have q2:(t.kind == 2)=false:=by simpa using k2
 by_cases k3:t.kind=3
 · have htv:=HKN.out;rw [if_neg k1,if_neg k2,if_pos k3] at htv;have HT:=Lib.hid htv;have q3:(t.kind == 3)=true:=by simpa using k3
   clear k1 k2 k3 htv HKC;go_wp2_with fail;clear hW b0 b1 b2 b3 b4 b5 b6
   go_loopw [7,39] (fun rv iv wr=>∃ (k:Nat) (a:Int),k<=t.ks.length/\iv=.int .i64 k/\rv=.int .i64 a/\Hid ((-1<=a/\a<=1)/\res=uab g a (t.ks.drop k)/\Ext W wr)) (fun _ iv _=>t.ks.length - (intOf iv).toNat)
   case atStart=>exact ⟨0,1,Nat.zero_le _,rfl,rfl,⟨by omega,HT.out,Ext.refl W⟩⟩
   case round =>
    obtain ⟨k,a,hk,rfl,rfl,⟨habd,hres,hxw⟩⟩:=hrel;have HRES:=Lib.hid hres;have HXW:=Lib.hid hxw;have HAB:=Lib.hid habd;clear hres hxw habd
    by_cases hlt:k < t.ks.length
    · obtain ⟨ad,B0,m0,d0,B1,m1,d1,K2,n2,c2,rfl,hadb,hnd,hkt⟩:=ui.kid H4.out k hlt;obtain ⟨e0,e1,e2,e3,e4,e5,e6⟩:=hnd.ext (HX0.out.trans HXW.out) (by rw [jb]; exact hadb);have HKID:=Lib.hid (fun W' (hW':Ext wr W')=>IH.out t.ks[k] _ W' (by have:=HSZ.out k hlt; omega) (by have:=HSZ.out k hlt; omega) (xag HSM.out (List.getElem_mem hlt)) hkt ((HX0.out.trans HXW.out).trans hW'));rw [HG.out] at HKID;have HST:=Lib.hid (HRES.out.trans (ubs g a t.ks k hlt));have hbd:=t.ks[k].kn_bd g;have hab:=HAB.out;unfold mxV at HKID;clear hkt hnd hadb;generalize t.ks[k].kn g=z at *;generalize t.ks[k]=tk at *;go_wp2_with fail;clear e0 e1 e2 e3 e4 e5 e6;refine (HKID.out _ ((Ext.refl wr).alloc _)).mono ?_;rintro e v1 ⟨rfl,x1⟩;have X1:=Lib.hid (HXW.out.trans (((Ext.refl wr).alloc _).trans x1));clear x1 HKID;obtain ⟨mz,hmz⟩:∃ mz,min a z=mz:=⟨_,rfl⟩;have hmb:-1<=mz/\mz<=1:=by rw [<- hmz]; omega
      rw [hmz] at HST
      by_cases hlow:mz=-1
      · have HR:Hid (res=-1):=Lib.hid (by rw [HST.out,hlow,yb0]);subst hlow;have HMZ:=hmz;go_wp2_with fail;go_ret;exact ⟨by rw [HR.out]; rfl,HWX.out.trans X1.out⟩
      · have hge:¬ mz < 0:=by omega
        have hge2:0<=mz:=by omega
        have HMB:=Lib.hid hmb;clear hmb hlow;go_wp2_with fail
        go_roundw
        case rel=>exact ⟨k+1,mz,by omega,by go_num,rfl,⟨HMB.out,HST.out,X1.out⟩⟩
        case measure=>simp [intOf]; omega
    · have hke:k=t.ks.length:=by omega
      have HR:Hid (res=a):=Lib.hid (by
       have h1:=HRES.out;rw [hke,List.drop_length] at h1
       exact h1)
      clear hke;go_wp2_with fail;go_ret;exact ⟨by rw [HR.out]; rfl,HWX.out.trans HXW.out⟩
 have q3:(t.kind == 3)=false:=by simpa using k3
 by_cases k4:t.kind=4
 · have htv:=HKN.out;rw [if_neg k1,if_neg k2,if_neg k3,if_pos k4] at htv;have HT:=Lib.hid htv;have q4:(t.kind == 4)=true:=by simpa using k4
   clear k1 k2 k3 k4 htv HKC;go_wp2_with fail;clear hW b0 b1 b2 b3 b4 b5 b6
   go_loopw [10,57] (fun rv iv wr=>∃ (k:Nat) (a:Int),k<=t.ks.length/\iv=.int .i64 k/\rv=.int .i64 a/\Hid ((-1<=a/\a<=1)/\res=gab g a (t.ks.drop k)/\Ext W wr)) (fun _ iv _=>t.ks.length - (intOf iv).toNat)
   case atStart=>exact ⟨0,(-1),Nat.zero_le _,rfl,rfl,⟨by omega,HT.out,Ext.refl W⟩⟩
   case round =>
    obtain ⟨k,a,hk,rfl,rfl,⟨habd,hres,hxw⟩⟩:=hrel;have HRES:=Lib.hid hres;have HXW:=Lib.hid hxw;have HAB:=Lib.hid habd;clear hres hxw habd
    by_cases hlt:k < t.ks.length
    · obtain ⟨ad,B0,m0,d0,B1,m1,d1,K2,n2,c2,rfl,hadb,hnd,hkt⟩:=ui.kid H4.out k hlt;obtain ⟨e0,e1,e2,e3,e4,e5,e6⟩:=hnd.ext (HX0.out.trans HXW.out) (by rw [jb]; exact hadb);have HKID:=Lib.hid (fun W' (hW':Ext wr W')=>IH.out t.ks[k] _ W' (by have:=HSZ.out k hlt; omega) (by have:=HSZ.out k hlt; omega) (xag HSM.out (List.getElem_mem hlt)) hkt ((HX0.out.trans HXW.out).trans hW'));rw [HG.out] at HKID;have HST:=Lib.hid (HRES.out.trans (gbs g a t.ks k hlt));have hbd:=t.ks[k].kn_bd g;have hab:=HAB.out;unfold mxV at HKID;clear hkt hnd hadb;generalize t.ks[k].kn g=z at *;generalize t.ks[k]=tk at *;go_wp2_with fail;clear e0 e1 e2 e3 e4 e5 e6;refine (HKID.out _ ((Ext.refl wr).alloc _)).mono ?_;rintro e v1 ⟨rfl,x1⟩;have X1:=Lib.hid (HXW.out.trans (((Ext.refl wr).alloc _).trans x1));clear x1 HKID;obtain ⟨mz,hmz⟩:∃ mz,max a z=mz:=⟨_,rfl⟩;have hmb:-1<=mz/\mz<=1:=by rw [<- hmz]; omega
      rw [hmz] at HST
      by_cases hlow:mz=1
      · have HR:Hid (res=1):=Lib.hid (by rw [HST.out,hlow,xb0]);subst hlow;have HMZ:=hmz;go_wp2_with fail;go_ret;exact ⟨by rw [HR.out]; rfl,HWX.out.trans X1.out⟩
      · have hge:¬ mz > 0:=by omega
        have hge2:mz<=0:=by omega
        have HMB:=Lib.hid hmb;clear hmb hlow;go_wp2_with fail
        go_roundw
        case rel=>exact ⟨k+1,mz,by omega,by go_num,rfl,⟨HMB.out,HST.out,X1.out⟩⟩
        case measure=>simp [intOf]; omega
    · have hke:k=t.ks.length:=by omega
      have HR:Hid (res=a):=Lib.hid (by
       have h1:=HRES.out;rw [hke,List.drop_length] at h1
       exact h1)
      clear hke;go_wp2_with fail;go_ret;exact ⟨by rw [HR.out]; rfl,HWX.out.trans HXW.out⟩
 have q4:(t.kind == 4)=false:=by simpa using k4
 have htv:=HKN.out;rw [if_neg k1,if_neg k2,if_neg k3,if_neg k4] at htv;have HT:=Lib.hid htv;clear k1 k2 k3 k4 htv HKC;go_wp2_with fail;go_ret;exact ⟨by rw [HT.out]; rfl,HWX.out⟩
theorem yco {w:World} {q:Nat->Prop} {fv:Value} {l:List (Pl × Int)} (hf:vax w fv l) (hfs:kax l) (t:Mx) (v:Value) (hbig:t.sz<=1000000) (hsm:t.small) (h:MxV w q t v):Calls Tryz.prog 18 #[v,fv] w (jl (t.kn fun p=>knP p.nf l) w):=
 xcq hf hfs (t.sz+1) t v w (Nat.lt_succ_self _) hbig hsm h (Ext.refl w)
end Go.Proofs.YtaedbimbbeploaaGreat
