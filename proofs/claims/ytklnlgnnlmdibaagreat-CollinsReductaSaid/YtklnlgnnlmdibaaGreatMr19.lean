/- Layer 22: recpoly.canonical, Normal. -/
import Derived.Test.YtklnlgnnlmdibaaGreatMr12
import Derived.Test.YtklnlgnnlmdibaaGreatCollect2
import Derived.Test.YtklnlgnnlmdibaaGreatMr17
import Derived.Test.YtklnlgnnlmdibaaGreatMr6
import Derived.Test.YtklnlgnnlmdibaaGreatMr7
import Derived.Deep.RegionLaw
import Derived.Test.YtklnlgnnlmdibaaGreatMr4
import Derived.Test.YtklnlgnnlmdibaaGreatMr5
import Derived.Maps.AppendAt
import Derived.Deep.AppendLies
import Derived.Lib.MinMax
import Derived.Test.YtklnlgnnlmdibaaGreatMr11
set_option linter.unusedSimpArgs false
set_option linter.unusedVariables false
set_option maxRecDepth 100000
set_option maxHeartbeats 8000000
namespace Go.Proofs.YtklnlgnnlmdibaaGreat
open Go.RowKit
mutual
theorem PlV.dig {w : World} {q : Nat -> Prop} : ∀ (p : Pl) (v : Value), PlV w q p v -> p.dig
 | .mk l n d cs,v,h=>by
   unfold PlV at h;obtain ⟨s,A,c,e,h1,h2,h3,h4⟩:=h;unfold Pl.dig;exact ⟨h1.digs,jd.dig cs A 0 h4⟩
theorem jd.dig {w : World} {q : Nat -> Prop} : ∀ (cs : List Pl) (A : Option Addr) (j : Nat), jd w q cs A j -> gam cs
 | [],A,j,h=>by unfold gam; trivial
 | c :: r,A,j,h=>by
   unfold jd at h;obtain ⟨⟨ad,s,K,e,hb,hq,h1,h2⟩,h3⟩:=h;unfold gam;exact ⟨PlV.dig c _ h2,jd.dig r A (j+1) h3⟩
end
theorem ka2 (p:Pl) (hd:p.dig) (hsz:p.sz<=1073741824):(dg (xg (p.terms Mo.one))).length<=p.dm+1:=by
 have h1:=Pl.terms_nrm p Mo.one p.dm (Nat.le_refl _) hd;refine qf (Nat.lt_of_le_of_lt h1 ?_);rw [Nat.pow_succ,Nat.mul_comm];exact Nat.mul_lt_mul_of_pos_left (by rw [jg]; omega) (Nat.pow_pos zi)
theorem Pl.nf_dm (p:Pl) (hd:p.dig) (hsz:p.sz<=1073741824):p.nf.dm<=p.dm+1:=by
 unfold Pl.nf Pl.ofS;refine ucm (p.dm+1) 4 _ fun x hx=>?_
 have h1:=ga2 hx;have h2:=gaw (p.terms Mo.one);exact Nat.le_trans (gp (Nat.le_trans h1 h2)) (ka2 p hd hsz)
theorem qp {w:World} {q:Nat->Prop} {p:Pl} (v:Value) (h:PlV w q p v) (hp:p.Can):Calls Tryz.prog 48 #[v] w (jf (fun b=>q b\/w.heap.size<=b) p w):=by
 have hdig:=h.dig;obtain ⟨A0,n0,c0,A,c,rfl,hnat,hl1,hl2,h4⟩:=h.open_;obtain ⟨W,hW⟩:∃ W,(w.alloc (.cells #[.int .i64 p.lv,.bool p.neg,.slice A0 n0 c0,.slice A p.cs.length c] 35)).alloc (.cells #[.int .i64 0,.bool false,.slice none 0 0,.slice none 0 0] 35)=W:=⟨_,rfl⟩;have hWx:Ext w W:=by rw [<- hW]; exact ((Ext.refl w).alloc _).alloc _
 have hWs:W.heap.size=w.heap.size+1+1:=by rw [<- hW]; simp
 have hbx:jb W w.heap.size p (.slice A0 n0 c0) (.slice A p.cs.length c):=by rw [<- hW]; exact (jb.new w p _ _ _).ext ((Ext.refl _).alloc _) (by simp)
 have hz:yf W (w.heap.size+1):=by
  have:=yf.new (w.alloc (.cells #[.int .i64 p.lv,.bool p.neg,.slice A0 n0 c0,.slice A p.cs.length c] 35)) 35;rw [hW] at this;simpa using this
 obtain ⟨b0,b1,b2,b3⟩:=id hbx;have hpl0:PlV w (fun b=>q b/\b < w.heap.size) p (plV p (.slice A0 n0 c0) (.slice A p.cs.length c)):=PlV.turn_ (Nat.le_refl _) (fun _ _ h=>h) (fun b hb hq=>⟨⟨hq,hb⟩,rfl⟩) h;have HPL:=Lib.hid hpl0;have HWX:=Lib.hid hWx;have HBX:=Lib.hid hbx;have HZ:=Lib.hid hz;have HCN:=Lib.hid ((Pl.isCan_iff p hdig).2 hp);clear h hnat h4 hWx hbx hz hpl0 hdig hp;unfold plV;go_enter Tryz.func48,Tryz.ntmps48;go_wp2_with fail;clear hW b0 b1 b2 b3;refine (jbc p _ (HPL.out.ext HWX.out)).mono ?_;rw [HCN.out];rintro e w1 ⟨rfl,x1⟩;obtain ⟨b0,b1,b2,b3⟩:=HBX.out.ext x1 (by omega);have hs1:=x1.size;have X1:=Lib.hid (HWX.out.trans x1);have HZ1:=Lib.hid (HZ.out.ext x1 (by omega));clear x1;have HF:=Lib.hid (yg (q':=fun b=>q b\/w.heap.size<=b) X1.out (Nat.le_succ _) HZ1.out (HPL.out.ext X1.out) (fun b _ hb=>⟨by omega,.inl hb.1⟩));obtain ⟨⟨z0,z1,z2,z3⟩,zf⟩:=HZ1.out;clear HZ1 HPL HCN;go_wp2_with fail;exact bodyPost_ret (v:=plV p (.slice A0 n0 c0) (.slice A p.cs.length c)) (by simp [results,Tryz.results48,go_sem,z0,z1,z2,z3,plV]) rfl HF.out
theorem jbl {w:World} {q:Nat->Prop} (p:Pl) (v:Value) (h:PlV w q p v) (hs0:p.isCan=false->p.sz<=1073741824/\p.dm<=1099511627776):Calls Tryz.prog 48 #[v] w (jf (fun b=>q b\/w.heap.size<=b) p.nf w):=by
 have hdig:=h.dig;obtain ⟨A0,n0,c0,A,c,rfl,hnat,hl1,hl2,h4⟩:=h.open_;obtain ⟨W,hW⟩:∃ W,(w.alloc (.cells #[.int .i64 p.lv,.bool p.neg,.slice A0 n0 c0,.slice A p.cs.length c] 35)).alloc (.cells #[.int .i64 0,.bool false,.slice none 0 0,.slice none 0 0] 35)=W:=⟨_,rfl⟩;have hWx:Ext w W:=by rw [<- hW]; exact ((Ext.refl w).alloc _).alloc _
 have hWs:W.heap.size=w.heap.size+1+1:=by rw [<- hW]; simp
 have hbx:jb W w.heap.size p (.slice A0 n0 c0) (.slice A p.cs.length c):=by rw [<- hW]; exact (jb.new w p _ _ _).ext ((Ext.refl _).alloc _) (by simp)
 have hz:yf W (w.heap.size+1):=by
  have:=yf.new (w.alloc (.cells #[.int .i64 p.lv,.bool p.neg,.slice A0 n0 c0,.slice A p.cs.length c] 35)) 35;rw [hW] at this;simpa using this
 obtain ⟨b0,b1,b2,b3⟩:=id hbx;have hpl0:PlV w (fun b=>q b/\b < w.heap.size) p (plV p (.slice A0 n0 c0) (.slice A p.cs.length c)):=PlV.turn_ (Nat.le_refl _) (fun _ _ h=>h) (fun b hb hq=>⟨⟨hq,hb⟩,rfl⟩) h;have HPL:=Lib.hid hpl0;have HWX:=Lib.hid hWx;have HBX:=Lib.hid hbx;have HZ:=Lib.hid hz;have HDIG:=Lib.hid hdig;clear h hnat h4 hWx hbx hz hpl0 hdig;unfold plV;go_enter Tryz.func48,Tryz.ntmps48;go_wp2_with fail;clear hW b0 b1 b2 b3;refine (jbc p _ (HPL.out.ext HWX.out)).mono ?_;rintro e w1 ⟨rfl,x1⟩;obtain ⟨b0,b1,b2,b3⟩:=HBX.out.ext x1 (by omega);have hs1:=x1.size;have X1:=Lib.hid (HWX.out.trans x1);have HZ1:=Lib.hid (HZ.out.ext x1 (by omega));clear x1;cases hc:p.isCan
 · obtain ⟨hsz,hdm⟩:=hs0 hc;clear hs0;have HCO:Hid (∀ W',Ext w W'->Calls Tryz.prog 80 #[.slice none 0 0,plV p (.slice A0 n0 c0) (.slice A p.cs.length c),moV Mo.one] W' fun e w'=>∃ tv,e=.returned tv/\TsV (some p.dm) W'.heap.size w' tv (p.terms Mo.one)/\Ext W' w'):=fun W' hW'=>ua1 p _ p.dm (Nat.le_refl _) (by omega) (HPL.out.ext hW')
   unfold moV Mo.one plV at HCO;go_wp2_with fail;refine (HCO.out _ X1.out).mono ?_;rintro e w2 ⟨tv,rfl,t2,x2⟩;have hsp:=t2.sp;have hln:=Pl.terms_len p Mo.one;have hdg:=ka2 p HDIG.out hsz;have hcall:=waf (ko:=some p.dm) p.dm hsp (fun z _=>Nat.le_refl _) (by simp only [Mo.one] at *; omega) (by simp only [Mo.one] at *; omega);have HCALL:=Lib.hid hcall;have X2:=Lib.hid (X1.out.trans x2);have HZ2:=Lib.hid (HZ1.out.ext x2 (by omega));have hs2:=x2.size;clear hcall hsp t2 x2 hln hdg HCO HZ1 b0 b1 b2 b3;go_wp2_with fail;refine HCALL.out.mono ?_;rintro e w3 ⟨v3,rfl,⟨A3,c3,rfl,hl3,hc3,hat3⟩,x3⟩;have hok:yac 4 (yh (p.terms Mo.one)):=⟨vw _,fun x hx=>(uu hx).1,⟨Mo.one,fun x _ i h1 h2=>by omega⟩,fun x hx=>by
    obtain ⟨-,y,hy,e⟩:=uu hx;rw [<- e]
    exact (Pl.terms_le p Mo.one 0 Mo.one_le y hy).mono (by omega)⟩
   have HB:=Lib.hid (ja4 w3 4 (Nat.le_refl _) (yh (p.terms Mo.one)) A3 c3 w3 hat3 hl3 hc3 hok (Ext.refl w3));have X3:=Lib.hid (X2.out.trans x3);have HZ3:=Lib.hid (HZ2.out.ext x3 (by omega));have hs3:=x3.size;clear x3 hat3 hok HCALL HZ2;simp only [Mo.one] at HB;go_wp2_with fail;refine HB.out.mono ?_;rintro e w4 ⟨v4,rfl,p4,x4⟩;obtain ⟨C0,j0,f0,C1,f1,rfl,-⟩:=id p4.open_;obtain ⟨⟨z0,z1,z2,z3⟩,zf⟩:=HZ3.out.ext x4 (by omega);have hs4:=x4.size;have hf:=yg (q':=fun b=>q b\/w.heap.size<=b) (X3.out.trans x4) (Nat.le_succ _) (HZ3.out.ext x4 (by omega)) p4 (fun b _ hb=>⟨by omega,.inr (by omega)⟩);have hnf:p.nf=bld 4 (yh (p.terms ⟨0,0,0,0⟩)):=rfl;have hf2:=jf.congr hnf hf;have HF:=Lib.hid hf2;clear hf hf2 hnf p4 x4 HB HZ3;generalize bld 4 (yh (p.terms ⟨0,0,0,0⟩))=P at *;unfold plV;go_wp2_with fail;exact bodyPost_ret (v:=plV P (.slice C0 j0 f0) (.slice C1 P.cs.length f1)) (by simp [results,Tryz.results48,go_sem,z0,z1,z2,z3,plV]) rfl HF.out
 · clear hs0;have hnf:p.nf=p:=Pl.nf_of_can ((Pl.isCan_iff p HDIG.out).1 hc);have hf:=yg (q':=fun b=>q b\/w.heap.size<=b) X1.out (Nat.le_succ _) HZ1.out (HPL.out.ext X1.out) (fun b _ hb=>⟨by omega,.inl hb.1⟩);have hf2:=jf.congr hnf hf;have HF:=Lib.hid hf2;obtain ⟨⟨z0,z1,z2,z3⟩,zf⟩:=HZ1.out;clear hf hf2 hnf HZ1 HPL HDIG hc;go_wp2_with fail;exact bodyPost_ret (v:=plV p (.slice A0 n0 c0) (.slice A p.cs.length c)) (by simp [results,Tryz.results48,go_sem,z0,z1,z2,z3,plV]) rfl HF.out
theorem kag {w:World} {q:Nat->Prop} (p:Pl) (v:Value) (h:PlV w q p v) (hsz:p.sz<=1073741824) (hdm:p.dm<=1099511627776):Calls Tryz.prog 48 #[v] w (jf (fun b=>q b\/w.heap.size<=b) p.nf w):=
 jbl p v h fun _=>⟨hsz,hdm⟩
theorem wak {w:World} {q:Nat->Prop} (p:Pl) (v:Value) (h:PlV w q p v) (hsz:p.sz<=1073741824) (hnf:p.nf.sz<=1099511627776) (hdm:p.dm<=1099511627776):Calls Tryz.prog 35 #[v] w (jf (fun b=>w.heap.size<=b) p.nf w):=by
 have hdm2:=p.nf_dm h.dig hsz;have HH:=Lib.hid h;obtain ⟨A0,n0,c0,A,c,rfl,hnat,hl1,hl2,h4⟩:=h.open_;obtain ⟨W,hW⟩:∃ W,(w.alloc (.cells #[.int .i64 p.lv,.bool p.neg,.slice A0 n0 c0,.slice A p.cs.length c] 35)).alloc (.cells #[.int .i64 0,.bool false,.slice none 0 0,.slice none 0 0] 35)=W:=⟨_,rfl⟩;have hWx:Ext w W:=by rw [<- hW]; exact ((Ext.refl w).alloc _).alloc _
 have hWs:W.heap.size=w.heap.size+1+1:=by rw [<- hW]; simp
 obtain ⟨b0,b1,b2,b3⟩:jb W w.heap.size p (.slice A0 n0 c0) (.slice A p.cs.length c):=by rw [<- hW]; exact (jb.new w p _ _ _).ext ((Ext.refl _).alloc _) (by simp)
 have hz:yf W (w.heap.size+1):=by
  have:=yf.new (w.alloc (.cells #[.int .i64 p.lv,.bool p.neg,.slice A0 n0 c0,.slice A p.cs.length c] 35)) 35;rw [hW] at this;simpa using this
 have HWX:=Lib.hid hWx;have HZ:=Lib.hid hz;have HCA:=Lib.hid (fun W (hW:Ext w W)=>kag p _ (HH.out.ext hW) hsz hdm);have hcan:=p.nf_can;clear h hnat h4 hWx hz;generalize p.nf=P at *;have HCAN:=Lib.hid hcan;clear hcan;unfold plV at *;go_enter Tryz.func35,Tryz.ntmps35;go_wp2_with fail;clear hW b0 b1 b2 b3;refine (HCA.out _ HWX.out).mono ?_;rintro e w1 ⟨v1,rfl,p1,x1⟩;have HC:=Lib.hid (qad P v1 HCAN.out hnf (by omega) p1);obtain ⟨C0,j0,f0,C1,f1,rfl,-⟩:=id p1.open_;have X1:=Lib.hid (HWX.out.trans x1);have HZ1:=Lib.hid (HZ.out.ext x1 (by omega));have hs1:=x1.size;clear p1 x1;unfold plV at *;go_wp2_with fail;refine HC.out.mono ?_;rintro e w2 ⟨v2,rfl,p2,x2⟩;obtain ⟨D0,j1,g0,D1,g1,rfl,-⟩:=id p2.open_;obtain ⟨⟨z0,z1,z2,z3⟩,zf⟩:=HZ1.out.ext x2 (by omega);have HF:=Lib.hid (yg (q':=fun b=>w.heap.size<=b) (X1.out.trans x2) (Nat.le_succ _) (HZ1.out.ext x2 (by omega)) p2 (fun b _ hb=>⟨by omega,by omega⟩));clear p2 x2 HC HZ1;unfold plV;go_wp2_with fail;exact bodyPost_ret (v:=plV P (.slice D0 j1 g0) (.slice D1 P.cs.length g1)) (by simp [results,Tryz.results35,go_sem,z0,z1,z2,z3,plV]) rfl HF.out
theorem zbc {w:World} {q:Nat->Prop} (p P:Pl) (v:Value) (h:PlV w q p v) (hca:∀ W,Ext w W->Calls Tryz.prog 35 #[v] W (jf (fun b=>W.heap.size<=b) P W)):Calls Tryz.prog 11 #[v] w fun e w'=>e=.returned (.int .i64 P.lv)/\Ext w w':=by
 have HH:=Lib.hid h;obtain ⟨A0,n0,c0,A,c,rfl,hnat,hl1,hl2,h4⟩:=h.open_;obtain ⟨W,hW⟩:∃ W,w.alloc (.cells #[.int .i64 p.lv,.bool p.neg,.slice A0 n0 c0,.slice A p.cs.length c] 35)=W:=⟨_,rfl⟩;have hWx:Ext w W:=by rw [<- hW]; exact (Ext.refl w).alloc _
 obtain ⟨b0,b1,b2,b3⟩:jb W w.heap.size p (.slice A0 n0 c0) (.slice A p.cs.length c):=by rw [<- hW]; exact jb.new w p _ _ _
 have HWX:=Lib.hid hWx;have HCA:=Lib.hid hca;clear h hnat h4 hWx hca;unfold plV at *;go_enter Tryz.func11,Tryz.ntmps11;go_wp2_with fail;clear hW b0 b1 b2 b3;refine (HCA.out _ HWX.out).mono ?_;rintro e w1 ⟨v1,rfl,p1,x1⟩;obtain ⟨C0,j0,f0,C1,f1,rfl,-⟩:=id p1.open_;have X1:=Lib.hid (HWX.out.trans x1);clear p1 x1;have hfl:∀ W,(Instr.field 35 (.agg #[.int .i64 P.lv,.bool P.neg,.slice C0 j0 f0,.slice C1 P.cs.length f1]) 0).run Tryz.prog W=.ok (.int .i64 P.lv) W:=fun W=>by kernel_rfl
 unfold plV at *;go_wp2_with fail;go_ret;exact ⟨rfl,X1.out⟩
theorem ubv {w:World} {q:Nat->Prop} (p:Pl) (v:Value) (h:PlV w q p v) (hsz:p.sz<=1073741824) (hnf:p.nf.sz<=1099511627776) (hdm:p.dm<=1099511627776):Calls Tryz.prog 11 #[v] w fun e w'=>e=.returned (.int .i64 p.nf.lv)/\Ext w w':=
 zbc p p.nf v h fun _ hW=>wak p _ (h.ext hW) hsz hnf hdm
/- recpoly.Normal at polynomials that are canonical, of any size. -/
set_option maxRecDepth 100000
set_option maxHeartbeats 8000000
theorem ubu {w:World} {q:Nat->Prop} (p P:Pl) (v:Value) (h:PlV w q p v) (hca:∀ W,Ext w W->Calls Tryz.prog 48 #[v] W (jf (fun b=>q b\/W.heap.size<=b) P W)) (hcan:P.Can) (hnf:P.sz<=1099511627776) (hdm2:P.dm<=35184372088832):Calls Tryz.prog 35 #[v] w (jf (fun b=>w.heap.size<=b) P w):=by
 have HH:=Lib.hid h;obtain ⟨A0,n0,c0,A,c,rfl,hnat,hl1,hl2,h4⟩:=h.open_;obtain ⟨W,hW⟩:∃ W,(w.alloc (.cells #[.int .i64 p.lv,.bool p.neg,.slice A0 n0 c0,.slice A p.cs.length c] 35)).alloc (.cells #[.int .i64 0,.bool false,.slice none 0 0,.slice none 0 0] 35)=W:=⟨_,rfl⟩;have hWx:Ext w W:=by rw [<- hW]; exact ((Ext.refl w).alloc _).alloc _
 have hWs:W.heap.size=w.heap.size+1+1:=by rw [<- hW]; simp
 obtain ⟨b0,b1,b2,b3⟩:jb W w.heap.size p (.slice A0 n0 c0) (.slice A p.cs.length c):=by rw [<- hW]; exact (jb.new w p _ _ _).ext ((Ext.refl _).alloc _) (by simp)
 have hz:yf W (w.heap.size+1):=by
  have:=yf.new (w.alloc (.cells #[.int .i64 p.lv,.bool p.neg,.slice A0 n0 c0,.slice A p.cs.length c] 35)) 35;rw [hW] at this;simpa using this
 have HWX:=Lib.hid hWx;have HZ:=Lib.hid hz;have HCA:=Lib.hid hca;clear h hnat h4 hWx hz hca;have HCAN:=Lib.hid hcan;clear hcan;unfold plV at *;go_enter Tryz.func35,Tryz.ntmps35;go_wp2_with fail;clear hW b0 b1 b2 b3;refine (HCA.out _ HWX.out).mono ?_;rintro e w1 ⟨v1,rfl,p1,x1⟩;have HC:=Lib.hid (qad P v1 HCAN.out hnf (by omega) p1);obtain ⟨C0,j0,f0,C1,f1,rfl,-⟩:=id p1.open_;have X1:=Lib.hid (HWX.out.trans x1);have HZ1:=Lib.hid (HZ.out.ext x1 (by omega));have hs1:=x1.size;clear p1 x1;unfold plV at *;go_wp2_with fail;refine HC.out.mono ?_;rintro e w2 ⟨v2,rfl,p2,x2⟩;obtain ⟨D0,j1,g0,D1,g1,rfl,-⟩:=id p2.open_;obtain ⟨⟨z0,z1,z2,z3⟩,zf⟩:=HZ1.out.ext x2 (by omega);have HF:=Lib.hid (yg (q':=fun b=>w.heap.size<=b) (X1.out.trans x2) (Nat.le_succ _) (HZ1.out.ext x2 (by omega)) p2 (fun b _ hb=>⟨by omega,by omega⟩));clear p2 x2 HC HZ1;unfold plV;go_wp2_with fail;exact bodyPost_ret (v:=plV P (.slice D0 j1 g0) (.slice D1 P.cs.length g1)) (by simp [results,Tryz.results35,go_sem,z0,z1,z2,z3,plV]) rfl HF.out
theorem yab {w:World} {q:Nat->Prop} {p:Pl} (v:Value) (h:PlV w q p v) (hp:p.Can) (hsz:p.sz<=1099511627776) (hdm:p.dm<=35184372088832):Calls Tryz.prog 35 #[v] w (jf (fun b=>w.heap.size<=b) p w):=
 ubu p p v h (fun W hW=>qp v (h.ext hW) hp) hp hsz hdm
def kcn (p:Pl):Prop:=(p.sz<=1073741824/\p.dm<=1099511627776/\p.nf.sz<=1099511627776)\/(p.Can/\p.sz<=1099511627776/\p.dm<=1099511627776)
theorem gbn {w:World} {q:Nat->Prop} {p:Pl} (v:Value) (h:PlV w q p v) (hb:kcn p):Calls Tryz.prog 35 #[v] w (jf (fun b=>w.heap.size<=b) p.nf w):=by
 rcases hb with hb | hb
 · exact wak p v h hb.1 hb.2.2 hb.2.1
 · rw [Pl.nf_of_can hb.1];exact yab v h hb.1 hb.2.1 (by omega)
theorem qa6 {w:World} {q:Nat->Prop} {p:Pl} (v:Value) (h:PlV w q p v) (hb:kcn p):Calls Tryz.prog 11 #[v] w fun e w'=>e=.returned (.int .i64 p.nf.lv)/\Ext w w':=
 zbc p p.nf v h fun _ hW=>gbn v (h.ext hW) hb
/- Matrices: what holds of every polynomial in them; matrices that are not too big. -/
/- Reference 38: Normal: a matrix in normal form. -/
/- Layer 4 (decimal): how many digits a number has. -/
/- How many decimal digits a number has. No program in sight. -/
def qcl (n:Nat):Nat:=if _h:n < 10 then 1 else qcl (n / 10)+1
termination_by n
decreasing_by omega
def more (n:Nat):Nat:=if n=0 then 0 else qcl n
/- Layer 4 (decimal): Format, its length; Digits. -/
/- Layer 4 (decimal): Format and Digits. -/
/- Layer 34: formula.Weight; evaluate.large. -/
/- Layer 38: what prenex.Of computes, plain. No program in sight. -/
def Pl.var (n:Int):Pl:=if 1<=n/\n<=4 then .mk n false [] [Pl.zero,Pl.const 1] else Pl.zero
theorem Pl.var_can (n:Int):(Pl.var n).Can:=by
 unfold Pl.var
 split
 · rename_i h;refine qax (by omega) h.2 (by simp) (kac fun c hc=>?_) (by
    have h1:=jag (n:=1) (by decide);simp [Pl.const,Pl.zero];intro e;rw [e] at h1
    simp at h1)
   simp only [List.mem_cons,List.not_mem_nil,or_false] at hc;rcases hc with rfl | rfl
   · exact ⟨by simp [Pl.zero,Pl.lv]; omega,Pl.zero_can⟩
   · exact ⟨by simp [Pl.const,Pl.lv]; omega,uw 1⟩
 · exact Pl.zero_can
theorem Pl.var_fit (n:Int):Fit (Pl.var n) 1 1/\(Pl.var n).nr<=1:=by
 have h1:(Pl.var n).ex 1/\(Pl.var n).nr<=1:=by
  unfold Pl.var
  split
  · rename_i h;have hk:∀ c ∈ [Pl.zero,Pl.const 1],c.ex 1:=fun c hc=>by
     simp only [List.mem_cons,List.not_mem_nil,or_false] at hc;rcases hc with rfl | rfl
     · exact (Fit.zero (D:=1)).ex
     · exact (Fit.const (D:=1) (by decide)).ex
    refine ⟨by rw [Pl.ex]; exact .inr ⟨by simp,yay hk⟩,?_⟩
    · rw [Pl.nr,if_neg (by omega),zk,zk,zk,Pl.const_nr];simp [Pl.zero,Pl.nr,sgn,val]
  · exact ⟨(Fit.zero (D:=1)).ex,by simp [Pl.zero,Pl.nr,sgn,val]⟩
 exact ⟨⟨Pl.var_can n, h1.1, by have := h1.2; have : 1 < B32 ^ 1 := by decide
                                omega⟩,h1.2⟩
def Bd (p:Pl) (W:Nat):Prop:=p.Can/\p.ex W/\p.nr<=10 ^ W
/- Layer 20: the sparse form of a canonical polynomial; what sums and products of sparse forms are, and their sizes. -/
def Pl.sp (p:Pl):Sp:=yh (p.terms Mo.one)
theorem Pl.sp_can (p:Pl):jo p.sp:=vw _
theorem Pl.sp_nn (p:Pl):∀ x ∈ p.sp,x.2.nonneg:=fun x hx=>(uu hx).1
theorem Pl.sp_val (ρ:Int->Rat) (p:Pl):vk ρ p.sp=p.val ρ:=by
 rw [<- Pl.terms_sval ρ p];exact yal ρ (uab p.terms_one_nonneg)
theorem Pl.sp_uniq {l:Sp} {p:Pl} (hc:jo l) (hn:∀ x ∈ l,x.2.nonneg) (h:∀ ρ,vk ρ l=p.val ρ):l=p.sp:=
 jo.uniq _ _ hc p.sp_can (fun m=>waw hn p.sp_nn (fun ρ=>by rw [h,Pl.sp_val]) m)
theorem Pl.sp_self (p:Pl):yh p.sp=p.sp:=uaw p.sp_can p.sp_nn
theorem Pl.sp_ofS {p:Pl} (hp:p.Can):Pl.ofS p.sp=p:=Pl.val_uniq (Pl.ofS_can _) hp (fun ρ=>by rw [Pl.ofS_val ρ p.sp_nn,Pl.sp_val])
theorem jca (N:Nat) (l:List Nat) (h:l.Pairwise (· ≠ ·)):l.length<=(l.filter fun x=>decide (x ≠ N)).length+1:=by
 induction l with
 | nil=>simp
 | cons a r ih =>
   rw [List.pairwise_cons] at h;have:=ih h.2
   by_cases ha:a=N
   · have hr:(r.filter fun x=>decide (x ≠ N))=r:=List.filter_eq_self.2 fun x hx=>by
      have:=h.1 x hx;simp; intro e; exact this (by omega)
     rw [List.filter_cons,if_neg (by simp [ha]),hr,List.length_cons];exact Nat.le_refl _
   · rw [List.filter_cons,if_pos (by simp [ha])];simp only [List.length_cons];omega
theorem vbi : ∀ (N : Nat) (l : List Nat), l.Pairwise (· ≠ ·) -> (∀ x ∈ l, x < N) -> l.length <= N
 | 0,l,_,h=>by
   cases l with
   | nil=>simp
   | cons a r=>exact absurd (h a (by simp)) (by omega)
 | N+1,l,hp,h=>by
   have h1:=vbi N (l.filter fun x=>decide (x ≠ N)) (hp.filter _) (fun x hx=>by
    obtain ⟨h1,h2⟩:=List.mem_filter.1 hx;have:=h x h1;simp at h2
    omega)
   have h2:=jca N l hp;omega
theorem za4 {x y E K:Nat} (hx:x < E) (hy:y < K):x+E * y < E * K:=by
 have h1:E * (y+1)<=E * K:=Nat.mul_le_mul_left _ hy;rw [Nat.mul_succ] at h1;omega
theorem Mo.num_lt_pow {E:Nat} {m:Mo} (hn:m.nonneg) (h:m.le E):m.num (E+1) < (E+1) ^ 4:=by
 unfold Mo.nonneg at hn;unfold Mo.le at h;unfold Mo.num;have e4:(E+1) ^ 4=(E+1) * ((E+1) * ((E+1) * (E+1))):=by simp only [Nat.pow_succ,Nat.pow_zero,Nat.one_mul,Nat.mul_assoc]
 rw [e4];exact za4 (by omega) (za4 (by omega) (za4 (by omega) (by omega)))
theorem xb5 {E:Nat} {l:Sp} (ha:Apart l) (hn:∀ x ∈ l,x.2.nonneg) (hE:∀ x ∈ l,x.2.le E):l.length<=(E+1) ^ 4:=by
 have h:=vbi ((E+1) ^ 4) (l.map fun x=>x.2.num (E+1)) (by
  rw [List.pairwise_map];refine List.Pairwise.imp_of_mem (fun {x y} hx hy hne=>?_) ha;have bx:=hE x hx;have bz:=hE y hy;unfold Mo.le at bx bz;rcases Mo.tri x.2 y.2 with h | h | h
  · exact Nat.ne_of_lt (Mo.num_lt (hn x hx) (hn y hy) (by omega) h)
  · exact absurd h hne
  · exact (Nat.ne_of_lt (Mo.num_lt (hn y hy) (hn x hx) (by omega) h)).symm) (fun n hn'=>by
  obtain ⟨x,hx,rfl⟩:=List.mem_map.1 hn'
  exact Mo.num_lt_pow (hn x hx) (hE x hx))
 rwa [List.length_map] at h
theorem ya5 : ∀ l : Sp, jo l -> Apart l
 | [],_=>List.Pairwise.nil
 | (z,m) :: r,h=>by
   unfold jo at h;refine List.Pairwise.cons (fun y hy e=>?_) (ya5 r h.2.2);have:=h.2.1 y hy;rw [<- e] at this;exact Mo.lt_irrefl _ this
theorem Fit.sp_le {p:Pl} {E D:Nat} (h:Fit p E D):∀ x ∈ p.sp,x.2.le E:=fun x hx=>by
 obtain ⟨-,y,hy,e⟩:=uu hx;rw [<- e];exact h.exps y hy
theorem Fit.sp_nrm {p:Pl} {E D:Nat} (h:Fit p E D):xg p.sp < B32 ^ D:=Nat.lt_of_le_of_lt (Nat.le_trans (gaw _) (Nat.le_of_eq h.nrm)) h.nr
theorem Fit.sp_len {p:Pl} {E D:Nat} (h:Fit p E D):p.sp.length<=(E+1) ^ 4:=xb5 (ya5 _ p.sp_can) p.sp_nn h.sp_le
theorem zbr {E:Nat} (h:E<=900):(E+1) ^ 4<=659020863601:=Nat.le_trans (Nat.pow_le_pow_left (show E+1<=901 by omega) 4) (by decide)
theorem Fit.sp_dg {p:Pl} {E D:Nat} (h:Fit p E D):∀ x ∈ p.sp,(dg x.1.natAbs).length<=D:=fun x hx=>qf (Nat.lt_of_le_of_lt (ga2 hx) h.sp_nrm)
end Go.Proofs.YtklnlgnnlmdibaaGreat
