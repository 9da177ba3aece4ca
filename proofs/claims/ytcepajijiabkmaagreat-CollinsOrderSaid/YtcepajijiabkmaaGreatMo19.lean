/- Layer 22: recpoly.canonical, Normal. -/
import Derived.Test.YtcepajijiabkmaaGreatMo18
import Derived.Test.YtcepajijiabkmaaGreatMo4
import Derived.Deep.AppendLies
set_option linter.all false
set_option maxRecDepth 100000
set_option maxHeartbeats 8000000
namespace Go.Proofs.YtcepajijiabkmaaGreat
open Lib (hid)
open Go.RowKit
mutual
theorem PlV.dig {w : World} {q : Nat -> Prop} : ∀ (p : Pl) (v : Value), PlV w q p v -> p.dig
 | .mk l n d cs,v,h=>by
   unfold PlV at h;obtain ⟨s,A,c,e,h1,h2,h3,h4⟩:=h;unfold Pl.dig;exact ⟨h1.kr,jd.dig cs A 0 h4⟩
theorem jd.dig {w : World} {q : Nat -> Prop} : ∀ (cs : List Pl) (A : Option Addr) (j : Nat), jd w q cs A j -> jau cs
 | [],A,j,h=>by unfold jau; trivial
 | c :: r,A,j,h=>by
   unfold jd at h;obtain ⟨⟨ad,s,K,e,hb,hq,h1,h2⟩,h3⟩:=h;unfold jau;exact ⟨PlV.dig c _ h2,jd.dig r A (j+1) h3⟩
end
theorem ybf (p:Pl) (hd:p.dig) (hsz:p.sz<=1073741824):(dg (zg (p.qu Mo.one))).length<=p.dm+1:=by
 have h1:=Pl.Qt p Mo.one p.dm (pj _) hd;refine yf (sB h1 ?_);rw [si,sj];exact Tp (by rw [yh]; omega) (tp yj)
theorem Pl.qbL (p:Pl) (hd:p.dig) (hsz:p.sz<=1073741824):p.nf.dm<=p.dm+1:=by
 unfold Pl.nf Pl.j8;refine jdh (p.dm+1) 4 _ fun x hx=>?_
 have h1:=qbf hx;have h2:=qa7 (p.qu Mo.one);exact py (wu (py h1 h2)) (ybf p hd hsz)
theorem ut {w:World} {q:Nat->Prop} {p:Pl} (v:Value) (h:PlV w q p v) (hp:p.Can):Calls Tryz.prog 38 #[v] w (uf (fun b=>q b\/w.heap.size<=b) p w):=by
 have CQ:=h.dig;obtain ⟨A0,n0,c0,A,c,rfl,ax,fC,dK,h4⟩:=h.open_;obtain ⟨W,hW⟩:=n_m ((w.alloc (.cells #[.int .i64 p.lv,.bool p.neg,.slice A0 n0 c0,.slice A p.cs.length c] 33)).alloc (.cells #[.int .i64 0,.bool false,.slice none 0 0,.slice none 0 0] 33));have ai:Ext w W:=by rw [<- hW]; exact ((Ext.refl w).alloc _).alloc _
 have dG:W.heap.size=w.heap.size+1+1:=by rw [<- hW]; simp
 have bV:jb W w.heap.size p (.slice A0 n0 c0) (.slice A p.cs.length c):=by rw [<- hW]; exact (jb.new w p _ _ _).ext ((Ext.refl _).alloc _) (by simp)
 have hz:jf W (w.heap.size+1):=by
  have:=jf.new (w.alloc (.cells #[.int .i64 p.lv,.bool p.neg,.slice A0 n0 c0,.slice A p.cs.length c] 33)) 33;rw [hW] at this;simpa using this
 obtain ⟨b0,b1,b2,b3⟩:=id bV;have BQ:PlV w (fun b=>q b/\b < w.heap.size) p (plV p (.slice A0 n0 c0) (.slice A p.cs.length c)):=PlV.zd (pj _) (fun _ _ h=>h) (fun b hb hq=>⟨⟨hq,hb⟩,rfl⟩) h;have mZ:=hid BQ;have aG:=hid ai;have kJ:=hid bV;have HZ:=hid hz;have EG:=hid ((Pl.kg p CQ).2 hp);clear h ax h4 ai bV hz BQ CQ hp;unfold plV;go_enter Tryz.func38,Tryz.ntmps38;go_wp2_with fail;clear hW b0 b1 b2 b3;refine (jbs p _ (mZ.out.ext aG.out)).mono ?_;rw [EG.out];rintro e w1 ⟨rfl,x1⟩;obtain ⟨b0,b1,b2,b3⟩:=kJ.out.ext x1 (by omega);have bW:=x1.size;have X1:=hid (aG.out.trans x1);have eY:=hid (HZ.out.ext x1 (by omega));clear x1;have HF:=hid (qf (q':=fun b=>q b\/w.heap.size<=b) X1.out (se _) eY.out (mZ.out.ext X1.out) (fun b _ hb=>⟨by omega,.inl hb.1⟩));obtain ⟨⟨z0,z1,z2,z3⟩,zf⟩:=eY.out;clear eY mZ EG;go_wp2_with fail;exact bodyPost_ret (v:=plV p (.slice A0 n0 c0) (.slice A p.cs.length c)) (by simp [results,pa3,go_sem,z0,z1,z2,z3,plV]) rfl HF.out
theorem xb6 {w:World} {q:Nat->Prop} (p:Pl) (v:Value) (h:PlV w q p v) (iT:p.xL=false->p.sz<=1073741824/\p.dm<=1099511627776):Calls Tryz.prog 38 #[v] w (uf (fun b=>q b\/w.heap.size<=b) p.nf w):=by
 have CQ:=h.dig;obtain ⟨A0,n0,c0,A,c,rfl,ax,fC,dK,h4⟩:=h.open_;obtain ⟨W,hW⟩:=n_m ((w.alloc (.cells #[.int .i64 p.lv,.bool p.neg,.slice A0 n0 c0,.slice A p.cs.length c] 33)).alloc (.cells #[.int .i64 0,.bool false,.slice none 0 0,.slice none 0 0] 33));have ai:Ext w W:=by rw [<- hW]; exact ((Ext.refl w).alloc _).alloc _
 have dG:W.heap.size=w.heap.size+1+1:=by rw [<- hW]; simp
 have bV:jb W w.heap.size p (.slice A0 n0 c0) (.slice A p.cs.length c):=by rw [<- hW]; exact (jb.new w p _ _ _).ext ((Ext.refl _).alloc _) (by simp)
 have hz:jf W (w.heap.size+1):=by
  have:=jf.new (w.alloc (.cells #[.int .i64 p.lv,.bool p.neg,.slice A0 n0 c0,.slice A p.cs.length c] 33)) 33;rw [hW] at this;simpa using this
 obtain ⟨b0,b1,b2,b3⟩:=id bV;have BQ:PlV w (fun b=>q b/\b < w.heap.size) p (plV p (.slice A0 n0 c0) (.slice A p.cs.length c)):=PlV.zd (pj _) (fun _ _ h=>h) (fun b hb hq=>⟨⟨hq,hb⟩,rfl⟩) h;have mZ:=hid BQ;have aG:=hid ai;have kJ:=hid bV;have HZ:=hid hz;have DU:=hid CQ;clear h ax h4 ai bV hz BQ CQ;unfold plV;go_enter Tryz.func38,Tryz.ntmps38;go_wp2_with fail;clear hW b0 b1 b2 b3;refine (jbs p _ (mZ.out.ext aG.out)).mono ?_;rintro e w1 ⟨rfl,x1⟩;obtain ⟨b0,b1,b2,b3⟩:=kJ.out.ext x1 (by omega);have bW:=x1.size;have X1:=hid (aG.out.trans x1);have eY:=hid (HZ.out.ext x1 (by omega));clear x1;cases hc:p.xL
 · obtain ⟨hsz,ig⟩:=iT hc;clear iT;have iy:Hid (∀ W',Ext w W'->Calls Tryz.prog 65 #[.slice none 0 0,plV p (.slice A0 n0 c0) (.slice A p.cs.length c),moV Mo.one] W' fun e w'=>∃ tv,e=.returned tv/\TsV (some p.dm) W'.heap.size w' tv (p.qu Mo.one)/\Ext W' w'):=fun W' bJ=>jbe p _ p.dm (pj _) (by omega) (mZ.out.ext bJ)
   unfold moV Mo.one plV at iy;go_wp2_with fail;refine (iy.out _ X1.out).mono ?_;rintro e w2 ⟨tv,rfl,t2,x2⟩;have oZ:=t2.sp;have jM:=Pl.kA p Mo.one;have ik:=ybf p DU.out hsz;have aP:=uad (ko:=some p.dm) p.dm oZ (fun z _=>pj _) (by simp only [Mo.one] at *; omega) (by simp only [Mo.one] at *; omega);have bH:=hid aP;have X2:=hid (X1.out.trans x2);have og:=hid (eY.out.ext x2 (by omega));have jF:=x2.size;clear aP oZ t2 x2 jM ik iy eY b0 b1 b2 b3;go_wp2_with fail;refine bH.out.mono ?_;rintro e w3 ⟨v3,rfl,⟨A3,c3,rfl,hl3,hc3,CV⟩,x3⟩;have lV:vaf 4 (qg (p.qu Mo.one)):=⟨kaa _,fun x hx=>(ww hx).1,⟨Mo.one,fun x _ i h1 h2=>by omega⟩,fun x hx=>by
    obtain ⟨-,y,hy,e⟩:=ww hx;rw [<- e]
    exact (Pl.J0 p Mo.one 0 Mo.one_le y hy).mono (by omega)⟩
   have HB:=hid (qbi w3 4 (pj _) (qg (p.qu Mo.one)) A3 c3 w3 CV hl3 hc3 lV (Ext.refl w3));have X3:=hid (X2.out.trans x3);have AZ:=hid (og.out.ext x3 (by omega));have Eb:=x3.size;clear x3 CV lV bH og;simp only [Mo.one] at HB;go_wp2_with fail;refine HB.out.mono ?_;rintro e w4 ⟨v4,rfl,p4,x4⟩;obtain ⟨C0,j0,f0,C1,f1,rfl,-⟩:=id p4.open_;obtain ⟨⟨z0,z1,z2,z3⟩,zf⟩:=AZ.out.ext x4 (by omega);have AL:=x4.size;have hf:=qf (q':=fun b=>q b\/w.heap.size<=b) (X3.out.trans x4) (se _) (AZ.out.ext x4 (by omega)) p4 (fun b _ hb=>⟨by omega,.inr (by omega)⟩);have uZ:p.nf=bld 4 (qg (p.qu ⟨0,0,0,0⟩)):=rfl;have lZ:=uf.congr uZ hf;have HF:=hid lZ;clear hf lZ uZ p4 x4 HB AZ;generalize bld 4 (qg (p.qu ⟨0,0,0,0⟩))=P at *;unfold plV;go_wp2_with fail;exact bodyPost_ret (v:=plV P (.slice C0 j0 f0) (.slice C1 P.cs.length f1)) (by simp [results,pa3,go_sem,z0,z1,z2,z3,plV]) rfl HF.out
 · clear iT;have uZ:p.nf=p:=Pl.q7 ((Pl.kg p DU.out).1 hc);have hf:=qf (q':=fun b=>q b\/w.heap.size<=b) X1.out (se _) eY.out (mZ.out.ext X1.out) (fun b _ hb=>⟨by omega,.inl hb.1⟩);have lZ:=uf.congr uZ hf;have HF:=hid lZ;obtain ⟨⟨z0,z1,z2,z3⟩,zf⟩:=eY.out;clear hf lZ uZ eY mZ DU hc;go_wp2_with fail;exact bodyPost_ret (v:=plV p (.slice A0 n0 c0) (.slice A p.cs.length c)) (by simp [results,pa3,go_sem,z0,z1,z2,z3,plV]) rfl HF.out
theorem gal {w:World} {q:Nat->Prop} (p:Pl) (v:Value) (h:PlV w q p v) (hsz:p.sz<=1073741824) (ig:p.dm<=1099511627776):Calls Tryz.prog 38 #[v] w (uf (fun b=>q b\/w.heap.size<=b) p.nf w):=
 xb6 p v h fun _=>⟨hsz,ig⟩
theorem ya0 {w:World} {q:Nat->Prop} (p:Pl) (v:Value) (h:PlV w q p v) (hsz:p.sz<=1073741824) (uZ:p.nf.sz<=1099511627776) (ig:p.dm<=1099511627776):Calls Tryz.prog 36 #[v] w (uf (fun b=>w.heap.size<=b) p.nf w):=by
 have aa3:=p.qbL h.dig hsz;have HH:=hid h;obtain ⟨A0,n0,c0,A,c,rfl,ax,fC,dK,h4⟩:=h.open_;obtain ⟨W,hW⟩:=n_m ((w.alloc (.cells #[.int .i64 p.lv,.bool p.neg,.slice A0 n0 c0,.slice A p.cs.length c] 33)).alloc (.cells #[.int .i64 0,.bool false,.slice none 0 0,.slice none 0 0] 33));have ai:Ext w W:=by rw [<- hW]; exact ((Ext.refl w).alloc _).alloc _
 have dG:W.heap.size=w.heap.size+1+1:=by rw [<- hW]; simp
 obtain ⟨b0,b1,b2,b3⟩:jb W w.heap.size p (.slice A0 n0 c0) (.slice A p.cs.length c):=by rw [<- hW]; exact (jb.new w p _ _ _).ext ((Ext.refl _).alloc _) (by simp)
 have hz:jf W (w.heap.size+1):=by
  have:=jf.new (w.alloc (.cells #[.int .i64 p.lv,.bool p.neg,.slice A0 n0 c0,.slice A p.cs.length c] 33)) 33;rw [hW] at this;simpa using this
 have aG:=hid ai;have HZ:=hid hz;have uM:=hid (fun W (hW:Ext w W)=>gal p _ (HH.out.ext hW) hsz ig);have dD:=p.xV;clear h ax h4 ai hz;generalize p.nf=P at *;have vY:=hid dD;clear dD;unfold plV at *;go_enter Tryz.func36,Tryz.ntmps36;go_wp2_with fail;clear hW b0 b1 b2 b3;refine (uM.out _ aG.out).mono ?_;rintro e w1 ⟨v1,rfl,p1,x1⟩;have HC:=hid (qai P v1 vY.out uZ (by omega) p1);obtain ⟨C0,j0,f0,C1,f1,rfl,-⟩:=id p1.open_;have X1:=hid (aG.out.trans x1);have eY:=hid (HZ.out.ext x1 (by omega));have bW:=x1.size;clear p1 x1;unfold plV at *;go_wp2_with fail;refine HC.out.mono ?_;rintro e w2 ⟨v2,rfl,p2,x2⟩;obtain ⟨D0,j1,g0,D1,g1,rfl,-⟩:=id p2.open_;obtain ⟨⟨z0,z1,z2,z3⟩,zf⟩:=eY.out.ext x2 (by omega);have HF:=hid (qf (q':=fun b=>w.heap.size<=b) (X1.out.trans x2) (se _) (eY.out.ext x2 (by omega)) p2 (fun b _ hb=>⟨by omega,by omega⟩));clear p2 x2 HC eY;unfold plV;go_wp2_with fail;exact bodyPost_ret (v:=plV P (.slice D0 j1 g0) (.slice D1 P.cs.length g1)) (by simp [results,Tryz.results36,go_sem,z0,z1,z2,z3,plV]) rfl HF.out
theorem xcs {w:World} {q:Nat->Prop} (p P:Pl) (v:Value) (h:PlV w q p v) (Uc:∀ W,Ext w W->Calls Tryz.prog 36 #[v] W (uf (fun b=>W.heap.size<=b) P W)):Calls Tryz.prog 19 #[v] w fun e w'=>e=.returned (.int .i64 P.lv)/\Ext w w':=by
 have HH:=hid h;obtain ⟨A0,n0,c0,A,c,rfl,ax,fC,dK,h4⟩:=h.open_;obtain ⟨W,hW⟩:=n_m (w.alloc (.cells #[.int .i64 p.lv,.bool p.neg,.slice A0 n0 c0,.slice A p.cs.length c] 33));have ai:Ext w W:=by rw [<- hW]; exact (Ext.refl w).alloc _
 obtain ⟨b0,b1,b2,b3⟩:jb W w.heap.size p (.slice A0 n0 c0) (.slice A p.cs.length c):=by rw [<- hW]; exact jb.new w p _ _ _
 have aG:=hid ai;have uM:=hid Uc;clear h ax h4 ai Uc;unfold plV at *;go_enter Tryz.func19,Tryz.ntmps19;go_wp2_with fail;clear hW b0 b1 b2 b3;refine (uM.out _ aG.out).mono ?_;rintro e w1 ⟨v1,rfl,p1,x1⟩;obtain ⟨C0,j0,f0,C1,f1,rfl,-⟩:=id p1.open_;have X1:=hid (aG.out.trans x1);clear p1 x1;have jX:∀ W,(Instr.field 33 (.agg #[.int .i64 P.lv,.bool P.neg,.slice C0 j0 f0,.slice C1 P.cs.length f1]) 0).run Tryz.prog W=.ok (.int .i64 P.lv) W:=fun W=>by kernel_rfl
 unfold plV at *;go_wp2_with fail;go_ret;exact ⟨rfl,X1.out⟩
theorem jci {w:World} {q:Nat->Prop} (p P:Pl) (v:Value) (h:PlV w q p v) (Uc:∀ W,Ext w W->Calls Tryz.prog 38 #[v] W (uf (fun b=>q b\/W.heap.size<=b) P W)) (dD:P.Can) (uZ:P.sz<=1099511627776) (aa3:P.dm<=35184372088832):Calls Tryz.prog 36 #[v] w (uf (fun b=>w.heap.size<=b) P w):=by
 have HH:=hid h;obtain ⟨A0,n0,c0,A,c,rfl,ax,fC,dK,h4⟩:=h.open_;obtain ⟨W,hW⟩:=n_m ((w.alloc (.cells #[.int .i64 p.lv,.bool p.neg,.slice A0 n0 c0,.slice A p.cs.length c] 33)).alloc (.cells #[.int .i64 0,.bool false,.slice none 0 0,.slice none 0 0] 33));have ai:Ext w W:=by rw [<- hW]; exact ((Ext.refl w).alloc _).alloc _
 have dG:W.heap.size=w.heap.size+1+1:=by rw [<- hW]; simp
 obtain ⟨b0,b1,b2,b3⟩:jb W w.heap.size p (.slice A0 n0 c0) (.slice A p.cs.length c):=by rw [<- hW]; exact (jb.new w p _ _ _).ext ((Ext.refl _).alloc _) (by simp)
 have hz:jf W (w.heap.size+1):=by
  have:=jf.new (w.alloc (.cells #[.int .i64 p.lv,.bool p.neg,.slice A0 n0 c0,.slice A p.cs.length c] 33)) 33;rw [hW] at this;simpa using this
 have aG:=hid ai;have HZ:=hid hz;have uM:=hid Uc;clear h ax h4 ai hz Uc;have vY:=hid dD;clear dD;unfold plV at *;go_enter Tryz.func36,Tryz.ntmps36;go_wp2_with fail;clear hW b0 b1 b2 b3;refine (uM.out _ aG.out).mono ?_;rintro e w1 ⟨v1,rfl,p1,x1⟩;have HC:=hid (qai P v1 vY.out uZ (by omega) p1);obtain ⟨C0,j0,f0,C1,f1,rfl,-⟩:=id p1.open_;have X1:=hid (aG.out.trans x1);have eY:=hid (HZ.out.ext x1 (by omega));have bW:=x1.size;clear p1 x1;unfold plV at *;go_wp2_with fail;refine HC.out.mono ?_;rintro e w2 ⟨v2,rfl,p2,x2⟩;obtain ⟨D0,j1,g0,D1,g1,rfl,-⟩:=id p2.open_;obtain ⟨⟨z0,z1,z2,z3⟩,zf⟩:=eY.out.ext x2 (by omega);have HF:=hid (qf (q':=fun b=>w.heap.size<=b) (X1.out.trans x2) (se _) (eY.out.ext x2 (by omega)) p2 (fun b _ hb=>⟨by omega,by omega⟩));clear p2 x2 HC eY;unfold plV;go_wp2_with fail;exact bodyPost_ret (v:=plV P (.slice D0 j1 g0) (.slice D1 P.cs.length g1)) (by simp [results,Tryz.results36,go_sem,z0,z1,z2,z3,plV]) rfl HF.out
theorem qac {w:World} {q:Nat->Prop} {p:Pl} (v:Value) (h:PlV w q p v) (hp:p.Can) (hsz:p.sz<=1099511627776) (ig:p.dm<=35184372088832):Calls Tryz.prog 36 #[v] w (uf (fun b=>w.heap.size<=b) p w):=
 jci p p v h (fun W hW=>ut v (h.ext hW) hp) hp hsz ig
def jdi (p:Pl):Prop:=(p.sz<=1073741824/\p.dm<=1099511627776/\p.nf.sz<=1099511627776)\/(p.Can/\p.sz<=1099511627776/\p.dm<=1099511627776)
theorem wb8 {w:World} {q:Nat->Prop} {p:Pl} (v:Value) (h:PlV w q p v) (hb:jdi p):Calls Tryz.prog 36 #[v] w (uf (fun b=>w.heap.size<=b) p.nf w):=by
 rcases hb with hb | hb
 · exact ya0 p v h hb.1 hb.2.2 hb.2.1
 · rw [Pl.q7 hb.1];exact qac v h hb.1 hb.2.1 (by omega)
theorem qbl {w:World} {q:Nat->Prop} {p:Pl} (v:Value) (h:PlV w q p v) (hb:jdi p):Calls Tryz.prog 19 #[v] w fun e w'=>e=.returned (.int .i64 p.nf.lv)/\Ext w w':=
 xcs p p.nf v h fun _ hW=>wb8 v (h.ext hW) hb
def gdf (n:Nat):Nat:=if _h:n < 10 then 1 else gdf (n / 10)+1
termination_by n
decreasing_by omega
def more (n:Nat):Nat:=if n=0 then 0 else gdf n
def Pl.var (n:Int):Pl:=if 1<=n/\n<=4 then .mk n false [] [Pl.zero,Pl.const 1] else Pl.zero
theorem Pl.qaI (n:Int):(Pl.var n).Can:=by
 unfold Pl.var
 split
 · rename_i h;refine wa8 (by omega) h.2 (by simp) (waf fun c hc=>?_) (by
    have h1:=ual (n:=1) (by decide);simp [Pl.const,Pl.zero];intro e;rw [e] at h1
    simp at h1)
   simp only [pN,sr,or_false] at hc;rcases hc with rfl | rfl
   · exact ⟨by simp [Pl.zero,Pl.lv]; omega,Pl.qT⟩
   · exact ⟨by simp [Pl.const,Pl.lv]; omega,qp 1⟩
 · exact Pl.qT
theorem Pl.zw (n:Int):Fit (Pl.var n) 1 1/\(Pl.var n).nr<=1:=by
 have h1:(Pl.var n).ex 1/\(Pl.var n).nr<=1:=by
  unfold Pl.var
  split
  · rename_i h;have hk:∀ c ∈ [Pl.zero,Pl.const 1],c.ex 1:=fun c hc=>by
     simp only [pN,sr,or_false] at hc;rcases hc with rfl | rfl
     · exact (Fit.zero (D:=1)).ex
     · exact (Fit.const (D:=1) (by decide)).ex
    refine ⟨by rw [Pl.ex]; exact .inr ⟨by simp,wba hk⟩,?_⟩
    · rw [Pl.nr,if_neg (by omega),jm,jm,jm,Pl.jx];simp [Pl.zero,Pl.nr,sgn,val]
  · exact ⟨(Fit.zero (D:=1)).ex,by simp [Pl.zero,Pl.nr,sgn,val]⟩
 exact ⟨⟨Pl.qaI n,h1.1,by
   have:=h1.2; have:1 < B32 ^ 1:=by decide
   omega⟩,h1.2⟩
def Bd (p:Pl) (W:Nat):Prop:=p.Can/\p.ex W/\p.nr<=10 ^ W
def Pl.sp (p:Pl):Sp:=qg (p.qu Mo.one)
theorem Pl.js (p:Pl):zq p.sp:=kaa _
theorem Pl.km (p:Pl):∀ x ∈ p.sp,x.2.qe:=fun x hx=>(ww hx).1
theorem Pl.XS (ρ:Int->Rat) (p:Pl):ql ρ p.sp=p.val ρ:=by
 rw [<- Pl.ze ρ p];exact jas ρ (gae p.qz)
theorem Pl.Zs {l:Sp} {p:Pl} (hc:zq l) (hn:∀ x ∈ l,x.2.qe) (h:∀ ρ,ql ρ l=p.val ρ):l=p.sp:=
 zq.uniq _ _ hc p.js (fun m=>ja7 hn p.km (fun ρ=>by rw [h,Pl.XS]) m)
theorem Pl.vl (p:Pl):qg p.sp=p.sp:=xa7 p.js p.km
theorem Pl.vu {p:Pl} (hp:p.Can):Pl.j8 p.sp=p:=Pl.qv (Pl.jj _) hp (fun ρ=>by rw [Pl.ke ρ p.km,Pl.XS])
def jad (c:Int) (l:Sp):Sp:=l.map fun x=>(x.1 * c,x.2)
theorem zbx {c:Int} {l:Sp} {x:Int × Mo} (h:x ∈ jad c l):∃ y ∈ l,x=(y.1 * c,y.2):=by
 unfold jad at h;obtain ⟨y,hy,e⟩:=pS.1 h;exact ⟨y,hy,e.symm⟩
theorem xcy (ρ:Int->Rat) (c:Int) (l:Sp):ql ρ (jad c l)=ql ρ l * (c:Rat):=by
 induction l with
 | nil=>simp [jad,ql]
 | cons x l ih =>
   obtain ⟨z,m⟩:=x;have:jad c ((z,m) :: l)=(z * c,m) :: jad c l:=rfl;rw [this];simp only [ql,ih]
   push_cast
   grind
theorem ybx {c : Int} (hc : c ≠ 0) : ∀ l : Sp, zq l -> zq (jad c l)
 | [],_=>by trivial
 | (z,m) :: r,h=>by
   have h':=h;unfold zq at h';have e:jad c ((z,m) :: r)=(z * c,m) :: jad c r:=rfl;rw [e];unfold zq;refine ⟨Pp h'.1 hc,fun x hx=>?_,ybx hc r h'.2.2⟩;obtain ⟨y,hy,rfl⟩:=zbx hx;exact h'.2.1 y hy
theorem Pl.qaA (p:Pl) {c:Int} (hc:c ≠ 0):jad c p.sp=(p.mul (Pl.const c)).sp:=
 Pl.Zs (ybx hc _ p.js) (fun x hx=>by obtain ⟨y,hy,rfl⟩:=zbx hx; exact p.km y hy) (fun ρ=>by rw [xcy,Pl.XS,Pl.qD,Pl.qS])
theorem xc3 (N:Nat) (l:List Nat) (h:l.Pairwise (· ≠ ·)):l.length<=(l.filter fun x=>decide (x ≠ N)).length+1:=by
 induction l with
 | nil=>simp
 | cons a r ih =>
   rw [tG] at h;have:=ih h.2
   by_cases ha:a=N
   · have hr:(r.filter fun x=>decide (x ≠ N))=r:=pal.2 fun x hx=>by
      have:=h.1 x hx;simp; intro e; exact this (by omega)
     rw [rR,if_neg (by simp [ha]),hr,pH];exact pj _
   · rw [rR,if_pos (by simp [ha])];simp only [pH];omega
theorem yb1 : ∀ (N : Nat) (l : List Nat), l.Pairwise (· ≠ ·) -> (∀ x ∈ l, x < N) -> l.length <= N
 | 0,l,_,h=>by
   cases l with
   | nil=>simp
   | cons a r=>exact absurd (h a (by simp)) (by omega)
 | N+1,l,hp,h=>by
   have h1:=yb1 N (l.filter fun x=>decide (x ≠ N)) (hp.filter _) (fun x hx=>by
    obtain ⟨h1,h2⟩:=sw.1 hx;have:=h x h1;simp at h2
    omega)
   have h2:=xc3 N l hp;omega
theorem zbh {x y E K:Nat} (hx:x < E) (hy:y < K):x+E * y < E * K:=by
 have h1:E * (y+1)<=E * K:=sL _ hy;rw [Nat.mul_succ] at h1;omega
theorem Mo.Kf {E:Nat} {m:Mo} (hn:m.qe) (h:m.le E):m.num (E+1) < (E+1) ^ 4:=by
 unfold Mo.qe at hn;unfold Mo.le at h;unfold Mo.num;have e4:(E+1) ^ 4=(E+1) * ((E+1) * ((E+1) * (E+1))):=by simp only [si,Wt,tr,r9]
 rw [e4];exact zbh (by omega) (zbh (by omega) (zbh (by omega) (by omega)))
theorem qcw {E:Nat} {l:Sp} (ha:Apart l) (hn:∀ x ∈ l,x.2.qe) (hE:∀ x ∈ l,x.2.le E):l.length<=(E+1) ^ 4:=by
 have h:=yb1 ((E+1) ^ 4) (l.map fun x=>x.2.num (E+1)) (by
  rw [List.pairwise_map];refine List.Pairwise.imp_of_mem (fun {x y} hx hy au=>?_) ha;have bx:=hE x hx;have bz:=hE y hy;unfold Mo.le at bx bz;rcases Mo.qbH x.2 y.2 with h | h | h
  · exact Nat.ne_of_lt (Mo.Kg (hn x hx) (hn y hy) (by omega) h)
  · exact absurd h au
  · exact (Nat.ne_of_lt (Mo.Kg (hn y hy) (hn x hx) (by omega) h)).symm) (fun n Xk=>by
  obtain ⟨x,hx,rfl⟩:=pS.1 Xk
  exact Mo.Kf (hn x hx) (hE x hx))
 rwa [pw] at h
theorem wbj : ∀ l : Sp, zq l -> Apart l
 | [],_=>List.Pairwise.nil
 | (z,m) :: r,h=>by
   unfold zq at h;refine List.Pairwise.cons (fun y hy e=>?_) (wbj r h.2.2);have:=h.2.1 y hy;rw [<- e] at this;exact Mo.lt_irrefl _ this
theorem Fit.qaB {p:Pl} {E D:Nat} (h:Fit p E D):∀ x ∈ p.sp,x.2.le E:=fun x hx=>by
 obtain ⟨-,y,hy,e⟩:=ww hx;rw [<- e];exact h.exps y hy
theorem Fit.vy {p:Pl} {E D:Nat} (h:Fit p E D):zg p.sp < B32 ^ D:=sB (py (qa7 _) (Nat.le_of_eq h.nrm)) h.nr
theorem Fit.Ke {p:Pl} {E D:Nat} (h:Fit p E D):p.sp.length<=(E+1) ^ 4:=qcw (wbj _ p.js) p.km h.qaB
theorem kbo {E:Nat} (h:E<=900):(E+1) ^ 4<=659020863601:=py (Pf (show E+1<=901 by omega) 4) (by decide)
theorem Fit.qaC {p:Pl} {E D:Nat} (h:Fit p E D):∀ x ∈ p.sp,(dg x.1.natAbs).length<=D:=fun x hx=>yf (sB (qbf hx) h.vy)
end Go.Proofs.YtcepajijiabkmaaGreat
