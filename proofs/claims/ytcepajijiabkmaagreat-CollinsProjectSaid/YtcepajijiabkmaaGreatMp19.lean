/- Layer 22: recpoly.canonical, Normal. -/
import Derived.Test.YtcepajijiabkmaaGreatMp18
import Derived.Test.YtcepajijiabkmaaGreatMp4
import Derived.Deep.AppendLies
set_option linter.unusedSimpArgs false
set_option linter.unusedVariables false
set_option maxRecDepth 100000
set_option maxHeartbeats 8000000
namespace Go.Proofs.YtcepajijiabkmaaGreat
open Lib (hid)
open Go.RowKit
mutual
theorem PlV.dig {w : World} {q : Nat -> Prop} : ∀ (p : Pl) (v : Value), PlV w q p v -> p.dig
 | .mk l n d cs,v,h=>by
   unfold PlV at h;obtain ⟨s,A,c,e,h1,h2,h3,h4⟩:=h;unfold Pl.dig;exact ⟨h1.kq,jd.dig cs A 0 h4⟩
theorem jd.dig {w : World} {q : Nat -> Prop} : ∀ (cs : List Pl) (A : Option Addr) (j : Nat), jd w q cs A j -> qat cs
 | [],A,j,h=>by unfold qat; trivial
 | c :: r,A,j,h=>by
   unfold jd at h;obtain ⟨⟨ad,s,K,e,hb,hq,h1,h2⟩,h3⟩:=h;unfold qat;exact ⟨PlV.dig c _ h2,jd.dig r A (j+1) h3⟩
end
theorem wbc (p:Pl) (hd:p.dig) (hsz:p.sz<=1073741824):(dg (zg (p.qt Mo.one))).length<=p.dm+1:=by
 have h1:=Pl.Qt p Mo.one p.dm (pj _) hd;refine yf (sw h1 ?_);rw [se,sj];exact Te (by rw [zh]; omega) (tp yj)
theorem Pl.qbL (p:Pl) (hd:p.dig) (hsz:p.sz<=1073741824):p.nf.dm<=p.dm+1:=by
 unfold Pl.nf Pl.jz;refine zdc (p.dm+1) 4 _ fun x hx=>?_
 have h1:=ybd hx;have h2:=va5 (p.qt Mo.one);exact py (yu (py h1 h2)) (wbc p hd hsz)
theorem ut {w:World} {q:Nat->Prop} {p:Pl} (v:Value) (h:PlV w q p v) (hp:p.Can):Calls Tryz.prog 38 #[v] w (uf (fun b=>q b\/w.heap.size<=b) p w):=by
 have CQ:=h.dig;obtain ⟨A0,n0,c0,A,c,rfl,au,dP,dC,h4⟩:=h.open_;obtain ⟨W,hW⟩:=n_m ((w.alloc (.cells #[.int .i64 p.lv,.bool p.neg,.slice A0 n0 c0,.slice A p.cs.length c] 33)).alloc (.cells #[.int .i64 0,.bool false,.slice none 0 0,.slice none 0 0] 33));have ai:Ext w W:=by rw [<- hW]; exact ((Ext.refl w).alloc _).alloc _
 have dG:W.heap.size=w.heap.size+1+1:=by rw [<- hW]; simp
 have bV:jb W w.heap.size p (.slice A0 n0 c0) (.slice A p.cs.length c):=by rw [<- hW]; exact (jb.new w p _ _ _).ext ((Ext.refl _).alloc _) (by simp)
 have hz:jf W (w.heap.size+1):=by
  have:=jf.new (w.alloc (.cells #[.int .i64 p.lv,.bool p.neg,.slice A0 n0 c0,.slice A p.cs.length c] 33)) 33;rw [hW] at this;simpa using this
 obtain ⟨b0,b1,b2,b3⟩:=id bV;have BR:PlV w (fun b=>q b/\b < w.heap.size) p (plV p (.slice A0 n0 c0) (.slice A p.cs.length c)):=PlV.zd (pj _) (fun _ _ h=>h) (fun b hb hq=>⟨⟨hq,hb⟩,rfl⟩) h;have mX:=hid BR;have aG:=hid ai;have kL:=hid bV;have HZ:=hid hz;have Ez:=hid ((Pl.kd p CQ).2 hp);clear h au h4 ai bV hz BR CQ hp;unfold plV;go_enter Tryz.func38,Tryz.ntmps38;go_wp2_with fail;clear hW b0 b1 b2 b3;refine (kbp p _ (mX.out.ext aG.out)).mono ?_;rw [Ez.out];rintro e w1 ⟨rfl,x1⟩;obtain ⟨b0,b1,b2,b3⟩:=kL.out.ext x1 (by omega);have bW:=x1.size;have X1:=hid (aG.out.trans x1);have eX:=hid (HZ.out.ext x1 (by omega));clear x1;have HF:=hid (qf (q':=fun b=>q b\/w.heap.size<=b) X1.out (r6 _) eX.out (mX.out.ext X1.out) (fun b _ hb=>⟨by omega,.inl hb.1⟩));obtain ⟨⟨z0,z1,z2,z3⟩,zf⟩:=eX.out;clear eX mX Ez;go_wp2_with fail;exact bodyPost_ret (v:=plV p (.slice A0 n0 c0) (.slice A p.cs.length c)) (by simp [results,Tryz.results38,go_sem,z0,z1,z2,z3,plV]) rfl HF.out
theorem jb1 {w:World} {q:Nat->Prop} (p:Pl) (v:Value) (h:PlV w q p v) (iT:p.xL=false->p.sz<=1073741824/\p.dm<=1099511627776):Calls Tryz.prog 38 #[v] w (uf (fun b=>q b\/w.heap.size<=b) p.nf w):=by
 have CQ:=h.dig;obtain ⟨A0,n0,c0,A,c,rfl,au,dP,dC,h4⟩:=h.open_;obtain ⟨W,hW⟩:=n_m ((w.alloc (.cells #[.int .i64 p.lv,.bool p.neg,.slice A0 n0 c0,.slice A p.cs.length c] 33)).alloc (.cells #[.int .i64 0,.bool false,.slice none 0 0,.slice none 0 0] 33));have ai:Ext w W:=by rw [<- hW]; exact ((Ext.refl w).alloc _).alloc _
 have dG:W.heap.size=w.heap.size+1+1:=by rw [<- hW]; simp
 have bV:jb W w.heap.size p (.slice A0 n0 c0) (.slice A p.cs.length c):=by rw [<- hW]; exact (jb.new w p _ _ _).ext ((Ext.refl _).alloc _) (by simp)
 have hz:jf W (w.heap.size+1):=by
  have:=jf.new (w.alloc (.cells #[.int .i64 p.lv,.bool p.neg,.slice A0 n0 c0,.slice A p.cs.length c] 33)) 33;rw [hW] at this;simpa using this
 obtain ⟨b0,b1,b2,b3⟩:=id bV;have BR:PlV w (fun b=>q b/\b < w.heap.size) p (plV p (.slice A0 n0 c0) (.slice A p.cs.length c)):=PlV.zd (pj _) (fun _ _ h=>h) (fun b hb hq=>⟨⟨hq,hb⟩,rfl⟩) h;have mX:=hid BR;have aG:=hid ai;have kL:=hid bV;have HZ:=hid hz;have DN:=hid CQ;clear h au h4 ai bV hz BR CQ;unfold plV;go_enter Tryz.func38,Tryz.ntmps38;go_wp2_with fail;clear hW b0 b1 b2 b3;refine (kbp p _ (mX.out.ext aG.out)).mono ?_;rintro e w1 ⟨rfl,x1⟩;obtain ⟨b0,b1,b2,b3⟩:=kL.out.ext x1 (by omega);have bW:=x1.size;have X1:=hid (aG.out.trans x1);have eX:=hid (HZ.out.ext x1 (by omega));clear x1;cases hc:p.xL
 · obtain ⟨hsz,gY⟩:=iT hc;clear iT;have ig:Hid (∀ W',Ext w W'->Calls Tryz.prog 65 #[.slice none 0 0,plV p (.slice A0 n0 c0) (.slice A p.cs.length c),moV Mo.one] W' fun e w'=>∃ tv,e=.returned tv/\TsV (some p.dm) W'.heap.size w' tv (p.qt Mo.one)/\Ext W' w'):=fun W' bJ=>ybc p _ p.dm (pj _) (by omega) (mX.out.ext bJ)
   unfold moV Mo.one plV at ig;go_wp2_with fail;refine (ig.out _ X1.out).mono ?_;rintro e w2 ⟨tv,rfl,t2,x2⟩;have oZ:=t2.sp;have jQ:=Pl.ky p Mo.one;have gZ:=wbc p DN.out hsz;have aO:=gac (ko:=some p.dm) p.dm oZ (fun z _=>pj _) (by simp only [Mo.one] at *; omega) (by simp only [Mo.one] at *; omega);have bH:=hid aO;have X2:=hid (X1.out.trans x2);have nY:=hid (eX.out.ext x2 (by omega));have jG:=x2.size;clear aO oZ t2 x2 jQ gZ ig eX b0 b1 b2 b3;go_wp2_with fail;refine bH.out.mono ?_;rintro e w3 ⟨v3,rfl,⟨A3,c3,rfl,hl3,hc3,CW⟩,x3⟩;have lU:gae 4 (xg (p.qt Mo.one)):=⟨vz _,fun x hx=>(qw hx).1,⟨Mo.one,fun x _ i h1 h2=>by omega⟩,fun x hx=>by
    obtain ⟨-,y,hy,e⟩:=qw hx;rw [<- e]
    exact (Pl.JN p Mo.one 0 Mo.one_le y hy).mono (by omega)⟩
   have HB:=hid (kbf w3 4 (pj _) (xg (p.qt Mo.one)) A3 c3 w3 CW hl3 hc3 lU (Ext.refl w3));have X3:=hid (X2.out.trans x3);have Be:=hid (nY.out.ext x3 (by omega));have DY:=x3.size;clear x3 CW lU bH nY;simp only [Mo.one] at HB;go_wp2_with fail;refine HB.out.mono ?_;rintro e w4 ⟨v4,rfl,p4,x4⟩;obtain ⟨C0,j0,f0,C1,f1,rfl,-⟩:=id p4.open_;obtain ⟨⟨z0,z1,z2,z3⟩,zf⟩:=Be.out.ext x4 (by omega);have uA:=x4.size;have hf:=qf (q':=fun b=>q b\/w.heap.size<=b) (X3.out.trans x4) (r6 _) (Be.out.ext x4 (by omega)) p4 (fun b _ hb=>⟨by omega,.inr (by omega)⟩);have vG:p.nf=bld 4 (xg (p.qt ⟨0,0,0,0⟩)):=rfl;have lY:=uf.congr vG hf;have HF:=hid lY;clear hf lY vG p4 x4 HB Be;generalize bld 4 (xg (p.qt ⟨0,0,0,0⟩))=P at *;unfold plV;go_wp2_with fail;exact bodyPost_ret (v:=plV P (.slice C0 j0 f0) (.slice C1 P.cs.length f1)) (by simp [results,Tryz.results38,go_sem,z0,z1,z2,z3,plV]) rfl HF.out
 · clear iT;have vG:p.nf=p:=Pl.q7 ((Pl.kd p DN.out).1 hc);have hf:=qf (q':=fun b=>q b\/w.heap.size<=b) X1.out (r6 _) eX.out (mX.out.ext X1.out) (fun b _ hb=>⟨by omega,.inl hb.1⟩);have lY:=uf.congr vG hf;have HF:=hid lY;obtain ⟨⟨z0,z1,z2,z3⟩,zf⟩:=eX.out;clear hf lY vG eX mX DN hc;go_wp2_with fail;exact bodyPost_ret (v:=plV p (.slice A0 n0 c0) (.slice A p.cs.length c)) (by simp [results,Tryz.results38,go_sem,z0,z1,z2,z3,plV]) rfl HF.out
theorem uak {w:World} {q:Nat->Prop} (p:Pl) (v:Value) (h:PlV w q p v) (hsz:p.sz<=1073741824) (gY:p.dm<=1099511627776):Calls Tryz.prog 38 #[v] w (uf (fun b=>q b\/w.heap.size<=b) p.nf w):=
 jb1 p v h fun _=>⟨hsz,gY⟩
theorem jay {w:World} {q:Nat->Prop} (p:Pl) (v:Value) (h:PlV w q p v) (hsz:p.sz<=1073741824) (vG:p.nf.sz<=1099511627776) (gY:p.dm<=1099511627776):Calls Tryz.prog 36 #[v] w (uf (fun b=>w.heap.size<=b) p.nf w):=by
 have aaZ:=p.qbL h.dig hsz;have HH:=hid h;obtain ⟨A0,n0,c0,A,c,rfl,au,dP,dC,h4⟩:=h.open_;obtain ⟨W,hW⟩:=n_m ((w.alloc (.cells #[.int .i64 p.lv,.bool p.neg,.slice A0 n0 c0,.slice A p.cs.length c] 33)).alloc (.cells #[.int .i64 0,.bool false,.slice none 0 0,.slice none 0 0] 33));have ai:Ext w W:=by rw [<- hW]; exact ((Ext.refl w).alloc _).alloc _
 have dG:W.heap.size=w.heap.size+1+1:=by rw [<- hW]; simp
 obtain ⟨b0,b1,b2,b3⟩:jb W w.heap.size p (.slice A0 n0 c0) (.slice A p.cs.length c):=by rw [<- hW]; exact (jb.new w p _ _ _).ext ((Ext.refl _).alloc _) (by simp)
 have hz:jf W (w.heap.size+1):=by
  have:=jf.new (w.alloc (.cells #[.int .i64 p.lv,.bool p.neg,.slice A0 n0 c0,.slice A p.cs.length c] 33)) 33;rw [hW] at this;simpa using this
 have aG:=hid ai;have HZ:=hid hz;have uM:=hid (fun W (hW:Ext w W)=>uak p _ (HH.out.ext hW) hsz gY);have dD:=p.xT;clear h au h4 ai hz;generalize p.nf=P at *;have wG:=hid dD;clear dD;unfold plV at *;go_enter Tryz.func36,Tryz.ntmps36;go_wp2_with fail;clear hW b0 b1 b2 b3;refine (uM.out _ aG.out).mono ?_;rintro e w1 ⟨v1,rfl,p1,x1⟩;have HC:=hid (zah P v1 wG.out vG (by omega) p1);obtain ⟨C0,j0,f0,C1,f1,rfl,-⟩:=id p1.open_;have X1:=hid (aG.out.trans x1);have eX:=hid (HZ.out.ext x1 (by omega));have bW:=x1.size;clear p1 x1;unfold plV at *;go_wp2_with fail;refine HC.out.mono ?_;rintro e w2 ⟨v2,rfl,p2,x2⟩;obtain ⟨D0,j1,g0,D1,g1,rfl,-⟩:=id p2.open_;obtain ⟨⟨z0,z1,z2,z3⟩,zf⟩:=eX.out.ext x2 (by omega);have HF:=hid (qf (q':=fun b=>w.heap.size<=b) (X1.out.trans x2) (r6 _) (eX.out.ext x2 (by omega)) p2 (fun b _ hb=>⟨by omega,by omega⟩));clear p2 x2 HC eX;unfold plV;go_wp2_with fail;exact bodyPost_ret (v:=plV P (.slice D0 j1 g0) (.slice D1 P.cs.length g1)) (by simp [results,Tryz.results36,go_sem,z0,z1,z2,z3,plV]) rfl HF.out
theorem ycn {w:World} {q:Nat->Prop} (p P:Pl) (v:Value) (h:PlV w q p v) (Uc:∀ W,Ext w W->Calls Tryz.prog 36 #[v] W (uf (fun b=>W.heap.size<=b) P W)):Calls Tryz.prog 19 #[v] w fun e w'=>e=.returned (.int .i64 P.lv)/\Ext w w':=by
 have HH:=hid h;obtain ⟨A0,n0,c0,A,c,rfl,au,dP,dC,h4⟩:=h.open_;obtain ⟨W,hW⟩:=n_m (w.alloc (.cells #[.int .i64 p.lv,.bool p.neg,.slice A0 n0 c0,.slice A p.cs.length c] 33));have ai:Ext w W:=by rw [<- hW]; exact (Ext.refl w).alloc _
 obtain ⟨b0,b1,b2,b3⟩:jb W w.heap.size p (.slice A0 n0 c0) (.slice A p.cs.length c):=by rw [<- hW]; exact jb.new w p _ _ _
 have aG:=hid ai;have uM:=hid Uc;clear h au h4 ai Uc;unfold plV at *;go_enter Tryz.func19,Tryz.ntmps19;go_wp2_with fail;clear hW b0 b1 b2 b3;refine (uM.out _ aG.out).mono ?_;rintro e w1 ⟨v1,rfl,p1,x1⟩;obtain ⟨C0,j0,f0,C1,f1,rfl,-⟩:=id p1.open_;have X1:=hid (aG.out.trans x1);clear p1 x1;have kD:∀ W,(Instr.field 33 (.agg #[.int .i64 P.lv,.bool P.neg,.slice C0 j0 f0,.slice C1 P.cs.length f1]) 0).run Tryz.prog W=.ok (.int .i64 P.lv) W:=fun W=>by kernel_rfl
 unfold plV at *;go_wp2_with fail;go_ret;exact ⟨rfl,X1.out⟩
theorem wcd {w:World} {q:Nat->Prop} (p P:Pl) (v:Value) (h:PlV w q p v) (Uc:∀ W,Ext w W->Calls Tryz.prog 38 #[v] W (uf (fun b=>q b\/W.heap.size<=b) P W)) (dD:P.Can) (vG:P.sz<=1099511627776) (aaZ:P.dm<=35184372088832):Calls Tryz.prog 36 #[v] w (uf (fun b=>w.heap.size<=b) P w):=by
 have HH:=hid h;obtain ⟨A0,n0,c0,A,c,rfl,au,dP,dC,h4⟩:=h.open_;obtain ⟨W,hW⟩:=n_m ((w.alloc (.cells #[.int .i64 p.lv,.bool p.neg,.slice A0 n0 c0,.slice A p.cs.length c] 33)).alloc (.cells #[.int .i64 0,.bool false,.slice none 0 0,.slice none 0 0] 33));have ai:Ext w W:=by rw [<- hW]; exact ((Ext.refl w).alloc _).alloc _
 have dG:W.heap.size=w.heap.size+1+1:=by rw [<- hW]; simp
 obtain ⟨b0,b1,b2,b3⟩:jb W w.heap.size p (.slice A0 n0 c0) (.slice A p.cs.length c):=by rw [<- hW]; exact (jb.new w p _ _ _).ext ((Ext.refl _).alloc _) (by simp)
 have hz:jf W (w.heap.size+1):=by
  have:=jf.new (w.alloc (.cells #[.int .i64 p.lv,.bool p.neg,.slice A0 n0 c0,.slice A p.cs.length c] 33)) 33;rw [hW] at this;simpa using this
 have aG:=hid ai;have HZ:=hid hz;have uM:=hid Uc;clear h au h4 ai hz Uc;have wG:=hid dD;clear dD;unfold plV at *;go_enter Tryz.func36,Tryz.ntmps36;go_wp2_with fail;clear hW b0 b1 b2 b3;refine (uM.out _ aG.out).mono ?_;rintro e w1 ⟨v1,rfl,p1,x1⟩;have HC:=hid (zah P v1 wG.out vG (by omega) p1);obtain ⟨C0,j0,f0,C1,f1,rfl,-⟩:=id p1.open_;have X1:=hid (aG.out.trans x1);have eX:=hid (HZ.out.ext x1 (by omega));have bW:=x1.size;clear p1 x1;unfold plV at *;go_wp2_with fail;refine HC.out.mono ?_;rintro e w2 ⟨v2,rfl,p2,x2⟩;obtain ⟨D0,j1,g0,D1,g1,rfl,-⟩:=id p2.open_;obtain ⟨⟨z0,z1,z2,z3⟩,zf⟩:=eX.out.ext x2 (by omega);have HF:=hid (qf (q':=fun b=>w.heap.size<=b) (X1.out.trans x2) (r6 _) (eX.out.ext x2 (by omega)) p2 (fun b _ hb=>⟨by omega,by omega⟩));clear p2 x2 HC eX;unfold plV;go_wp2_with fail;exact bodyPost_ret (v:=plV P (.slice D0 j1 g0) (.slice D1 P.cs.length g1)) (by simp [results,Tryz.results36,go_sem,z0,z1,z2,z3,plV]) rfl HF.out
theorem qab {w:World} {q:Nat->Prop} {p:Pl} (v:Value) (h:PlV w q p v) (hp:p.Can) (hsz:p.sz<=1099511627776) (gY:p.dm<=35184372088832):Calls Tryz.prog 36 #[v] w (uf (fun b=>w.heap.size<=b) p w):=
 wcd p p v h (fun W hW=>ut v (h.ext hW) hp) hp hsz gY
def zdd (p:Pl):Prop:=(p.sz<=1073741824/\p.dm<=1099511627776/\p.nf.sz<=1099511627776)\/(p.Can/\p.sz<=1099511627776/\p.dm<=1099511627776)
theorem wb4 {w:World} {q:Nat->Prop} {p:Pl} (v:Value) (h:PlV w q p v) (hb:zdd p):Calls Tryz.prog 36 #[v] w (uf (fun b=>w.heap.size<=b) p.nf w):=by
 rcases hb with hb | hb
 · exact jay p v h hb.1 hb.2.2 hb.2.1
 · rw [Pl.q7 hb.1];exact qab v h hb.1 hb.2.1 (by omega)
theorem ga2 {w:World} {q:Nat->Prop} {p:Pl} (v:Value) (h:PlV w q p v) (hb:zdd p):Calls Tryz.prog 19 #[v] w fun e w'=>e=.returned (.int .i64 p.nf.lv)/\Ext w w':=
 ycn p p.nf v h fun _ hW=>wb4 v (h.ext hW) hb
def kda (n:Nat):Nat:=if _h:n < 10 then 1 else kda (n / 10)+1
termination_by n
decreasing_by omega
def more (n:Nat):Nat:=if n=0 then 0 else kda n
def Pl.var (n:Int):Pl:=if 1<=n/\n<=4 then .mk n false [] [Pl.zero,Pl.const 1] else Pl.zero
theorem Pl.qaH (n:Int):(Pl.var n).Can:=by
 unfold Pl.var
 split
 · rename_i h;refine wa6 (by omega) h.2 (by simp) (zaf fun c hc=>?_) (by
    have h1:=vak (n:=1) (by decide);simp [Pl.const,Pl.zero];intro e;rw [e] at h1
    simp at h1)
   simp only [pQ,sM,or_false] at hc;rcases hc with rfl | rfl
   · exact ⟨by simp [Pl.zero,Pl.lv]; omega,Pl.qS⟩
   · exact ⟨by simp [Pl.const,Pl.lv]; omega,zt 1⟩
 · exact Pl.qS
theorem Pl.zw (n:Int):Fit (Pl.var n) 1 1/\(Pl.var n).nr<=1:=by
 have h1:(Pl.var n).ex 1/\(Pl.var n).nr<=1:=by
  unfold Pl.var
  split
  · rename_i h;have hk:∀ c ∈ [Pl.zero,Pl.const 1],c.ex 1:=fun c hc=>by
     simp only [pQ,sM,or_false] at hc;rcases hc with rfl | rfl
     · exact (Fit.zero (D:=1)).ex
     · exact (Fit.const (D:=1) (by decide)).ex
    refine ⟨by rw [Pl.ex]; exact .inr ⟨by simp,ua8 hk⟩,?_⟩
    · rw [Pl.nr,if_neg (by omega),ql,ql,ql,Pl.ju];simp [Pl.zero,Pl.nr,sgn,val]
  · exact ⟨(Fit.zero (D:=1)).ex,by simp [Pl.zero,Pl.nr,sgn,val]⟩
 exact ⟨⟨Pl.qaH n,h1.1,by
   have:=h1.2; have:1 < B32 ^ 1:=by decide
   omega⟩,h1.2⟩
def Bd (p:Pl) (W:Nat):Prop:=p.Can/\p.ex W/\p.nr<=10 ^ W
def Pl.sp (p:Pl):Sp:=xg (p.qt Mo.one)
theorem Pl.ki (p:Pl):yt p.sp:=vz _
theorem Pl.kI (p:Pl):∀ x ∈ p.sp,x.2.qe:=fun x hx=>(qw hx).1
theorem Pl.Kc (ρ:Int->Rat) (p:Pl):xn ρ p.sp=p.val ρ:=by
 rw [<- Pl.ze ρ p];exact xar ρ (yae p.qv)
theorem Pl.Kx {l:Sp} {p:Pl} (hc:yt l) (hn:∀ x ∈ l,x.2.qe) (h:∀ ρ,xn ρ l=p.val ρ):l=p.sp:=
 yt.uniq _ _ hc p.ki (fun m=>ua5 hn p.kI (fun ρ=>by rw [h,Pl.Kc]) m)
theorem Pl.vl (p:Pl):xg p.sp=p.sp:=ka5 p.ki p.kI
theorem Pl.vu {p:Pl} (hp:p.Can):Pl.jz p.sp=p:=Pl.qz (Pl.jj _) hp (fun ρ=>by rw [Pl.ka ρ p.kI,Pl.Kc])
theorem xcw (N:Nat) (l:List Nat) (h:l.Pairwise (· ≠ ·)):l.length<=(l.filter fun x=>decide (x ≠ N)).length+1:=by
 induction l with
 | nil=>simp
 | cons a r ih =>
   rw [tE] at h;have:=ih h.2
   by_cases ha:a=N
   · have hr:(r.filter fun x=>decide (x ≠ N))=r:=List.filter_eq_self.2 fun x hx=>by
      have:=h.1 x hx;simp; intro e; exact this (by omega)
     rw [sB,if_neg (by simp [ha]),hr,pL];exact pj _
   · rw [sB,if_pos (by simp [ha])];simp only [pL];omega
theorem zbx : ∀ (N : Nat) (l : List Nat), l.Pairwise (· ≠ ·) -> (∀ x ∈ l, x < N) -> l.length <= N
 | 0,l,_,h=>by
   cases l with
   | nil=>simp
   | cons a r=>exact absurd (h a (by simp)) (by omega)
 | N+1,l,hp,h=>by
   have h1:=zbx N (l.filter fun x=>decide (x ≠ N)) (hp.filter _) (fun x hx=>by
    obtain ⟨h1,h2⟩:=sq.1 hx;have:=h x h1;simp at h2
    omega)
   have h2:=xcw N l hp;omega
theorem vbe {x y E K:Nat} (hx:x < E) (hy:y < K):x+E * y < E * K:=by
 have h1:E * (y+1)<=E * K:=sE _ hy;rw [Nat.mul_succ] at h1;omega
theorem Mo.Ke {E:Nat} {m:Mo} (hn:m.qe) (h:m.le E):m.num (E+1) < (E+1) ^ 4:=by
 unfold Mo.qe at hn;unfold Mo.le at h;unfold Mo.num;have e4:(E+1) ^ 4=(E+1) * ((E+1) * ((E+1) * (E+1))):=by simp only [se,Nat.pow_zero,tr,rT]
 rw [e4];exact vbe (by omega) (vbe (by omega) (vbe (by omega) (by omega)))
theorem zcr {E:Nat} {l:Sp} (ha:Apart l) (hn:∀ x ∈ l,x.2.qe) (hE:∀ x ∈ l,x.2.le E):l.length<=(E+1) ^ 4:=by
 have h:=zbx ((E+1) ^ 4) (l.map fun x=>x.2.num (E+1)) (by
  rw [List.pairwise_map];refine List.Pairwise.imp_of_mem (fun {x y} hx hy ax=>?_) ha;have bx:=hE x hx;have bz:=hE y hy;unfold Mo.le at bx bz;rcases Mo.qbG x.2 y.2 with h | h | h
  · exact Nat.ne_of_lt (Mo.Kf (hn x hx) (hn y hy) (by omega) h)
  · exact absurd h ax
  · exact (Nat.ne_of_lt (Mo.Kf (hn y hy) (hn x hx) (by omega) h)).symm) (fun n Xj=>by
  obtain ⟨x,hx,rfl⟩:=pZ.1 Xj
  exact Mo.Ke (hn x hx) (hE x hx))
 rwa [px] at h
theorem gbg : ∀ l : Sp, yt l -> Apart l
 | [],_=>List.Pairwise.nil
 | (z,m) :: r,h=>by
   unfold yt at h;refine List.Pairwise.cons (fun y hy e=>?_) (gbg r h.2.2);have:=h.2.1 y hy;rw [<- e] at this;exact Mo.lt_irrefl _ this
theorem Fit.qaA {p:Pl} {E D:Nat} (h:Fit p E D):∀ x ∈ p.sp,x.2.le E:=fun x hx=>by
 obtain ⟨-,y,hy,e⟩:=qw hx;rw [<- e];exact h.exps y hy
theorem Fit.vy {p:Pl} {E D:Nat} (h:Fit p E D):zg p.sp < B32 ^ D:=sw (py (va5 _) (Nat.le_of_eq h.nrm)) h.nr
theorem Fit.Kd {p:Pl} {E D:Nat} (h:Fit p E D):p.sp.length<=(E+1) ^ 4:=zcr (gbg _ p.ki) p.kI h.qaA
theorem jbl {E:Nat} (h:E<=900):(E+1) ^ 4<=659020863601:=py (Pc (show E+1<=901 by omega) 4) (by decide)
theorem Fit.qaB {p:Pl} {E D:Nat} (h:Fit p E D):∀ x ∈ p.sp,(dg x.1.natAbs).length<=D:=fun x hx=>yf (sw (ybd hx) h.vy)
end Go.Proofs.YtcepajijiabkmaaGreat
