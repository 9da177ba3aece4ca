/- Layer 22: recpoly.canonical, Normal. -/
import Derived.Test.YtcepajijiabkmaaGreatCollect2
import Derived.Test.YtcepajijiabkmaaGreatMq4
import Derived.Deep.AppendLies
set_option linter.unusedSimpArgs false
set_option linter.unusedVariables false
set_option maxRecDepth 100000
set_option maxHeartbeats 8000000
namespace Go.Proofs.YtcepajijiabkmaaGreat
open Lib (hid)
open Go.RowKit
mutual
theorem PlV.dig {w : World} {q : Nat -> Prop} : ∀ (p : Pl) (v : Value), PlV w q p v -> p.dig
 | .mk l n d cs,v,h=>by
   unfold PlV at h;obtain ⟨s,A,c,e,h1,h2,h3,h4⟩:=h;unfold Pl.dig;exact ⟨h1.digs,jd.dig cs A 0 h4⟩
theorem jd.dig {w : World} {q : Nat -> Prop} : ∀ (cs : List Pl) (A : Option Addr) (j : Nat), jd w q cs A j -> yar cs
 | [],A,j,h=>by unfold yar; trivial
 | c :: r,A,j,h=>by
   unfold jd at h;obtain ⟨⟨ad,s,K,e,hb,hq,h1,h2⟩,h3⟩:=h;unfold yar;exact ⟨PlV.dig c _ h2,jd.dig r A (j+1) h3⟩
end
theorem zbb (p:Pl) (hd:p.dig) (hsz:p.sz<=1073741824):(dg (yg (p.terms Mo.one))).length<=p.dm+1:=by
 have h1:=Pl.terms_nrm p Mo.one p.dm (Nat.le_refl _) hd;refine ve (Nat.lt_of_le_of_lt h1 ?_);rw [Nat.pow_succ,Nat.mul_comm];exact Nat.mul_lt_mul_of_pos_left (by rw [ug]; omega) (Nat.pow_pos ui)
theorem Pl.nf_dm (p:Pl) (hd:p.dig) (hsz:p.sz<=1073741824):p.nf.dm<=p.dm+1:=by
 unfold Pl.nf Pl.ofS;refine gc6 (p.dm+1) 4 _ fun x hx=>?_
 have h1:=waz hx;have h2:=uau (p.terms Mo.one);exact Nat.le_trans (ku (Nat.le_trans h1 h2)) (zbb p hd hsz)
theorem jo {w:World} {q:Nat->Prop} {p:Pl} (v:Value) (h:PlV w q p v) (hp:p.Can):Calls Tryz.prog 38 #[v] w (zg (fun b=>q b\/w.heap.size<=b) p w):=by
 have AL:=h.dig;obtain ⟨A0,n0,c0,A,c,rfl,ak,dY,dK,h4⟩:=h.open_;obtain ⟨W,hW⟩:=n_m ((w.alloc (.cells #[.int .i64 p.lv,.bool p.neg,.slice A0 n0 c0,.slice A p.cs.length c] 33)).alloc (.cells #[.int .i64 0,.bool false,.slice none 0 0,.slice none 0 0] 33));have ag:Ext w W:=by rw [<- hW]; exact ((Ext.refl w).alloc _).alloc _
 have bY:W.heap.size=w.heap.size+1+1:=by rw [<- hW]; simp
 have bJ:jc W w.heap.size p (.slice A0 n0 c0) (.slice A p.cs.length c):=by rw [<- hW]; exact (jc.new w p _ _ _).ext ((Ext.refl _).alloc _) (by simp)
 have hz:uf W (w.heap.size+1):=by
  have:=uf.new (w.alloc (.cells #[.int .i64 p.lv,.bool p.neg,.slice A0 n0 c0,.slice A p.cs.length c] 33)) 33;rw [hW] at this;simpa using this
 obtain ⟨b0,b1,b2,b3⟩:=id bJ;have zX:PlV w (fun b=>q b/\b < w.heap.size) p (plV p (.slice A0 n0 c0) (.slice A p.cs.length c)):=PlV.turn_ (Nat.le_refl _) (fun _ _ h=>h) (fun b hb hq=>⟨⟨hq,hb⟩,rfl⟩) h;have fH:=hid zX;have aB:=hid ag;have eY:=hid bJ;have HZ:=hid hz;have CU:=hid ((Pl.isCan_iff p AL).2 hp);clear h ak h4 ag bJ hz zX AL hp;unfold plV;go_enter Tryz.func38,Tryz.ntmps38;go_wp2_with fail;clear hW b0 b1 b2 b3;refine (gbm p _ (fH.out.ext aB.out)).mono ?_;rw [CU.out];rintro e w1 ⟨rfl,x1⟩;obtain ⟨b0,b1,b2,b3⟩:=eY.out.ext x1 (by omega);have bW:=x1.size;have X1:=hid (aB.out.trans x1);have eU:=hid (HZ.out.ext x1 (by omega));clear x1;have HF:=hid (jg (q':=fun b=>q b\/w.heap.size<=b) X1.out (Nat.le_succ _) eU.out (fH.out.ext X1.out) (fun b _ hb=>⟨by omega,.inl hb.1⟩));obtain ⟨⟨z0,z1,z2,z3⟩,zf⟩:=eU.out;clear eU fH CU;go_wp2_with fail;exact bodyPost_ret (v:=plV p (.slice A0 n0 c0) (.slice A p.cs.length c)) (by simp [results,Tryz.results38,go_sem,z0,z1,z2,z3,plV]) rfl HF.out
theorem kby {w:World} {q:Nat->Prop} (p:Pl) (v:Value) (h:PlV w q p v) (iE:p.isCan=false->p.sz<=1073741824/\p.dm<=1099511627776):Calls Tryz.prog 38 #[v] w (zg (fun b=>q b\/w.heap.size<=b) p.nf w):=by
 have AL:=h.dig;obtain ⟨A0,n0,c0,A,c,rfl,ak,dY,dK,h4⟩:=h.open_;obtain ⟨W,hW⟩:=n_m ((w.alloc (.cells #[.int .i64 p.lv,.bool p.neg,.slice A0 n0 c0,.slice A p.cs.length c] 33)).alloc (.cells #[.int .i64 0,.bool false,.slice none 0 0,.slice none 0 0] 33));have ag:Ext w W:=by rw [<- hW]; exact ((Ext.refl w).alloc _).alloc _
 have bY:W.heap.size=w.heap.size+1+1:=by rw [<- hW]; simp
 have bJ:jc W w.heap.size p (.slice A0 n0 c0) (.slice A p.cs.length c):=by rw [<- hW]; exact (jc.new w p _ _ _).ext ((Ext.refl _).alloc _) (by simp)
 have hz:uf W (w.heap.size+1):=by
  have:=uf.new (w.alloc (.cells #[.int .i64 p.lv,.bool p.neg,.slice A0 n0 c0,.slice A p.cs.length c] 33)) 33;rw [hW] at this;simpa using this
 obtain ⟨b0,b1,b2,b3⟩:=id bJ;have zX:PlV w (fun b=>q b/\b < w.heap.size) p (plV p (.slice A0 n0 c0) (.slice A p.cs.length c)):=PlV.turn_ (Nat.le_refl _) (fun _ _ h=>h) (fun b hb hq=>⟨⟨hq,hb⟩,rfl⟩) h;have fH:=hid zX;have aB:=hid ag;have eY:=hid bJ;have HZ:=hid hz;have BK:=hid AL;clear h ak h4 ag bJ hz zX AL;unfold plV;go_enter Tryz.func38,Tryz.ntmps38;go_wp2_with fail;clear hW b0 b1 b2 b3;refine (gbm p _ (fH.out.ext aB.out)).mono ?_;rintro e w1 ⟨rfl,x1⟩;obtain ⟨b0,b1,b2,b3⟩:=eY.out.ext x1 (by omega);have bW:=x1.size;have X1:=hid (aB.out.trans x1);have eU:=hid (HZ.out.ext x1 (by omega));clear x1;cases hc:p.isCan
 · obtain ⟨hsz,fG⟩:=iE hc;clear iE;have eP:Hid (∀ W',Ext w W'->Calls Tryz.prog 65 #[.slice none 0 0,plV p (.slice A0 n0 c0) (.slice A p.cs.length c),moV Mo.one] W' fun e w'=>∃ tv,e=.returned tv/\TsV (some p.dm) W'.heap.size w' tv (p.terms Mo.one)/\Ext W' w'):=fun W' bg=>xba p _ p.dm (Nat.le_refl _) (by omega) (fH.out.ext bg)
   unfold moV Mo.one plV at eP;go_wp2_with fail;refine (eP.out _ X1.out).mono ?_;rintro e w2 ⟨tv,rfl,t2,x2⟩;have mD:=t2.sp;have iV:=Pl.terms_len p Mo.one;have eG:=zbb p BK.out hsz;have aJ:=xab (ko:=some p.dm) p.dm mD (fun z _=>Nat.le_refl _) (by simp only [Mo.one] at *; omega) (by simp only [Mo.one] at *; omega);have aY:=hid aJ;have X2:=hid (X1.out.trans x2);have mV:=hid (eU.out.ext x2 (by omega));have jT:=x2.size;clear aJ mD t2 x2 iV eG eP eU b0 b1 b2 b3;go_wp2_with fail;refine aY.out.mono ?_;rintro e w3 ⟨v3,rfl,⟨A3,c3,rfl,Xk,hc3,AQ⟩,x3⟩;have jX:uad 4 (jf (p.terms Mo.one)):=⟨yz _,fun x hx=>(yt hx).1,⟨Mo.one,fun x _ i h1 h2=>by omega⟩,fun x hx=>by
    obtain ⟨-,y,hy,e⟩:=yt hx;rw [<- e]
    exact (Pl.terms_le p Mo.one 0 Mo.one_le y hy).mono (by omega)⟩
   have HB:=hid (wbd w3 4 (Nat.le_refl _) (jf (p.terms Mo.one)) A3 c3 w3 AQ Xk hc3 jX (Ext.refl w3));have X3:=hid (X2.out.trans x3);have Cj:=hid (mV.out.ext x3 (by omega));have EK:=x3.size;clear x3 AQ jX aY mV;simp only [Mo.one] at HB;go_wp2_with fail;refine HB.out.mono ?_;rintro e w4 ⟨v4,rfl,p4,x4⟩;obtain ⟨C0,j0,f0,C1,f1,rfl,-⟩:=id p4.open_;obtain ⟨⟨z0,z1,z2,z3⟩,zf⟩:=Cj.out.ext x4 (by omega);have TS:=x4.size;have hf:=jg (q':=fun b=>q b\/w.heap.size<=b) (X3.out.trans x4) (Nat.le_succ _) (Cj.out.ext x4 (by omega)) p4 (fun b _ hb=>⟨by omega,.inr (by omega)⟩);have yM:p.nf=bld 4 (jf (p.terms ⟨0,0,0,0⟩)):=rfl;have nO:=zg.congr yM hf;have HF:=hid nO;clear hf nO yM p4 x4 HB Cj;generalize bld 4 (jf (p.terms ⟨0,0,0,0⟩))=P at *;unfold plV;go_wp2_with fail;exact bodyPost_ret (v:=plV P (.slice C0 j0 f0) (.slice C1 P.cs.length f1)) (by simp [results,Tryz.results38,go_sem,z0,z1,z2,z3,plV]) rfl HF.out
 · clear iE;have yM:p.nf=p:=Pl.nf_of_can ((Pl.isCan_iff p BK.out).1 hc);have hf:=jg (q':=fun b=>q b\/w.heap.size<=b) X1.out (Nat.le_succ _) eU.out (fH.out.ext X1.out) (fun b _ hb=>⟨by omega,.inl hb.1⟩);have nO:=zg.congr yM hf;have HF:=hid nO;obtain ⟨⟨z0,z1,z2,z3⟩,zf⟩:=eU.out;clear hf nO yM eU fH BK hc;go_wp2_with fail;exact bodyPost_ret (v:=plV p (.slice A0 n0 c0) (.slice A p.cs.length c)) (by simp [results,Tryz.results38,go_sem,z0,z1,z2,z3,plV]) rfl HF.out
theorem zak {w:World} {q:Nat->Prop} (p:Pl) (v:Value) (h:PlV w q p v) (hsz:p.sz<=1073741824) (fG:p.dm<=1099511627776):Calls Tryz.prog 38 #[v] w (zg (fun b=>q b\/w.heap.size<=b) p.nf w):=
 kby p v h fun _=>⟨hsz,fG⟩
theorem uaw {w:World} {q:Nat->Prop} (p:Pl) (v:Value) (h:PlV w q p v) (hsz:p.sz<=1073741824) (yM:p.nf.sz<=1099511627776) (fG:p.dm<=1099511627776):Calls Tryz.prog 36 #[v] w (zg (fun b=>w.heap.size<=b) p.nf w):=by
 have XR:=p.nf_dm h.dig hsz;have HH:=hid h;obtain ⟨A0,n0,c0,A,c,rfl,ak,dY,dK,h4⟩:=h.open_;obtain ⟨W,hW⟩:=n_m ((w.alloc (.cells #[.int .i64 p.lv,.bool p.neg,.slice A0 n0 c0,.slice A p.cs.length c] 33)).alloc (.cells #[.int .i64 0,.bool false,.slice none 0 0,.slice none 0 0] 33));have ag:Ext w W:=by rw [<- hW]; exact ((Ext.refl w).alloc _).alloc _
 have bY:W.heap.size=w.heap.size+1+1:=by rw [<- hW]; simp
 obtain ⟨b0,b1,b2,b3⟩:jc W w.heap.size p (.slice A0 n0 c0) (.slice A p.cs.length c):=by rw [<- hW]; exact (jc.new w p _ _ _).ext ((Ext.refl _).alloc _) (by simp)
 have hz:uf W (w.heap.size+1):=by
  have:=uf.new (w.alloc (.cells #[.int .i64 p.lv,.bool p.neg,.slice A0 n0 c0,.slice A p.cs.length c] 33)) 33;rw [hW] at this;simpa using this
 have aB:=hid ag;have HZ:=hid hz;have rM:=hid (fun W (hW:Ext w W)=>zak p _ (HH.out.ext hW) hsz fG);have bQ:=p.nf_can;clear h ak h4 ag hz;generalize p.nf=P at *;have tY:=hid bQ;clear bQ;unfold plV at *;go_enter Tryz.func36,Tryz.ntmps36;go_wp2_with fail;clear hW b0 b1 b2 b3;refine (rM.out _ aB.out).mono ?_;rintro e w1 ⟨v1,rfl,p1,x1⟩;have HC:=hid (qaf P v1 tY.out yM (by omega) p1);obtain ⟨C0,j0,f0,C1,f1,rfl,-⟩:=id p1.open_;have X1:=hid (aB.out.trans x1);have eU:=hid (HZ.out.ext x1 (by omega));have bW:=x1.size;clear p1 x1;unfold plV at *;go_wp2_with fail;refine HC.out.mono ?_;rintro e w2 ⟨v2,rfl,p2,x2⟩;obtain ⟨D0,j1,g0,D1,g1,rfl,-⟩:=id p2.open_;obtain ⟨⟨z0,z1,z2,z3⟩,zf⟩:=eU.out.ext x2 (by omega);have HF:=hid (jg (q':=fun b=>w.heap.size<=b) (X1.out.trans x2) (Nat.le_succ _) (eU.out.ext x2 (by omega)) p2 (fun b _ hb=>⟨by omega,by omega⟩));clear p2 x2 HC eU;unfold plV;go_wp2_with fail;exact bodyPost_ret (v:=plV P (.slice D0 j1 g0) (.slice D1 P.cs.length g1)) (by simp [results,Tryz.results36,go_sem,z0,z1,z2,z3,plV]) rfl HF.out
theorem wcj {w:World} {q:Nat->Prop} (p P:Pl) (v:Value) (h:PlV w q p v) (Qm:∀ W,Ext w W->Calls Tryz.prog 36 #[v] W (zg (fun b=>W.heap.size<=b) P W)):Calls Tryz.prog 19 #[v] w fun e w'=>e=.returned (.int .i64 P.lv)/\Ext w w':=by
 have HH:=hid h;obtain ⟨A0,n0,c0,A,c,rfl,ak,dY,dK,h4⟩:=h.open_;obtain ⟨W,hW⟩:=n_m (w.alloc (.cells #[.int .i64 p.lv,.bool p.neg,.slice A0 n0 c0,.slice A p.cs.length c] 33));have ag:Ext w W:=by rw [<- hW]; exact (Ext.refl w).alloc _
 obtain ⟨b0,b1,b2,b3⟩:jc W w.heap.size p (.slice A0 n0 c0) (.slice A p.cs.length c):=by rw [<- hW]; exact jc.new w p _ _ _
 have aB:=hid ag;have rM:=hid Qm;clear h ak h4 ag Qm;unfold plV at *;go_enter Tryz.func19,Tryz.ntmps19;go_wp2_with fail;clear hW b0 b1 b2 b3;refine (rM.out _ aB.out).mono ?_;rintro e w1 ⟨v1,rfl,p1,x1⟩;obtain ⟨C0,j0,f0,C1,f1,rfl,-⟩:=id p1.open_;have X1:=hid (aB.out.trans x1);clear p1 x1;have qK:∀ W,(Instr.field 33 (.agg #[.int .i64 P.lv,.bool P.neg,.slice C0 j0 f0,.slice C1 P.cs.length f1]) 0).run Tryz.prog W=.ok (.int .i64 P.lv) W:=fun W=>by kernel_rfl
 unfold plV at *;go_wp2_with fail;go_ret;exact ⟨rfl,X1.out⟩
theorem zcb {w:World} {q:Nat->Prop} (p P:Pl) (v:Value) (h:PlV w q p v) (Qm:∀ W,Ext w W->Calls Tryz.prog 38 #[v] W (zg (fun b=>q b\/W.heap.size<=b) P W)) (bQ:P.Can) (yM:P.sz<=1099511627776) (XR:P.dm<=35184372088832):Calls Tryz.prog 36 #[v] w (zg (fun b=>w.heap.size<=b) P w):=by
 have HH:=hid h;obtain ⟨A0,n0,c0,A,c,rfl,ak,dY,dK,h4⟩:=h.open_;obtain ⟨W,hW⟩:=n_m ((w.alloc (.cells #[.int .i64 p.lv,.bool p.neg,.slice A0 n0 c0,.slice A p.cs.length c] 33)).alloc (.cells #[.int .i64 0,.bool false,.slice none 0 0,.slice none 0 0] 33));have ag:Ext w W:=by rw [<- hW]; exact ((Ext.refl w).alloc _).alloc _
 have bY:W.heap.size=w.heap.size+1+1:=by rw [<- hW]; simp
 obtain ⟨b0,b1,b2,b3⟩:jc W w.heap.size p (.slice A0 n0 c0) (.slice A p.cs.length c):=by rw [<- hW]; exact (jc.new w p _ _ _).ext ((Ext.refl _).alloc _) (by simp)
 have hz:uf W (w.heap.size+1):=by
  have:=uf.new (w.alloc (.cells #[.int .i64 p.lv,.bool p.neg,.slice A0 n0 c0,.slice A p.cs.length c] 33)) 33;rw [hW] at this;simpa using this
 have aB:=hid ag;have HZ:=hid hz;have rM:=hid Qm;clear h ak h4 ag hz Qm;have tY:=hid bQ;clear bQ;unfold plV at *;go_enter Tryz.func36,Tryz.ntmps36;go_wp2_with fail;clear hW b0 b1 b2 b3;refine (rM.out _ aB.out).mono ?_;rintro e w1 ⟨v1,rfl,p1,x1⟩;have HC:=hid (qaf P v1 tY.out yM (by omega) p1);obtain ⟨C0,j0,f0,C1,f1,rfl,-⟩:=id p1.open_;have X1:=hid (aB.out.trans x1);have eU:=hid (HZ.out.ext x1 (by omega));have bW:=x1.size;clear p1 x1;unfold plV at *;go_wp2_with fail;refine HC.out.mono ?_;rintro e w2 ⟨v2,rfl,p2,x2⟩;obtain ⟨D0,j1,g0,D1,g1,rfl,-⟩:=id p2.open_;obtain ⟨⟨z0,z1,z2,z3⟩,zf⟩:=eU.out.ext x2 (by omega);have HF:=hid (jg (q':=fun b=>w.heap.size<=b) (X1.out.trans x2) (Nat.le_succ _) (eU.out.ext x2 (by omega)) p2 (fun b _ hb=>⟨by omega,by omega⟩));clear p2 x2 HC eU;unfold plV;go_wp2_with fail;exact bodyPost_ret (v:=plV P (.slice D0 j1 g0) (.slice D1 P.cs.length g1)) (by simp [results,Tryz.results36,go_sem,z0,z1,z2,z3,plV]) rfl HF.out
theorem wad {w:World} {q:Nat->Prop} {p:Pl} (v:Value) (h:PlV w q p v) (hp:p.Can) (hsz:p.sz<=1099511627776) (fG:p.dm<=35184372088832):Calls Tryz.prog 36 #[v] w (zg (fun b=>w.heap.size<=b) p w):=
 zcb p p v h (fun W hW=>jo v (h.ext hW) hp) hp hsz fG
def vc7 (p:Pl):Prop:=(p.sz<=1073741824/\p.dm<=1099511627776/\p.nf.sz<=1099511627776)\/(p.Can/\p.sz<=1099511627776/\p.dm<=1099511627776)
theorem jb1 {w:World} {q:Nat->Prop} {p:Pl} (v:Value) (h:PlV w q p v) (hb:vc7 p):Calls Tryz.prog 36 #[v] w (zg (fun b=>w.heap.size<=b) p.nf w):=by
 rcases hb with hb | hb
 · exact uaw p v h hb.1 hb.2.2 hb.2.1
 · rw [Pl.nf_of_can hb.1];exact wad v h hb.1 hb.2.1 (by omega)
theorem za1 {w:World} {q:Nat->Prop} {p:Pl} (v:Value) (h:PlV w q p v) (hb:vc7 p):Calls Tryz.prog 19 #[v] w fun e w'=>e=.returned (.int .i64 p.nf.lv)/\Ext w w':=
 wcj p p.nf v h fun _ hW=>jb1 v (h.ext hW) hb
def yc5 (n:Nat):Nat:=if _h:n < 10 then 1 else yc5 (n / 10)+1
termination_by n
decreasing_by omega
def more (n:Nat):Nat:=if n=0 then 0 else yc5 n
def Pl.var (n:Int):Pl:=if 1<=n/\n<=4 then .mk n false [] [Pl.zero,Pl.const 1] else Pl.zero
theorem Pl.var_can (n:Int):(Pl.var n).Can:=by
 unfold Pl.var
 split
 · rename_i h;refine za5 (by omega) h.2 (by simp) (zae fun c hc=>?_) (by
    have h1:=waj (n:=1) (by decide);simp [Pl.const,Pl.zero];intro e;rw [e] at h1
    simp at h1)
   simp only [List.mem_cons,List.not_mem_nil,or_false] at hc;rcases hc with rfl | rfl
   · exact ⟨by simp [Pl.zero,Pl.lv]; omega,Pl.zero_can⟩
   · exact ⟨by simp [Pl.const,Pl.lv]; omega,ut 1⟩
 · exact Pl.zero_can
theorem Pl.var_fit (n:Int):Fit (Pl.var n) 1 1/\(Pl.var n).nr<=1:=by
 have h1:(Pl.var n).ex 1/\(Pl.var n).nr<=1:=by
  unfold Pl.var
  split
  · rename_i h;have hk:∀ c ∈ [Pl.zero,Pl.const 1],c.ex 1:=fun c hc=>by
     simp only [List.mem_cons,List.not_mem_nil,or_false] at hc;rcases hc with rfl | rfl
     · exact (Fit.zero (D:=1)).ex
     · exact (Fit.const (D:=1) (by decide)).ex
    refine ⟨by rw [Pl.ex]; exact .inr ⟨by simp,ua6 hk⟩,?_⟩
    · rw [Pl.nr,if_neg (by omega),ql,ql,ql,Pl.const_nr];simp [Pl.zero,Pl.nr,sgn,val]
  · exact ⟨(Fit.zero (D:=1)).ex,by simp [Pl.zero,Pl.nr,sgn,val]⟩
 exact ⟨⟨Pl.var_can n, h1.1, by have := h1.2; have : 1 < B32 ^ 1 := by decide
                                omega⟩,h1.2⟩
def Bd (p:Pl) (W:Nat):Prop:=p.Can/\p.ex W/\p.nr<=10 ^ W
def Pl.sp (p:Pl):Sp:=jf (p.terms Mo.one)
theorem Pl.sp_can (p:Pl):qp p.sp:=yz _
theorem Pl.sp_nn (p:Pl):∀ x ∈ p.sp,x.2.nonneg:=fun x hx=>(yt hx).1
theorem Pl.sp_val (ρ:Int->Rat) (p:Pl):jk ρ p.sp=p.val ρ:=by
 rw [<- Pl.terms_sval ρ p];exact qap ρ (yad p.terms_one_nonneg)
theorem Pl.sp_uniq {l:Sp} {p:Pl} (hc:qp l) (hn:∀ x ∈ l,x.2.nonneg) (h:∀ ρ,jk ρ l=p.val ρ):l=p.sp:=
 qp.uniq _ _ hc p.sp_can (fun m=>xa4 hn p.sp_nn (fun ρ=>by rw [h,Pl.sp_val]) m)
theorem Pl.sp_self (p:Pl):jf p.sp=p.sp:=ya4 p.sp_can p.sp_nn
theorem Pl.sp_ofS {p:Pl} (hp:p.Can):Pl.ofS p.sp=p:=Pl.val_uniq (Pl.ofS_can _) hp (fun ρ=>by rw [Pl.ofS_val ρ p.sp_nn,Pl.sp_val])
def zac (c:Int) (l:Sp):Sp:=l.map fun x=>(x.1 * c,x.2)
theorem vbq {c:Int} {l:Sp} {x:Int × Mo} (h:x ∈ zac c l):∃ y ∈ l,x=(y.1 * c,y.2):=by
 unfold zac at h;obtain ⟨y,hy,e⟩:=List.mem_map.1 h;exact ⟨y,hy,e.symm⟩
theorem zcp (ρ:Int->Rat) (c:Int) (l:Sp):jk ρ (zac c l)=jk ρ l * (c:Rat):=by
 induction l with
 | nil=>simp [zac,jk]
 | cons x l ih =>
   obtain ⟨z,m⟩:=x;have:zac c ((z,m) :: l)=(z * c,m) :: zac c l:=rfl;rw [this];simp only [jk,ih]
   push_cast
   grind
theorem ubq {c : Int} (hc : c ≠ 0) : ∀ l : Sp, qp l -> qp (zac c l)
 | [],_=>by trivial
 | (z,m) :: r,h=>by
   have h':=h;unfold qp at h';have e:zac c ((z,m) :: r)=(z * c,m) :: zac c r:=rfl;rw [e];unfold qp;refine ⟨Int.mul_ne_zero h'.1 hc,fun x hx=>?_,ubq hc r h'.2.2⟩;obtain ⟨y,hy,rfl⟩:=vbq hx;exact h'.2.1 y hy
theorem Pl.sp_scale (p:Pl) {c:Int} (hc:c ≠ 0):zac c p.sp=(p.mul (Pl.const c)).sp:=
 Pl.sp_uniq (ubq hc _ p.sp_can) (fun x hx=>by obtain ⟨y,hy,rfl⟩:=vbq hx; exact p.sp_nn y hy) (fun ρ=>by rw [zcp,Pl.sp_val,Pl.mul_val,Pl.const_val])
theorem gcs (N:Nat) (l:List Nat) (h:l.Pairwise (· ≠ ·)):l.length<=(l.filter fun x=>decide (x ≠ N)).length+1:=by
 induction l with
 | nil=>simp
 | cons a r ih =>
   rw [List.pairwise_cons] at h;have:=ih h.2
   by_cases ha:a=N
   · have hr:(r.filter fun x=>decide (x ≠ N))=r:=List.filter_eq_self.2 fun x hx=>by
      have:=h.1 x hx;simp; intro e; exact this (by omega)
     rw [List.filter_cons,if_neg (by simp [ha]),hr,List.length_cons];exact Nat.le_refl _
   · rw [List.filter_cons,if_pos (by simp [ha])];simp only [List.length_cons];omega
theorem kbu : ∀ (N : Nat) (l : List Nat), l.Pairwise (· ≠ ·) -> (∀ x ∈ l, x < N) -> l.length <= N
 | 0,l,_,h=>by
   cases l with
   | nil=>simp
   | cons a r=>exact absurd (h a (by simp)) (by omega)
 | N+1,l,hp,h=>by
   have h1:=kbu N (l.filter fun x=>decide (x ≠ N)) (hp.filter _) (fun x hx=>by
    obtain ⟨h1,h2⟩:=List.mem_filter.1 hx;have:=h x h1;simp at h2
    omega)
   have h2:=gcs N l hp;omega
theorem ubc {x y E K:Nat} (hx:x < E) (hy:y < K):x+E * y < E * K:=by
 have h1:E * (y+1)<=E * K:=Nat.mul_le_mul_left _ hy;rw [Nat.mul_succ] at h1;omega
theorem Mo.num_lt_pow {E:Nat} {m:Mo} (hn:m.nonneg) (h:m.le E):m.num (E+1) < (E+1) ^ 4:=by
 unfold Mo.nonneg at hn;unfold Mo.le at h;unfold Mo.num;have e4:(E+1) ^ 4=(E+1) * ((E+1) * ((E+1) * (E+1))):=by simp only [Nat.pow_succ,Nat.pow_zero,Nat.one_mul,Nat.mul_assoc]
 rw [e4];exact ubc (by omega) (ubc (by omega) (ubc (by omega) (by omega)))
theorem zcn {E:Nat} {l:Sp} (ha:Apart l) (hn:∀ x ∈ l,x.2.nonneg) (hE:∀ x ∈ l,x.2.le E):l.length<=(E+1) ^ 4:=by
 have h:=kbu ((E+1) ^ 4) (l.map fun x=>x.2.num (E+1)) (by
  rw [List.pairwise_map];refine List.Pairwise.imp_of_mem (fun {x y} hx hy au=>?_) ha;have bx:=hE x hx;have bz:=hE y hy;unfold Mo.le at bx bz;rcases Mo.tri x.2 y.2 with h | h | h
  · exact Nat.ne_of_lt (Mo.num_lt (hn x hx) (hn y hy) (by omega) h)
  · exact absurd h au
  · exact (Nat.ne_of_lt (Mo.num_lt (hn y hy) (hn x hx) (by omega) h)).symm) (fun n Ub=>by
  obtain ⟨x,hx,rfl⟩:=List.mem_map.1 Ub
  exact Mo.num_lt_pow (hn x hx) (hE x hx))
 rwa [List.length_map] at h
theorem ybf : ∀ l : Sp, qp l -> Apart l
 | [],_=>List.Pairwise.nil
 | (z,m) :: r,h=>by
   unfold qp at h;refine List.Pairwise.cons (fun y hy e=>?_) (ybf r h.2.2);have:=h.2.1 y hy;rw [<- e] at this;exact Mo.lt_irrefl _ this
theorem Fit.sp_le {p:Pl} {E D:Nat} (h:Fit p E D):∀ x ∈ p.sp,x.2.le E:=fun x hx=>by
 obtain ⟨-,y,hy,e⟩:=yt hx;rw [<- e];exact h.exps y hy
theorem Fit.sp_nrm {p:Pl} {E D:Nat} (h:Fit p E D):yg p.sp < B32 ^ D:=Nat.lt_of_le_of_lt (Nat.le_trans (uau _) (Nat.le_of_eq h.nrm)) h.nr
theorem Fit.sp_len {p:Pl} {E D:Nat} (h:Fit p E D):p.sp.length<=(E+1) ^ 4:=zcn (ybf _ p.sp_can) p.sp_nn h.sp_le
theorem xbj {E:Nat} (h:E<=900):(E+1) ^ 4<=659020863601:=Nat.le_trans (Nat.pow_le_pow_left (show E+1<=901 by omega) 4) (by decide)
theorem Fit.sp_dg {p:Pl} {E D:Nat} (h:Fit p E D):∀ x ∈ p.sp,(dg x.1.natAbs).length<=D:=fun x hx=>ve (Nat.lt_of_le_of_lt (waz hx) h.sp_nrm)
end Go.Proofs.YtcepajijiabkmaaGreat
