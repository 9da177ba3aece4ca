/- Layer 22: recpoly.canonical, Normal. -/
import Derived.Test.YtklnlgnnlmdibaaGreatCollect2
import Derived.Test.YtklnlgnnlmdibaaGreatMq4
import Derived.Deep.AppendLies
set_option linter.unusedSimpArgs false
set_option linter.unusedVariables false
set_option maxRecDepth 100000
set_option maxHeartbeats 8000000
namespace Go.Proofs.YtklnlgnnlmdibaaGreat
open Lib (hid)
open Go.RowKit
mutual
theorem PlV.dig {w : World} {q : Nat -> Prop} : ∀ (p : Pl) (v : Value), PlV w q p v -> p.dig
 | .mk l n d cs,v,h=>by
   unfold PlV at h;obtain ⟨s,A,c,e,h1,h2,h3,h4⟩:=h;unfold Pl.dig;exact ⟨h1.digs,jc.dig cs A 0 h4⟩
theorem jc.dig {w : World} {q : Nat -> Prop} : ∀ (cs : List Pl) (A : Option Addr) (j : Nat), jc w q cs A j -> jaq cs
 | [],A,j,h=>by unfold jaq; trivial
 | c :: r,A,j,h=>by
   unfold jc at h;obtain ⟨⟨ad,s,K,e,hb,hq,h1,h2⟩,h3⟩:=h;unfold jaq;exact ⟨PlV.dig c _ h2,jc.dig r A (j+1) h3⟩
end
theorem ja9 (p:Pl) (hd:p.dig) (hsz:p.sz<=1073741824):(dg (qg (p.terms Mo.one))).length<=p.dm+1:=by
 have h1:=Pl.terms_nrm p Mo.one p.dm (Nat.le_refl _) hd;refine zg (Nat.lt_of_le_of_lt h1 ?_);rw [Nat.pow_succ,Nat.mul_comm];exact Nat.mul_lt_mul_of_pos_left (by rw [zh]; omega) (Nat.pow_pos yj)
theorem Pl.nf_dm (p:Pl) (hd:p.dig) (hsz:p.sz<=1073741824):p.nf.dm<=p.dm+1:=by
 unfold Pl.nf Pl.ofS;refine ycz (p.dm+1) 4 _ fun x hx=>?_
 have h1:=va9 hx;have h2:=va2 (p.terms Mo.one);exact Nat.le_trans (yu (Nat.le_trans h1 h2)) (ja9 p hd hsz)
theorem zu {w:World} {q:Nat->Prop} {p:Pl} (v:Value) (h:PlV w q p v) (hp:p.Can):Calls Tryz.prog 48 #[v] w (uf (fun b=>q b\/w.heap.size<=b) p w):=by
 have Dq:=h.dig;obtain ⟨A0,n0,c0,A,c,rfl,au,dY,eF,h4⟩:=h.open_;obtain ⟨W,hW⟩:=n_m ((w.alloc (.cells #[.int .i64 p.lv,.bool p.neg,.slice A0 n0 c0,.slice A p.cs.length c] 35)).alloc (.cells #[.int .i64 0,.bool false,.slice none 0 0,.slice none 0 0] 35));have ai:Ext w W:=by rw [<- hW]; exact ((Ext.refl w).alloc _).alloc _
 have dE:W.heap.size=w.heap.size+1+1:=by rw [<- hW]; simp
 have bG:jb W w.heap.size p (.slice A0 n0 c0) (.slice A p.cs.length c):=by rw [<- hW]; exact (jb.new w p _ _ _).ext ((Ext.refl _).alloc _) (by simp)
 have hz:jf W (w.heap.size+1):=by
  have:=jf.new (w.alloc (.cells #[.int .i64 p.lv,.bool p.neg,.slice A0 n0 c0,.slice A p.cs.length c] 35)) 35;rw [hW] at this;simpa using this
 obtain ⟨b0,b1,b2,b3⟩:=id bG;have CJ:PlV w (fun b=>q b/\b < w.heap.size) p (plV p (.slice A0 n0 c0) (.slice A p.cs.length c)):=PlV.turn_ (Nat.le_refl _) (fun _ _ h=>h) (fun b hb hq=>⟨⟨hq,hb⟩,rfl⟩) h;have qI:=hid CJ;have aF:=hid ai;have iG:=hid bG;have HZ:=hid hz;have yM:=hid ((Pl.isCan_iff p Dq).2 hp);clear h au h4 ai bG hz CJ Dq hp;unfold plV;go_enter Tryz.func48,Tryz.ntmps48;go_wp2_with fail;clear hW b0 b1 b2 b3;refine (ubj p _ (qI.out.ext aF.out)).mono ?_;rw [yM.out];rintro e w1 ⟨rfl,x1⟩;obtain ⟨b0,b1,b2,b3⟩:=iG.out.ext x1 (by omega);have bU:=x1.size;have X1:=hid (aF.out.trans x1);have eY:=hid (HZ.out.ext x1 (by omega));clear x1;have HF:=hid (qf (q':=fun b=>q b\/w.heap.size<=b) X1.out (Nat.le_succ _) eY.out (qI.out.ext X1.out) (fun b _ hb=>⟨by omega,.inl hb.1⟩));obtain ⟨⟨z0,z1,z2,z3⟩,zf⟩:=eY.out;clear eY qI yM;go_wp2_with fail;exact bodyPost_ret (v:=plV p (.slice A0 n0 c0) (.slice A p.cs.length c)) (by simp [results,Tryz.results48,go_sem,z0,z1,z2,z3,plV]) rfl HF.out
theorem zbt {w:World} {q:Nat->Prop} (p:Pl) (v:Value) (h:PlV w q p v) (fD:p.isCan=false->p.sz<=1073741824/\p.dm<=1099511627776):Calls Tryz.prog 48 #[v] w (uf (fun b=>q b\/w.heap.size<=b) p.nf w):=by
 have Dq:=h.dig;obtain ⟨A0,n0,c0,A,c,rfl,au,dY,eF,h4⟩:=h.open_;obtain ⟨W,hW⟩:=n_m ((w.alloc (.cells #[.int .i64 p.lv,.bool p.neg,.slice A0 n0 c0,.slice A p.cs.length c] 35)).alloc (.cells #[.int .i64 0,.bool false,.slice none 0 0,.slice none 0 0] 35));have ai:Ext w W:=by rw [<- hW]; exact ((Ext.refl w).alloc _).alloc _
 have dE:W.heap.size=w.heap.size+1+1:=by rw [<- hW]; simp
 have bG:jb W w.heap.size p (.slice A0 n0 c0) (.slice A p.cs.length c):=by rw [<- hW]; exact (jb.new w p _ _ _).ext ((Ext.refl _).alloc _) (by simp)
 have hz:jf W (w.heap.size+1):=by
  have:=jf.new (w.alloc (.cells #[.int .i64 p.lv,.bool p.neg,.slice A0 n0 c0,.slice A p.cs.length c] 35)) 35;rw [hW] at this;simpa using this
 obtain ⟨b0,b1,b2,b3⟩:=id bG;have CJ:PlV w (fun b=>q b/\b < w.heap.size) p (plV p (.slice A0 n0 c0) (.slice A p.cs.length c)):=PlV.turn_ (Nat.le_refl _) (fun _ _ h=>h) (fun b hb hq=>⟨⟨hq,hb⟩,rfl⟩) h;have qI:=hid CJ;have aF:=hid ai;have iG:=hid bG;have HZ:=hid hz;have Ed:=hid Dq;clear h au h4 ai bG hz CJ Dq;unfold plV;go_enter Tryz.func48,Tryz.ntmps48;go_wp2_with fail;clear hW b0 b1 b2 b3;refine (ubj p _ (qI.out.ext aF.out)).mono ?_;rintro e w1 ⟨rfl,x1⟩;obtain ⟨b0,b1,b2,b3⟩:=iG.out.ext x1 (by omega);have bU:=x1.size;have X1:=hid (aF.out.trans x1);have eY:=hid (HZ.out.ext x1 (by omega));clear x1;cases hc:p.isCan
 · obtain ⟨hsz,ig⟩:=fD hc;clear fD;have fH:Hid (∀ W',Ext w W'->Calls Tryz.prog 80 #[.slice none 0 0,plV p (.slice A0 n0 c0) (.slice A p.cs.length c),moV Mo.one] W' fun e w'=>∃ tv,e=.returned tv/\TsV (some p.dm) W'.heap.size w' tv (p.terms Mo.one)/\Ext W' w'):=fun W' bJ=>ua8 p _ p.dm (Nat.le_refl _) (by omega) (qI.out.ext bJ)
   unfold moV Mo.one plV at fH;go_wp2_with fail;refine (fH.out _ X1.out).mono ?_;rintro e w2 ⟨tv,rfl,t2,x2⟩;have rC:=t2.sp;have kD:=Pl.terms_len p Mo.one;have jX:=ja9 p Ed.out hsz;have bD:=qaj (ko:=some p.dm) p.dm rC (fun z _=>Nat.le_refl _) (by simp only [Mo.one] at *; omega) (by simp only [Mo.one] at *; omega);have dB:=hid bD;have X2:=hid (X1.out.trans x2);have ou:=hid (eY.out.ext x2 (by omega));have jF:=x2.size;clear bD rC t2 x2 kD jX fH eY b0 b1 b2 b3;go_wp2_with fail;refine dB.out.mono ?_;rintro e w3 ⟨v3,rfl,⟨A3,c3,rfl,hl3,hc3,Du⟩,x3⟩;have lW:jae 4 (ji (p.terms Mo.one)):=⟨vz _,fun x hx=>(zy hx).1,⟨Mo.one,fun x _ i h1 h2=>by omega⟩,fun x hx=>by
    obtain ⟨-,y,hy,e⟩:=zy hx;rw [<- e]
    exact (Pl.terms_le p Mo.one 0 Mo.one_le y hy).mono (by omega)⟩
   have HB:=hid (xbb w3 4 (Nat.le_refl _) (ji (p.terms Mo.one)) A3 c3 w3 Du hl3 hc3 lW (Ext.refl w3));have X3:=hid (X2.out.trans x3);have BF:=hid (ou.out.ext x3 (by omega));have En:=x3.size;clear x3 Du lW dB ou;simp only [Mo.one] at HB;go_wp2_with fail;refine HB.out.mono ?_;rintro e w4 ⟨v4,rfl,p4,x4⟩;obtain ⟨C0,j0,f0,C1,f1,rfl,-⟩:=id p4.open_;obtain ⟨⟨z0,z1,z2,z3⟩,zf⟩:=BF.out.ext x4 (by omega);have XL:=x4.size;have hf:=qf (q':=fun b=>q b\/w.heap.size<=b) (X3.out.trans x4) (Nat.le_succ _) (BF.out.ext x4 (by omega)) p4 (fun b _ hb=>⟨by omega,.inr (by omega)⟩);have vN:p.nf=bld 4 (ji (p.terms ⟨0,0,0,0⟩)):=rfl;have lK:=uf.congr vN hf;have HF:=hid lK;clear hf lK vN p4 x4 HB BF;generalize bld 4 (ji (p.terms ⟨0,0,0,0⟩))=P at *;unfold plV;go_wp2_with fail;exact bodyPost_ret (v:=plV P (.slice C0 j0 f0) (.slice C1 P.cs.length f1)) (by simp [results,Tryz.results48,go_sem,z0,z1,z2,z3,plV]) rfl HF.out
 · clear fD;have vN:p.nf=p:=Pl.nf_of_can ((Pl.isCan_iff p Ed.out).1 hc);have hf:=qf (q':=fun b=>q b\/w.heap.size<=b) X1.out (Nat.le_succ _) eY.out (qI.out.ext X1.out) (fun b _ hb=>⟨by omega,.inl hb.1⟩);have lK:=uf.congr vN hf;have HF:=hid lK;obtain ⟨⟨z0,z1,z2,z3⟩,zf⟩:=eY.out;clear hf lK vN eY qI Ed hc;go_wp2_with fail;exact bodyPost_ret (v:=plV p (.slice A0 n0 c0) (.slice A p.cs.length c)) (by simp [results,Tryz.results48,go_sem,z0,z1,z2,z3,plV]) rfl HF.out
theorem vaj {w:World} {q:Nat->Prop} (p:Pl) (v:Value) (h:PlV w q p v) (hsz:p.sz<=1073741824) (ig:p.dm<=1099511627776):Calls Tryz.prog 48 #[v] w (uf (fun b=>q b\/w.heap.size<=b) p.nf w):=
 zbt p v h fun _=>⟨hsz,ig⟩
theorem qav {w:World} {q:Nat->Prop} (p:Pl) (v:Value) (h:PlV w q p v) (hsz:p.sz<=1073741824) (vN:p.nf.sz<=1099511627776) (ig:p.dm<=1099511627776):Calls Tryz.prog 35 #[v] w (uf (fun b=>w.heap.size<=b) p.nf w):=by
 have abN:=p.nf_dm h.dig hsz;have HH:=hid h;obtain ⟨A0,n0,c0,A,c,rfl,au,dY,eF,h4⟩:=h.open_;obtain ⟨W,hW⟩:=n_m ((w.alloc (.cells #[.int .i64 p.lv,.bool p.neg,.slice A0 n0 c0,.slice A p.cs.length c] 35)).alloc (.cells #[.int .i64 0,.bool false,.slice none 0 0,.slice none 0 0] 35));have ai:Ext w W:=by rw [<- hW]; exact ((Ext.refl w).alloc _).alloc _
 have dE:W.heap.size=w.heap.size+1+1:=by rw [<- hW]; simp
 obtain ⟨b0,b1,b2,b3⟩:jb W w.heap.size p (.slice A0 n0 c0) (.slice A p.cs.length c):=by rw [<- hW]; exact (jb.new w p _ _ _).ext ((Ext.refl _).alloc _) (by simp)
 have hz:jf W (w.heap.size+1):=by
  have:=jf.new (w.alloc (.cells #[.int .i64 p.lv,.bool p.neg,.slice A0 n0 c0,.slice A p.cs.length c] 35)) 35;rw [hW] at this;simpa using this
 have aF:=hid ai;have HZ:=hid hz;have uQ:=hid (fun W (hW:Ext w W)=>vaj p _ (HH.out.ext hW) hsz ig);have dw:=p.nf_can;clear h au h4 ai hz;generalize p.nf=P at *;have wQ:=hid dw;clear dw;unfold plV at *;go_enter Tryz.func35,Tryz.ntmps35;go_wp2_with fail;clear hW b0 b1 b2 b3;refine (uQ.out _ aF.out).mono ?_;rintro e w1 ⟨v1,rfl,p1,x1⟩;have HC:=hid (qag P v1 wQ.out vN (by omega) p1);obtain ⟨C0,j0,f0,C1,f1,rfl,-⟩:=id p1.open_;have X1:=hid (aF.out.trans x1);have eY:=hid (HZ.out.ext x1 (by omega));have bU:=x1.size;clear p1 x1;unfold plV at *;go_wp2_with fail;refine HC.out.mono ?_;rintro e w2 ⟨v2,rfl,p2,x2⟩;obtain ⟨D0,j1,g0,D1,g1,rfl,-⟩:=id p2.open_;obtain ⟨⟨z0,z1,z2,z3⟩,zf⟩:=eY.out.ext x2 (by omega);have HF:=hid (qf (q':=fun b=>w.heap.size<=b) (X1.out.trans x2) (Nat.le_succ _) (eY.out.ext x2 (by omega)) p2 (fun b _ hb=>⟨by omega,by omega⟩));clear p2 x2 HC eY;unfold plV;go_wp2_with fail;exact bodyPost_ret (v:=plV P (.slice D0 j1 g0) (.slice D1 P.cs.length g1)) (by simp [results,Tryz.results35,go_sem,z0,z1,z2,z3,plV]) rfl HF.out
theorem wcb {w:World} {q:Nat->Prop} (p P:Pl) (v:Value) (h:PlV w q p v) (Gg:∀ W,Ext w W->Calls Tryz.prog 35 #[v] W (uf (fun b=>W.heap.size<=b) P W)):Calls Tryz.prog 11 #[v] w fun e w'=>e=.returned (.int .i64 P.lv)/\Ext w w':=by
 have HH:=hid h;obtain ⟨A0,n0,c0,A,c,rfl,au,dY,eF,h4⟩:=h.open_;obtain ⟨W,hW⟩:=n_m (w.alloc (.cells #[.int .i64 p.lv,.bool p.neg,.slice A0 n0 c0,.slice A p.cs.length c] 35));have ai:Ext w W:=by rw [<- hW]; exact (Ext.refl w).alloc _
 obtain ⟨b0,b1,b2,b3⟩:jb W w.heap.size p (.slice A0 n0 c0) (.slice A p.cs.length c):=by rw [<- hW]; exact jb.new w p _ _ _
 have aF:=hid ai;have uQ:=hid Gg;clear h au h4 ai Gg;unfold plV at *;go_enter Tryz.func11,Tryz.ntmps11;go_wp2_with fail;clear hW b0 b1 b2 b3;refine (uQ.out _ aF.out).mono ?_;rintro e w1 ⟨v1,rfl,p1,x1⟩;obtain ⟨C0,j0,f0,C1,f1,rfl,-⟩:=id p1.open_;have X1:=hid (aF.out.trans x1);clear p1 x1;have fC:∀ W,(Instr.field 35 (.agg #[.int .i64 P.lv,.bool P.neg,.slice C0 j0 f0,.slice C1 P.cs.length f1]) 0).run Tryz.prog W=.ok (.int .i64 P.lv) W:=fun W=>by kernel_rfl
 unfold plV at *;go_wp2_with fail;go_ret;exact ⟨rfl,X1.out⟩
theorem gb3 {w:World} {q:Nat->Prop} (p P:Pl) (v:Value) (h:PlV w q p v) (Gg:∀ W,Ext w W->Calls Tryz.prog 48 #[v] W (uf (fun b=>q b\/W.heap.size<=b) P W)) (dw:P.Can) (vN:P.sz<=1099511627776) (abN:P.dm<=35184372088832):Calls Tryz.prog 35 #[v] w (uf (fun b=>w.heap.size<=b) P w):=by
 have HH:=hid h;obtain ⟨A0,n0,c0,A,c,rfl,au,dY,eF,h4⟩:=h.open_;obtain ⟨W,hW⟩:=n_m ((w.alloc (.cells #[.int .i64 p.lv,.bool p.neg,.slice A0 n0 c0,.slice A p.cs.length c] 35)).alloc (.cells #[.int .i64 0,.bool false,.slice none 0 0,.slice none 0 0] 35));have ai:Ext w W:=by rw [<- hW]; exact ((Ext.refl w).alloc _).alloc _
 have dE:W.heap.size=w.heap.size+1+1:=by rw [<- hW]; simp
 obtain ⟨b0,b1,b2,b3⟩:jb W w.heap.size p (.slice A0 n0 c0) (.slice A p.cs.length c):=by rw [<- hW]; exact (jb.new w p _ _ _).ext ((Ext.refl _).alloc _) (by simp)
 have hz:jf W (w.heap.size+1):=by
  have:=jf.new (w.alloc (.cells #[.int .i64 p.lv,.bool p.neg,.slice A0 n0 c0,.slice A p.cs.length c] 35)) 35;rw [hW] at this;simpa using this
 have aF:=hid ai;have HZ:=hid hz;have uQ:=hid Gg;clear h au h4 ai hz Gg;have wQ:=hid dw;clear dw;unfold plV at *;go_enter Tryz.func35,Tryz.ntmps35;go_wp2_with fail;clear hW b0 b1 b2 b3;refine (uQ.out _ aF.out).mono ?_;rintro e w1 ⟨v1,rfl,p1,x1⟩;have HC:=hid (qag P v1 wQ.out vN (by omega) p1);obtain ⟨C0,j0,f0,C1,f1,rfl,-⟩:=id p1.open_;have X1:=hid (aF.out.trans x1);have eY:=hid (HZ.out.ext x1 (by omega));have bU:=x1.size;clear p1 x1;unfold plV at *;go_wp2_with fail;refine HC.out.mono ?_;rintro e w2 ⟨v2,rfl,p2,x2⟩;obtain ⟨D0,j1,g0,D1,g1,rfl,-⟩:=id p2.open_;obtain ⟨⟨z0,z1,z2,z3⟩,zf⟩:=eY.out.ext x2 (by omega);have HF:=hid (qf (q':=fun b=>w.heap.size<=b) (X1.out.trans x2) (Nat.le_succ _) (eY.out.ext x2 (by omega)) p2 (fun b _ hb=>⟨by omega,by omega⟩));clear p2 x2 HC eY;unfold plV;go_wp2_with fail;exact bodyPost_ret (v:=plV P (.slice D0 j1 g0) (.slice D1 P.cs.length g1)) (by simp [results,Tryz.results35,go_sem,z0,z1,z2,z3,plV]) rfl HF.out
theorem qaa {w:World} {q:Nat->Prop} {p:Pl} (v:Value) (h:PlV w q p v) (hp:p.Can) (hsz:p.sz<=1099511627776) (ig:p.dm<=35184372088832):Calls Tryz.prog 35 #[v] w (uf (fun b=>w.heap.size<=b) p w):=
 gb3 p p v h (fun W hW=>zu v (h.ext hW) hp) hp hsz ig
def yc0 (p:Pl):Prop:=(p.sz<=1073741824/\p.dm<=1099511627776/\p.nf.sz<=1099511627776)\/(p.Can/\p.sz<=1099511627776/\p.dm<=1099511627776)
theorem zbv {w:World} {q:Nat->Prop} {p:Pl} (v:Value) (h:PlV w q p v) (hb:yc0 p):Calls Tryz.prog 35 #[v] w (uf (fun b=>w.heap.size<=b) p.nf w):=by
 rcases hb with hb | hb
 · exact qav p v h hb.1 hb.2.2 hb.2.1
 · rw [Pl.nf_of_can hb.1];exact qaa v h hb.1 hb.2.1 (by omega)
theorem gad {w:World} {q:Nat->Prop} {p:Pl} (v:Value) (h:PlV w q p v) (hb:yc0 p):Calls Tryz.prog 11 #[v] w fun e w'=>e=.returned (.int .i64 p.nf.lv)/\Ext w w':=
 wcb p p.nf v h fun _ hW=>zbv v (h.ext hW) hb
def vcx (n:Nat):Nat:=if _h:n < 10 then 1 else vcx (n / 10)+1
termination_by n
decreasing_by omega
def more (n:Nat):Nat:=if n=0 then 0 else vcx n
def Pl.var (n:Int):Pl:=if 1<=n/\n<=4 then .mk n false [] [Pl.zero,Pl.const 1] else Pl.zero
theorem Pl.var_can (n:Int):(Pl.var n).Can:=by
 unfold Pl.var
 split
 · rename_i h;refine va3 (by omega) h.2 (by simp) (uae fun c hc=>?_) (by
    have h1:=kaj (n:=1) (by decide);simp [Pl.const,Pl.zero];intro e;rw [e] at h1
    simp at h1)
   simp only [List.mem_cons,List.not_mem_nil,or_false] at hc;rcases hc with rfl | rfl
   · exact ⟨by simp [Pl.zero,Pl.lv]; omega,Pl.zero_can⟩
   · exact ⟨by simp [Pl.const,Pl.lv]; omega,zq 1⟩
 · exact Pl.zero_can
theorem Pl.var_fit (n:Int):Fit (Pl.var n) 1 1/\(Pl.var n).nr<=1:=by
 have h1:(Pl.var n).ex 1/\(Pl.var n).nr<=1:=by
  unfold Pl.var
  split
  · rename_i h;have hk:∀ c ∈ [Pl.zero,Pl.const 1],c.ex 1:=fun c hc=>by
     simp only [List.mem_cons,List.not_mem_nil,or_false] at hc;rcases hc with rfl | rfl
     · exact (Fit.zero (D:=1)).ex
     · exact (Fit.const (D:=1) (by decide)).ex
    refine ⟨by rw [Pl.ex]; exact .inr ⟨by simp,ja5 hk⟩,?_⟩
    · rw [Pl.nr,if_neg (by omega),ul,ul,ul,Pl.const_nr];simp [Pl.zero,Pl.nr,sgn,val]
  · exact ⟨(Fit.zero (D:=1)).ex,by simp [Pl.zero,Pl.nr,sgn,val]⟩
 exact ⟨⟨Pl.var_can n, h1.1, by have := h1.2; have : 1 < B32 ^ 1 := by decide
                                omega⟩,h1.2⟩
def Bd (p:Pl) (W:Nat):Prop:=p.Can/\p.ex W/\p.nr<=10 ^ W
def Pl.sp (p:Pl):Sp:=ji (p.terms Mo.one)
theorem Pl.sp_can (p:Pl):ut p.sp:=vz _
theorem Pl.sp_nn (p:Pl):∀ x ∈ p.sp,x.2.nonneg:=fun x hx=>(zy hx).1
theorem Pl.sp_val (ρ:Int->Rat) (p:Pl):xn ρ p.sp=p.val ρ:=by
 rw [<- Pl.terms_sval ρ p];exact gao ρ (vad p.terms_one_nonneg)
theorem Pl.sp_uniq {l:Sp} {p:Pl} (hc:ut l) (hn:∀ x ∈ l,x.2.nonneg) (h:∀ ρ,xn ρ l=p.val ρ):l=p.sp:=
 ut.uniq _ _ hc p.sp_can (fun m=>ua2 hn p.sp_nn (fun ρ=>by rw [h,Pl.sp_val]) m)
theorem Pl.sp_self (p:Pl):ji p.sp=p.sp:=ka2 p.sp_can p.sp_nn
theorem Pl.sp_ofS {p:Pl} (hp:p.Can):Pl.ofS p.sp=p:=Pl.val_uniq (Pl.ofS_can _) hp (fun ρ=>by rw [Pl.ofS_val ρ p.sp_nn,Pl.sp_val])
theorem ucl (N:Nat) (l:List Nat) (h:l.Pairwise (· ≠ ·)):l.length<=(l.filter fun x=>decide (x ≠ N)).length+1:=by
 induction l with
 | nil=>simp
 | cons a r ih =>
   rw [List.pairwise_cons] at h;have:=ih h.2
   by_cases ha:a=N
   · have hr:(r.filter fun x=>decide (x ≠ N))=r:=List.filter_eq_self.2 fun x hx=>by
      have:=h.1 x hx;simp; intro e; exact this (by omega)
     rw [List.filter_cons,if_neg (by simp [ha]),hr,List.length_cons];exact Nat.le_refl _
   · rw [List.filter_cons,if_pos (by simp [ha])];simp only [List.length_cons];omega
theorem zbq : ∀ (N : Nat) (l : List Nat), l.Pairwise (· ≠ ·) -> (∀ x ∈ l, x < N) -> l.length <= N
 | 0,l,_,h=>by
   cases l with
   | nil=>simp
   | cons a r=>exact absurd (h a (by simp)) (by omega)
 | N+1,l,hp,h=>by
   have h1:=zbq N (l.filter fun x=>decide (x ≠ N)) (hp.filter _) (fun x hx=>by
    obtain ⟨h1,h2⟩:=List.mem_filter.1 hx;have:=h x h1;simp at h2
    omega)
   have h2:=ucl N l hp;omega
theorem uba {x y E K:Nat} (hx:x < E) (hy:y < K):x+E * y < E * K:=by
 have h1:E * (y+1)<=E * K:=Nat.mul_le_mul_left _ hy;rw [Nat.mul_succ] at h1;omega
theorem Mo.num_lt_pow {E:Nat} {m:Mo} (hn:m.nonneg) (h:m.le E):m.num (E+1) < (E+1) ^ 4:=by
 unfold Mo.nonneg at hn;unfold Mo.le at h;unfold Mo.num;have e4:(E+1) ^ 4=(E+1) * ((E+1) * ((E+1) * (E+1))):=by simp only [Nat.pow_succ,Nat.pow_zero,Nat.one_mul,Nat.mul_assoc]
 rw [e4];exact uba (by omega) (uba (by omega) (uba (by omega) (by omega)))
theorem gcf {E:Nat} {l:Sp} (ha:Apart l) (hn:∀ x ∈ l,x.2.nonneg) (hE:∀ x ∈ l,x.2.le E):l.length<=(E+1) ^ 4:=by
 have h:=zbq ((E+1) ^ 4) (l.map fun x=>x.2.num (E+1)) (by
  rw [List.pairwise_map];refine List.Pairwise.imp_of_mem (fun {x y} hx hy ak=>?_) ha;have bx:=hE x hx;have bz:=hE y hy;unfold Mo.le at bx bz;rcases Mo.tri x.2 y.2 with h | h | h
  · exact Nat.ne_of_lt (Mo.num_lt (hn x hx) (hn y hy) (by omega) h)
  · exact absurd h ak
  · exact (Nat.ne_of_lt (Mo.num_lt (hn y hy) (hn x hx) (by omega) h)).symm) (fun n hn'=>by
  obtain ⟨x,hx,rfl⟩:=List.mem_map.1 hn'
  exact Mo.num_lt_pow (hn x hx) (hE x hx))
 rwa [List.length_map] at h
theorem zbc : ∀ l : Sp, ut l -> Apart l
 | [],_=>List.Pairwise.nil
 | (z,m) :: r,h=>by
   unfold ut at h;refine List.Pairwise.cons (fun y hy e=>?_) (zbc r h.2.2);have:=h.2.1 y hy;rw [<- e] at this;exact Mo.lt_irrefl _ this
theorem Fit.sp_le {p:Pl} {E D:Nat} (h:Fit p E D):∀ x ∈ p.sp,x.2.le E:=fun x hx=>by
 obtain ⟨-,y,hy,e⟩:=zy hx;rw [<- e];exact h.exps y hy
theorem Fit.sp_nrm {p:Pl} {E D:Nat} (h:Fit p E D):qg p.sp < B32 ^ D:=Nat.lt_of_le_of_lt (Nat.le_trans (va2 _) (Nat.le_of_eq h.nrm)) h.nr
theorem Fit.sp_len {p:Pl} {E D:Nat} (h:Fit p E D):p.sp.length<=(E+1) ^ 4:=gcf (zbc _ p.sp_can) p.sp_nn h.sp_le
theorem uby {E:Nat} (h:E<=900):(E+1) ^ 4<=659020863601:=Nat.le_trans (Nat.pow_le_pow_left (show E+1<=901 by omega) 4) (by decide)
theorem Fit.sp_dg {p:Pl} {E D:Nat} (h:Fit p E D):∀ x ∈ p.sp,(dg x.1.natAbs).length<=D:=fun x hx=>zg (Nat.lt_of_le_of_lt (va9 hx) h.sp_nrm)
end Go.Proofs.YtklnlgnnlmdibaaGreat
