/- Layer 22: recpoly.canonical, Normal. -/
import Derived.Test.YtaedbimbbeploaaGreatDoorMb20
set_option linter.unusedSimpArgs false
set_option linter.unusedVariables false

set_option maxRecDepth 100000
set_option maxHeartbeats 8000000
namespace Go.Proofs.YtaedbimbbeploaaGreatDoor
open Go.RowKit
mutual
theorem PlV.dig {w : World} {q : Nat -> Prop} : ∀ (p : Pl) (v : Value), PlV w q p v -> p.dig
 | .mk l n d cs,v,h=>by
   unfold PlV at h;obtain ⟨s,A,c,e,h1,h2,h3,h4⟩:=h;unfold Pl.dig;exact ⟨h1.digs,jd.dig cs A 0 h4⟩
theorem jd.dig {w : World} {q : Nat -> Prop} : ∀ (cs : List Pl) (A : Option Addr) (j : Nat), jd w q cs A j -> jar cs
 | [],A,j,h=>by unfold jar; trivial
 | c :: r,A,j,h=>by
   unfold jd at h;obtain ⟨⟨ad,s,K,e,hb,hq,h1,h2⟩,h3⟩:=h;unfold jar;exact ⟨PlV.dig c _ h2,jd.dig r A (j+1) h3⟩
end
theorem qao (p:Pl) (hd:p.dig) (hsz:p.sz<=1073741824):(dg (qf (p.terms Mo.one))).length<=p.dm+1:=by
 have h1:=Pl.terms_nrm p Mo.one p.dm (Nat.le_refl _) hd;refine ji (Nat.lt_of_le_of_lt h1 ?_);rw [Nat.pow_succ,Nat.mul_comm];exact Nat.mul_lt_mul_of_pos_left (by rw [gy]; omega) (Nat.pow_pos uaf)
theorem Pl.nf_dm (p:Pl) (hd:p.dig) (hsz:p.sz<=1073741824):p.nf.dm<=p.dm+1:=by
 unfold Pl.nf Pl.ofS;refine kcy (p.dm+1) 4 _ fun x hx=>?_
 have h1:=kas hx;have h2:=wai (p.terms Mo.one);exact Nat.le_trans (jh (Nat.le_trans h1 h2)) (qao p hd hsz)
theorem Pl.nf_sz (p:Pl):p.nf.sz<=(p.sz+2) ^ 4:=by
 unfold Pl.nf Pl.ofS;refine xcy p.sz 4 _ fun x hx=>?_
 obtain ⟨-,y,hy,e⟩:=jr hx;rw [<- e];exact (Pl.terms_le p Mo.one 0 Mo.one_le y hy).mono (by omega)
theorem uab {w:World} {q:Nat->Prop} {p:Pl} (v:Value) (h:PlV w q p v) (hp:p.Can):Calls Tryz.prog 135 #[v] w (yg (fun b=>q b\/w.heap.size<=b) p w):=by
 have hdig:=h.dig;obtain ⟨A0,n0,c0,A,c,rfl,hnat,hl1,hl2,h4⟩:=h.open_;obtain ⟨W,hW⟩:∃ W,(w.alloc (.cells #[.int .i64 p.lv,.bool p.neg,.slice A0 n0 c0,.slice A p.cs.length c] 42)).alloc (.cells #[.int .i64 0,.bool false,.slice none 0 0,.slice none 0 0] 42)=W:=⟨_,rfl⟩;have hWx:Ext w W:=by rw [<- hW]; exact ((Ext.refl w).alloc _).alloc _
 have hWs:W.heap.size=w.heap.size+1+1:=by rw [<- hW]; simp
 have hbx:zg W w.heap.size p (.slice A0 n0 c0) (.slice A p.cs.length c):=by rw [<- hW]; exact (zg.new w p _ _ _).ext ((Ext.refl _).alloc _) (by simp)
 have hz:ve W (w.heap.size+1):=by
  have:=ve.new (w.alloc (.cells #[.int .i64 p.lv,.bool p.neg,.slice A0 n0 c0,.slice A p.cs.length c] 42)) 42;rw [hW] at this;simpa using this
 obtain ⟨b0,b1,b2,b3⟩:=id hbx;have hpl0:PlV w (fun b=>q b/\b < w.heap.size) p (plV p (.slice A0 n0 c0) (.slice A p.cs.length c)):=PlV.turn_ (Nat.le_refl _) (fun _ _ h=>h) (fun b hb hq=>⟨⟨hq,hb⟩,rfl⟩) h;have HPL:=Lib.hid hpl0;have HWX:=Lib.hid hWx;have HBX:=Lib.hid hbx;have HZ:=Lib.hid hz;have HCN:=Lib.hid ((Pl.isCan_iff p hdig).2 hp);clear h hnat h4 hWx hbx hz hpl0 hdig hp;unfold plV;go_enter Tryz.func135,Tryz.ntmps135;go_wp2_with fail;clear hW b0 b1 b2 b3;refine (ubg p _ (HPL.out.ext HWX.out)).mono ?_;rw [HCN.out];rintro e w1 ⟨rfl,x1⟩;obtain ⟨b0,b1,b2,b3⟩:=HBX.out.ext x1 (by omega);have hs1:=x1.size;have X1:=Lib.hid (HWX.out.trans x1);have HZ1:=Lib.hid (HZ.out.ext x1 (by omega));clear x1;have HF:=Lib.hid (jf (q':=fun b=>q b\/w.heap.size<=b) X1.out (Nat.le_succ _) HZ1.out (HPL.out.ext X1.out) (fun b _ hb=>⟨by omega,.inl hb.1⟩));obtain ⟨⟨z0,z1,z2,z3⟩,zf⟩:=HZ1.out;clear HZ1 HPL HCN;go_wp2_with fail;exact bodyPost_ret (v:=plV p (.slice A0 n0 c0) (.slice A p.cs.length c)) (by simp [results,Tryz.results135,go_sem,z0,z1,z2,z3,plV]) rfl HF.out
theorem jbr {w:World} {q:Nat->Prop} (p:Pl) (v:Value) (h:PlV w q p v) (hs0:p.isCan=false->p.sz<=1073741824/\p.dm<=1099511627776):Calls Tryz.prog 135 #[v] w (yg (fun b=>q b\/w.heap.size<=b) p.nf w):=by
 have hdig:=h.dig;obtain ⟨A0,n0,c0,A,c,rfl,hnat,hl1,hl2,h4⟩:=h.open_;obtain ⟨W,hW⟩:∃ W,(w.alloc (.cells #[.int .i64 p.lv,.bool p.neg,.slice A0 n0 c0,.slice A p.cs.length c] 42)).alloc (.cells #[.int .i64 0,.bool false,.slice none 0 0,.slice none 0 0] 42)=W:=⟨_,rfl⟩;have hWx:Ext w W:=by rw [<- hW]; exact ((Ext.refl w).alloc _).alloc _
 have hWs:W.heap.size=w.heap.size+1+1:=by rw [<- hW]; simp
 have hbx:zg W w.heap.size p (.slice A0 n0 c0) (.slice A p.cs.length c):=by rw [<- hW]; exact (zg.new w p _ _ _).ext ((Ext.refl _).alloc _) (by simp)
 have hz:ve W (w.heap.size+1):=by
  have:=ve.new (w.alloc (.cells #[.int .i64 p.lv,.bool p.neg,.slice A0 n0 c0,.slice A p.cs.length c] 42)) 42;rw [hW] at this;simpa using this
 obtain ⟨b0,b1,b2,b3⟩:=id hbx;have hpl0:PlV w (fun b=>q b/\b < w.heap.size) p (plV p (.slice A0 n0 c0) (.slice A p.cs.length c)):=PlV.turn_ (Nat.le_refl _) (fun _ _ h=>h) (fun b hb hq=>⟨⟨hq,hb⟩,rfl⟩) h;have HPL:=Lib.hid hpl0;have HWX:=Lib.hid hWx;have HBX:=Lib.hid hbx;have HZ:=Lib.hid hz;have HDIG:=Lib.hid hdig;clear h hnat h4 hWx hbx hz hpl0 hdig;unfold plV;go_enter Tryz.func135,Tryz.ntmps135;go_wp2_with fail;clear hW b0 b1 b2 b3;refine (ubg p _ (HPL.out.ext HWX.out)).mono ?_;rintro e w1 ⟨rfl,x1⟩;obtain ⟨b0,b1,b2,b3⟩:=HBX.out.ext x1 (by omega);have hs1:=x1.size;have X1:=Lib.hid (HWX.out.trans x1);have HZ1:=Lib.hid (HZ.out.ext x1 (by omega));clear x1;cases hc:p.isCan
 · obtain ⟨hsz,hdm⟩:=hs0 hc;clear hs0;have HCO:Hid (∀ W',Ext w W'->Calls Tryz.prog 183 #[.slice none 0 0,plV p (.slice A0 n0 c0) (.slice A p.cs.length c),moV Mo.one] W' fun e w'=>∃ tv,e=.returned tv/\TsV (some p.dm) W'.heap.size w' tv (p.terms Mo.one)/\Ext W' w'):=fun W' hW'=>wa5 p _ p.dm (Nat.le_refl _) (by omega) (HPL.out.ext hW')
   unfold moV Mo.one plV at HCO;go_wp2_with fail;refine (HCO.out _ X1.out).mono ?_;rintro e w2 ⟨tv,rfl,t2,x2⟩;have hsp:=t2.sp;have hln:=Pl.terms_len p Mo.one;have hdg:=qao p HDIG.out hsz;have hcall:=jav (ko:=some p.dm) p.dm hsp (fun z _=>Nat.le_refl _) (by simp only [Mo.one] at *; omega) (by simp only [Mo.one] at *; omega);have HCALL:=Lib.hid hcall;have X2:=Lib.hid (X1.out.trans x2);have HZ2:=Lib.hid (HZ1.out.ext x2 (by omega));have hs2:=x2.size;clear hcall hsp t2 x2 hln hdg HCO HZ1 b0 b1 b2 b3;go_wp2_with fail;refine HCALL.out.mono ?_;rintro e w3 ⟨v3,rfl,⟨A3,c3,rfl,hl3,hc3,hat3⟩,x3⟩;have hok:kah 4 (jc (p.terms Mo.one)):=⟨ww _,fun x hx=>(jr hx).1,⟨Mo.one,fun x _ i h1 h2=>by omega⟩,fun x hx=>by
    obtain ⟨-,y,hy,e⟩:=jr hx;rw [<- e]
    exact (Pl.terms_le p Mo.one 0 Mo.one_le y hy).mono (by omega)⟩
   have HB:=Lib.hid (vcn w3 4 (Nat.le_refl _) (jc (p.terms Mo.one)) A3 c3 w3 hat3 hl3 hc3 hok (Ext.refl w3));have X3:=Lib.hid (X2.out.trans x3);have HZ3:=Lib.hid (HZ2.out.ext x3 (by omega));have hs3:=x3.size;clear x3 hat3 hok HCALL HZ2;simp only [Mo.one] at HB;go_wp2_with fail;refine HB.out.mono ?_;rintro e w4 ⟨v4,rfl,p4,x4⟩;obtain ⟨C0,j0,f0,C1,f1,rfl,-⟩:=id p4.open_;obtain ⟨⟨z0,z1,z2,z3⟩,zf⟩:=HZ3.out.ext x4 (by omega);have hs4:=x4.size;have hf:=jf (q':=fun b=>q b\/w.heap.size<=b) (X3.out.trans x4) (Nat.le_succ _) (HZ3.out.ext x4 (by omega)) p4 (fun b _ hb=>⟨by omega,.inr (by omega)⟩);have hnf:p.nf=bld 4 (jc (p.terms ⟨0,0,0,0⟩)):=rfl;have hf2:=yg.congr hnf hf;have HF:=Lib.hid hf2;clear hf hf2 hnf p4 x4 HB HZ3;generalize bld 4 (jc (p.terms ⟨0,0,0,0⟩))=P at *;unfold plV;go_wp2_with fail;exact bodyPost_ret (v:=plV P (.slice C0 j0 f0) (.slice C1 P.cs.length f1)) (by simp [results,Tryz.results135,go_sem,z0,z1,z2,z3,plV]) rfl HF.out
 · clear hs0;have hnf:p.nf=p:=Pl.nf_of_can ((Pl.isCan_iff p HDIG.out).1 hc);have hf:=jf (q':=fun b=>q b\/w.heap.size<=b) X1.out (Nat.le_succ _) HZ1.out (HPL.out.ext X1.out) (fun b _ hb=>⟨by omega,.inl hb.1⟩);have hf2:=yg.congr hnf hf;have HF:=Lib.hid hf2;obtain ⟨⟨z0,z1,z2,z3⟩,zf⟩:=HZ1.out;clear hf hf2 hnf HZ1 HPL HDIG hc;go_wp2_with fail;exact bodyPost_ret (v:=plV p (.slice A0 n0 c0) (.slice A p.cs.length c)) (by simp [results,Tryz.results135,go_sem,z0,z1,z2,z3,plV]) rfl HF.out
theorem wbi {w:World} {q:Nat->Prop} (p:Pl) (v:Value) (h:PlV w q p v) (hsz:p.sz<=1073741824) (hdm:p.dm<=1099511627776):Calls Tryz.prog 135 #[v] w (yg (fun b=>q b\/w.heap.size<=b) p.nf w):=
 jbr p v h fun _=>⟨hsz,hdm⟩
theorem qa4 {w:World} {q:Nat->Prop} (p:Pl) (v:Value) (h:PlV w q p v) (hsz:p.sz<=1073741824) (hnf:p.nf.sz<=1099511627776) (hdm:p.dm<=1099511627776):Calls Tryz.prog 79 #[v] w (yg (fun b=>w.heap.size<=b) p.nf w):=by
 have hdm2:=p.nf_dm h.dig hsz;have HH:=Lib.hid h;obtain ⟨A0,n0,c0,A,c,rfl,hnat,hl1,hl2,h4⟩:=h.open_;obtain ⟨W,hW⟩:∃ W,(w.alloc (.cells #[.int .i64 p.lv,.bool p.neg,.slice A0 n0 c0,.slice A p.cs.length c] 42)).alloc (.cells #[.int .i64 0,.bool false,.slice none 0 0,.slice none 0 0] 42)=W:=⟨_,rfl⟩;have hWx:Ext w W:=by rw [<- hW]; exact ((Ext.refl w).alloc _).alloc _
 have hWs:W.heap.size=w.heap.size+1+1:=by rw [<- hW]; simp
 obtain ⟨b0,b1,b2,b3⟩:zg W w.heap.size p (.slice A0 n0 c0) (.slice A p.cs.length c):=by rw [<- hW]; exact (zg.new w p _ _ _).ext ((Ext.refl _).alloc _) (by simp)
 have hz:ve W (w.heap.size+1):=by
  have:=ve.new (w.alloc (.cells #[.int .i64 p.lv,.bool p.neg,.slice A0 n0 c0,.slice A p.cs.length c] 42)) 42;rw [hW] at this;simpa using this
 have HWX:=Lib.hid hWx;have HZ:=Lib.hid hz;have HCA:=Lib.hid (fun W (hW:Ext w W)=>wbi p _ (HH.out.ext hW) hsz hdm);have hcan:=p.nf_can;clear h hnat h4 hWx hz;generalize p.nf=P at *;have HCAN:=Lib.hid hcan;clear hcan;unfold plV at *;go_enter Tryz.func79,Tryz.ntmps79;go_wp2_with fail;clear hW b0 b1 b2 b3;refine (HCA.out _ HWX.out).mono ?_;rintro e w1 ⟨v1,rfl,p1,x1⟩;have HC:=Lib.hid (wao P v1 HCAN.out hnf (by omega) p1);obtain ⟨C0,j0,f0,C1,f1,rfl,-⟩:=id p1.open_;have X1:=Lib.hid (HWX.out.trans x1);have HZ1:=Lib.hid (HZ.out.ext x1 (by omega));have hs1:=x1.size;clear p1 x1;unfold plV at *;go_wp2_with fail;refine HC.out.mono ?_;rintro e w2 ⟨v2,rfl,p2,x2⟩;obtain ⟨D0,j1,g0,D1,g1,rfl,-⟩:=id p2.open_;obtain ⟨⟨z0,z1,z2,z3⟩,zf⟩:=HZ1.out.ext x2 (by omega);have HF:=Lib.hid (jf (q':=fun b=>w.heap.size<=b) (X1.out.trans x2) (Nat.le_succ _) (HZ1.out.ext x2 (by omega)) p2 (fun b _ hb=>⟨by omega,by omega⟩));clear p2 x2 HC HZ1;unfold plV;go_wp2_with fail;exact bodyPost_ret (v:=plV P (.slice D0 j1 g0) (.slice D1 P.cs.length g1)) (by simp [results,Tryz.results79,go_sem,z0,z1,z2,z3,plV]) rfl HF.out
theorem ub2 {w:World} {q:Nat->Prop} (p:Pl) (v:Value) (h:PlV w q p v) (hsz:p.sz<=1073741824) (hnf:p.nf.sz<=1099511627776) (hdm:p.dm<=1099511627776):Calls Tryz.prog 146 #[v] w fun e w'=>e=.returned (.int .i64 p.nf.lv)/\Ext w w':=by
 have HH:=Lib.hid h;obtain ⟨A0,n0,c0,A,c,rfl,hnat,hl1,hl2,h4⟩:=h.open_;obtain ⟨W,hW⟩:∃ W,w.alloc (.cells #[.int .i64 p.lv,.bool p.neg,.slice A0 n0 c0,.slice A p.cs.length c] 42)=W:=⟨_,rfl⟩;have hWx:Ext w W:=by rw [<- hW]; exact (Ext.refl w).alloc _
 obtain ⟨b0,b1,b2,b3⟩:zg W w.heap.size p (.slice A0 n0 c0) (.slice A p.cs.length c):=by rw [<- hW]; exact zg.new w p _ _ _
 have HWX:=Lib.hid hWx;have HCA:=Lib.hid (fun W (hW:Ext w W)=>qa4 p _ (HH.out.ext hW) hsz hnf hdm);clear h hnat h4 hWx;generalize p.nf=P at *;unfold plV at *;go_enter Tryz.func146,Tryz.ntmps146;go_wp2_with fail;clear hW b0 b1 b2 b3;refine (HCA.out _ HWX.out).mono ?_;rintro e w1 ⟨v1,rfl,p1,x1⟩;obtain ⟨C0,j0,f0,C1,f1,rfl,-⟩:=id p1.open_;have X1:=Lib.hid (HWX.out.trans x1);clear p1 x1;have hfl:∀ W,(Instr.field 42 (.agg #[.int .i64 P.lv,.bool P.neg,.slice C0 j0 f0,.slice C1 P.cs.length f1]) 0).run Tryz.prog W=.ok (.int .i64 P.lv) W:=fun W=>by kernel_rfl
 unfold plV at *;go_wp2_with fail;go_ret;exact ⟨rfl,X1.out⟩
end Go.Proofs.YtaedbimbbeploaaGreatDoor
