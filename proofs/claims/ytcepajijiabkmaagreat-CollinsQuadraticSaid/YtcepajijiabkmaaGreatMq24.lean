/- Layer 22: recpoly.Pow at a canonical polynomial, recpoly.Var. -/
import Derived.Test.YtcepajijiabkmaaGreatMq23
set_option linter.unusedSimpArgs false
set_option linter.unusedVariables false
set_option maxRecDepth 100000
set_option maxHeartbeats 8000000
namespace Go.Proofs.YtcepajijiabkmaaGreat
open Lib (hid)
open Go.RowKit
theorem kb3 (a b:Nat) (ha:a < 9223372036854775808) (hb:b < 9223372036854775808):bits .and .i64 (a:Int) (b:Int)=((a &&& b:Nat):Int):=by
 have h1:=Nat.and_le_left (n:=a) (m:=b);show IntKind.i64.wrap ((BitVec.ofInt 64 a &&& BitVec.ofInt 64 b).toNat:Nat)=_;rw [BitVec.toNat_and,BitVec.toNat_ofInt,BitVec.toNat_ofInt,show ((a:Int) % ((2 ^ 64:Nat):Int)).toNat=a by omega,show ((b:Int) % ((2 ^ 64:Nat):Int)).toNat=b by omega,IntKind.wrap_i64];omega
def qbz (n:Int) (b e:Nat):Prop:=(n<=0/\e=0)\/(0 < n/\((∃ j,b=2 ^ j/\e=n.toNat / 2 ^ (j+1))\/(b=0/\e=n.toNat)))
theorem qbz.next {n:Int} {b e j:Nat} (h:0 < n) (hb:b=2 ^ j) (he:e=n.toNat / 2 ^ (j+1)):qbz n (b / 2) (2 * e+n.toNat / 2 ^ j % 2)/\2 * e+n.toNat / 2 ^ j % 2<=n.toNat/\e<=n.toNat:=by
 have h1:=gcw n.toNat j;have h2:n.toNat / 2 ^ j<=n.toNat:=Nat.div_le_self _ _;refine ⟨.inr ⟨h,?_⟩,by omega,by omega⟩;cases j with
 | zero=>exact .inr ⟨by rw [hb],by rw [Nat.pow_zero,Nat.div_one] at h1; omega⟩
 | succ j=>exact .inl ⟨j,by rw [hb,Nat.pow_succ]; omega,by omega⟩
theorem uf.far {W W':World} {g:Nat} (h:uf W g) (hh:W'.heap[g]?=W.heap[g]?) (hf:∀ a,W'.frozen? a=W.frozen? a):uf W' g:=by
 obtain ⟨⟨z0,z1,z2,z3⟩,zf⟩:=h;have k:∀ i,W'.cell? ⟨g,i,none⟩=W.cell? ⟨g,i,none⟩:=fun i=>World.cell?_of_block (a:=⟨g,i,none⟩) hh
 exact ⟨⟨(k _).trans z0,(k _).trans z1,(k _).trans z2,(k _).trans z3⟩,fun i=>(hf _).trans (zf i)⟩
structure jau (w : World) (g : Nat) (p r : Pl) (wr : World) : Prop where
 ext:Ext w wr
 zero:uf wr (w.heap.size+1)
 lt:g < wr.heap.size
 old:w.heap.size+1 < g
 fr:∀ i,wr.frozen? ⟨g,i,none⟩=false
 bp:∃ A0 n0 c0 A1 c1,jc wr w.heap.size p (.slice A0 n0 c0) (.slice A1 p.cs.length c1)/\PlV wr (fun b=>b ≠ g) p (plV p (.slice A0 n0 c0) (.slice A1 p.cs.length c1))
 br:∃ A0 n0 c0 A1 c1,jc wr g r (.slice A0 n0 c0) (.slice A1 r.cs.length c1)/\PlV wr (fun b=>b ≠ g) r (plV r (.slice A0 n0 c0) (.slice A1 r.cs.length c1))
theorem jau.go {w wr w':World} {g:Nat} {p r:Pl} (h:jau w g p r wr) (x:Ext wr w'):jau w g p r w':=by
 obtain ⟨h1,h2,h3,h4,h5,⟨A0,n0,c0,A1,c1,h6,h7⟩,⟨B0,m0,d0,B1,d1,h8,h9⟩⟩:=h;exact ⟨h1.trans x,h2.ext x (by omega),Nat.lt_of_lt_of_le h3 x.size,h4,fun i=>(x.frozen (p:=⟨g,i,none⟩) h3).trans (h5 i),⟨A0,n0,c0,A1,c1,h6.ext x (by omega),h7.ext x⟩,⟨B0,m0,d0,B1,d1,h8.ext x h3,h9.ext x⟩⟩
theorem jau.put {w wr w':World} {g:Nat} {p r r':Pl} {A0 A1:Option Addr} {n0 c0 c1:Nat} (h:jau w g p r wr) (x:Ext wr w') (k:PlV w' (fun b=>wr.heap.size<=b) r' (plV r' (.slice A0 n0 c0) (.slice A1 r'.cs.length c1))) :
 jau w g p r' ((((w'.setCell ⟨g,0,none⟩ (.int .i64 r'.lv)).setCell ⟨g,1,none⟩ (.bool r'.neg)).setCell ⟨g,2,none⟩ (.slice A0 n0 c0)).setCell ⟨g,3,none⟩ (.slice A1 r'.cs.length c1)):=by
 have af:=h.lt;obtain ⟨h1,h2,h3,h4,h5,⟨E0,j0,e0,E1,e1,h6,h7⟩,⟨B0,m0,d0,B1,d1,h8,h9⟩⟩:=h.go x;have hh:∀ k,k ≠ g->((((w'.setCell ⟨g,0,none⟩ (.int .i64 r'.lv)).setCell ⟨g,1,none⟩ (.bool r'.neg)).setCell ⟨g,2,none⟩ (.slice A0 n0 c0)).setCell ⟨g,3,none⟩ (.slice A1 r'.cs.length c1)).heap[k]?=w'.heap[k]?:=fun k hk=>xac _ _ _ _ _ _ k hk
 refine ⟨(((h1.setCell (by show _<=g; omega) _).setCell (by show _<=g; omega) _).setCell (by show _<=g; omega) _).setCell (by show _<=g; omega) _,h2.far (hh _ (by omega)) (fun a=>by simp only [World.frozen?_setCell]),by simp [World.setCell]; exact h3,h4,fun i=>by simp only [World.frozen?_setCell]; exact h5 i,
  ⟨E0,j0,e0,E1,e1,h6.turn (hh _ (by omega)),h8.keep _ _ _ _ h7 (fun b _ hb=>⟨hb,hb⟩)⟩,⟨A0,n0,c0,A1,c1,h8.set,h8.keep _ _ _ _ k (fun b _ hb=>⟨by omega,by omega⟩)⟩⟩
theorem va2 {w:World} {q0:Nat->Prop} {p:Pl} {E D:Nat} {n:Int} (v0:Value) (h0:PlV w q0 p v0) (hp:Fit p E D) (hE:(n.toNat+1) * E<=900) (hD:(n.toNat+1) * D<=4398046511000) (hn:n<=1000000) :
 Calls Tryz.prog 25 #[v0,.int .i64 n] w (zg (fun b=>w.heap.size<=b) (p.pow n.toNat) w):=by
 have hE1:E<=900:=Nat.le_trans (Nat.le_mul_of_pos_left E (Nat.succ_pos n.toNat)) hE;have hD1:D<=4398046511000:=Nat.le_trans (Nat.le_mul_of_pos_left D (Nat.succ_pos n.toNat)) hD;have HF:Hid (∀ k,k<=n.toNat->Fit (p.pow k) 900 4398046511001):=hid fun k hk=>(hp.pow_le (Nat.le_trans hk (Nat.le_succ _))).mono hE (Nat.add_le_add_right hD 1)
 have HP:=hid (hp.mono hE1 hD1);have H0:=hid h0;obtain ⟨A0,n0,c0,B0,d0,rfl,-,-,-,-⟩:=h0.open_;obtain ⟨W,hW⟩:=n_m ((w.alloc (.cells #[.int .i64 p.lv,.bool p.neg,.slice A0 n0 c0,.slice B0 p.cs.length d0] 33)).alloc (.cells #[.int .i64 0,.bool false,.slice none 0 0,.slice none 0 0] 33));have ag:Ext w W:=by rw [<- hW]; exact ((Ext.refl w).alloc _).alloc _
 have bY:W.heap.size=w.heap.size+1+1:=by rw [<- hW]; simp
 have bJ:jc W w.heap.size p (.slice A0 n0 c0) (.slice B0 p.cs.length d0):=by rw [<- hW]; exact (jc.new w p _ _ _).ext ((Ext.refl _).alloc _) (by simp)
 have hz:uf W (w.heap.size+1):=by
  have:=uf.new (w.alloc (.cells #[.int .i64 p.lv,.bool p.neg,.slice A0 n0 c0,.slice B0 p.cs.length d0] 33)) 33;rw [hW] at this;simpa using this
 have bu:∀ i,W.frozen? ⟨w.heap.size,i,none⟩=false:=fun i=>by rw [<- hW]; simp [go_sem]
 have aB:=hid ag;have eY:=hid bJ;have HZ:=hid hz;have oP:=hid bu;have rM:=hid (jo _ (PlV.turn_ (q:=fun b=>q0 b/\b < w.heap.size) ag.size (fun _ _ h=>h.ext ag) (fun b hb hq=>⟨⟨hq,hb⟩,ag.below.block b hb⟩) H0.out) hp.can);obtain ⟨b0,b1,b2,b3⟩:=bJ;clear h0 hp hE hD ag hz bu hE1 hD1;unfold plV at rM;unfold plV;go_enter Tryz.func25,Tryz.ntmps25;go_wp2_with fail;clear hW b0 b1 b2 b3;refine rM.out.mono ?_;rintro e w1 ⟨v1,rfl,m1,x1⟩;obtain ⟨C0,j0,f0,C1,f1,rfl,-⟩:=id m1.open_;have bW:=x1.size;have cO:=eY.out.ext x1 (by omega);have fr:∀ i,w1.frozen? ⟨w.heap.size,i,none⟩=false:=fun i=>(x1.frozen (p:=⟨w.heap.size,i,none⟩) (by show w.heap.size < _; omega)).trans (oP.out i)
 obtain ⟨W1,aP⟩:=n_m (((((w1.setCell ⟨w.heap.size,0,none⟩ (.int .i64 p.lv)).setCell ⟨w.heap.size,1,none⟩ (.bool p.neg)).setCell ⟨w.heap.size,2,none⟩ (.slice C0 j0 f0)).setCell ⟨w.heap.size,3,none⟩ (.slice C1 p.cs.length f1)));have X1:Hid (Ext w W1):=hid (by rw [<- aP]; exact ((((aB.out.trans x1).setCell (Nat.le_refl _) _).setCell (Nat.le_refl _) _).setCell (Nat.le_refl _) _).setCell (Nat.le_refl _) _);have fM:Hid (jc W1 w.heap.size p (.slice C0 j0 f0) (.slice C1 p.cs.length f1)):=hid (by rw [<- aP]; exact jc.set cO);have RU:Hid (PlV W1 (fun b=>b < w.heap.size\/w.heap.size+1 < b/\b < W1.heap.size) p (plV p (.slice C0 j0 f0) (.slice C1 p.cs.length f1))):=hid (by
  rw [<- aP]
  exact cO.keep _ _ _ _ m1 (fun b hb hq=>by (have:((((w1.setCell ⟨w.heap.size,0,none⟩ (.int .i64 p.lv)).setCell ⟨w.heap.size,1,none⟩ (.bool p.neg)).setCell ⟨w.heap.size,2,none⟩ (.slice C0 j0 f0)).setCell ⟨w.heap.size,3,none⟩ (.slice C1 p.cs.length f1)).heap.size=w1.heap.size:=by simp [World.setCell]); refine ⟨?_,?_⟩ <;> rcases hq with ⟨-,hq⟩ | hq <;> omega))
 have eU:Hid (uf W1 (w.heap.size+1)):=hid (by
  have h1:=HZ.out.ext x1 (by omega);rw [<- aP]
  exact h1.far (xac _ _ _ _ _ _ _ (by omega)) (fun a=>by simp only [World.frozen?_setCell]))
 have jT:W1.heap.size=w1.heap.size:=by rw [<- aP]; simp [World.setCell]
 obtain ⟨b0,b1,b2,b3⟩:=cO;clear m1 x1 rM;unfold plV;go_wp2_with fail;clear aP b0 b1 b2 b3 fr;refine (of_int 1 W1 (by omega) (by omega)).mono ?_;rintro e w2 ⟨z2,rfl,⟨y2,rfl,m2⟩,x2⟩;obtain ⟨C2,k2,rfl,-⟩:=id m2;have EK:=x2.size;have o8:=hid (gak m2 (show (dg (1:Int).natAbs).length<=1 from ve (by decide)));have X2:=hid x2;clear m2 x2;go_wp2_with fail;refine (waq _ o8.out (by omega)).mono ?_;rintro e w3 ⟨v3,rfl,m3,x3⟩;obtain ⟨C3,j3,f3,D3,e3,rfl,-⟩:=id m3.open_;have TS:=x3.size;obtain ⟨W3,xK⟩:=n_m ((w3.alloc (Obj.cells #[.int .i64 (Pl.const 1).lv,.bool (Pl.const 1).neg,.slice C3 j3 f3,.slice D3 (Pl.const 1).cs.length e3] 33)));have HJ:Hid (jau w w3.heap.size p (p.pow 0) W3):=hid (by
  have x4:Ext w3 W3:=by rw [<- xK]; exact (Ext.refl w3).alloc _
  have xx:Ext W1 W3:=(X2.out.trans x3).trans x4;have TR:W3.heap.size=w3.heap.size+1:=by rw [<- xK]; simp
  have m4:PlV W3 (fun b=>b ≠ w3.heap.size) (Pl.const 1) (plV (Pl.const 1) (.slice C3 j3 f3) (.slice D3 (Pl.const 1).cs.length e3)):=
   PlV.turn_ (by omega) (fun _ _ h=>h.ext x4) (fun b hb _=>⟨by omega,x4.below.block b hb⟩) m3
  exact ⟨X1.out.trans xx,eU.out.ext xx (by omega),by omega,by omega,fun i=>by rw [<- xK]; simp [go_sem],⟨C0,j0,f0,C1,f1,fM.out.ext xx (by omega),(PlV.ext RU.out xx).mono (fun b hb=>by omega)⟩,⟨C3,j3,f3,D3,e3,by rw [<- xK]; exact jc.new w3 (Pl.const 1) _ _ _,m4⟩⟩)
 clear m3 x3 X2 o8 X1 eU RU fM HZ eY aB oP H0;unfold plV;generalize hg:w3.heap.size=g at *;go_wp2_with fail;clear xK hg bW jT EK TS bY
 go_loopw [6] (fun hv wr=>∃ m:Nat,hv=.int .i64 m/\Hid ((∃ k,m=2 ^ k)/\jau w g p (p.pow 0) wr)/\1<=m/\(m<=n.toNat\/m=1)/\(n<=0->m=1)) (fun hv _=>n.toNat+1 - (intOf hv).toNat)
 case atStart=>exact ⟨1,rfl,⟨⟨0,rfl⟩,HJ.out⟩,Nat.le_refl _,.inr rfl,fun _=>rfl⟩
 case round =>
  obtain ⟨m,rfl,hh0,Xa,Lh,hm3⟩:=hrel;have HH:=hid hh0.out;clear hh0
  by_cases Ap:0 < n/\m<=n.toNat / 2
  · obtain ⟨h0,hle⟩:=Ap;have O0:(m:Int)<=n / 2:=by omega
    have hw:IntKind.i64.wrap ((m:Int) * 2)=((m * 2:Nat):Int):=by rw [IntKind.wrap_i64]; omega
    have HL:=hid hle;clear hle;go_wp2_with fail
    go_roundw
    case rel =>
     obtain ⟨⟨k,hk⟩,hj⟩:=HH.out;have hle:=HL.out;exact ⟨m * 2,by rw [Int.natCast_mul]; rfl,⟨⟨k+1,by rw [hk,Nat.pow_succ]⟩,hj⟩,by omega,.inl (by omega),fun h=>by omega⟩
    case measure=>have hle:=HL.out; simp [intOf]; omega
  · have HE:Hid (qbz n m 0):=hid (by
     by_cases h0:0 < n
     · obtain ⟨⟨k,hk⟩,-⟩:=HH.out;have hle:¬ m<=n.toNat / 2:=fun e=>Ap ⟨h0,e⟩
       refine .inr ⟨h0,.inl ⟨k,hk,(Nat.div_eq_of_lt ?_).symm⟩⟩;rw [Nat.pow_succ,<- hk];omega
     · exact .inl ⟨by omega,rfl⟩)
    have Uc:m<=n.toNat+1:=by omega
    have HM:=hid Uc
    by_cases h0:0 < n
    focus
     have O0:¬ (m:Int)<=n / 2:=by omega
     clear Ap Xa Lh hm3 Uc;go_wp2_with fail;clear O0
    rotate_left
    focus
     clear Ap Xa Lh hm3 Uc;go_wp2_with fail
    all_goals
     go_loopw [7] (fun tv wr=>∃ b e:Nat,tv=.int .i64 b/\Hid (qbz n b e/\jau w g p (p.pow e) wr)/\b<=n.toNat+1) (fun tv _=>(intOf tv).toNat)
     case atStart=>exact ⟨m,0,rfl,⟨HE.out,HH.out.2⟩,HM.out⟩
     case round =>
      obtain ⟨b,e,rfl,Ui,hb⟩:=hrel;have BH:=hid Ui.out.2;have TW:=Ui.out.1;clear Ui HE HH HM HJ;obtain ⟨B0,m0,d0,B1,d1,Qu,jV⟩:=BH.out.br;have fH:=hid jV;have MV:=hid Qu;have kR:=hid BH.out.lt;clear jV
      by_cases XQ:0 < n/\0 < b
      · first
        | (exfalso; omega)
        | (obtain ⟨gV,bU⟩:=XQ
           obtain ⟨j,Yo,PU⟩:∃ j,b=2 ^ j/\e=n.toNat / 2 ^ (j+1):=by
            rcases TW with ⟨h,-⟩ | ⟨-,h | ⟨h,-⟩⟩
            · omega
            · exact h
            · omega
           have rJ:=hid (qbz.next gV Yo PU);have hbn:b<=1000001:=by omega
           obtain ⟨c,hc⟩:=n_m (b / 2);have hq:(b:Int) / 2=(c:Int):=by omega
           have LC:c < b:=by omega
           rw [hc] at rJ;clear hc;have uU:bits .and .i64 n (b:Int)=((b * (n.toNat / 2 ^ j % 2):Nat):Int):=by
            have h1:=kb3 n.toNat b (by omega) (by omega);rw [show ((n.toNat:Nat):Int)=n by omega] at h1;rw [h1,Yo,vc3]
           have hbt:n.toNat / 2 ^ j % 2 < 2:=Nat.mod_lt _ (by decide);clear Yo PU TW;generalize n.toNat / 2 ^ j % 2=bt at *;obtain ⟨r0,r1,r2,r3⟩:=Qu;go_wp2_with fail;clear r0 r1 r2 r3;refine (mul_any _ _ _ _ (HF.out e rJ.out.2.2) (HF.out e rJ.out.2.2) (by omega) (by omega) (by omega) fH.out fH.out).mono ?_;rintro _ w5 ⟨v5,rfl,m5,x5⟩;rw [Pl.pow_twice] at m5;obtain ⟨C5,j5,f5,D5,k5,rfl,-⟩:=id m5.open_;have JZ:=hid (jau.put BH.out x5 m5);have fr:=(BH.out.go x5).fr;obtain ⟨r0,r1,r2,r3⟩:=MV.out.ext x5 kR.out;obtain ⟨W5,hW5⟩:=n_m (((((w5.setCell ⟨g,0,none⟩ (.int .i64 (p.pow (2 * e)).lv)).setCell ⟨g,1,none⟩ (.bool (p.pow (2 * e)).neg)).setCell ⟨g,2,none⟩ (.slice C5 j5 f5)).setCell ⟨g,3,none⟩ (.slice D5 (p.pow (2 * e)).cs.length k5)));rw [hW5] at JZ;clear m5 x5;unfold plV;rcases (show bt=0\/bt=1 by omega) with rfl | rfl
           · have hand:bits .and .i64 n (b:Int)=0:=by rw [uU]; simp
             clear uU;go_wp2_with fail
             go_roundw
             case rel=>exact ⟨c,2 * e,rfl,⟨rJ.out.1,JZ.out⟩,by omega⟩
             case measure=>simp [intOf]; omega
           · have hand:bits .and .i64 n (b:Int)=(b:Int):=by rw [uU]; simp
             have au:((b:Int) != 0)=true:=by simp; omega
             clear uU;obtain ⟨E0,i0,g0,E1,g1,hb6,Om⟩:=JZ.out.br;obtain ⟨F0,i7,g7,F1,g8,Jf,Ol⟩:=JZ.out.bp;have HB6:=hid hb6;have ZR:=hid Om;have ZQ:=hid Ol;obtain ⟨s0,s1,s2,s3⟩:=hb6;obtain ⟨t0,t1,t2,t3⟩:=Jf;clear Om Ol;go_wp2_with fail;clear hW5 s0 s1 s2 s3 t0 t1 t2 t3 r0 r1 r2 r3 fr;refine (mul_any _ _ _ _ (HF.out (2 * e) (by have:=rJ.out.2.1; omega)) HP.out (by omega) (by omega) (by omega) ZR.out ZQ.out).mono ?_;rintro _ w6 ⟨v6,rfl,m6,x6⟩;rw [show (p.pow (2 * e)).mul p=p.pow (2 * e+1) from rfl] at m6;obtain ⟨C6,j6,f6,D6,k6,rfl,-⟩:=id m6.open_;have HJ6:=hid (jau.put JZ.out x6 m6);have fr:=(JZ.out.go x6).fr;obtain ⟨r0,r1,r2,r3⟩:=HB6.out.ext x6 JZ.out.lt;obtain ⟨W6,hW6⟩:=n_m (((((w6.setCell ⟨g,0,none⟩ (.int .i64 (p.pow (2 * e+1)).lv)).setCell ⟨g,1,none⟩ (.bool (p.pow (2 * e+1)).neg)).setCell ⟨g,2,none⟩ (.slice C6 j6 f6)).setCell ⟨g,3,none⟩ (.slice D6 (p.pow (2 * e+1)).cs.length k6)));rw [hW6] at HJ6;clear m6 x6;unfold plV;go_wp2_with fail
             go_roundw
             case rel=>exact ⟨c,2 * e+1,rfl,⟨rJ.out.1,HJ6.out⟩,by omega⟩
             case measure=>simp [intOf]; omega)
      · have vZ:Hid (p.pow e=p.pow n.toNat):=hid (by
         rcases TW with ⟨h1,h2⟩ | ⟨h1,⟨j,h2,-⟩ | ⟨h2,h3⟩⟩
         · rw [h2,show n.toNat=0 by omega]
         · have:0 < b:=by rw [h2]; exact Nat.pow_pos (by decide)
           exact absurd ⟨h1,this⟩ XQ
         · rw [h3])
        have hex:n<=0\/(0 < n/\b=0):=by omega
        clear XQ TW;rw [vZ.out] at fH Qu BH;have iT:Hid ((p.pow n.toNat).sz<=1099511627776):=hid ((HF.out n.toNat (Nat.le_refl _)).copy (by omega));have lV:Hid ((p.pow n.toNat).dm<=35184372088832):=hid (Nat.le_trans (HF.out n.toNat (Nat.le_refl _)).dm (by omega));have CU:=hid (Pl.pow_can p n.toNat);clear vZ MV;obtain ⟨r0,r1,r2,r3⟩:=Qu;rcases hex with h1 | ⟨h1,rfl⟩
        all_goals first
          | (exfalso; omega)
          | (go_wp2_with fail
             clear r0 r1 r2 r3;refine (qaf _ _ CU.out iT.out lV.out fH.out).mono ?_;rintro _ w5 ⟨v5,rfl,m5,x5⟩;obtain ⟨C5,j5,f5,D5,k5,rfl,-⟩:=id m5.open_;have aX:=BH.out.zero.ext x5 (by have:=BH.out.old; have:=BH.out.lt; omega);have hsx:=BH.out.lt;have TP:=BH.out.old;have SL:=hid (jg (q':=fun b=>w.heap.size<=b) (BH.out.ext.trans x5) (by omega) aX m5 (fun b _ hb=>⟨by omega,by omega⟩));obtain ⟨⟨r0,r1,r2,r3⟩,rf⟩:=aX;clear m5 x5;unfold plV;go_wp2_with fail
             exact bodyPost_ret (by simp [results,Tryz.results25,go_sem,r0,r1,r2,r3,plV]) rfl SL.out)
theorem gb5 {w:World} {p:Pl} {E D:Nat} (v:Value) (h:SpV w none v p.sp) (hp:Fit p E D) (hE:E<=900) (hD:D<=17592186044000):Calls Tryz.prog 9 #[v] w (zg (fun b=>w.heap.size<=b) p w):=by
 have H0:=hid h;have HN:Hid (∀ w',Ext w w'->Calls Tryz.prog 31 #[v] w' (ga2 p.sp w')):=hid (fun w' hx=>by
  have:=xab D (H0.out.ext hx) (fun z ⟨x,hx,e⟩=>by rw [<- e]; exact hp.sp_dg x hx) (by have:=ve hp.sp_nrm; omega) (by have:=Nat.le_trans hp.sp_len (xbj (show E<=900 by omega)); omega);rw [Pl.sp_self] at this
  exact this)
 have Tn:Hid (uad 4 p.sp):=hid ⟨p.sp_can,p.sp_nn,⟨Mo.one,fun x _ i h1 h2=>by omega⟩,fun x hx=>(hp.sp_le x hx).mono (by omega)⟩;have HBP:Hid (bld 4 p.sp=p):=hid (by have:=Pl.sp_ofS hp.can; unfold Pl.ofS at this; rw [Pl.sp_self] at this; exact this);have tY:=hid hp.can;have iT:=hid (Nat.le_trans hp.sz (Nat.le_trans (Nat.pow_le_pow_left (show E+2<=1002 by omega) 4) (show 1002 ^ 4<=1099511627776 by decide)));have lV:=hid (Nat.le_trans hp.dm (show D<=35184372088832 by omega));obtain ⟨A0,c0,rfl,-⟩:=h;obtain ⟨W,hW⟩:=n_m (w.alloc (.cells #[.int .i64 0,.bool false,.slice none 0 0,.slice none 0 0] 33));have aB:Hid (Ext w W):=hid (by rw [<- hW]; exact (Ext.refl w).alloc _);have HZ:Hid (uf W w.heap.size):=hid (by rw [<- hW]; exact uf.new w _);have bY:W.heap.size=w.heap.size+1:=by rw [<- hW]; simp
 clear hp;go_enter Tryz.func9,Tryz.ntmps9;go_wp2_with fail;clear hW;refine (HN.out _ aB.out).mono ?_;rintro e w1 ⟨v1,rfl,⟨A1,c1,rfl,dY,dK,qN⟩,x1⟩;have HB:=hid (wbd w1 4 (Nat.le_refl _) p.sp A1 c1 w1 qN dY dK Tn.out (Ext.refl w1));rw [HBP.out] at HB;have X1:=hid (aB.out.trans x1);have eU:=hid (HZ.out.ext x1 (by omega));have bW:=x1.size;clear x1 qN Tn HN;go_wp2_with fail;refine HB.out.mono ?_;rintro e w2 ⟨v2,rfl,p2,x2⟩;have HC:=hid (qaf p v2 tY.out iT.out lV.out p2);obtain ⟨C0,j0,f0,C1,f1,rfl,-⟩:=id p2.open_;have X2:=hid (X1.out.trans x2);have mV:=hid (eU.out.ext x2 (by omega));have jT:=x2.size;clear p2 x2 HB;unfold plV at *;go_wp2_with fail;refine HC.out.mono ?_;rintro e w3 ⟨v3,rfl,p3,x3⟩;obtain ⟨D0,j1,g0,D1,g1,rfl,-⟩:=id p3.open_;obtain ⟨⟨z0,z1,z2,z3⟩,zf⟩:=mV.out.ext x3 (by omega);have HF:=hid (jg (q':=fun b=>w.heap.size<=b) (X2.out.trans x3) (Nat.le_refl _) (mV.out.ext x3 (by omega)) p3 (fun b _ hb=>⟨by omega,by omega⟩));clear p3 x3 HC mV;unfold plV;go_wp2_with fail;exact bodyPost_ret (v:=plV p (.slice D0 j1 g0) (.slice D1 p.cs.length g1)) (by simp [results,Tryz.results9,go_sem,z0,z1,z2,z3,plV]) rfl HF.out
def yx (ts:List gag):Sp:=ts.map fun t=>(sgn t.neg (val t.ds),t.mo)
theorem kaj.sp {w:World} {v:Value} {ts:List gag} {d:Nat} {e:Int} (h:kaj w v ts) (hf:∀ t ∈ ts,t.few d e):SpV w (some d) v (yx ts):=by
 obtain ⟨A,c,rfl,h1,h2,h3⟩:=h;refine ⟨A,c,by rw [yx,List.length_map],by rw [yx,List.length_map]; exact h1,h2,fun i hi=>?_⟩;have iO:i < ts.length:=by rwa [yx,List.length_map] at hi
 obtain ⟨ad,B,c',rfl,hb,ht,hn⟩:=h3 i iO;have e:(yx ts)[i]=(sgn ts[i].neg (val ts[i].ds),ts[i].mo):=by simp [yx]
 rw [e];exact ⟨ad,_,B,_,c',rfl,hb,ht,_,_,_,rfl,hn,rfl,(hf _ (List.getElem_mem iO)).1⟩
theorem kaj.dig {w:World} {v:Value} {ts:List gag} (h:kaj w v ts):∀ t ∈ ts,vg t.ds:=fun t ht=>by
 obtain ⟨A,c,rfl,h1,h2,h3⟩:=h;obtain ⟨i,hi,rfl⟩:=List.getElem_of_mem ht;obtain ⟨ad,B,c',rfl,hb,ht,hn⟩:=h3 i hi;obtain ⟨A',c'',e,-,-,hd,-⟩:=hn;exact hd
theorem ubs {d : Nat} {e : Int} : ∀ {ts : List gag}, (∀ t ∈ ts, vg t.ds) -> (∀ t ∈ ts, t.few d e) -> yg (yx ts) <= ts.length * B32 ^ d
 | [],_,_=>by simp [yx,yg]
 | t :: r,hd,hf=>by
   have ih:=ubs (ts:=r) (fun x hx=>hd x (by simp [hx])) (fun x hx=>hf x (by simp [hx]));have h1:=Nat.lt_of_lt_of_le (zy (hd t (by simp))) (Nat.pow_le_pow_right (by decide) (hf t (by simp)).1);have e1:yx (t :: r)=(sgn t.neg (val t.ds),t.mo) :: yx r:=rfl;rw [e1];simp only [yg,uu,List.length_cons,Nat.add_mul,Nat.one_mul];omega
theorem vax {ts:List gag} {n d E:Nat} (hd:∀ t ∈ ts,vg t.ds) (hf:∀ t ∈ ts,t.few d E) (hn:ts.length<=n) (Ip:n < 4294967296):Fit (Pl.ofS (yx ts)) E (d+1)/\yg (yx ts) < B32 ^ (d+1):=by
 have h1:yg (yx ts) < B32 ^ (d+1):=by
  have:=ubs hd hf;have h2:ts.length * B32 ^ d<=n * B32 ^ d:=Nat.mul_le_mul_right _ hn;have h3:n * B32 ^ d < B32 * B32 ^ d:=Nat.mul_lt_mul_of_pos_right (by have:B32=4294967296:=rfl; omega) (Nat.pow_pos (by decide));rw [Nat.pow_succ,Nat.mul_comm _ B32];omega
 exact ⟨⟨Pl.ofS_can _,Pl.ofS_ex fun x hx=>by
  obtain ⟨t,ht,rfl⟩:=List.mem_map.1 hx
  exact (hf t ht).2,Nat.lt_of_le_of_lt (Pl.ofS_nr _) h1⟩,h1⟩
theorem wa4 {w:World} {ts:List gag} {n d E:Nat} (v:Value) (h:kaj w v ts) (hf:∀ t ∈ ts,t.few d E) (hn:ts.length<=n) (Ip:n<=1000) (hE:E<=900) (hD:d<=1000):Calls Tryz.prog 9 #[v] w (zg (fun b=>w.heap.size<=b) (Pl.ofS (yx ts)) w):=by
 obtain ⟨TV,Du⟩:=vax h.dig hf hn (by omega);have hlen:(yx ts).length<=n:=by rw [yx,List.length_map]; exact hn
 have hle:∀ x ∈ yx ts,x.2.le E:=fun x hx=>by
  obtain ⟨t,ht,rfl⟩:=List.mem_map.1 hx;exact (hf t ht).2
 have h:=h.sp hf;generalize yx ts=l at *;have H0:=hid h
 have HN:Hid (∀ w',Ext w w'->Calls Tryz.prog 31 #[v] w' (ga2 (jf l) w')):=hid (fun w' hx =>
  xab d (H0.out.ext hx) (fun z _=>Nat.le_refl _) (by have:=ve Du; omega) (by omega))
 have Tn:Hid (uad 4 (jf l)):=hid ⟨yz l,fun x hx=>(yt hx).1,⟨Mo.one,fun x _ i h1 h2=>by omega⟩,fun x hx=>by
  obtain ⟨-,y,hy,e⟩:=yt hx;rw [<- e]
  exact (hle y hy).mono (by omega)⟩
 have HBP:Hid (bld 4 (jf l)=Pl.ofS l):=hid rfl;have tY:=hid TV.can;have iT:=hid (Nat.le_trans TV.sz (Nat.le_trans (Nat.pow_le_pow_left (show E+2<=1002 by omega) 4) (show 1002 ^ 4<=1099511627776 by decide)));have lV:=hid (Nat.le_trans TV.dm (show d+1<=35184372088832 by omega));obtain ⟨A0,c0,rfl,-⟩:=h;obtain ⟨W,hW⟩:=n_m (w.alloc (.cells #[.int .i64 0,.bool false,.slice none 0 0,.slice none 0 0] 33));have aB:Hid (Ext w W):=hid (by rw [<- hW]; exact (Ext.refl w).alloc _);have HZ:Hid (uf W w.heap.size):=hid (by rw [<- hW]; exact uf.new w _);have bY:W.heap.size=w.heap.size+1:=by rw [<- hW]; simp
 clear TV;go_enter Tryz.func9,Tryz.ntmps9;go_wp2_with fail;clear hW;refine (HN.out _ aB.out).mono ?_;rintro e w1 ⟨v1,rfl,⟨A1,c1,rfl,dY,dK,qN⟩,x1⟩;have HB:=hid (wbd w1 4 (Nat.le_refl _) (jf l) A1 c1 w1 qN dY dK Tn.out (Ext.refl w1));rw [HBP.out] at HB;have X1:=hid (aB.out.trans x1);have eU:=hid (HZ.out.ext x1 (by omega));have bW:=x1.size;clear x1 qN Tn HN;go_wp2_with fail;refine HB.out.mono ?_;rintro e w2 ⟨v2,rfl,p2,x2⟩;have HC:=hid (qaf (Pl.ofS l) v2 tY.out iT.out lV.out p2);obtain ⟨C0,j0,f0,C1,f1,rfl,-⟩:=id p2.open_;have X2:=hid (X1.out.trans x2);have mV:=hid (eU.out.ext x2 (by omega));have jT:=x2.size;clear p2 x2 HB;unfold plV at *;go_wp2_with fail;refine HC.out.mono ?_;rintro e w3 ⟨v3,rfl,p3,x3⟩;obtain ⟨D0,j1,g0,D1,g1,rfl,-⟩:=id p3.open_;obtain ⟨⟨z0,z1,z2,z3⟩,zf⟩:=mV.out.ext x3 (by omega);have HF:=hid (jg (q':=fun b=>w.heap.size<=b) (X2.out.trans x3) (Nat.le_refl _) (mV.out.ext x3 (by omega)) p3 (fun b _ hb=>⟨by omega,by omega⟩));clear p3 x3 HC mV;unfold plV;go_wp2_with fail;exact bodyPost_ret (v:=plV (Pl.ofS l) (.slice D0 j1 g0) (.slice D1 (Pl.ofS l).cs.length g1)) (by simp [results,Tryz.results9,go_sem,z0,z1,z2,z3,plV]) rfl HF.out
end Go.Proofs.YtcepajijiabkmaaGreat
