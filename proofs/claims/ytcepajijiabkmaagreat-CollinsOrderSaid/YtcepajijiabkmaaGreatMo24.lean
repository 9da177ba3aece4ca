/- Layer 22: recpoly.Pow at a canonical polynomial, recpoly.Var. -/
import Derived.Test.YtcepajijiabkmaaGreatMo23
set_option linter.all false
set_option maxRecDepth 100000
set_option maxHeartbeats 8000000
namespace Go.Proofs.YtcepajijiabkmaaGreat
open Lib (hid)
open Go.RowKit
theorem vca (a b:Nat) (ha:a < 9223372036854775808) (hb:b < 9223372036854775808):bits .and .i64 (a:Int) (b:Int)=((a &&& b:Nat):Int):=by
 have h1:=Nat.and_le_left (n:=a) (m:=b);show IntKind.i64.wrap ((BitVec.ofInt 64 a &&& BitVec.ofInt 64 b).toNat:Nat)=_;rw [BitVec.toNat_and,BitVec.toNat_ofInt,BitVec.toNat_ofInt,show ((a:Int) % ((2 ^ 64:Nat):Int)).toNat=a by omega,show ((b:Int) % ((2 ^ 64:Nat):Int)).toNat=b by omega,rj];omega
def zb7 (n:Int) (b e:Nat):Prop:=(n<=0/\e=0)\/(0 < n/\((∃ j,b=2 ^ j/\e=n.toNat / 2 ^ (j+1))\/(b=0/\e=n.toNat)))
theorem zb7.next {n:Int} {b e j:Nat} (h:0 < n) (hb:b=2 ^ j) (he:e=n.toNat / 2 ^ (j+1)):zb7 n (b / 2) (2 * e+n.toNat / 2 ^ j % 2)/\2 * e+n.toNat / 2 ^ j % 2<=n.toNat/\e<=n.toNat:=by
 have h1:=gc7 n.toNat j;have h2:n.toNat / 2 ^ j<=n.toNat:=paT _ _;refine ⟨.inr ⟨h,?_⟩,by omega,by omega⟩;cases j with
 | zero=>exact .inr ⟨by rw [hb],by rw [Wt,Nat.div_one] at h1; omega⟩
 | succ j=>exact .inl ⟨j,by rw [hb,si]; omega,by omega⟩
theorem jf.far {W W':World} {g:Nat} (h:jf W g) (hh:W'.heap[g]?=W.heap[g]?) (hf:∀ a,W'.frozen? a=W.frozen? a):jf W' g:=by
 obtain ⟨⟨z0,z1,z2,z3⟩,zf⟩:=h;have k:∀ i,W'.cell? ⟨g,i,none⟩=W.cell? ⟨g,i,none⟩:=fun i=>pB (a:=⟨g,i,none⟩) hh
 exact ⟨⟨(k _).trans z0,(k _).trans z1,(k _).trans z2,(k _).trans z3⟩,fun i=>(hf _).trans (zf i)⟩
structure uax (w : World) (g : Nat) (p r : Pl) (wr : World) : Prop where
 ext:Ext w wr
 zero:jf wr (w.heap.size+1)
 lt:g < wr.heap.size
 old:w.heap.size+1 < g
 fr:∀ i,wr.frozen? ⟨g,i,none⟩=false
 bp:∃ A0 n0 c0 A1 c1,jb wr w.heap.size p (.slice A0 n0 c0) (.slice A1 p.cs.length c1)/\PlV wr (fun b=>b ≠ g) p (plV p (.slice A0 n0 c0) (.slice A1 p.cs.length c1))
 br:∃ A0 n0 c0 A1 c1,jb wr g r (.slice A0 n0 c0) (.slice A1 r.cs.length c1)/\PlV wr (fun b=>b ≠ g) r (plV r (.slice A0 n0 c0) (.slice A1 r.cs.length c1))
theorem uax.go {w wr w':World} {g:Nat} {p r:Pl} (h:uax w g p r wr) (x:Ext wr w'):uax w g p r w':=by
 obtain ⟨h1,h2,h3,h4,h5,⟨A0,n0,c0,A1,c1,h6,h7⟩,⟨B0,m0,d0,B1,d1,h8,h9⟩⟩:=h;exact ⟨h1.trans x,h2.ext x (by omega),px h3 x.size,h4,fun i=>(x.frozen (p:=⟨g,i,none⟩) h3).trans (h5 i),⟨A0,n0,c0,A1,c1,h6.ext x (by omega),h7.ext x⟩,⟨B0,m0,d0,B1,d1,h8.ext x h3,h9.ext x⟩⟩
theorem uax.put {w wr w':World} {g:Nat} {p r r':Pl} {A0 A1:Option Addr} {n0 c0 c1:Nat} (h:uax w g p r wr) (x:Ext wr w') (k:PlV w' (fun b=>wr.heap.size<=b) r' (plV r' (.slice A0 n0 c0) (.slice A1 r'.cs.length c1))) :
 uax w g p r' ((((w'.setCell ⟨g,0,none⟩ (.int .i64 r'.lv)).setCell ⟨g,1,none⟩ (.bool r'.neg)).setCell ⟨g,2,none⟩ (.slice A0 n0 c0)).setCell ⟨g,3,none⟩ (.slice A1 r'.cs.length c1)):=by
 have af:=h.lt;obtain ⟨h1,h2,h3,h4,h5,⟨E0,j0,e0,E1,e1,h6,h7⟩,⟨B0,m0,d0,B1,d1,h8,h9⟩⟩:=h.go x;have hh:∀ k,k ≠ g->((((w'.setCell ⟨g,0,none⟩ (.int .i64 r'.lv)).setCell ⟨g,1,none⟩ (.bool r'.neg)).setCell ⟨g,2,none⟩ (.slice A0 n0 c0)).setCell ⟨g,3,none⟩ (.slice A1 r'.cs.length c1)).heap[k]?=w'.heap[k]?:=fun k hk=>gac _ _ _ _ _ _ k hk
 refine ⟨(((h1.setCell (by show _<=g; omega) _).setCell (by show _<=g; omega) _).setCell (by show _<=g; omega) _).setCell (by show _<=g; omega) _,h2.far (hh _ (by omega)) (fun a=>by simp only [rm]),by simp [World.setCell]; exact h3,h4,fun i=>by simp only [rm]; exact h5 i,
  ⟨E0,j0,e0,E1,e1,h6.xl (hh _ (by omega)),h8.keep _ _ _ _ h7 (fun b _ hb=>⟨hb,hb⟩)⟩,⟨A0,n0,c0,A1,c1,h8.set,h8.keep _ _ _ _ k (fun b _ hb=>⟨by omega,by omega⟩)⟩⟩
theorem jam {w:World} {q0:Nat->Prop} {p:Pl} {E D:Nat} {n:Int} (v0:Value) (h0:PlV w q0 p v0) (hp:Fit p E D) (hE:(n.toNat+1) * E<=900) (hD:(n.toNat+1) * D<=4398046511000) (hn:n<=1000000) :
 Calls Tryz.prog 25 #[v0,.int .i64 n] w (uf (fun b=>w.heap.size<=b) (p.pow n.toNat) w):=by
 have hE1:E<=900:=py (SM E (Ty n.toNat)) hE;have MF:D<=4398046511000:=py (SM D (Ty n.toNat)) hD;have HF:Hid (∀ k,k<=n.toNat->Fit (p.pow k) 900 4398046511001):=hid fun k hk=>(hp.qaZ (py hk (se _))).mono hE (Nat.add_le_add_right hD 1)
 have HP:=hid (hp.mono hE1 MF);have H0:=hid h0;obtain ⟨A0,n0,c0,B0,d0,rfl,-,-,-,-⟩:=h0.open_;obtain ⟨W,hW⟩:=n_m ((w.alloc (.cells #[.int .i64 p.lv,.bool p.neg,.slice A0 n0 c0,.slice B0 p.cs.length d0] 33)).alloc (.cells #[.int .i64 0,.bool false,.slice none 0 0,.slice none 0 0] 33));have ai:Ext w W:=by rw [<- hW]; exact ((Ext.refl w).alloc _).alloc _
 have dG:W.heap.size=w.heap.size+1+1:=by rw [<- hW]; simp
 have bV:jb W w.heap.size p (.slice A0 n0 c0) (.slice B0 p.cs.length d0):=by rw [<- hW]; exact (jb.new w p _ _ _).ext ((Ext.refl _).alloc _) (by simp)
 have hz:jf W (w.heap.size+1):=by
  have:=jf.new (w.alloc (.cells #[.int .i64 p.lv,.bool p.neg,.slice A0 n0 c0,.slice B0 p.cs.length d0] 33)) 33;rw [hW] at this;simpa using this
 have bG:∀ i,W.frozen? ⟨w.heap.size,i,none⟩=false:=fun i=>by rw [<- hW]; simp [go_sem]
 have aG:=hid ai;have kJ:=hid bV;have HZ:=hid hz;have qZ:=hid bG;have uM:=hid (ut _ (PlV.zd (q:=fun b=>q0 b/\b < w.heap.size) ai.size (fun _ _ h=>h.ext ai) (fun b hb hq=>⟨⟨hq,hb⟩,ai.below.block b hb⟩) H0.out) hp.can);obtain ⟨b0,b1,b2,b3⟩:=bV;clear h0 hp hE hD ai hz bG hE1 MF;unfold plV at uM;unfold plV;go_enter Tryz.func25,Tryz.ntmps25;go_wp2_with fail;clear hW b0 b1 b2 b3;refine uM.out.mono ?_;rintro e w1 ⟨v1,rfl,m1,x1⟩;obtain ⟨C0,j0,f0,C1,f1,rfl,-⟩:=id m1.open_;have bW:=x1.size;have bF:=kJ.out.ext x1 (by omega);have fr:∀ i,w1.frozen? ⟨w.heap.size,i,none⟩=false:=fun i=>(x1.frozen (p:=⟨w.heap.size,i,none⟩) (by show w.heap.size < _; omega)).trans (qZ.out i)
 obtain ⟨W1,aW⟩:=n_m (((((w1.setCell ⟨w.heap.size,0,none⟩ (.int .i64 p.lv)).setCell ⟨w.heap.size,1,none⟩ (.bool p.neg)).setCell ⟨w.heap.size,2,none⟩ (.slice C0 j0 f0)).setCell ⟨w.heap.size,3,none⟩ (.slice C1 p.cs.length f1)));have X1:Hid (Ext w W1):=hid (by rw [<- aW]; exact ((((aG.out.trans x1).setCell (pj _) _).setCell (pj _) _).setCell (pj _) _).setCell (pj _) _);have dH:Hid (jb W1 w.heap.size p (.slice C0 j0 f0) (.slice C1 p.cs.length f1)):=hid (by rw [<- aW]; exact jb.set bF);have DD:Hid (PlV W1 (fun b=>b < w.heap.size\/w.heap.size+1 < b/\b < W1.heap.size) p (plV p (.slice C0 j0 f0) (.slice C1 p.cs.length f1))):=hid (by
  rw [<- aW]
  exact bF.keep _ _ _ _ m1 (fun b hb hq=>by (have:((((w1.setCell ⟨w.heap.size,0,none⟩ (.int .i64 p.lv)).setCell ⟨w.heap.size,1,none⟩ (.bool p.neg)).setCell ⟨w.heap.size,2,none⟩ (.slice C0 j0 f0)).setCell ⟨w.heap.size,3,none⟩ (.slice C1 p.cs.length f1)).heap.size=w1.heap.size:=by simp [World.setCell]); refine ⟨?_,?_⟩ <;> rcases hq with ⟨-,hq⟩ | hq <;> omega))
 have eY:Hid (jf W1 (w.heap.size+1)):=hid (by
  have h1:=HZ.out.ext x1 (by omega);rw [<- aW]
  exact h1.far (gac _ _ _ _ _ _ _ (by omega)) (fun a=>by simp only [rm]))
 have jF:W1.heap.size=w1.heap.size:=by rw [<- aW]; simp [World.setCell]
 obtain ⟨b0,b1,b2,b3⟩:=bF;clear m1 x1 uM;unfold plV;go_wp2_with fail;clear aW b0 b1 b2 b3 fr;refine (of_int 1 W1 (by omega) (by omega)).mono ?_;rintro e w2 ⟨z2,rfl,⟨y2,rfl,m2⟩,x2⟩;obtain ⟨C2,k2,rfl,-⟩:=id m2;have Eb:=x2.size;have rH:=hid (wak m2 (show (dg (1:Int).natAbs).length<=1 from yf (by decide)));have X2:=hid x2;clear m2 x2;go_wp2_with fail;refine (vak _ rH.out (by omega)).mono ?_;rintro e w3 ⟨v3,rfl,m3,x3⟩;obtain ⟨C3,j3,f3,D3,e3,rfl,-⟩:=id m3.open_;have AL:=x3.size;obtain ⟨W3,zG⟩:=n_m ((w3.alloc (Obj.cells #[.int .i64 (Pl.const 1).lv,.bool (Pl.const 1).neg,.slice C3 j3 f3,.slice D3 (Pl.const 1).cs.length e3] 33)));have HJ:Hid (uax w w3.heap.size p (p.pow 0) W3):=hid (by
  have x4:Ext w3 W3:=by rw [<- zG]; exact (Ext.refl w3).alloc _
  have xx:Ext W1 W3:=(X2.out.trans x3).trans x4;have Xa:W3.heap.size=w3.heap.size+1:=by rw [<- zG]; simp
  have m4:PlV W3 (fun b=>b ≠ w3.heap.size) (Pl.const 1) (plV (Pl.const 1) (.slice C3 j3 f3) (.slice D3 (Pl.const 1).cs.length e3)):=
   PlV.zd (by omega) (fun _ _ h=>h.ext x4) (fun b hb _=>⟨by omega,x4.below.block b hb⟩) m3
  exact ⟨X1.out.trans xx,eY.out.ext xx (by omega),by omega,by omega,fun i=>by rw [<- zG]; simp [go_sem],⟨C0,j0,f0,C1,f1,dH.out.ext xx (by omega),(PlV.ext DD.out xx).mono (fun b hb=>by omega)⟩,⟨C3,j3,f3,D3,e3,by rw [<- zG]; exact jb.new w3 (Pl.const 1) _ _ _,m4⟩⟩)
 clear m3 x3 X2 rH X1 eY DD dH HZ kJ aG qZ H0;unfold plV;generalize hg:w3.heap.size=g at *;go_wp2_with fail;clear zG hg bW jF Eb AL dG
 go_loopw [6] (fun hv wr=>∃ m:Nat,hv=.int .i64 m/\Hid ((∃ k,m=2 ^ k)/\uax w g p (p.pow 0) wr)/\1<=m/\(m<=n.toNat\/m=1)/\(n<=0->m=1)) (fun hv _=>n.toNat+1 - (intOf hv).toNat)
 case atStart=>exact ⟨1,rfl,⟨⟨0,rfl⟩,HJ.out⟩,pj _,.inr rfl,fun _=>rfl⟩
 case round =>
  obtain ⟨m,rfl,hh0,hm1,Oy,hm3⟩:=hrel;have HH:=hid hh0.out;clear hh0
  by_cases CE:0 < n/\m<=n.toNat / 2
  · obtain ⟨h0,hle⟩:=CE;have Sj:(m:Int)<=n / 2:=by omega
    have hw:IntKind.i64.wrap ((m:Int) * 2)=((m * 2:Nat):Int):=by rw [rj]; omega
    have HL:=hid hle;clear hle;go_wp2_with fail
    go_roundw
    case rel =>
     obtain ⟨⟨k,hk⟩,hj⟩:=HH.out;have hle:=HL.out;exact ⟨m * 2,by rw [Int.natCast_mul]; rfl,⟨⟨k+1,by rw [hk,si]⟩,hj⟩,by omega,.inl (by omega),fun h=>by omega⟩
    case measure=>have hle:=HL.out; simp [intOf]; omega
  · have HE:Hid (zb7 n m 0):=hid (by
     by_cases h0:0 < n
     · obtain ⟨⟨k,hk⟩,-⟩:=HH.out;have hle:¬ m<=n.toNat / 2:=fun e=>CE ⟨h0,e⟩
       refine .inr ⟨h0,.inl ⟨k,hk,(Ps ?_).symm⟩⟩;rw [si,<- hk];omega
     · exact .inl ⟨by omega,rfl⟩)
    have RJ:m<=n.toNat+1:=by omega
    have HM:=hid RJ
    by_cases h0:0 < n
    focus
     have Sj:¬ (m:Int)<=n / 2:=by omega
     clear CE hm1 Oy hm3 RJ;go_wp2_with fail;clear Sj
    rotate_left
    focus
     clear CE hm1 Oy hm3 RJ;go_wp2_with fail
    all_goals
     go_loopw [7] (fun tv wr=>∃ b e:Nat,tv=.int .i64 b/\Hid (zb7 n b e/\uax w g p (p.pow e) wr)/\b<=n.toNat+1) (fun tv _=>(intOf tv).toNat)
     case atStart=>exact ⟨m,0,rfl,⟨HE.out,HH.out.2⟩,HM.out⟩
     case round =>
      obtain ⟨b,e,rfl,Xr,hb⟩:=hrel;have xQ:=hid Xr.out.2;have Xg:=Xr.out.1;clear Xr HE HH HM HJ;obtain ⟨B0,m0,d0,B1,d1,Uk,kE⟩:=xQ.out.br;have mZ:=hid kE;have PX:=hid Uk;have kG:=hid xQ.out.lt;clear kE
      by_cases hdo:0 < n/\0 < b
      · first
        | (exfalso; omega)
        | (obtain ⟨gX,aX⟩:=hdo
           obtain ⟨j,hbj,TK⟩:∃ j,b=2 ^ j/\e=n.toNat / 2 ^ (j+1):=by
            rcases Xg with ⟨h,-⟩ | ⟨-,h | ⟨h,-⟩⟩
            · omega
            · exact h
            · omega
           have uK:=hid (zb7.next gX hbj TK);have hbn:b<=1000001:=by omega
           obtain ⟨c,hc⟩:=n_m (b / 2);have hq:(b:Int) / 2=(c:Int):=by omega
           have OQ:c < b:=by omega
           rw [hc] at uK;clear hc;have wZ:bits .and .i64 n (b:Int)=((b * (n.toNat / 2 ^ j % 2):Nat):Int):=by
            have h1:=vca n.toNat b (by omega) (by omega);rw [show ((n.toNat:Nat):Int)=n by omega] at h1;rw [h1,hbj,vde]
           have hbt:n.toNat / 2 ^ j % 2 < 2:=tg _ (by decide);clear hbj TK Xg;generalize n.toNat / 2 ^ j % 2=bt at *;obtain ⟨r0,r1,r2,r3⟩:=Uk;go_wp2_with fail;clear r0 r1 r2 r3;refine (mul_any _ _ _ _ (HF.out e uK.out.2.2) (HF.out e uK.out.2.2) (by omega) (by omega) (by omega) mZ.out mZ.out).mono ?_;rintro _ w5 ⟨v5,rfl,m5,x5⟩;rw [Pl.K6] at m5;obtain ⟨C5,j5,f5,D5,k5,rfl,-⟩:=id m5.open_;have Nz:=hid (uax.put xQ.out x5 m5);have fr:=(xQ.out.go x5).fr;obtain ⟨r0,r1,r2,r3⟩:=PX.out.ext x5 kG.out;obtain ⟨W5,hW5⟩:=n_m (((((w5.setCell ⟨g,0,none⟩ (.int .i64 (p.pow (2 * e)).lv)).setCell ⟨g,1,none⟩ (.bool (p.pow (2 * e)).neg)).setCell ⟨g,2,none⟩ (.slice C5 j5 f5)).setCell ⟨g,3,none⟩ (.slice D5 (p.pow (2 * e)).cs.length k5)));rw [hW5] at Nz;clear m5 x5;unfold plV;rcases (show bt=0\/bt=1 by omega) with rfl | rfl
           · have hand:bits .and .i64 n (b:Int)=0:=by rw [wZ]; simp
             clear wZ;go_wp2_with fail
             go_roundw
             case rel=>exact ⟨c,2 * e,rfl,⟨uK.out.1,Nz.out⟩,by omega⟩
             case measure=>simp [intOf]; omega
           · have hand:bits .and .i64 n (b:Int)=(b:Int):=by rw [wZ]; simp
             have au:((b:Int) != 0)=true:=by simp; omega
             clear wZ;obtain ⟨E0,i0,g0,E1,g1,hb6,QU⟩:=Nz.out.br;obtain ⟨F0,i7,g7,F1,g8,zD,QT⟩:=Nz.out.bp;have HB6:=hid hb6;have ac7:=hid QU;have ac6:=hid QT;obtain ⟨s0,s1,s2,s3⟩:=hb6;obtain ⟨t0,t1,t2,t3⟩:=zD;clear QU QT;go_wp2_with fail;clear hW5 s0 s1 s2 s3 t0 t1 t2 t3 r0 r1 r2 r3 fr;refine (mul_any _ _ _ _ (HF.out (2 * e) (by have:=uK.out.2.1; omega)) HP.out (by omega) (by omega) (by omega) ac7.out ac6.out).mono ?_;rintro _ w6 ⟨v6,rfl,m6,x6⟩;rw [show (p.pow (2 * e)).mul p=p.pow (2 * e+1) from rfl] at m6;obtain ⟨C6,j6,f6,D6,k6,rfl,-⟩:=id m6.open_;have HJ6:=hid (uax.put Nz.out x6 m6);have fr:=(Nz.out.go x6).fr;obtain ⟨r0,r1,r2,r3⟩:=HB6.out.ext x6 Nz.out.lt;obtain ⟨W6,hW6⟩:=n_m (((((w6.setCell ⟨g,0,none⟩ (.int .i64 (p.pow (2 * e+1)).lv)).setCell ⟨g,1,none⟩ (.bool (p.pow (2 * e+1)).neg)).setCell ⟨g,2,none⟩ (.slice C6 j6 f6)).setCell ⟨g,3,none⟩ (.slice D6 (p.pow (2 * e+1)).cs.length k6)));rw [hW6] at HJ6;clear m6 x6;unfold plV;go_wp2_with fail
             go_roundw
             case rel=>exact ⟨c,2 * e+1,rfl,⟨uK.out.1,HJ6.out⟩,by omega⟩
             case measure=>simp [intOf]; omega)
      · have tZ:Hid (p.pow e=p.pow n.toNat):=hid (by
         rcases Xg with ⟨h1,h2⟩ | ⟨h1,⟨j,h2,-⟩ | ⟨h2,h3⟩⟩
         · rw [h2,show n.toNat=0 by omega]
         · have:0 < b:=by rw [h2]; exact tp (by decide)
           exact absurd ⟨h1,this⟩ hdo
         · rw [h3])
        have hex:n<=0\/(0 < n/\b=0):=by omega
        clear hdo Xg;rw [tZ.out] at mZ Uk xQ;have jC:Hid ((p.pow n.toNat).sz<=1099511627776):=hid ((HF.out n.toNat (pj _)).copy (by omega));have oQ:Hid ((p.pow n.toNat).dm<=35184372088832):=hid (py (HF.out n.toNat (pj _)).dm (by omega));have EG:=hid (Pl.vo p n.toNat);clear tZ PX;obtain ⟨r0,r1,r2,r3⟩:=Uk;rcases hex with h1 | ⟨h1,rfl⟩
        all_goals first
          | (exfalso; omega)
          | (go_wp2_with fail
             clear r0 r1 r2 r3;refine (qai _ _ EG.out jC.out oQ.out mZ.out).mono ?_;rintro _ w5 ⟨v5,rfl,m5,x5⟩;obtain ⟨C5,j5,f5,D5,k5,rfl,-⟩:=id m5.open_;have aS:=xQ.out.zero.ext x5 (by have:=xQ.out.old; have:=xQ.out.lt; omega);have hsx:=xQ.out.lt;have WY:=xQ.out.old;have Wh:=hid (qf (q':=fun b=>w.heap.size<=b) (xQ.out.ext.trans x5) (by omega) aS m5 (fun b _ hb=>⟨by omega,by omega⟩));obtain ⟨⟨r0,r1,r2,r3⟩,rf⟩:=aS;clear m5 x5;unfold plV;go_wp2_with fail
             exact bodyPost_ret (by simp [results,Tryz.results25,go_sem,r0,r1,r2,r3,plV]) rfl Wh.out)
theorem qcd {w:World} {p:Pl} {E D:Nat} (v:Value) (h:SpV w none v p.sp) (hp:Fit p E D) (hE:E<=900) (hD:D<=17592186044000):Calls Tryz.prog 9 #[v] w (uf (fun b=>w.heap.size<=b) p w):=by
 have H0:=hid h;have HN:Hid (∀ w',Ext w w'->Calls Tryz.prog 31 #[v] w' (wa5 p.sp w')):=hid (fun w' hx=>by
  have:=uad D (H0.out.ext hx) (fun z ⟨x,hx,e⟩=>by rw [<- e]; exact hp.qaC x hx) (by have:=yf hp.vy; omega) (by have:=py hp.Ke (kbo (show E<=900 by omega)); omega);rw [Pl.vl] at this
  exact this)
 have Wy:Hid (vaf 4 p.sp):=hid ⟨p.js,p.km,⟨Mo.one,fun x _ i h1 h2=>by omega⟩,fun x hx=>(hp.qaB x hx).mono (by omega)⟩;have HBP:Hid (bld 4 p.sp=p):=hid (by have:=Pl.vu hp.can; unfold Pl.j8 at this; rw [Pl.vl] at this; exact this);have vY:=hid hp.can;have jC:=hid (py hp.sz (py (Pf (show E+2<=1002 by omega) 4) (show 1002 ^ 4<=1099511627776 by decide)));have oQ:=hid (py hp.dm (show D<=35184372088832 by omega));obtain ⟨A0,c0,rfl,-⟩:=h;obtain ⟨W,hW⟩:=n_m (w.alloc (.cells #[.int .i64 0,.bool false,.slice none 0 0,.slice none 0 0] 33));have aG:Hid (Ext w W):=hid (by rw [<- hW]; exact (Ext.refl w).alloc _);have HZ:Hid (jf W w.heap.size):=hid (by rw [<- hW]; exact jf.new w _);have dG:W.heap.size=w.heap.size+1:=by rw [<- hW]; simp
 clear hp;go_enter Tryz.func9,Tryz.ntmps9;go_wp2_with fail;clear hW;refine (HN.out _ aG.out).mono ?_;rintro e w1 ⟨v1,rfl,⟨A1,c1,rfl,fC,dK,tq⟩,x1⟩;have HB:=hid (qbi w1 4 (pj _) p.sp A1 c1 w1 tq fC dK Wy.out (Ext.refl w1));rw [HBP.out] at HB;have X1:=hid (aG.out.trans x1);have eY:=hid (HZ.out.ext x1 (by omega));have bW:=x1.size;clear x1 tq Wy HN;go_wp2_with fail;refine HB.out.mono ?_;rintro e w2 ⟨v2,rfl,p2,x2⟩;have HC:=hid (qai p v2 vY.out jC.out oQ.out p2);obtain ⟨C0,j0,f0,C1,f1,rfl,-⟩:=id p2.open_;have X2:=hid (X1.out.trans x2);have og:=hid (eY.out.ext x2 (by omega));have jF:=x2.size;clear p2 x2 HB;unfold plV at *;go_wp2_with fail;refine HC.out.mono ?_;rintro e w3 ⟨v3,rfl,p3,x3⟩;obtain ⟨D0,j1,g0,D1,g1,rfl,-⟩:=id p3.open_;obtain ⟨⟨z0,z1,z2,z3⟩,zf⟩:=og.out.ext x3 (by omega);have HF:=hid (qf (q':=fun b=>w.heap.size<=b) (X2.out.trans x3) (pj _) (og.out.ext x3 (by omega)) p3 (fun b _ hb=>⟨by omega,by omega⟩));clear p3 x3 HC og;unfold plV;go_wp2_with fail;exact bodyPost_ret (v:=plV p (.slice D0 j1 g0) (.slice D1 p.cs.length g1)) (by simp [results,Tryz.results9,go_sem,z0,z1,z2,z3,plV]) rfl HF.out
def gah (ts:List kag):Sp:=ts.map fun t=>(sgn t.neg (val t.ds),t.mo)
theorem war.sp {w:World} {v:Value} {ts:List kag} {d:Nat} {e:Int} (h:war w v ts) (hf:∀ t ∈ ts,t.qaH d e):SpV w (some d) v (gah ts):=by
 obtain ⟨A,c,rfl,h1,h2,h3⟩:=h;refine ⟨A,c,by rw [gah,pw],by rw [gah,pw]; exact h1,h2,fun i hi=>?_⟩;have jG:i < ts.length:=by rwa [gah,pw] at hi
 obtain ⟨ad,B,c',rfl,hb,ht,hn⟩:=h3 i jG;have e:(gah ts)[i]=(sgn ts[i].neg (val ts[i].ds),ts[i].mo):=by simp [gah]
 rw [e];exact ⟨ad,_,B,_,c',rfl,hb,ht,_,_,_,rfl,hn,rfl,(hf _ (pt jG)).1⟩
theorem war.dig {w:World} {v:Value} {ts:List kag} (h:war w v ts):∀ t ∈ ts,ug t.ds:=fun t ht=>by
 obtain ⟨A,c,rfl,h1,h2,h3⟩:=h;obtain ⟨i,hi,rfl⟩:=tj ht;obtain ⟨ad,B,c',rfl,hb,ht,hn⟩:=h3 i hi;obtain ⟨A',c'',e,-,-,hd,-⟩:=hn;exact hd
theorem wby {d : Nat} {e : Int} : ∀ {ts : List kag}, (∀ t ∈ ts, ug t.ds) -> (∀ t ∈ ts, t.qaH d e) -> zg (gah ts) <= ts.length * B32 ^ d
 | [],_,_=>by simp [gah,zg]
 | t :: r,hd,hf=>by
   have ih:=wby (ts:=r) (fun x hx=>hd x (by simp [hx])) (fun x hx=>hf x (by simp [hx]));have h1:=px (wz (hd t (by simp))) (r8 (by decide) (hf t (by simp)).1);have e1:gah (t :: r)=(sgn t.neg (val t.ds),t.mo) :: gah r:=rfl;rw [e1];simp only [zg,qw,pH,r5,tr];omega
theorem xcd {ts:List kag} {n d E:Nat} (hd:∀ t ∈ ts,ug t.ds) (hf:∀ t ∈ ts,t.qaH d E) (hn:ts.length<=n) (Ou:n < 4294967296):Fit (Pl.j8 (gah ts)) E (d+1)/\zg (gah ts) < B32 ^ (d+1):=by
 have h1:zg (gah ts) < B32 ^ (d+1):=by
  have:=wby hd hf;have h2:ts.length * B32 ^ d<=n * B32 ^ d:=pE _ hn;have h3:n * B32 ^ d < B32 * B32 ^ d:=Pk (by have:B32=4294967296:=rfl; omega) (tp (by decide));rw [si,sj _ B32];omega
 exact ⟨⟨Pl.jj _,Pl.vA fun x hx=>by
  obtain ⟨t,ht,rfl⟩:=pS.1 hx
  exact (hf t ht).2,sB (Pl.kB _) h1⟩,h1⟩
theorem ucr {w:World} {ts:List kag} {n d E:Nat} (v:Value) (h:war w v ts) (hf:∀ t ∈ ts,t.qaH d E) (hn:ts.length<=n) (Ou:n<=1000) (hE:E<=900) (hD:d<=1000):Calls Tryz.prog 9 #[v] w (uf (fun b=>w.heap.size<=b) (Pl.j8 (gah ts)) w):=by
 obtain ⟨Xf,aam⟩:=xcd h.dig hf hn (by omega);have hlen:(gah ts).length<=n:=by rw [gah,pw]; exact hn
 have hle:∀ x ∈ gah ts,x.2.le E:=fun x hx=>by
  obtain ⟨t,ht,rfl⟩:=pS.1 hx;exact (hf t ht).2
 have h:=h.sp hf;generalize gah ts=l at *;have H0:=hid h
 have HN:Hid (∀ w',Ext w w'->Calls Tryz.prog 31 #[v] w' (wa5 (qg l) w')):=hid (fun w' hx =>
  uad d (H0.out.ext hx) (fun z _=>pj _) (by have:=yf aam; omega) (by omega))
 have Wy:Hid (vaf 4 (qg l)):=hid ⟨kaa l,fun x hx=>(ww hx).1,⟨Mo.one,fun x _ i h1 h2=>by omega⟩,fun x hx=>by
  obtain ⟨-,y,hy,e⟩:=ww hx;rw [<- e]
  exact (hle y hy).mono (by omega)⟩
 have HBP:Hid (bld 4 (qg l)=Pl.j8 l):=hid rfl;have vY:=hid Xf.can;have jC:=hid (py Xf.sz (py (Pf (show E+2<=1002 by omega) 4) (show 1002 ^ 4<=1099511627776 by decide)));have oQ:=hid (py Xf.dm (show d+1<=35184372088832 by omega));obtain ⟨A0,c0,rfl,-⟩:=h;obtain ⟨W,hW⟩:=n_m (w.alloc (.cells #[.int .i64 0,.bool false,.slice none 0 0,.slice none 0 0] 33));have aG:Hid (Ext w W):=hid (by rw [<- hW]; exact (Ext.refl w).alloc _);have HZ:Hid (jf W w.heap.size):=hid (by rw [<- hW]; exact jf.new w _);have dG:W.heap.size=w.heap.size+1:=by rw [<- hW]; simp
 clear Xf;go_enter Tryz.func9,Tryz.ntmps9;go_wp2_with fail;clear hW;refine (HN.out _ aG.out).mono ?_;rintro e w1 ⟨v1,rfl,⟨A1,c1,rfl,fC,dK,tq⟩,x1⟩;have HB:=hid (qbi w1 4 (pj _) (qg l) A1 c1 w1 tq fC dK Wy.out (Ext.refl w1));rw [HBP.out] at HB;have X1:=hid (aG.out.trans x1);have eY:=hid (HZ.out.ext x1 (by omega));have bW:=x1.size;clear x1 tq Wy HN;go_wp2_with fail;refine HB.out.mono ?_;rintro e w2 ⟨v2,rfl,p2,x2⟩;have HC:=hid (qai (Pl.j8 l) v2 vY.out jC.out oQ.out p2);obtain ⟨C0,j0,f0,C1,f1,rfl,-⟩:=id p2.open_;have X2:=hid (X1.out.trans x2);have og:=hid (eY.out.ext x2 (by omega));have jF:=x2.size;clear p2 x2 HB;unfold plV at *;go_wp2_with fail;refine HC.out.mono ?_;rintro e w3 ⟨v3,rfl,p3,x3⟩;obtain ⟨D0,j1,g0,D1,g1,rfl,-⟩:=id p3.open_;obtain ⟨⟨z0,z1,z2,z3⟩,zf⟩:=og.out.ext x3 (by omega);have HF:=hid (qf (q':=fun b=>w.heap.size<=b) (X2.out.trans x3) (pj _) (og.out.ext x3 (by omega)) p3 (fun b _ hb=>⟨by omega,by omega⟩));clear p3 x3 HC og;unfold plV;go_wp2_with fail;exact bodyPost_ret (v:=plV (Pl.j8 l) (.slice D0 j1 g0) (.slice D1 (Pl.j8 l).cs.length g1)) (by simp [results,Tryz.results9,go_sem,z0,z1,z2,z3,plV]) rfl HF.out
end Go.Proofs.YtcepajijiabkmaaGreat
