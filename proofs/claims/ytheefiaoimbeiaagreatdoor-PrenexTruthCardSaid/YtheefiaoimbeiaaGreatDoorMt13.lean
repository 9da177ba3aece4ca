/- Layer 3 (division): the greatest common divisor. -/
import Derived.Test.YtheefiaoimbeiaaGreatDoorMt12
import Derived.Deep.LoopGhost
set_option linter.unusedSimpArgs false
set_option linter.unusedVariables false
set_option maxRecDepth 100000
set_option maxHeartbeats 8000000
namespace Go.Proofs.YtheefiaoimbeiaaGreatDoor
open Go.RowKit
theorem ya7 (v:Value) (n:Nat) (w:World) (h:ja w v (dg n)) (hl:(dg n).length<=2) :
 Calls Tryz.prog 154 #[v] w fun e w'=>e=.returned (.tuple #[.int .u64 (n:Nat),.bool true])/\Ext w w':=by
 go_enter Tryz.func154,Tryz.ntmps154;go_wp2_with fail;refine (yz _ _ _ h).mono ?_;rw [je];rintro e w' ⟨v',rfl,hv,rfl⟩;clear h;obtain ⟨A,c,rfl,h1,h2,h3⟩:=hv
 by_cases hn0:n=0
 · subst hn0;rw [jm] at h1 ⊢;clear h3 hl;go_wp2_with fail
   go_ret2
   exact ⟨rfl,Ext.refl w⟩
 · by_cases hn1:n < B32
   · rw [yam hn0 hn1] at h1 h3 ⊢;obtain ⟨ad,rfl,hb,hcell,hd1⟩:=h3.at_ 0 (by simp);rw [show ad.add 0=ad from by simp [Addr.add]] at hcell
     change w.cell? ad=some (.int .u32 (n:Nat)) at hcell
     change n < 4294967296 at hd1
     clear h3 hl hn0 hn1;go_wp2_with fail
     go_ret2
     exact ⟨rfl,Ext.refl w⟩
   · have hB2:n < B32 * B32:=by
      have h4:=xac n;have h5:B32 ^ (dg n).length<=B32 ^ 2:=Nat.pow_le_pow_right uj hl;rw [show B32 ^ 2=B32 * B32 from by rw [Nat.pow_succ,Nat.pow_one]] at h5;omega
     obtain ⟨lo,hi,hlo,hhi,hn⟩:∃ lo hi,lo < B32/\hi < B32/\n=lo+B32 * hi:=⟨n % B32,n / B32,Nat.mod_lt _ uj,Nat.div_lt_of_lt_mul hB2,(Nat.mod_add_div _ _).symm⟩;have hhi0:hi ≠ 0:=by
      intro e;rw [e,Nat.mul_zero] at hn;omega
     have hdg:dg n=[lo,hi]:=by rw [hn]; exact gcz lo hi hlo hhi0 hhi
     rw [hdg] at h1 h3 ⊢;obtain ⟨ad,rfl,hb,hcell,hd1⟩:=h3.at_ 0 (by simp);obtain ⟨ad',e',hb',hcell',hd1'⟩:=h3.at_ 1 (by simp);injection e' with e'
     subst e';rw [show ad.add 0=ad from by simp [Addr.add]] at hcell;rw [show ad.add 1=⟨ad.block,ad.off+1,none⟩ from by simp [Addr.add]] at hcell'
     change w.cell? ad=some (.int .u32 (lo:Nat)) at hcell
     change w.cell? ⟨ad.block,ad.off+1,none⟩=some (.int .u32 (hi:Nat)) at hcell'
     change lo < 4294967296 at hd1
     change hi < 4294967296 at hd1'
     have hor:bits .or .u64 ((hi:Int) * 4294967296) lo=(hi:Int) * 4294967296+lo:=by
      have:=u64_or_nat (hi * 4294967296) lo (by omega) (by omega);rw [nat_join 32 (hi * 4294967296) lo (by omega) (by omega)] at this;simpa using this
     have HN:Hid ((hi:Int) * 4294967296+lo=(n:Nat)):=by
      have:(hi:Int) * 4294967296+lo=(n:Nat):=by rw [hn,yg]; omega
      exact this
     clear h3 hl hn0 hn1 hn hdg hB2 hlo hhi;go_wp2_with fail
     go_quiet (fail)
     go_wp2_with fail
     go_ret2
     exact ⟨by rw [<- HN.out]; rfl,(Ext.refl w).drewN _⟩
def ubn (G:Nat) (W:World) (gk:Nat) (s5 s6:Value) (wr:World):Prop:=∃ X Y:Nat,gk=Y/\ja wr s5 (dg X)/\ja wr s6 (dg Y)/\Nat.gcd X Y=G/\(dg X).length<=17592186044416/\(dg Y).length<=17592186044416/\Ext W wr
theorem qcs (x y:Value) (a b:Int) (L M:Nat) (w:World) (h:jg w x a L) (k:jg w y b M) (hs:L<=17592186044416) (hs':M<=17592186044416) :
 Calls Tryz.prog 137 #[x,y] w (gag (Nat.gcd a.natAbs b.natAbs:Nat) w):=by
 have hLa:=h.len;have hLb:=k.len;obtain ⟨neg,v,ds,rfl,⟨A,c,rfl,h1,h2,h3⟩,hz,hl⟩:=h;obtain ⟨neg',v',ds',rfl,⟨A',c',rfl,h1',h2',h3'⟩,hz',hl'⟩:=k;have HA:Hid (a.natAbs=val ds):=by rw [hz]; exact uq _ _
 have HB:Hid (b.natAbs=val ds'):=by rw [hz']; exact uq _ _
 rw [HA.out] at hLa;rw [HB.out] at hLb;rw [HA.out,HB.out];have H3:=Lib.hid h3;have H3':=Lib.hid h3';clear h3 h3' hz hz' HA HB;go_enter Tryz.func137,Tryz.ntmps137;go_wp2_with fail;generalize hW:((w.alloc (Obj.cells #[.bool neg,.slice A ds.length c] 25)).alloc (Obj.cells #[.bool neg',.slice A' ds'.length c'] 25)).alloc (Obj.cells #[.bool false,.slice none 0 0] 25)=W;have HX0:Hid (Ext w W):=by
  have:Ext w W:=by rw [<- hW]; exact (((Ext.refl w).alloc _).alloc _).alloc _
  exact this
 have HWS:Hid (W.heap.size=w.heap.size+1+1+1):=by
  have:W.heap.size=w.heap.size+1+1+1:=by rw [<- hW]; simp
  exact this
 have HS:Hid (∀ W',Ext W W'->(Ext w W'/\W'.cell? ⟨w.heap.size,0,none⟩=some (.bool neg)/\W'.cell? ⟨w.heap.size,1,none⟩=some (.slice A ds.length c)/\W'.cell? ⟨w.heap.size+1,0,none⟩=some (.bool neg')/\W'.cell? ⟨w.heap.size+1,1,none⟩=some (.slice A' ds'.length c'))):=by
  intro W' hx;obtain ⟨hc,hf⟩:=hx.cells;have hsz:=HWS.out;refine ⟨HX0.out.trans hx,?_,?_,?_,?_⟩ <;> (rw [hc _ _ (by omega),<- hW]; simp [go_sem])
 have HR:Hid (∀ W',Ext W W'->(W'.cell? ⟨w.heap.size+1+1,0,none⟩=some (.bool false)/\W'.cell? ⟨w.heap.size+1+1,1,none⟩=some (.slice none 0 0)/\W'.frozen? ⟨w.heap.size+1+1,0,none⟩=false/\W'.frozen? ⟨w.heap.size+1+1,1,none⟩=false)):=by
  intro W' hx;obtain ⟨hc,hf⟩:=hx.cells;have hsz:=HWS.out;refine ⟨?_,?_,?_,?_⟩ <;> first | (rw [hc _ _ (by omega),<- hW]; simp [go_sem]; done) | (rw [hf _ _ (by omega),<- hW]; simp [go_sem]; done)
 have HS2:Hid (∀ W'' v0 v1,Ext W W''->∀ W',W'=(W''.setCell ⟨w.heap.size+1+1,0,none⟩ v0).setCell ⟨w.heap.size+1+1,1,none⟩ v1->(Ext w W'/\W'.cell? ⟨w.heap.size,0,none⟩=some (.bool neg)/\W'.cell? ⟨w.heap.size,1,none⟩=some (.slice A ds.length c)/\W'.cell? ⟨w.heap.size+1,0,none⟩=some (.bool neg')/\W'.cell? ⟨w.heap.size+1,1,none⟩=some (.slice A' ds'.length c'))):=by
  intro W'' v0 v1 hx W' hW';obtain ⟨s1,c0,c1,c2,c3⟩:=HS.out W'' hx;rw [hW'];refine ⟨(s1.setCell (by simp; try omega) _).setCell (by simp; try omega) _,?_,?_,?_,?_⟩ <;> rw [World.cell?_setCell_other _ _ _ _ (by simp; try omega),World.cell?_setCell_other _ _ _ _ (by simp; try omega)] <;> assumption
 clear hW
 go_region_held3 (fun W' => Ext w W' /\ W'.cell? ⟨w.heap.size, 0, none⟩ = some (.bool neg) /\ W'.cell? ⟨w.heap.size, 1, none⟩ = some (.slice A ds.length c) /\ W'.cell? ⟨w.heap.size + 1, 0, none⟩ = some (.bool neg') /\ W'.cell? ⟨w.heap.size + 1, 1, none⟩ = some (.slice A' ds'.length c'))
  (first | exact HS.out _ ((Ext.refl W).drew) | exact HS.out _ (by assumption) | exact HS2.out _ _ _ (by assumption) _ rfl)
  (first
    | (go_at_call_of 111 (Value.slice A ds.length c)
       have hxx:=(‹Ext w _/\_›).1;refine (zad _ ds _ ⟨A,c,rfl,h1,h2,H3.out.ext hxx⟩ (by omega)).mono ?_;rintro e w2 ⟨v2,rfl,nv2,x2⟩
       have y2:Ext W w2:=Ext.trans ((Ext.refl W).drew) x2)
    | (go_at_call_of 111 (Value.slice A' ds'.length c')
       have hxx:=(‹Ext w _/\_›).1;refine (zad _ ds' _ ⟨A',c',rfl,h1',h2',H3'.out.ext hxx⟩ (by omega)).mono ?_;rintro e w3 ⟨v3,rfl,nv3,x3⟩
       have y3:Ext W w3:=Ext.trans y2 x3))
 have HI0:Hid (ubn (Nat.gcd (val ds) (val ds')) W (val ds') v2 v3 w3):=⟨_,_,rfl,nv2.ext x3,nv3,rfl,by omega,by omega,y3⟩;clear HS HS2 nv2 nv3 x2 x3 y2 y3;generalize Nat.gcd (val ds) (val ds')=G at *;go_wp2_with fail
 go_loopg [5,6] (val ds') (fun gk s5 s6 wr=>Hid (ubn G W gk s5 s6 wr))
 case atStart=>exact HI0
 case round =>
  clear HI0;obtain ⟨X,Y,hgk,nx,ny,hg,lx,ly,hx⟩:=hrel.out;have NX:=Lib.hid nx;have NY:=Lib.hid ny;have HG:=Lib.hid hg;have HXX:=Lib.hid hx;have HGK:=Lib.hid hgk;obtain ⟨A5,c5,rfl,i1,i2,i3⟩:=nx;obtain ⟨A6,c6,rfl,j1,j2,j3⟩:=ny;clear hrel hg hx hgk i3 j3
  by_cases hbig:2 < (dg X).length\/2 < (dg Y).length
  · have hb:(decide ((2:Int) < ((dg X).length:Int))=true)\/(decide ((2:Int) < ((dg X).length:Int))=false/\decide ((2:Int) < ((dg Y).length:Int))=true):=by
     by_cases h:2 < (dg X).length
     · exact .inl (by simp; omega)
     · exact .inr ⟨by simp; omega,by simp; omega⟩
    clear hbig
    by_cases hY:Y=0
    · have hyl:(dg Y).length=0:=by rw [hY,jm]; rfl
      rw [hyl] at hb ⊢;have hX:decide ((2:Int) < ((dg X).length:Int))=true:=by
       rcases hb with h | ⟨h1,h2⟩
       · exact h
       · simp at h2
      have HXG:Hid (X=G):=by
       have:=HG.out;rw [hY,Nat.gcd_zero_right] at this;exact this
      clear hb hyl hY;go_wp2_with fail;refine (zam false _ _ _ NX.out (by omega)).mono ?_;rw [je,HXG.out,show sgn false G=((G:Nat):Int) from rfl];rintro e w9 ⟨x9,rfl,⟨v9,rfl,A2,c2,rfl,q1,q2,q3⟩,z9⟩;have y9:Ext W w9:=HXX.out.trans z9;obtain ⟨r0,r1,f0,f1⟩:=HR.out w9 y9
      change (dg ((G:Nat):Int).natAbs).length<=c2 at q1
      have HF:=Lib.hid (wz (g:=w.heap.size+1+1) (z:=((G:Nat):Int)) (u0:=.bool false) (u1:=.slice none 0 0) (HX0.out.trans y9) (by omega) r0 r1 rfl rfl ⟨_,rfl,A2,c2,rfl,q1,q2,q3⟩);clear y9 z9 q3;go_wp2_with fail;exact bodyPost_ret (v:=.agg #[.bool (decide (((G:Nat):Int) < 0)),.slice A2 (dg ((G:Nat):Int).natAbs).length c2]) (by simp [results,Tryz.results137,go_sem,r0,r1]) rfl HF.out
    · have hyl:0 < (dg Y).length:=zaf hY;have hylb:(((dg Y).length:Int) == 0)=false:=beq_eq_false_iff_ne.2 (by omega);have hYp:0 < Y:=Nat.pos_of_ne_zero hY;rcases hb with hb1 | ⟨hb1,hb2⟩
      all_goals
       go_wp2_with fail;refine (ya9 _ _ _ _ _ NX.out NY.out (by omega) (by omega) (by rw [je]; exact hY)).mono ?_;rw [je,je];rintro e w4 ⟨vq,vr,rfl,nq,nr,x4⟩
       have HS4:Hid (ubn G W (X % Y) (.slice A6 (dg Y).length c6) vr w4):=
        ⟨Y,X % Y,rfl,NY.out.ext x4,nr,by rw [<- HG.out,Nat.gcd_comm X Y,Nat.gcd_rec Y X,Nat.gcd_comm],ly,Nat.le_trans (yw (Nat.mod_le _ _)) lx,HXX.out.trans x4⟩
       have hml:X % Y < Y:=Nat.mod_lt _ hYp;clear nq nr x4;go_wp2_with fail
       go_roundg (X % Y)
       case rel=>exact HS4
       case measure=>rw [HGK.out]; exact hml
  · have b1:decide ((2:Int) < ((dg X).length:Int))=false:=by simp; omega
    have b2:decide ((2:Int) < ((dg Y).length:Int))=false:=by simp; omega
    have hX64:X < 18446744073709551616:=by
     have h4:=xac X;have h5:B32 ^ (dg X).length<=B32 ^ 2:=Nat.pow_le_pow_right uj (by omega);have h6:B32 ^ 2=18446744073709551616:=by decide
     omega
    have hY64:Y < 18446744073709551616:=by
     have h4:=xac Y;have h5:B32 ^ (dg Y).length<=B32 ^ 2:=Nat.pow_le_pow_right uj (by omega);have h6:B32 ^ 2=18446744073709551616:=by decide
     omega
    go_wp2_with fail;refine (ya7 _ X _ NX.out (by omega)).mono ?_;rintro e w4 ⟨rfl,x4⟩;have X4:=Lib.hid x4;clear x4;go_wp2_with fail;refine (ya7 _ Y _ (NY.out.ext X4.out) (by omega)).mono ?_;rintro e w5 ⟨rfl,x5⟩;have Y5:=Lib.hid (HXX.out.trans (X4.out.trans x5));clear x5 X4;go_wp2_with fail
    go_loopw [9,11] (fun mv nv wr=>∃ m n:Nat,mv=.int .u64 m/\nv=.int .u64 n/\m < 18446744073709551616/\n < 18446744073709551616/\Hid (Nat.gcd m n=G/\Ext W wr)) (fun _ nv _=>(intOf nv).toNat)
    case atStart=>exact ⟨X,Y,rfl,rfl,hX64,hY64,Lib.hid ⟨HG.out,Y5.out⟩⟩
    case round =>
     obtain ⟨m,n,rfl,rfl,hm,hn,HI⟩:=hrel
     by_cases hn0:n=0
     · subst hn0;have HMG:Hid (m=G):=by
        have:=HI.out.1;rw [Nat.gcd_zero_right] at this;exact this
       go_wp2_with fail;refine (kaq m _ hm).mono ?_;rw [HMG.out];rintro e w6 ⟨v6,rfl,n6,x6⟩;go_wp2_with fail;refine (zam false _ _ _ n6 ?_).mono ?_
       · have h4:=zh (n:=G) (k:=2) (by (rw [<- HMG.out]; have h6:B32 ^ 2=18446744073709551616:=by decide); omega);omega
       rw [je,show sgn false G=((G:Nat):Int) from rfl];rintro e w9 ⟨x9,rfl,⟨v9,rfl,A2,c2,rfl,q1,q2,q3⟩,z9⟩;have y9:Ext W w9:=HI.out.2.trans (x6.trans z9);obtain ⟨r0,r1,f0,f1⟩:=HR.out w9 y9
       change (dg ((G:Nat):Int).natAbs).length<=c2 at q1
       have HF:=Lib.hid (wz (g:=w.heap.size+1+1) (z:=((G:Nat):Int)) (u0:=.bool false) (u1:=.slice none 0 0) (HX0.out.trans y9) (by omega) r0 r1 rfl rfl ⟨_,rfl,A2,c2,rfl,q1,q2,q3⟩);clear y9 z9 q3 x6 n6;go_wp2_with fail;exact bodyPost_ret (v:=.agg #[.bool (decide (((G:Nat):Int) < 0)),.slice A2 (dg ((G:Nat):Int).natAbs).length c2]) (by simp [results,Tryz.results137,go_sem,r0,r1]) rfl HF.out
     · have hnb:((n:Int) != 0)=true:=by simp; omega
       have hnb2:((n:Int) == 0)=false:=beq_eq_false_iff_ne.2 (by omega);have hnp:0 < n:=by omega
       have hml:m % n < n:=Nat.mod_lt _ hnp;have HS5:Hid (Nat.gcd n (m % n)=G):=by
        have:=HI.out.1;rw [Nat.gcd_comm,<- Nat.gcd_rec,Nat.gcd_comm];exact this
       go_wp2_with fail
       go_quiet (fail)
       go_wp2_with fail
       go_roundw
       case rel=>exact ⟨n,m % n,rfl,by simp,hn,by omega,Lib.hid ⟨HS5.out,HI.out.2.drewN _⟩⟩
       case measure =>
        have e:(m:Int) % n=((m % n:Nat):Int):=by simp
        simp only [intOf];rw [e];omega
/- Layer 5 (rational): numerator and denominator. -/
set_option maxRecDepth 100000
set_option maxHeartbeats 8000000
def kae (w:World) (v:Value) (q:Rat) (L:Nat):Prop:=
 ∃ neg s1 s2 ds es,v=.agg #[.bool neg,s1,s2]/\ja w s1 ds/\ja w s2 es/\q=mkRat (sgn neg (val ds)) (val es)/\ds.length<=L/\es.length<=L
def xam (w:World) (v:Value) (q:Rat):Prop:=∃ s1 s2,v=.agg #[.bool (decide (q.num < 0)),s1,s2]/\ja w s1 (dg q.num.natAbs)/\ja w s2 (dg q.den)
def jr (q:Rat):Nat:=max (dg q.num.natAbs).length (dg q.den).length
theorem kae.ext {w w':World} {v:Value} {q:Rat} {L:Nat} (h:kae w v q L) (hx:Ext w w'):kae w' v q L:=by
 obtain ⟨neg,s1,s2,ds,es,e,h1,h2,h3,h4,h5⟩:=h;exact ⟨neg,s1,s2,ds,es,e,h1.ext hx,h2.ext hx,h3,h4,h5⟩
theorem kae.mono {w:World} {v:Value} {q:Rat} {L L':Nat} (h:kae w v q L) (hl:L<=L'):kae w v q L':=by
 obtain ⟨neg,s1,s2,ds,es,e,h1,h2,h3,h4,h5⟩:=h;exact ⟨neg,s1,s2,ds,es,e,h1,h2,h3,Nat.le_trans h4 hl,Nat.le_trans h5 hl⟩
theorem xam.ext {w w':World} {v:Value} {q:Rat} (h:xam w v q) (hx:Ext w w'):xam w' v q:=by
 obtain ⟨s1,s2,e,h1,h2⟩:=h;exact ⟨s1,s2,e,h1.ext hx,h2.ext hx⟩
theorem xam.raw {w:World} {v:Value} {q:Rat} (h:xam w v q):kae w v q (jr q):=by
 obtain ⟨s1,s2,e,h1,h2⟩:=h;exact ⟨_,s1,s2,_,_,e,h1,h2,by rw [je,je,wal,Rat.mkRat_self],Nat.le_max_left _ _,Nat.le_max_right _ _⟩
theorem xam.box {w:World} {x:Value} {q:Rat} {p:Addr} {u:Value} (h:xam w x q) (hp:w.cell? p=some u) (hu:uu u=false) (v:Value):xam (w.setCell p v) x q:=by
 obtain ⟨s1,s2,e,h1,h2⟩:=h;exact ⟨s1,s2,e,h1.box hp hu v,h2.box hp hu v⟩
def ga6 (q:Rat) (L:Nat) (w:World) (e:Ending) (w':World):Prop:=
 ∃ (x y:Value) (n:Int) (d:Nat),e=.returned (.tuple #[x,y])/\jg w' x n L/\jg w' y (d:Nat) L/\0 < d/\q=mkRat n d/\Ext w w'
theorem ua4 {w W : World} {g g' : Nat} {q : Rat} {n : Int} {d L : Nat} {b s b' s' u0 u1 u2 u3 : Value} (hx : Ext w W) (hg : w.heap.size <= g) (hg' : w.heap.size <= g') (hne : g ≠ g') (h0 : W.cell? ⟨g, 0, none⟩ = some u0) (h1 : W.cell? ⟨g, 1, none⟩ = some u1)
 (h2:W.cell? ⟨g',0,none⟩=some u2) (h3:W.cell? ⟨g',1,none⟩=some u3) (d0:uu u0=false) (d1:uu u1=false) (d2:uu u2=false) (d3:uu u3=false) (hN:jg W (.agg #[b,s]) n L) (hM:jg W (.agg #[b',s']) (d:Nat) L) (hd:0 < d) (hq:q=mkRat n d) :
 ga6 q L w (.returned (.tuple #[.agg #[b,s],.agg #[b',s']])) ((((W.setCell ⟨g,0,none⟩ b).setCell ⟨g,1,none⟩ s).setCell ⟨g',0,none⟩ b').setCell ⟨g',1,none⟩ s'):=by
 have k1:(W.setCell ⟨g,0,none⟩ b).cell? ⟨g,1,none⟩=some u1:=by rw [World.cell?_setCell_other _ _ _ _ (by simp),h1]
 have k2:((W.setCell ⟨g,0,none⟩ b).setCell ⟨g,1,none⟩ s).cell? ⟨g',0,none⟩=some u2:=by
  rw [World.cell?_setCell_other _ _ _ _ (by simp),World.cell?_setCell_other _ _ _ _ (by intro e; injection e; omega),h2]
 have k3:(((W.setCell ⟨g,0,none⟩ b).setCell ⟨g,1,none⟩ s).setCell ⟨g',0,none⟩ b').cell? ⟨g',1,none⟩=some u3:=by
  rw [World.cell?_setCell_other _ _ _ _ (by simp),World.cell?_setCell_other _ _ _ _ (by intro e; injection e; omega),World.cell?_setCell_other _ _ _ _ (by simp),h3]
 exact ⟨_,_,n,d,rfl,(((hN.box h0 d0 _).box k1 d1 _).box k2 d2 _).box k3 d3 _,(((hM.box h0 d0 _).box k1 d1 _).box k2 d2 _).box k3 d3 _,hd,hq,(((hx.setCell (by simpa using hg) _).setCell (by simpa using hg) _).setCell (by simpa using hg') _).setCell (by simpa using hg') _⟩
theorem jaq (v:Value) (q:Rat) (L:Nat) (w:World) (h:kae w v q L) (hL:1<=L):Calls Tryz.prog 78 #[v] w (ga6 q L w):=by
 obtain ⟨neg,s1,s2,ds,es,rfl,⟨A,c,rfl,h1,h2,h3⟩,⟨A',c',rfl,h1',h2',h3'⟩,hq,hl,hl'⟩:=h;have H3:=Lib.hid h3;have H3':=Lib.hid h3';have HQ:=Lib.hid hq;clear h3 h3' hq;go_enter Tryz.func78,Tryz.ntmps78;go_wp2_with fail;generalize hW:((w.alloc (Obj.cells #[.bool neg,.slice A ds.length c,.slice A' es.length c'] 59)).alloc (Obj.cells #[.bool false,.slice none 0 0] 25)).alloc (Obj.cells #[.bool false,.slice none 0 0] 25)=W;have HX0:Hid (Ext w W):=by
  have:Ext w W:=by rw [<- hW]; exact (((Ext.refl w).alloc _).alloc _).alloc _
  exact this
 have HWS:Hid (W.heap.size=w.heap.size+1+1+1):=by
  have:W.heap.size=w.heap.size+1+1+1:=by rw [<- hW]; simp
  exact this
 have HS:Hid (∀ W',Ext W W'->(Ext w W'/\W'.cell? ⟨w.heap.size,0,none⟩=some (.bool neg)/\W'.cell? ⟨w.heap.size,1,none⟩=some (.slice A ds.length c)/\W'.cell? ⟨w.heap.size,2,none⟩=some (.slice A' es.length c'))):=by
  intro W' hx;obtain ⟨hc,hf⟩:=hx.cells;have hsz:=HWS.out;refine ⟨HX0.out.trans hx,?_,?_,?_⟩ <;> (rw [hc _ _ (by omega),<- hW]; simp [go_sem])
 have HR:Hid (∀ W',Ext W W'->(W'.cell? ⟨w.heap.size+1,0,none⟩=some (.bool false)/\W'.cell? ⟨w.heap.size+1,1,none⟩=some (.slice none 0 0)/\W'.cell? ⟨w.heap.size+1+1,0,none⟩=some (.bool false)/\W'.cell? ⟨w.heap.size+1+1,1,none⟩=some (.slice none 0 0)/\W'.frozen? ⟨w.heap.size+1,0,none⟩=false/\W'.frozen? ⟨w.heap.size+1,1,none⟩=false/\W'.frozen? ⟨w.heap.size+1+1,0,none⟩=false/\W'.frozen? ⟨w.heap.size+1+1,1,none⟩=false)):=by
  intro W' hx;obtain ⟨hc,hf⟩:=hx.cells;have hsz:=HWS.out;refine ⟨?_,?_,?_,?_,?_,?_,?_,?_⟩ <;> first | (rw [hc _ _ (by omega),<- hW]; simp [go_sem]; done) | (rw [hf _ _ (by omega),<- hW]; simp [go_sem]; done)
 have HS2_2:Hid (∀ W'' v0 v1,Ext W W''->∀ W',W'=(W''.setCell ⟨w.heap.size+1,0,none⟩ v0).setCell ⟨w.heap.size+1,1,none⟩ v1->(Ext w W'/\W'.cell? ⟨w.heap.size,0,none⟩=some (.bool neg)/\W'.cell? ⟨w.heap.size,1,none⟩=some (.slice A ds.length c)/\W'.cell? ⟨w.heap.size,2,none⟩=some (.slice A' es.length c'))):=by
  intro W'' v0 v1 hx W' hW';obtain ⟨s1,c0,c1,c2⟩:=HS.out W'' hx;rw [hW'];refine ⟨(s1.setCell (by simp; try omega) _).setCell (by simp; try omega) _,?_,?_,?_⟩ <;> rw [World.cell?_setCell_other _ _ _ _ (by simp; try omega),World.cell?_setCell_other _ _ _ _ (by simp; try omega)] <;> assumption
 have HS2:Hid (∀ W'' v0 v1 v2 v3,Ext W W''->∀ W',W'=(((W''.setCell ⟨w.heap.size+1,0,none⟩ v0).setCell ⟨w.heap.size+1,1,none⟩ v1).setCell ⟨w.heap.size+1+1,0,none⟩ v2).setCell ⟨w.heap.size+1+1,1,none⟩ v3->(Ext w W'/\W'.cell? ⟨w.heap.size,0,none⟩=some (.bool neg)/\W'.cell? ⟨w.heap.size,1,none⟩=some (.slice A ds.length c)/\W'.cell? ⟨w.heap.size,2,none⟩=some (.slice A' es.length c'))):=by
  intro W'' v0 v1 v2 v3 hx W' hW';obtain ⟨s1,c0,c1,c2⟩:=HS.out W'' hx;rw [hW'];refine ⟨(((s1.setCell (by simp; try omega) _).setCell (by simp; try omega) _).setCell (by simp; try omega) _).setCell (by simp; try omega) _,?_,?_,?_⟩ <;> rw [World.cell?_setCell_other _ _ _ _ (by simp; try omega),World.cell?_setCell_other _ _ _ _ (by simp; try omega),World.cell?_setCell_other _ _ _ _ (by simp; try omega),World.cell?_setCell_other _ _ _ _ (by simp; try omega)] <;> assumption
 clear hW;obtain ⟨e0,b0,b1,b2⟩:=HS.out W (Ext.refl W);have E0:=Lib.hid e0;clear e0;refine (vah _ es _ ⟨A',c',rfl,h1',h2',H3'.out.ext E0.out⟩).mono ?_;rintro e w1 ⟨rfl,rfl⟩
 by_cases h0:val es=0
 · have hb:(val es == 0)=true:=by simp [h0]
   have H0:=Lib.hid h0;clear h0;go_wp2_with fail;refine (of_int 1 _ (by omega) (by omega)).mono ?_;rintro e w2 ⟨x2,rfl,⟨v2,rfl,A2,c2,rfl,q1,q2,q3⟩,y2⟩;obtain ⟨r0,r1,r2,r3,f0,f1,f2,f3⟩:=HR.out w2 y2;have hN:jg w2 (.agg #[.bool (decide ((1:Int) < 0)),.slice A2 (dg (1:Int).natAbs).length c2]) ((1:Nat):Int) L:=jg.mono (vae.raw ⟨_,rfl,A2,c2,rfl,q1,q2,q3⟩) (by rw [show dg (((1:Nat):Int)).natAbs=[1] from yam (by decide) ya3]; exact hL);have HF:=Lib.hid (ua4 (q:=q) (n:=0) (d:=1) (g:=w.heap.size+1) (g':=w.heap.size+1+1) (E0.out.trans y2) (by omega) (by omega) (by omega) r0 r1 r2 r3 rfl rfl rfl rfl (show jg w2 (.agg #[.bool false,.slice none 0 0]) 0 L from ⟨false,_,[],rfl,ja.nil _,rfl,Nat.zero_le _⟩) hN (by omega) (by rw [HQ.out,H0.out]; simp));clear hN q3 y2;go_wp2_with fail;exact bodyPost_ret (v:=.tuple #[.agg #[.bool false,.slice none 0 0],.agg #[.bool false,.slice A2 (dg 1).length c2]]) (by simp [results,Tryz.results78,go_sem,r0,r1,r2,r3]) rfl HF.out
 · have hb:(val es == 0)=false:=by simp [h0]
   obtain ⟨r0,r1,r2,r3,f0,f1,f2,f3⟩:=HR.out W (Ext.refl W);have HF:Hid (∀ W',W'=W.drewN 1->ga6 q L w (.returned (.tuple #[.agg #[.bool neg,.slice A ds.length c],.agg #[.bool false,.slice A' es.length c']])) ((((W'.setCell ⟨w.heap.size+1,0,none⟩ (.bool neg)).setCell ⟨w.heap.size+1,1,none⟩ (.slice A ds.length c)).setCell ⟨w.heap.size+1+1,0,none⟩ (.bool false)).setCell ⟨w.heap.size+1+1,1,none⟩ (.slice A' es.length c'))):=by
    intro W' hW';have x1:Ext w W':=by rw [hW']; exact E0.out.drewN 1
    exact ua4 (n:=sgn neg (val ds)) (d:=val es) x1 (by omega) (by omega) (by omega) (by rw [hW']; exact r0) (by rw [hW']; exact r1) (by rw [hW']; exact r2) (by rw [hW']; exact r3) rfl rfl rfl rfl ⟨neg,_,ds,rfl,⟨A,c,rfl,h1,h2,H3.out.ext x1⟩,rfl,hl⟩ ⟨false,_,es,rfl,⟨A',c',rfl,h1',h2',H3'.out.ext x1⟩,rfl,hl'⟩ (Nat.pos_of_ne_zero h0) HQ.out
   clear h0;go_wp2_with fail
   go_region_held3 (fun W' => Ext w W' /\ W'.cell? ⟨w.heap.size, 0, none⟩ = some (.bool neg) /\ W'.cell? ⟨w.heap.size, 1, none⟩ = some (.slice A ds.length c) /\ W'.cell? ⟨w.heap.size, 2, none⟩ = some (.slice A' es.length c'))
    (first | exact HS.out _ ((Ext.refl W).drew) | exact HS2_2.out _ _ _ ((Ext.refl W).drew) _ rfl | exact HS2.out _ _ _ _ _ ((Ext.refl W).drew) _ rfl)
    (fail)
   clear HS HS2 HS2_2 HR;go_wp2_with fail;exact bodyPost_ret (v:=.tuple #[.agg #[.bool neg,.slice A ds.length c],.agg #[.bool false,.slice A' es.length c']]) (by simp [results,Tryz.results78,go_sem,r0,r1,r2,r3]) rfl (HF.out _ rfl)
/- Layer 5 (rational): lowest terms. -/
set_option maxRecDepth 100000
set_option maxHeartbeats 8000000
def jae (q:Rat) (w:World) (e:Ending) (w':World):Prop:=∃ x,e=.returned x/\xam w' x q/\Ext w w'
theorem qaf {w W : World} {g : Nat} {q : Rat} {b s t u0 u1 u2 : Value} (hx : Ext w W) (hg : w.heap.size <= g) (h0 : W.cell? ⟨g, 0, none⟩ = some u0) (h1 : W.cell? ⟨g, 1, none⟩ = some u1) (h2 : W.cell? ⟨g, 2, none⟩ = some u2)
 (d0:uu u0=false) (d1:uu u1=false) (d2:uu u2=false) (hN:xam W (.agg #[b,s,t]) q) :
 jae q w (.returned (.agg #[b,s,t])) (((W.setCell ⟨g,0,none⟩ b).setCell ⟨g,1,none⟩ s).setCell ⟨g,2,none⟩ t):=by
 have k1:(W.setCell ⟨g,0,none⟩ b).cell? ⟨g,1,none⟩=some u1:=by rw [World.cell?_setCell_other _ _ _ _ (by simp),h1]
 have k2:((W.setCell ⟨g,0,none⟩ b).setCell ⟨g,1,none⟩ s).cell? ⟨g,2,none⟩=some u2:=by
  rw [World.cell?_setCell_other _ _ _ _ (by simp),World.cell?_setCell_other _ _ _ _ (by simp),h2]
 exact ⟨_,rfl,((hN.box h0 d0 _).box k1 d1 _).box k2 d2 _,((hx.setCell (by simpa using hg) _).setCell (by simpa using hg) _).setCell (by simpa using hg) _⟩
theorem gbv (n:Int) (d:Nat) (hd:0 < d):n.tdiv (Nat.gcd n.natAbs d:Nat)=(mkRat n d).num/\((d:Int).tdiv (Nat.gcd n.natAbs d:Nat))=((mkRat n d).den:Int):=by
 have hd0:d ≠ 0:=by omega
 rw [Rat.num_mkRat,Rat.den_mkRat,if_neg hd0,if_neg hd0,Nat.gcd_comm d];refine ⟨?_,?_⟩
 · rw [Int.tdiv_eq_ediv_of_dvd];exact Int.ofNat_dvd_left.2 (Nat.gcd_dvd_left _ _)
 · rfl
theorem ka7 (x y:Value) (n:Int) (d:Nat) (L M:Nat) (w:World) (h:jg w x n L) (k:jg w y (d:Nat) M) (hs:L<=17592186044416) (hs':M<=17592186044416) (hd:0 < d) :
 Calls Tryz.prog 113 #[x,y] w (jae (mkRat n d) w):=by
 have hG0:Nat.gcd n.natAbs d ≠ 0:=fun e=>by have:=Nat.eq_zero_of_gcd_eq_zero_right e; omega
 have hGl:(dg (Nat.gcd n.natAbs d)).length<=M:=by
  have h1:=k.len;simp only [Int.natAbs_natCast] at h1;exact Nat.le_trans (yw (Nat.le_of_dvd hd (Nat.gcd_dvd_right _ _))) h1
 obtain ⟨rn,rd⟩:=gbv n d hd;have RN:=Lib.hid rn;have RD:=Lib.hid rd;have H:=Lib.hid h;have K:=Lib.hid k;obtain ⟨neg,v,ds,rfl,⟨A,c,rfl,h1,h2,h3⟩,hz,hl⟩:=h;obtain ⟨neg',v',ds',rfl,⟨A',c',rfl,h1',h2',h3'⟩,hz',hl'⟩:=k;clear h3 h3' hz hz' rn rd;go_enter Tryz.func113,Tryz.ntmps113;go_wp2_with fail;generalize hW:((w.alloc (Obj.cells #[.bool neg,.slice A ds.length c] 25)).alloc (Obj.cells #[.bool neg',.slice A' ds'.length c'] 25)).alloc (Obj.cells #[.bool false,.slice none 0 0,.slice none 0 0] 59)=W;have HX0:Hid (Ext w W):=by
  have:Ext w W:=by rw [<- hW]; exact (((Ext.refl w).alloc _).alloc _).alloc _
  exact this
 have HWS:Hid (W.heap.size=w.heap.size+1+1+1):=by
  have:W.heap.size=w.heap.size+1+1+1:=by rw [<- hW]; simp
  exact this
 have HS:Hid (∀ W',Ext W W'->(Ext w W'/\W'.cell? ⟨w.heap.size,0,none⟩=some (.bool neg)/\W'.cell? ⟨w.heap.size,1,none⟩=some (.slice A ds.length c)/\W'.cell? ⟨w.heap.size+1,0,none⟩=some (.bool neg')/\W'.cell? ⟨w.heap.size+1,1,none⟩=some (.slice A' ds'.length c'))):=by
  intro W' hx;obtain ⟨hc,hf⟩:=hx.cells;have hsz:=HWS.out;refine ⟨HX0.out.trans hx,?_,?_,?_,?_⟩ <;> (rw [hc _ _ (by omega),<- hW]; simp [go_sem])
 have HR:Hid (∀ W',Ext W W'->(W'.cell? ⟨w.heap.size+1+1,0,none⟩=some (.bool false)/\W'.cell? ⟨w.heap.size+1+1,1,none⟩=some (.slice none 0 0)/\W'.cell? ⟨w.heap.size+1+1,2,none⟩=some (.slice none 0 0)/\W'.frozen? ⟨w.heap.size+1+1,0,none⟩=false/\W'.frozen? ⟨w.heap.size+1+1,1,none⟩=false/\W'.frozen? ⟨w.heap.size+1+1,2,none⟩=false)):=by
  intro W' hx;obtain ⟨hc,hf⟩:=hx.cells;have hsz:=HWS.out;refine ⟨?_,?_,?_,?_,?_,?_⟩ <;> first | (rw [hc _ _ (by omega),<- hW]; simp [go_sem]; done) | (rw [hf _ _ (by omega),<- hW]; simp [go_sem]; done)
 have HFZ:Hid (∀ W',Ext W W'->W'.frozen? ⟨w.heap.size,0,none⟩=false/\W'.frozen? ⟨w.heap.size,1,none⟩=false):=by
  intro W' hx;obtain ⟨hc,hf⟩:=hx.cells;have hsz:=HWS.out;refine ⟨?_,?_⟩ <;> (rw [hf _ _ (by omega),<- hW]; simp [go_sem])
 have HFZ':Hid (∀ W',Ext W W'->W'.frozen? ⟨w.heap.size+1,0,none⟩=false/\W'.frozen? ⟨w.heap.size+1,1,none⟩=false):=by
  intro W' hx;obtain ⟨hc,hf⟩:=hx.cells;have hsz:=HWS.out;refine ⟨?_,?_⟩ <;> (rw [hf _ _ (by omega),<- hW]; simp [go_sem])
 clear hW;obtain ⟨e0,b0,b1,b2,b3⟩:=HS.out W (Ext.refl W);have hg:=qcs _ _ n (d:Nat) L M W (H.out.ext e0) (K.out.ext e0) hs hs';simp only [Int.natAbs_natCast] at hg;refine hg.mono ?_;clear hg e0 b0 b1 b2 b3;generalize Nat.gcd n.natAbs d=G at *;rintro e w1 ⟨xg,rfl,⟨vg,rfl,Ag,cg,rfl,g1,g2,g3⟩,y1⟩
 change (dg G).length<=cg at g1
 change jk w1 Ag (dg G) at g3
 have hGb:decide (((G:Nat):Int) < 0)=false:=by simp
 rw [hGb,Int.natAbs_natCast];have hsz1:=y1.size;rw [HWS.out] at hsz1;have x2:Ext w1 (w1.alloc (Obj.cells #[.bool false,.slice Ag (dg G).length cg] 25)):=(Ext.refl w1).alloc _
 have GN:Hid (jg (w1.alloc (Obj.cells #[.bool false,.slice Ag (dg G).length cg] 25)) (.agg #[.bool false,.slice Ag (dg G).length cg]) (G:Nat) M):=
  jg.ext ⟨false,_,dg G,rfl,⟨Ag,cg,rfl,g1,g2,g3⟩,by rw [je]; rfl,hGl⟩ x2
 have Y2:=Lib.hid (y1.trans x2);have C5:Hid (∀ w',Ext (w1.alloc (Obj.cells #[.bool false,.slice Ag (dg G).length cg] 25)) w'->w'.cell? ⟨w1.heap.size,0,none⟩=some (.bool false)/\w'.cell? ⟨w1.heap.size,1,none⟩=some (.slice Ag (dg G).length cg)):=by
  intro w' hx;obtain ⟨hc,-⟩:=hx.cells;exact ⟨by rw [hc _ _ (by simp)]; simp [World.cell?_alloc_new],by rw [hc _ _ (by simp)]; simp [World.cell?_alloc_new]⟩
 have Z2:Hid (w1.heap.size < (w1.alloc (Obj.cells #[.bool false,.slice Ag (dg G).length cg] 25)).heap.size):=by
  have:w1.heap.size < (w1.alloc (Obj.cells #[.bool false,.slice Ag (dg G).length cg] 25)).heap.size:=by simp
  exact this
 clear x2 g3 hGb;go_upto_region 2 with fail;generalize w1.alloc (Obj.cells #[.bool false,.slice Ag (dg G).length cg] 25)=w2 at *;generalize hg5:w1.heap.size=g5 at *;clear hg5 y1;obtain ⟨e0,b0,b1,b2,b3⟩:=HS.out w2 Y2.out;obtain ⟨c0,c1⟩:=C5.out w2 (Ext.refl w2);have E0:=Lib.hid e0;clear e0;go_wp2_with fail;refine (jbr _ _ n ((G:Nat):Int) L M _ (H.out.ext E0.out) GN.out hs hs' (by omega)).mono ?_;rw [RN.out];rintro e w3 ⟨xq,xr,rfl,⟨vq,rfl,Aq,cq,rfl,i1,i2,i3⟩,-,y3⟩;have Y3:=Lib.hid y3;have HQN:Hid (vae w3 (.agg #[.bool (decide ((mkRat n d).num < 0)),.slice Aq (dg (mkRat n d).num.natAbs).length cq]) (mkRat n d).num):=⟨_,rfl,Aq,cq,rfl,i1,i2,i3⟩;clear c0 c1 b0 b1 b2 b3;obtain ⟨e0,b0,b1,b2,b3⟩:=HS.out w3 (Y2.out.trans y3);have hf:w3.frozen? ⟨w.heap.size,0,none⟩=false/\w3.frozen? ⟨w.heap.size,1,none⟩=false:=HFZ.out w3 (Y2.out.trans y3);obtain ⟨hf0,hf1⟩:=hf;clear y3 i3 e0;go_upto_region 3 with fail;obtain ⟨k0,k1⟩:=C5.out w3 Y3.out;obtain ⟨r0,r1,r2,f0,f1,f2⟩:=HR.out w3 (Y2.out.trans Y3.out);have hz3:g5 < w3.heap.size:=Nat.lt_of_lt_of_le Z2.out Y3.out.size;generalize hbq:Value.bool (decide ((mkRat n d).num < 0))=bq at *;generalize hsq:Value.slice Aq (dg (mkRat n d).num.natAbs).length cq=sq at *
 have N4:Hid (vae ((w3.setCell ⟨w.heap.size,0,none⟩ bq).setCell ⟨w.heap.size,1,none⟩ sq) (.agg #[bq,sq]) (mkRat n d).num):=
  (HQN.out.box b0 rfl _).box (u:=.slice A ds.length c) (by rw [World.cell?_setCell_other _ _ _ _ (by simp),b1]) rfl _
 have K4:Hid (jg ((w3.setCell ⟨w.heap.size,0,none⟩ bq).setCell ⟨w.heap.size,1,none⟩ sq) (.agg #[.bool neg',.slice A' ds'.length c']) (d:Nat) M):=
  ((K.out.ext (E0.out.trans Y3.out)).box b0 rfl _).box (u:=.slice A ds.length c) (by rw [World.cell?_setCell_other _ _ _ _ (by simp),b1]) rfl _
 have G4:Hid (jg ((w3.setCell ⟨w.heap.size,0,none⟩ bq).setCell ⟨w.heap.size,1,none⟩ sq) (.agg #[.bool false,.slice Ag (dg G).length cg]) (G:Nat) M):=
  ((GN.out.ext Y3.out).box b0 rfl _).box (u:=.slice A ds.length c) (by rw [World.cell?_setCell_other _ _ _ _ (by simp),b1]) rfl _
 have X4:Hid (Ext w ((w3.setCell ⟨w.heap.size,0,none⟩ bq).setCell ⟨w.heap.size,1,none⟩ sq)):=((E0.out.trans Y3.out).setCell (by simp) _).setCell (by simp) _;have FZ4:=HFZ'.out w3 (Y2.out.trans Y3.out);have hc4:∀ b o,b ≠ w.heap.size->((w3.setCell ⟨w.heap.size,0,none⟩ bq).setCell ⟨w.heap.size,1,none⟩ sq).cell? ⟨b,o,none⟩=w3.cell? ⟨b,o,none⟩:=fun b o hb=>by
  rw [World.cell?_setCell_other _ _ _ _ (by intro e; injection e; omega),World.cell?_setCell_other _ _ _ _ (by intro e; injection e; omega)]
 have hf4:∀ b o,b ≠ w.heap.size->((w3.setCell ⟨w.heap.size,0,none⟩ bq).setCell ⟨w.heap.size,1,none⟩ sq).frozen? ⟨b,o,none⟩=w3.frozen? ⟨b,o,none⟩:=fun b o hb=>by simp
 have hn0:((w3.setCell ⟨w.heap.size,0,none⟩ bq).setCell ⟨w.heap.size,1,none⟩ sq).cell? ⟨w.heap.size,0,none⟩=some bq:=by
  rw [World.cell?_setCell_other _ _ _ _ (by simp)]; exact World.cell?_setCell_same _ _ _ b0
 have hn1:((w3.setCell ⟨w.heap.size,0,none⟩ bq).setCell ⟨w.heap.size,1,none⟩ sq).cell? ⟨w.heap.size,1,none⟩=some sq:=by
  exact World.cell?_setCell_same _ _ _ (u:=.slice A ds.length c) (by rw [World.cell?_setCell_other _ _ _ _ (by simp),b1])
 have hz4:((w3.setCell ⟨w.heap.size,0,none⟩ bq).setCell ⟨w.heap.size,1,none⟩ sq).heap.size=w3.heap.size:=by simp [World.setCell]
 generalize (w3.setCell ⟨w.heap.size,0,none⟩ bq).setCell ⟨w.heap.size,1,none⟩ sq=w4 at *;have m2:=(hc4 (w.heap.size+1) 0 (by omega)).trans b2;have m3:=(hc4 (w.heap.size+1) 1 (by omega)).trans b3;have m4:=(hc4 g5 0 (by omega)).trans k0;have m5:=(hc4 g5 1 (by omega)).trans k1;have p0:=(hc4 (w.heap.size+1+1) 0 (by omega)).trans r0;have p1:=(hc4 (w.heap.size+1+1) 1 (by omega)).trans r1;have p2:=(hc4 (w.heap.size+1+1) 2 (by omega)).trans r2;have pf0:=(hf4 (w.heap.size+1+1) 0 (by omega)).trans f0;have pf1:=(hf4 (w.heap.size+1+1) 1 (by omega)).trans f1;have pf2:=(hf4 (w.heap.size+1+1) 2 (by omega)).trans f2;have pg0:=(hf4 (w.heap.size+1) 0 (by omega)).trans FZ4.1;have pg1:=(hf4 (w.heap.size+1) 1 (by omega)).trans FZ4.2
 have PK:Hid (∀ w5,Ext w4 w5->(w5.cell? ⟨w.heap.size,0,none⟩=some bq/\w5.cell? ⟨w.heap.size,1,none⟩=some sq)/\(w5.cell? ⟨w.heap.size+1,0,none⟩=some (.bool neg')/\w5.cell? ⟨w.heap.size+1,1,none⟩=some (.slice A' ds'.length c')) /\
  (w5.cell? ⟨w.heap.size+1+1,0,none⟩=some (.bool false)/\w5.cell? ⟨w.heap.size+1+1,1,none⟩=some (.slice none 0 0)/\w5.cell? ⟨w.heap.size+1+1,2,none⟩=some (.slice none 0 0)) /\
  (w5.frozen? ⟨w.heap.size+1,0,none⟩=false/\w5.frozen? ⟨w.heap.size+1,1,none⟩=false)/\(w5.frozen? ⟨w.heap.size+1+1,0,none⟩=false/\w5.frozen? ⟨w.heap.size+1+1,1,none⟩=false/\w5.frozen? ⟨w.heap.size+1+1,2,none⟩=false)):=by
  intro w5 hx;obtain ⟨hc,hf⟩:=hx.cells;have hlt:w.heap.size+1+1 < w4.heap.size:=by omega
  refine ⟨⟨?_,?_⟩,⟨?_,?_⟩,⟨?_,?_,?_⟩,⟨?_,?_⟩,⟨?_,?_,?_⟩⟩ <;> first | (rw [hc _ _ (by omega)]; assumption) | (rw [hf _ _ (by omega)]; assumption)
 have HBQ:=Lib.hid hbq;have HSQ:=Lib.hid hsq;clear p0 p1 p2 pf0 pf1 pf2 pg0 pg1 r0 r1 r2 f0 f1 f2 b0 b1 b2 b3 hc4 hf4 hz4 hz3 FZ4 k0 k1 hf0 hf1 hn0 hn1 hbq hsq;go_wp2_with fail;refine (jbr _ _ ((d:Nat):Int) ((G:Nat):Int) M M _ K4.out G4.out hs' hs' (by omega)).mono ?_;rw [RD.out];rintro e w5 ⟨xd,xe,rfl,⟨vd,rfl,Ad,cd,rfl,j1,j2,j3⟩,-,y5⟩;have hdb:decide ((((mkRat n d).den:Nat):Int) < 0)=false:=by simp
 rw [hdb,Int.natAbs_natCast];obtain ⟨⟨t0,t1⟩,⟨t2,t3⟩,⟨t4,t5,t6⟩,⟨t7,t8⟩,t9,t10,t11⟩:=PK.out w5 y5;rw [Int.natAbs_natCast] at j1 j3;have N5:=Lib.hid (N4.out.ext y5);have X5:=Lib.hid (X4.out.trans y5);have D5:Hid (ja w5 (.slice Ad (dg (mkRat n d).den).length cd) (dg (mkRat n d).den)):=⟨Ad,cd,rfl,j1,j2,j3⟩;clear m2 m3 m4 m5 y5 j3 hdb N4 K4 G4 PK;have hbq:=HBQ.out;have hsq:=HSQ.out;subst hbq;subst hsq;clear HBQ HSQ
 have HF : Hid (jae (mkRat n d) w (.returned (.agg #[.bool (decide ((mkRat n d).num < 0)), .slice Aq (dg (mkRat n d).num.natAbs).length cq, .slice Ad (dg (mkRat n d).den).length cd]))
  (((((w5.setCell ⟨w.heap.size+1,0,none⟩ (.bool false)).setCell ⟨w.heap.size+1,1,none⟩ (.slice Ad (dg (mkRat n d).den).length cd)).setCell ⟨w.heap.size+1+1,0,none⟩ (.bool (decide ((mkRat n d).num < 0)))).setCell ⟨w.heap.size+1+1,1,none⟩ (.slice Aq (dg (mkRat n d).num.natAbs).length cq)).setCell ⟨w.heap.size+1+1,2,none⟩ (.slice Ad (dg (mkRat n d).den).length cd))):=by
  have u1:(w5.setCell ⟨w.heap.size+1,0,none⟩ (.bool false)).cell? ⟨w.heap.size+1,1,none⟩=some (.slice A' ds'.length c'):=by rw [World.cell?_setCell_other _ _ _ _ (by simp),t3]
  obtain ⟨vn,en,hn5⟩:=(N5.out.box t2 rfl (.bool false)).box u1 rfl (.slice Ad (dg (mkRat n d).den).length cd);have d5:=(D5.out.box t2 rfl (.bool false)).box u1 rfl (.slice Ad (dg (mkRat n d).den).length cd);have far:∀ o,((w5.setCell ⟨w.heap.size+1,0,none⟩ (.bool false)).setCell ⟨w.heap.size+1,1,none⟩ (.slice Ad (dg (mkRat n d).den).length cd)).cell? ⟨w.heap.size+1+1,o,none⟩=w5.cell? ⟨w.heap.size+1+1,o,none⟩:=fun o=>by
   rw [World.cell?_setCell_other _ _ _ _ (by intro e; injection e; omega),World.cell?_setCell_other _ _ _ _ (by intro e; injection e; omega)]
  refine qaf ((X5.out.setCell (by simp) _).setCell (by simp) _) (by omega) ((far 0).trans t4) ((far 1).trans t5) ((far 2).trans t6) rfl rfl rfl ⟨vn,_,?_,hn5,d5⟩;injection en with en
  injection en with en
  injection en with _ en
  injection en with en
  rw [en]
 clear N5 D5 X5;go_wp2_with fail;exact bodyPost_ret (v:=.agg #[.bool (decide ((mkRat n d).num < 0)),.slice Aq (dg (mkRat n d).num.natAbs).length cq,.slice Ad (dg (mkRat n d).den).length cd]) (by simp [results,Tryz.results113,go_sem,t4,t5,t6]) rfl HF.out
/- Layer 5 (rational): sums, differences, products, comparison. -/
set_option maxRecDepth 100000
set_option maxHeartbeats 8000000
theorem xam.unpack {w:World} {x:Value} {q:Rat} (h:xam w x q):∃ b A n c B m d,x=.agg #[.bool b,.slice A n c,.slice B m d]:=by
 obtain ⟨s1,s2,rfl,⟨A,c,rfl,-⟩,⟨B,d,rfl,-⟩⟩:=h;exact ⟨_,A,_,c,B,_,d,rfl⟩
theorem yap {w w':World} {x y:Value} {a b:Int} {L M:Nat} (h:jg w x a L) (k:jg w' y b M):(dg (a * b).natAbs).length<=L+M:=by
 rw [Int.natAbs_mul];exact Nat.le_trans (kal _ _) (Nat.add_le_add h.len k.len)
theorem zcu (a b:Int) {L:Nat} (h:(dg a.natAbs).length<=L) (k:(dg b.natAbs).length<=L):(dg (a+b).natAbs).length<=L+1:=by
 refine Nat.le_trans (yw (Int.natAbs_add_le a b)) (Nat.le_trans (ual _ _) ?_);omega
def Two (w:World) (g:Nat) (a b:Value):Prop:=w.cell? ⟨g,0,none⟩=some a/\w.cell? ⟨g,1,none⟩=some b
theorem Two.ext {w w':World} {g:Nat} {a b:Value} (h:Two w g a b) (hx:Ext w w') (hg:g < w.heap.size):Two w' g a b:=
 ⟨(hx.cell (p:=⟨g,0,none⟩) hg).trans h.1,(hx.cell (p:=⟨g,1,none⟩) hg).trans h.2⟩
theorem wa1 (w:World) (a b c d:Value) (t t':TypeId):Two ((w.alloc (Obj.cells #[a,b] t)).alloc (Obj.cells #[c,d] t')) w.heap.size a b/\Two ((w.alloc (Obj.cells #[a,b] t)).alloc (Obj.cells #[c,d] t')) (w.heap.size+1) c d:=by
 refine ⟨⟨?_,?_⟩,⟨?_,?_⟩⟩ <;> simp [go_sem]
theorem ucp (x y:Value) (q1 q2:Rat) (L M:Nat) (w:World) (h:kae w x q1 L) (k:kae w y q2 M) (hL:1<=L) (hM:1<=M) (hs:2 * (L+M)+2<=17592186044416) :
 Calls Tryz.prog 81 #[x,y] w (jae (q1 * q2) w):=by
 have H:=Lib.hid h;have K:=Lib.hid k;obtain ⟨neg,s1,s2,ds,es,rfl,⟨A,c,rfl,-,-,-⟩,⟨B,b,rfl,-,-,-⟩,-⟩:=h;obtain ⟨neg',s1',s2',ds',es',rfl,⟨A',c',rfl,-,-,-⟩,⟨B',b',rfl,-,-,-⟩,-⟩:=k;go_enter Tryz.func81,Tryz.ntmps81;go_wp2_with fail;generalize hW:((w.alloc (Obj.cells #[.bool neg,.slice A ds.length c,.slice B es.length b] 59)).alloc (Obj.cells #[.bool neg',.slice A' ds'.length c',.slice B' es'.length b'] 59)).alloc (Obj.cells #[.bool false,.slice none 0 0,.slice none 0 0] 59)=W;have HX0:Hid (Ext w W):=by
  have:Ext w W:=by rw [<- hW]; exact (((Ext.refl w).alloc _).alloc _).alloc _
  exact this
 have HWS:Hid (W.heap.size=w.heap.size+1+1+1):=by
  have:W.heap.size=w.heap.size+1+1+1:=by rw [<- hW]; simp
  exact this
 have HS:Hid (∀ W',Ext W W'->(Ext w W'/\W'.cell? ⟨w.heap.size,0,none⟩=some (.bool neg)/\W'.cell? ⟨w.heap.size,1,none⟩=some (.slice A ds.length c)/\W'.cell? ⟨w.heap.size,2,none⟩=some (.slice B es.length b)/\W'.cell? ⟨w.heap.size+1,0,none⟩=some (.bool neg')/\W'.cell? ⟨w.heap.size+1,1,none⟩=some (.slice A' ds'.length c')/\W'.cell? ⟨w.heap.size+1,2,none⟩=some (.slice B' es'.length b'))):=by
  intro W' hx;obtain ⟨hc,hf⟩:=hx.cells;have hsz:=HWS.out;refine ⟨HX0.out.trans hx,?_,?_,?_,?_,?_,?_⟩ <;> (rw [hc _ _ (by omega),<- hW]; simp [go_sem])
 have HR:Hid (∀ W',Ext W W'->(W'.cell? ⟨w.heap.size+1+1,0,none⟩=some (.bool false)/\W'.cell? ⟨w.heap.size+1+1,1,none⟩=some (.slice none 0 0)/\W'.cell? ⟨w.heap.size+1+1,2,none⟩=some (.slice none 0 0)/\W'.frozen? ⟨w.heap.size+1+1,0,none⟩=false/\W'.frozen? ⟨w.heap.size+1+1,1,none⟩=false/\W'.frozen? ⟨w.heap.size+1+1,2,none⟩=false)):=by
  intro W' hx;obtain ⟨hc,hf⟩:=hx.cells;have hsz:=HWS.out;refine ⟨?_,?_,?_,?_,?_,?_⟩ <;> first | (rw [hc _ _ (by omega),<- hW]; simp [go_sem]; done) | (rw [hf _ _ (by omega),<- hW]; simp [go_sem]; done)
 clear hW;obtain ⟨e0,a0,a1,a2,a3,a4,a5⟩:=HS.out W (Ext.refl W);refine (jaq _ q1 L _ (H.out.ext e0) hL).mono ?_;clear e0 a0 a1 a2 a3 a4 a5;rintro e w1 ⟨xn,xd,n1,d1,rfl,in1,id1,hd1,hq1,y1⟩;obtain ⟨b5,A5,n5,c5,rfl⟩:=in1.unpack;obtain ⟨b6,A6,n6,c6,rfl⟩:=id1.unpack;have x2:Ext w1 ((w1.alloc (Obj.cells #[.bool b5,.slice A5 n5 c5] 25)).alloc (Obj.cells #[.bool b6,.slice A6 n6 c6] 25)):=((Ext.refl w1).alloc _).alloc _;have T56:=Lib.hid (wa1 w1 (.bool b5) (.slice A5 n5 c5) (.bool b6) (.slice A6 n6 c6) 25 25);have Z2:Hid (w1.heap.size+1 < ((w1.alloc (Obj.cells #[.bool b5,.slice A5 n5 c5] 25)).alloc (Obj.cells #[.bool b6,.slice A6 n6 c6] 25)).heap.size):=by
  have:w1.heap.size+1 < ((w1.alloc (Obj.cells #[.bool b5,.slice A5 n5 c5] 25)).alloc (Obj.cells #[.bool b6,.slice A6 n6 c6] 25)).heap.size:=by simp
  exact this
 have IN1:=Lib.hid (in1.ext x2);have ID1:=Lib.hid (id1.ext x2);have Y2:=Lib.hid (y1.trans x2);have HQ1:=Lib.hid hq1;have hw1:=y1.size;rw [HWS.out] at hw1;clear in1 id1 hq1 y1 x2;go_upto_region 2 with fail;generalize (w1.alloc (Obj.cells #[.bool b5,.slice A5 n5 c5] 25)).alloc (Obj.cells #[.bool b6,.slice A6 n6 c6] 25)=w2 at *;generalize w1.heap.size=g5 at *;obtain ⟨e0,a0,a1,a2,a3,a4,a5⟩:=HS.out w2 Y2.out;have E0:=Lib.hid e0;clear e0;go_wp2_with fail;refine (jaq _ q2 M _ (K.out.ext E0.out) hM).mono ?_;clear a0 a1 a2 a3 a4 a5;rintro e w3 ⟨yn,yd,n2,d2,rfl,in2,id2,hd2,hq2,y3⟩;obtain ⟨b7,A7,n7,c7,rfl⟩:=in2.unpack;obtain ⟨b8,A8,n8,c8,rfl⟩:=id2.unpack;have x4:Ext w3 ((w3.alloc (Obj.cells #[.bool b7,.slice A7 n7 c7] 25)).alloc (Obj.cells #[.bool b8,.slice A8 n8 c8] 25)):=((Ext.refl w3).alloc _).alloc _;have T78:=Lib.hid (wa1 w3 (.bool b7) (.slice A7 n7 c7) (.bool b8) (.slice A8 n8 c8) 25 25);have Z4:Hid (w3.heap.size+1 < ((w3.alloc (Obj.cells #[.bool b7,.slice A7 n7 c7] 25)).alloc (Obj.cells #[.bool b8,.slice A8 n8 c8] 25)).heap.size):=by
  have:w3.heap.size+1 < ((w3.alloc (Obj.cells #[.bool b7,.slice A7 n7 c7] 25)).alloc (Obj.cells #[.bool b8,.slice A8 n8 c8] 25)).heap.size:=by simp
  exact this
 have IN2:=Lib.hid (in2.ext x4);have ID2:=Lib.hid (id2.ext x4);have Y4:=Lib.hid (y3.trans x4);have HQ2:=Lib.hid hq2;have hw3:=y3.size;have hz2:=Z2.out;clear in2 id2 hq2 y3 x4;go_upto_region 3 with fail;generalize (w3.alloc (Obj.cells #[.bool b7,.slice A7 n7 c7] 25)).alloc (Obj.cells #[.bool b8,.slice A8 n8 c8] 25)=w4 at *;generalize w3.heap.size=g7 at *;have IN1':=Lib.hid (IN1.out.ext Y4.out);have ID1':=Lib.hid (ID1.out.ext Y4.out);have T5:=Lib.hid (T56.out.1.ext Y4.out (by have:=Z2.out; omega));have T6:=Lib.hid (T56.out.2.ext Y4.out Z2.out);have YW:=Lib.hid (Y2.out.trans Y4.out);clear IN1 ID1 T56 H K;have SS:Hid (∀ W',Ext w4 W'->(Ext w W'/\W'.cell? ⟨g5,0,none⟩=some (.bool b5)/\W'.cell? ⟨g5,1,none⟩=some (.slice A5 n5 c5)/\W'.cell? ⟨g5+1,0,none⟩=some (.bool b6)/\W'.cell? ⟨g5+1,1,none⟩=some (.slice A6 n6 c6)/\W'.cell? ⟨g7,0,none⟩=some (.bool b7)/\W'.cell? ⟨g7,1,none⟩=some (.slice A7 n7 c7)/\W'.cell? ⟨g7+1,0,none⟩=some (.bool b8)/\W'.cell? ⟨g7+1,1,none⟩=some (.slice A8 n8 c8))):=by
  intro W' hx;have z4:=Z4.out;have u5:=T5.out.ext hx (by omega);have u6:=T6.out.ext hx (by omega);have u7:=T78.out.1.ext hx (by omega);have u8:=T78.out.2.ext hx (by omega);exact ⟨HX0.out.trans (YW.out.trans hx),u5.1,u5.2,u6.1,u6.2,u7.1,u7.2,u8.1,u8.2⟩
 have SS2:Hid (∀ W'' v0 v1 v2,Ext w4 W''->∀ W',W'=((W''.setCell ⟨w.heap.size+1+1,0,none⟩ v0).setCell ⟨w.heap.size+1+1,1,none⟩ v1).setCell ⟨w.heap.size+1+1,2,none⟩ v2->(Ext w W'/\W'.cell? ⟨g5,0,none⟩=some (.bool b5)/\W'.cell? ⟨g5,1,none⟩=some (.slice A5 n5 c5)/\W'.cell? ⟨g5+1,0,none⟩=some (.bool b6)/\W'.cell? ⟨g5+1,1,none⟩=some (.slice A6 n6 c6)/\W'.cell? ⟨g7,0,none⟩=some (.bool b7)/\W'.cell? ⟨g7,1,none⟩=some (.slice A7 n7 c7)/\W'.cell? ⟨g7+1,0,none⟩=some (.bool b8)/\W'.cell? ⟨g7+1,1,none⟩=some (.slice A8 n8 c8))):=by
  intro W'' v0 v1 v2 hx W' hW';obtain ⟨s0,s1,s2,s3,s4,s5,s6,s7,s8⟩:=SS.out W'' hx;have z1:w.heap.size+1+1 < g5:=by omega
  have z2:g5+1 < g7:=by omega
  rw [hW'];refine ⟨((s0.setCell (by simp; omega) _).setCell (by simp; omega) _).setCell (by simp; omega) _,?_,?_,?_,?_,?_,?_,?_,?_⟩ <;> rw [World.cell?_setCell_other _ _ _ _ (by intro e; injection e; omega),World.cell?_setCell_other _ _ _ _ (by intro e; injection e; omega),World.cell?_setCell_other _ _ _ _ (by intro e; injection e; omega)] <;> assumption
 go_region_held3 (fun W' => Ext w W' /\ W'.cell? ⟨g5, 0, none⟩ = some (.bool b5) /\ W'.cell? ⟨g5, 1, none⟩ = some (.slice A5 n5 c5) /\ W'.cell? ⟨g5 + 1, 0, none⟩ = some (.bool b6) /\ W'.cell? ⟨g5 + 1, 1, none⟩ = some (.slice A6 n6 c6) /\ W'.cell? ⟨g7, 0, none⟩ = some (.bool b7) /\ W'.cell? ⟨g7, 1, none⟩ = some (.slice A7 n7 c7) /\ W'.cell? ⟨g7 + 1, 0, none⟩ = some (.bool b8) /\ W'.cell? ⟨g7 + 1, 1, none⟩ = some (.slice A8 n8 c8))
  (first | exact SS.out _ ((Ext.refl w4).drew) | exact SS.out _ (by assumption) | exact SS2.out _ _ _ _ (by assumption) _ rfl)
  (first
    | (go_at_call_of 84 (Value.agg #[.bool b5,.slice A5 n5 c5])
       refine (kam _ _ _ _ _ _ _ (IN1'.out.ext ((Ext.refl w4).drew)) (IN2.out.ext ((Ext.refl w4).drew)) (by omega)).mono ?_;rintro e v1 ⟨z1,rfl,m1,x1⟩
       have y1:Ext w4 v1:=Ext.trans ((Ext.refl w4).drew) x1)
    | (go_at_call_of 84 (Value.agg #[.bool b6,.slice A6 n6 c6])
       refine (kam _ _ _ _ _ _ _ (ID1'.out.ext y1) (ID2.out.ext y1) (by omega)).mono ?_;rintro e v2 ⟨z2,rfl,m2,x2⟩
       have y2:Ext w4 v2:=Ext.trans y1 x2)
    | (go_at_call 113
       refine (ka7 _ _ (n1 * n2) (d1 * d2) (L+M) (L+M) _ ((m1.raw.mono (yap IN1'.out IN2.out)).ext x2) (by rw [Int.natCast_mul]; exact m2.raw.mono (yap ID1'.out ID2.out)) (by omega) (by omega) (Nat.mul_pos hd1 hd2)).mono ?_;rintro e v9 ⟨z9,rfl,m9,x9⟩;obtain ⟨bz,Az,nz,cz,Bz,mz,dz,rfl⟩:=m9.unpack;have y9:Ext w4 v9:=Ext.trans y2 x9
       obtain ⟨r0,r1,r2,f0,f1,f2⟩:=HR.out v9 (YW.out.trans y9)))
 have hfin:q1 * q2=mkRat (n1 * n2) (d1 * d2):=by rw [HQ1.out,HQ2.out,Rat.mkRat_mul_mkRat]
 rw [<- hfin] at m9;have HF:=Lib.hid (qaf (g:=w.heap.size+1+1) (HX0.out.trans (YW.out.trans y9)) (by omega) r0 r1 r2 rfl rfl rfl m9);clear SS SS2 HS HR m9 y9 x9 m1 x1 y1 m2 x2 y2 hfin ;go_wp2_with fail;exact bodyPost_ret (v:=.agg #[.bool bz,.slice Az nz cz,.slice Bz mz dz]) (by simp [results,Tryz.results81,go_sem,r0,r1,r2]) rfl HF.out
theorem gct (x y:Value) (q1 q2:Rat) (L M:Nat) (w:World) (h:kae w x q1 L) (k:kae w y q2 M) (hL:1<=L) (hM:1<=M) (hs:2 * (L+M)+2<=17592186044416) :
 Calls Tryz.prog 80 #[x,y] w (jae (q1+q2) w):=by
 have H:=Lib.hid h;have K:=Lib.hid k;obtain ⟨neg,s1,s2,ds,es,rfl,⟨A,c,rfl,-,-,-⟩,⟨B,b,rfl,-,-,-⟩,-⟩:=h;obtain ⟨neg',s1',s2',ds',es',rfl,⟨A',c',rfl,-,-,-⟩,⟨B',b',rfl,-,-,-⟩,-⟩:=k;go_enter Tryz.func80,Tryz.ntmps80;go_wp2_with fail;generalize hW:((w.alloc (Obj.cells #[.bool neg,.slice A ds.length c,.slice B es.length b] 59)).alloc (Obj.cells #[.bool neg',.slice A' ds'.length c',.slice B' es'.length b'] 59)).alloc (Obj.cells #[.bool false,.slice none 0 0,.slice none 0 0] 59)=W;have HX0:Hid (Ext w W):=by
  have:Ext w W:=by rw [<- hW]; exact (((Ext.refl w).alloc _).alloc _).alloc _
  exact this
 have HWS:Hid (W.heap.size=w.heap.size+1+1+1):=by
  have:W.heap.size=w.heap.size+1+1+1:=by rw [<- hW]; simp
  exact this
 have HS:Hid (∀ W',Ext W W'->(Ext w W'/\W'.cell? ⟨w.heap.size,0,none⟩=some (.bool neg)/\W'.cell? ⟨w.heap.size,1,none⟩=some (.slice A ds.length c)/\W'.cell? ⟨w.heap.size,2,none⟩=some (.slice B es.length b)/\W'.cell? ⟨w.heap.size+1,0,none⟩=some (.bool neg')/\W'.cell? ⟨w.heap.size+1,1,none⟩=some (.slice A' ds'.length c')/\W'.cell? ⟨w.heap.size+1,2,none⟩=some (.slice B' es'.length b'))):=by
  intro W' hx;obtain ⟨hc,hf⟩:=hx.cells;have hsz:=HWS.out;refine ⟨HX0.out.trans hx,?_,?_,?_,?_,?_,?_⟩ <;> (rw [hc _ _ (by omega),<- hW]; simp [go_sem])
 have HR:Hid (∀ W',Ext W W'->(W'.cell? ⟨w.heap.size+1+1,0,none⟩=some (.bool false)/\W'.cell? ⟨w.heap.size+1+1,1,none⟩=some (.slice none 0 0)/\W'.cell? ⟨w.heap.size+1+1,2,none⟩=some (.slice none 0 0)/\W'.frozen? ⟨w.heap.size+1+1,0,none⟩=false/\W'.frozen? ⟨w.heap.size+1+1,1,none⟩=false/\W'.frozen? ⟨w.heap.size+1+1,2,none⟩=false)):=by
  intro W' hx;obtain ⟨hc,hf⟩:=hx.cells;have hsz:=HWS.out;refine ⟨?_,?_,?_,?_,?_,?_⟩ <;> first | (rw [hc _ _ (by omega),<- hW]; simp [go_sem]; done) | (rw [hf _ _ (by omega),<- hW]; simp [go_sem]; done)
 clear hW;obtain ⟨e0,a0,a1,a2,a3,a4,a5⟩:=HS.out W (Ext.refl W);refine (jaq _ q1 L _ (H.out.ext e0) hL).mono ?_;clear e0 a0 a1 a2 a3 a4 a5;rintro e w1 ⟨xn,xd,n1,d1,rfl,in1,id1,hd1,hq1,y1⟩;obtain ⟨b5,A5,n5,c5,rfl⟩:=in1.unpack;obtain ⟨b6,A6,n6,c6,rfl⟩:=id1.unpack;have x2:Ext w1 ((w1.alloc (Obj.cells #[.bool b5,.slice A5 n5 c5] 25)).alloc (Obj.cells #[.bool b6,.slice A6 n6 c6] 25)):=((Ext.refl w1).alloc _).alloc _;have T56:=Lib.hid (wa1 w1 (.bool b5) (.slice A5 n5 c5) (.bool b6) (.slice A6 n6 c6) 25 25);have Z2:Hid (w1.heap.size+1 < ((w1.alloc (Obj.cells #[.bool b5,.slice A5 n5 c5] 25)).alloc (Obj.cells #[.bool b6,.slice A6 n6 c6] 25)).heap.size):=by
  have:w1.heap.size+1 < ((w1.alloc (Obj.cells #[.bool b5,.slice A5 n5 c5] 25)).alloc (Obj.cells #[.bool b6,.slice A6 n6 c6] 25)).heap.size:=by simp
  exact this
 have IN1:=Lib.hid (in1.ext x2);have ID1:=Lib.hid (id1.ext x2);have Y2:=Lib.hid (y1.trans x2);have HQ1:=Lib.hid hq1;have hw1:=y1.size;rw [HWS.out] at hw1;clear in1 id1 hq1 y1 x2;go_upto_region 2 with fail;generalize (w1.alloc (Obj.cells #[.bool b5,.slice A5 n5 c5] 25)).alloc (Obj.cells #[.bool b6,.slice A6 n6 c6] 25)=w2 at *;generalize w1.heap.size=g5 at *;obtain ⟨e0,a0,a1,a2,a3,a4,a5⟩:=HS.out w2 Y2.out;have E0:=Lib.hid e0;clear e0;go_wp2_with fail;refine (jaq _ q2 M _ (K.out.ext E0.out) hM).mono ?_;clear a0 a1 a2 a3 a4 a5;rintro e w3 ⟨yn,yd,n2,d2,rfl,in2,id2,hd2,hq2,y3⟩;obtain ⟨b7,A7,n7,c7,rfl⟩:=in2.unpack;obtain ⟨b8,A8,n8,c8,rfl⟩:=id2.unpack;have x4:Ext w3 ((w3.alloc (Obj.cells #[.bool b7,.slice A7 n7 c7] 25)).alloc (Obj.cells #[.bool b8,.slice A8 n8 c8] 25)):=((Ext.refl w3).alloc _).alloc _;have T78:=Lib.hid (wa1 w3 (.bool b7) (.slice A7 n7 c7) (.bool b8) (.slice A8 n8 c8) 25 25);have Z4:Hid (w3.heap.size+1 < ((w3.alloc (Obj.cells #[.bool b7,.slice A7 n7 c7] 25)).alloc (Obj.cells #[.bool b8,.slice A8 n8 c8] 25)).heap.size):=by
  have:w3.heap.size+1 < ((w3.alloc (Obj.cells #[.bool b7,.slice A7 n7 c7] 25)).alloc (Obj.cells #[.bool b8,.slice A8 n8 c8] 25)).heap.size:=by simp
  exact this
 have IN2:=Lib.hid (in2.ext x4);have ID2:=Lib.hid (id2.ext x4);have Y4:=Lib.hid (y3.trans x4);have HQ2:=Lib.hid hq2;have hw3:=y3.size;have hz2:=Z2.out;clear in2 id2 hq2 y3 x4;go_upto_region 3 with fail;generalize (w3.alloc (Obj.cells #[.bool b7,.slice A7 n7 c7] 25)).alloc (Obj.cells #[.bool b8,.slice A8 n8 c8] 25)=w4 at *;generalize w3.heap.size=g7 at *;have IN1':=Lib.hid (IN1.out.ext Y4.out);have ID1':=Lib.hid (ID1.out.ext Y4.out);have T5:=Lib.hid (T56.out.1.ext Y4.out (by have:=Z2.out; omega));have T6:=Lib.hid (T56.out.2.ext Y4.out Z2.out);have YW:=Lib.hid (Y2.out.trans Y4.out);clear IN1 ID1 T56 H K;have SS:Hid (∀ W',Ext w4 W'->(Ext w W'/\W'.cell? ⟨g5,0,none⟩=some (.bool b5)/\W'.cell? ⟨g5,1,none⟩=some (.slice A5 n5 c5)/\W'.cell? ⟨g5+1,0,none⟩=some (.bool b6)/\W'.cell? ⟨g5+1,1,none⟩=some (.slice A6 n6 c6)/\W'.cell? ⟨g7,0,none⟩=some (.bool b7)/\W'.cell? ⟨g7,1,none⟩=some (.slice A7 n7 c7)/\W'.cell? ⟨g7+1,0,none⟩=some (.bool b8)/\W'.cell? ⟨g7+1,1,none⟩=some (.slice A8 n8 c8))):=by
  intro W' hx;have z4:=Z4.out;have u5:=T5.out.ext hx (by omega);have u6:=T6.out.ext hx (by omega);have u7:=T78.out.1.ext hx (by omega);have u8:=T78.out.2.ext hx (by omega);exact ⟨HX0.out.trans (YW.out.trans hx),u5.1,u5.2,u6.1,u6.2,u7.1,u7.2,u8.1,u8.2⟩
 have SS2:Hid (∀ W'' v0 v1 v2,Ext w4 W''->∀ W',W'=((W''.setCell ⟨w.heap.size+1+1,0,none⟩ v0).setCell ⟨w.heap.size+1+1,1,none⟩ v1).setCell ⟨w.heap.size+1+1,2,none⟩ v2->(Ext w W'/\W'.cell? ⟨g5,0,none⟩=some (.bool b5)/\W'.cell? ⟨g5,1,none⟩=some (.slice A5 n5 c5)/\W'.cell? ⟨g5+1,0,none⟩=some (.bool b6)/\W'.cell? ⟨g5+1,1,none⟩=some (.slice A6 n6 c6)/\W'.cell? ⟨g7,0,none⟩=some (.bool b7)/\W'.cell? ⟨g7,1,none⟩=some (.slice A7 n7 c7)/\W'.cell? ⟨g7+1,0,none⟩=some (.bool b8)/\W'.cell? ⟨g7+1,1,none⟩=some (.slice A8 n8 c8))):=by
  intro W'' v0 v1 v2 hx W' hW';obtain ⟨s0,s1,s2,s3,s4,s5,s6,s7,s8⟩:=SS.out W'' hx;have z1:w.heap.size+1+1 < g5:=by omega
  have z2:g5+1 < g7:=by omega
  rw [hW'];refine ⟨((s0.setCell (by simp; omega) _).setCell (by simp; omega) _).setCell (by simp; omega) _,?_,?_,?_,?_,?_,?_,?_,?_⟩ <;> rw [World.cell?_setCell_other _ _ _ _ (by intro e; injection e; omega),World.cell?_setCell_other _ _ _ _ (by intro e; injection e; omega),World.cell?_setCell_other _ _ _ _ (by intro e; injection e; omega)] <;> assumption
 go_region_held3 (fun W' => Ext w W' /\ W'.cell? ⟨g5, 0, none⟩ = some (.bool b5) /\ W'.cell? ⟨g5, 1, none⟩ = some (.slice A5 n5 c5) /\ W'.cell? ⟨g5 + 1, 0, none⟩ = some (.bool b6) /\ W'.cell? ⟨g5 + 1, 1, none⟩ = some (.slice A6 n6 c6) /\ W'.cell? ⟨g7, 0, none⟩ = some (.bool b7) /\ W'.cell? ⟨g7, 1, none⟩ = some (.slice A7 n7 c7) /\ W'.cell? ⟨g7 + 1, 0, none⟩ = some (.bool b8) /\ W'.cell? ⟨g7 + 1, 1, none⟩ = some (.slice A8 n8 c8))
  (first | exact SS.out _ ((Ext.refl w4).drew) | exact SS.out _ (by assumption) | exact SS2.out _ _ _ _ (by assumption) _ rfl)
  (first
    | (go_at_call_of 84 (Value.agg #[.bool b5,.slice A5 n5 c5])
       refine (kam _ _ _ _ _ _ _ (IN1'.out.ext ((Ext.refl w4).drew)) (ID2.out.ext ((Ext.refl w4).drew)) (by omega)).mono ?_;rintro e v1 ⟨z1,rfl,m1,x1⟩
       have y1:Ext w4 v1:=Ext.trans ((Ext.refl w4).drew) x1)
    | (go_at_call_of 84 (Value.agg #[.bool b7,.slice A7 n7 c7])
       refine (kam _ _ _ _ _ _ _ (IN2.out.ext y1) (ID1'.out.ext y1) (by omega)).mono ?_;rintro e v2 ⟨z2,rfl,m2,x2⟩
       have y2:Ext w4 v2:=Ext.trans y1 x2)
    | (go_at_call 85
       refine (ga2 _ _ _ _ (L+M) (L+M) _ ((m1.raw.mono (yap IN1'.out ID2.out)).ext x2) (m2.raw.mono (Nat.le_trans (yap IN2.out ID1'.out) (by omega))) (by omega)).mono ?_;rintro e v3 ⟨z3,rfl,m3,x3⟩;have l3:=zcu _ _ (yap IN1'.out ID2.out) (Nat.le_trans (yap IN2.out ID1'.out) (show M+L<=L+M by omega))
       have y3:Ext w4 v3:=Ext.trans y2 x3)
    | (go_at_call_of 84 (Value.agg #[.bool b6,.slice A6 n6 c6])
       refine (kam _ _ _ _ _ _ _ (ID1'.out.ext y3) (ID2.out.ext y3) (by omega)).mono ?_;rintro e v4 ⟨z4,rfl,m4,x4⟩
       have y4:Ext w4 v4:=Ext.trans y3 x4)
    | (go_at_call 113
       refine (ka7 _ _ (n1 * d2+n2 * d1) (d1 * d2) (L+M+1) (L+M) _ ((m3.raw.mono l3).ext x4) (by rw [Int.natCast_mul]; exact m4.raw.mono (yap ID1'.out ID2.out)) (by omega) (by omega) (Nat.mul_pos hd1 hd2)).mono ?_;rintro e v9 ⟨z9,rfl,m9,x9⟩;obtain ⟨bz,Az,nz,cz,Bz,mz,dz,rfl⟩:=m9.unpack;have y9:Ext w4 v9:=Ext.trans y4 x9
       obtain ⟨r0,r1,r2,f0,f1,f2⟩:=HR.out v9 (YW.out.trans y9)))
 have hfin:q1+q2=mkRat (n1 * d2+n2 * d1) (d1 * d2):=by rw [HQ1.out,HQ2.out,Rat.mkRat_add_mkRat _ _ (by omega) (by omega)]
 rw [<- hfin] at m9;have HF:=Lib.hid (qaf (g:=w.heap.size+1+1) (HX0.out.trans (YW.out.trans y9)) (by omega) r0 r1 r2 rfl rfl rfl m9);clear SS SS2 HS HR m9 y9 x9 m1 x1 y1 m2 x2 y2 m3 x3 y3 m4 x4 y4 hfin l3;go_wp2_with fail;exact bodyPost_ret (v:=.agg #[.bool bz,.slice Az nz cz,.slice Bz mz dz]) (by simp [results,Tryz.results80,go_sem,r0,r1,r2]) rfl HF.out
end Go.Proofs.YtheefiaoimbeiaaGreatDoor
