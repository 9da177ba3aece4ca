/- Layer 3 (division): the greatest common divisor. -/
import Derived.Test.YtheefiaoimbeiaaGreatDoorMp29
set_option linter.unusedSimpArgs false
set_option linter.unusedVariables false
set_option maxRecDepth 100000
set_option maxHeartbeats 8000000
namespace Go.Proofs.YtheefiaoimbeiaaGreatDoor
open Lib (hid)
open Go.RowKit
theorem yer (v:Value) (n:Nat) (w:World) (h:zb1 w v (dg n)) (hl:(dg n).length<=2) :
 Calls Tryz.prog 154 #[v] w fun e w'=>e=.returned (.tuple #[.int .u64 (n:Nat),.bool true])/\Ext w w':=by
 go_enter Tryz.func154,Tryz.ntmps154;go_wp2_with fail;refine (vdr _ _ _ h).mono ?_;rw [zdk];rintro e w' ⟨v',rfl,hv,rfl⟩;clear h;obtain ⟨A,c,rfl,h1,h2,h3⟩:=hv
 by_cases hn0:n=0
 · subst hn0;rw [jdn] at h1 ⊢;clear h3 hl;go_wp2_with fail
   go_ret2
   exact ⟨rfl,Ext.refl w⟩
 · by_cases hn1:n < B32
   · rw [gd5 hn0 hn1] at h1 h3 ⊢;obtain ⟨ad,rfl,hb,abZ,hd1⟩:=h3.at_ 0 (by simp);rw [show ad.add 0=ad from by simp [Addr.add]] at abZ
     change w.cell? ad=some (.int .u32 (n:Nat)) at abZ
     change n < 4294967296 at hd1
     clear h3 hl hn0 hn1;go_wp2_with fail
     go_ret2
     exact ⟨rfl,Ext.refl w⟩
   · have hB2:n < B32 * B32:=by
      have h4:=gdu n;have h5:B32 ^ (dg n).length<=B32 ^ 2:=pK kdm hl;rw [show B32 ^ 2=B32 * B32 from by rw [pP,Nat.pow_one]] at h5;omega
     obtain ⟨lo,hi,hlo,hhi,hn⟩:∃ lo hi,lo < B32/\hi < B32/\n=lo+B32 * hi:=⟨n % B32,n / B32,rN _ kdm,sO hB2,(rT _ _).symm⟩;have avH:hi ≠ 0:=by
      intro e;rw [e,sQ] at hn;omega
     have hdg:dg n=[lo,hi]:=by rw [hn]; exact zgp lo hi hlo avH hhi
     rw [hdg] at h1 h3 ⊢;obtain ⟨ad,rfl,hb,abZ,hd1⟩:=h3.at_ 0 (by simp);obtain ⟨ad',e',hb',aej,avX⟩:=h3.at_ 1 (by simp);injection e' with e'
     subst e';rw [show ad.add 0=ad from by simp [Addr.add]] at abZ;rw [show ad.add 1=⟨ad.block,ad.off+1,none⟩ from by simp [Addr.add]] at aej
     change w.cell? ad=some (.int .u32 (lo:Nat)) at abZ
     change w.cell? ⟨ad.block,ad.off+1,none⟩=some (.int .u32 (hi:Nat)) at aej
     change lo < 4294967296 at hd1
     change hi < 4294967296 at avX
     have hor:bits .or .u64 ((hi:Int) * 4294967296) lo=(hi:Int) * 4294967296+lo:=by
      have:=u64_or_nat (hi * 4294967296) lo (by omega) (by omega);rw [nat_join 32 (hi * 4294967296) lo (by omega) (by omega)] at this;simpa using this
     have HN:Hid ((hi:Int) * 4294967296+lo=(n:Nat)):=by
      have:(hi:Int) * 4294967296+lo=(n:Nat):=by rw [hn,vdk]; omega
      exact this
     clear h3 hl hn0 hn1 hn hdg hB2 hlo hhi;go_wp2_with fail
     go_quiet (fail)
     go_wp2_with fail
     go_ret2
     exact ⟨by rw [<- HN.out]; rfl,(Ext.refl w).drewN _⟩
def ue8 (G:Nat) (W:World) (gk:Nat) (s5 s6:Value) (wr:World):Prop:=∃ X Y:Nat,gk=Y/\zb1 wr s5 (dg X)/\zb1 wr s6 (dg Y)/\Nat.gcd X Y=G/\(dg X).length<=17592186044416/\(dg Y).length<=17592186044416/\Ext W wr
theorem xgg (x y:Value) (a b:Int) (L M:Nat) (w:World) (h:wdl w x a L) (k:wdl w y b M) (hs:L<=17592186044416) (hs':M<=17592186044416) :
 Calls Tryz.prog 137 #[x,y] w (vdz (Nat.gcd a.natAbs b.natAbs:Nat) w):=by
 have hLa:=h.len;have hLb:=k.len;obtain ⟨neg,v,ds,rfl,⟨A,c,rfl,h1,h2,h3⟩,hz,hl⟩:=h;obtain ⟨abR,v',ds',rfl,⟨A',c',rfl,h1',h2',h3'⟩,hz',hl'⟩:=k;have HA:Hid (a.natAbs=val ds):=by rw [hz]; exact gdo _ _
 have HB:Hid (b.natAbs=val ds'):=by rw [hz']; exact gdo _ _
 rw [HA.out] at hLa;rw [HB.out] at hLb;rw [HA.out,HB.out];have H3:=hid h3;have H3':=hid h3';clear h3 h3' hz hz' HA HB;go_enter Tryz.func137,Tryz.ntmps137;go_wp2_with fail;generalize hW:((w.alloc (Obj.cells #[.bool neg,.slice A ds.length c] 25)).alloc (Obj.cells #[.bool abR,.slice A' ds'.length c'] 25)).alloc (Obj.cells #[.bool false,.slice none 0 0] 25)=W;have HX0:Hid (Ext w W):=by
  have:Ext w W:=by rw [<- hW]; exact (((Ext.refl w).alloc _).alloc _).alloc _
  exact this
 have HWS:Hid (W.heap.size=w.heap.size+1+1+1):=by
  have:W.heap.size=w.heap.size+1+1+1:=by rw [<- hW]; simp
  exact this
 have HS:Hid (∀ W',Ext W W'->(Ext w W'/\W'.cell? ⟨w.heap.size,0,none⟩=some (.bool neg)/\W'.cell? ⟨w.heap.size,1,none⟩=some (.slice A ds.length c)/\W'.cell? ⟨w.heap.size+1,0,none⟩=some (.bool abR)/\W'.cell? ⟨w.heap.size+1,1,none⟩=some (.slice A' ds'.length c'))):=by
  intro W' hx;obtain ⟨hc,hf⟩:=hx.cells;have hsz:=HWS.out;refine ⟨HX0.out.trans hx,?_,?_,?_,?_⟩ <;> (rw [hc _ _ (by omega),<- hW]; simp [go_sem])
 have HR:Hid (∀ W',Ext W W'->(W'.cell? ⟨w.heap.size+1+1,0,none⟩=some (.bool false)/\W'.cell? ⟨w.heap.size+1+1,1,none⟩=some (.slice none 0 0)/\W'.frozen? ⟨w.heap.size+1+1,0,none⟩=false/\W'.frozen? ⟨w.heap.size+1+1,1,none⟩=false)):=by
  intro W' hx;obtain ⟨hc,hf⟩:=hx.cells;have hsz:=HWS.out;refine ⟨?_,?_,?_,?_⟩ <;> first | (rw [hc _ _ (by omega),<- hW]; simp [go_sem]; done) | (rw [hf _ _ (by omega),<- hW]; simp [go_sem]; done)
 have HS2:Hid (∀ W'' v0 v1,Ext W W''->∀ W',W'=(W''.setCell ⟨w.heap.size+1+1,0,none⟩ v0).setCell ⟨w.heap.size+1+1,1,none⟩ v1->(Ext w W'/\W'.cell? ⟨w.heap.size,0,none⟩=some (.bool neg)/\W'.cell? ⟨w.heap.size,1,none⟩=some (.slice A ds.length c)/\W'.cell? ⟨w.heap.size+1,0,none⟩=some (.bool abR)/\W'.cell? ⟨w.heap.size+1,1,none⟩=some (.slice A' ds'.length c'))):=by
  intro W'' v0 v1 hx W' hW';obtain ⟨s1,c0,c1,c2,c3⟩:=HS.out W'' hx;rw [hW'];refine ⟨(s1.setCell (by simp; try omega) _).setCell (by simp; try omega) _,?_,?_,?_,?_⟩ <;> rw [pe _ _ _ _ (by simp; try omega),pe _ _ _ _ (by simp; try omega)] <;> assumption
 clear hW
 go_region_held3 (fun W' => Ext w W' /\ W'.cell? ⟨w.heap.size, 0, none⟩ = some (.bool neg) /\ W'.cell? ⟨w.heap.size, 1, none⟩ = some (.slice A ds.length c) /\ W'.cell? ⟨w.heap.size + 1, 0, none⟩ = some (.bool abR) /\ W'.cell? ⟨w.heap.size + 1, 1, none⟩ = some (.slice A' ds'.length c'))
  (first | exact HS.out _ ((Ext.refl W).drew) | exact HS.out _ (by assumption) | exact HS2.out _ _ _ (by assumption) _ rfl)
  (first
    | (go_at_call_of 111 (Value.slice A ds.length c)
       have hxx:=(‹Ext w _/\_›).1;refine (vdv _ ds _ ⟨A,c,rfl,h1,h2,H3.out.ext hxx⟩ (by omega)).mono ?_;rintro e w2 ⟨v2,rfl,nv2,x2⟩
       have y2:Ext W w2:=Ext.trans ((Ext.refl W).drew) x2)
    | (go_at_call_of 111 (Value.slice A' ds'.length c')
       have hxx:=(‹Ext w _/\_›).1;refine (vdv _ ds' _ ⟨A',c',rfl,h1',h2',H3'.out.ext hxx⟩ (by omega)).mono ?_;rintro e w3 ⟨v3,rfl,nv3,x3⟩
       have y3:Ext W w3:=Ext.trans y2 x3))
 have HI0:Hid (ue8 (Nat.gcd (val ds) (val ds')) W (val ds') v2 v3 w3):=⟨_,_,rfl,nv2.ext x3,nv3,rfl,by omega,by omega,y3⟩;clear HS HS2 nv2 nv3 x2 x3 y2 y3;generalize Nat.gcd (val ds) (val ds')=G at *;go_wp2_with fail
 go_loopg [5,6] (val ds') (fun gk s5 s6 wr=>Hid (ue8 G W gk s5 s6 wr))
 case atStart=>exact HI0
 case round =>
  clear HI0;obtain ⟨X,Y,hgk,nx,ny,hg,lx,ly,hx⟩:=hrel.out;have NX:=hid nx;have NY:=hid ny;have HG:=hid hg;have HXX:=hid hx;have HGK:=hid hgk;obtain ⟨A5,c5,rfl,i1,i2,i3⟩:=nx;obtain ⟨A6,c6,rfl,j1,j2,j3⟩:=ny;clear hrel hg hx hgk i3 j3
  by_cases agD:2 < (dg X).length\/2 < (dg Y).length
  · have hb:(decide ((2:Int) < ((dg X).length:Int))=true)\/(decide ((2:Int) < ((dg X).length:Int))=false/\decide ((2:Int) < ((dg Y).length:Int))=true):=by
     by_cases h:2 < (dg X).length
     · exact .inl (by simp; omega)
     · exact .inr ⟨by simp; omega,by simp; omega⟩
    clear agD
    by_cases hY:Y=0
    · have hyl:(dg Y).length=0:=by rw [hY,jdn]; rfl
      rw [hyl] at hb ⊢;have hX:decide ((2:Int) < ((dg X).length:Int))=true:=by
       rcases hb with h | ⟨h1,h2⟩
       · exact h
       · simp at h2
      have HXG:Hid (X=G):=by
       have:=HG.out;rw [hY,Nat.gcd_zero_right] at this;exact this
      clear hb hyl hY;go_wp2_with fail;refine (ud5 false _ _ _ NX.out (by omega)).mono ?_;rw [zdk,HXG.out,show sgn false G=((G:Nat):Int) from rfl];rintro e w9 ⟨x9,rfl,⟨v9,rfl,A2,c2,rfl,q1,q2,q3⟩,z9⟩;have y9:Ext W w9:=HXX.out.trans z9;obtain ⟨r0,r1,f0,f1⟩:=HR.out w9 y9
      change (dg ((G:Nat):Int).natAbs).length<=c2 at q1
      have HF:=hid (jds (g:=w.heap.size+1+1) (z:=((G:Nat):Int)) (u0:=.bool false) (u1:=.slice none 0 0) (HX0.out.trans y9) (by omega) r0 r1 rfl rfl ⟨_,rfl,A2,c2,rfl,q1,q2,q3⟩);clear y9 z9 q3;go_wp2_with fail;exact bodyPost_ret (v:=.agg #[.bool (decide (((G:Nat):Int) < 0)),.slice A2 (dg ((G:Nat):Int).natAbs).length c2]) (by simp [results,Tryz.results137,go_sem,r0,r1]) rfl HF.out
    · have hyl:0 < (dg Y).length:=qd5 hY;have az7:(((dg Y).length:Int) == 0)=false:=beq_eq_false_iff_ne.2 (by omega);have hYp:0 < Y:=uf hY;rcases hb with hb1 | ⟨hb1,hb2⟩
      all_goals
       go_wp2_with fail;refine (jet _ _ _ _ _ NX.out NY.out (by omega) (by omega) (by rw [zdk]; exact hY)).mono ?_;rw [zdk,zdk];rintro e w4 ⟨vq,vr,rfl,nq,nr,x4⟩
       have HS4:Hid (ue8 G W (X % Y) (.slice A6 (dg Y).length c6) vr w4):=
        ⟨Y,X % Y,rfl,NY.out.ext x4,nr,by rw [<- HG.out,Nat.gcd_comm X Y,Nat.gcd_rec Y X,Nat.gcd_comm],ly,po (ydq (Nat.mod_le _ _)) lx,HXX.out.trans x4⟩
       have hml:X % Y < Y:=rN _ hYp;clear nq nr x4;go_wp2_with fail
       go_roundg (X % Y)
       case rel=>exact HS4
       case measure=>rw [HGK.out]; exact hml
  · have b1:decide ((2:Int) < ((dg X).length:Int))=false:=by simp; omega
    have b2:decide ((2:Int) < ((dg Y).length:Int))=false:=by simp; omega
    have awf:X < 18446744073709551616:=by
     have h4:=gdu X;have h5:B32 ^ (dg X).length<=B32 ^ 2:=pK kdm (by omega);have h6:B32 ^ 2=18446744073709551616:=by decide
     omega
    have awe:Y < 18446744073709551616:=by
     have h4:=gdu Y;have h5:B32 ^ (dg Y).length<=B32 ^ 2:=pK kdm (by omega);have h6:B32 ^ 2=18446744073709551616:=by decide
     omega
    go_wp2_with fail;refine (yer _ X _ NX.out (by omega)).mono ?_;rintro e w4 ⟨rfl,x4⟩;have X4:=hid x4;clear x4;go_wp2_with fail;refine (yer _ Y _ (NY.out.ext X4.out) (by omega)).mono ?_;rintro e w5 ⟨rfl,x5⟩;have Y5:=hid (HXX.out.trans (X4.out.trans x5));clear x5 X4;go_wp2_with fail
    go_loopw [9,11] (fun mv nv wr=>∃ m n:Nat,mv=.int .u64 m/\nv=.int .u64 n/\m < 18446744073709551616/\n < 18446744073709551616/\Hid (Nat.gcd m n=G/\Ext W wr)) (fun _ nv _=>(intOf nv).toNat)
    case atStart=>exact ⟨X,Y,rfl,rfl,awf,awe,hid ⟨HG.out,Y5.out⟩⟩
    case round =>
     obtain ⟨m,n,rfl,rfl,hm,hn,HI⟩:=hrel
     by_cases hn0:n=0
     · subst hn0;have HMG:Hid (m=G):=by
        have:=HI.out.1;rw [Nat.gcd_zero_right] at this;exact this
       go_wp2_with fail;refine (gd9 m _ hm).mono ?_;rw [HMG.out];rintro e w6 ⟨v6,rfl,n6,x6⟩;go_wp2_with fail;refine (ud5 false _ _ _ n6 ?_).mono ?_
       · have h4:=gdk (n:=G) (k:=2) (by (rw [<- HMG.out]; have h6:B32 ^ 2=18446744073709551616:=by decide); omega);omega
       rw [zdk,show sgn false G=((G:Nat):Int) from rfl];rintro e w9 ⟨x9,rfl,⟨v9,rfl,A2,c2,rfl,q1,q2,q3⟩,z9⟩;have y9:Ext W w9:=HI.out.2.trans (x6.trans z9);obtain ⟨r0,r1,f0,f1⟩:=HR.out w9 y9
       change (dg ((G:Nat):Int).natAbs).length<=c2 at q1
       have HF:=hid (jds (g:=w.heap.size+1+1) (z:=((G:Nat):Int)) (u0:=.bool false) (u1:=.slice none 0 0) (HX0.out.trans y9) (by omega) r0 r1 rfl rfl ⟨_,rfl,A2,c2,rfl,q1,q2,q3⟩);clear y9 z9 q3 x6 n6;go_wp2_with fail;exact bodyPost_ret (v:=.agg #[.bool (decide (((G:Nat):Int) < 0)),.slice A2 (dg ((G:Nat):Int).natAbs).length c2]) (by simp [results,Tryz.results137,go_sem,r0,r1]) rfl HF.out
     · have hnb:((n:Int) != 0)=true:=by simp; omega
       have aAT:((n:Int) == 0)=false:=beq_eq_false_iff_ne.2 (by omega);have hnp:0 < n:=by omega
       have hml:m % n < n:=rN _ hnp;have HS5:Hid (Nat.gcd n (m % n)=G):=by
        have:=HI.out.1;rw [Nat.gcd_comm,<- Nat.gcd_rec,Nat.gcd_comm];exact this
       go_wp2_with fail
       go_quiet (fail)
       go_wp2_with fail
       go_roundw
       case rel=>exact ⟨n,m % n,rfl,by simp,hn,by omega,hid ⟨HS5.out,HI.out.2.drewN _⟩⟩
       case measure =>
        have e:(m:Int) % n=((m % n:Nat):Int):=by simp
        simp only [intOf];rw [e];omega
def kdp (w:World) (v:Value) (q:Rat) (L:Nat):Prop:=
 ∃ neg s1 s2 ds es,v=.agg #[.bool neg,s1,s2]/\zb1 w s1 ds/\zb1 w s2 es/\q=mkRat (sgn neg (val ds)) (val es)/\ds.length<=L/\es.length<=L
def udw (w:World) (v:Value) (q:Rat):Prop:=∃ s1 s2,v=.agg #[.bool (decide (q.num < 0)),s1,s2]/\zb1 w s1 (dg q.num.natAbs)/\zb1 w s2 (dg q.den)
def rlen (q:Rat):Nat:=max (dg q.num.natAbs).length (dg q.den).length
theorem kdp.ext {w w':World} {v:Value} {q:Rat} {L:Nat} (h:kdp w v q L) (hx:Ext w w'):kdp w' v q L:=by
 obtain ⟨neg,s1,s2,ds,es,e,h1,h2,h3,h4,h5⟩:=h;exact ⟨neg,s1,s2,ds,es,e,h1.ext hx,h2.ext hx,h3,h4,h5⟩
theorem kdp.mono {w:World} {v:Value} {q:Rat} {L L':Nat} (h:kdp w v q L) (hl:L<=L'):kdp w v q L':=by
 obtain ⟨neg,s1,s2,ds,es,e,h1,h2,h3,h4,h5⟩:=h;exact ⟨neg,s1,s2,ds,es,e,h1,h2,h3,po h4 hl,po h5 hl⟩
theorem udw.ext {w w':World} {v:Value} {q:Rat} (h:udw w v q) (hx:Ext w w'):udw w' v q:=by
 obtain ⟨s1,s2,e,h1,h2⟩:=h;exact ⟨s1,s2,e,h1.ext hx,h2.ext hx⟩
theorem udw.raw {w:World} {v:Value} {q:Rat} (h:udw w v q):kdp w v q (rlen q):=by
 obtain ⟨s1,s2,e,h1,h2⟩:=h;exact ⟨_,s1,s2,_,_,e,h1,h2,by rw [zdk,zdk,gd2,Rat.mkRat_self],Nat.le_max_left _ _,Nat.le_max_right _ _⟩
theorem udw.box {w:World} {x:Value} {q:Rat} {p:Addr} {u:Value} (h:udw w x q) (hp:w.cell? p=some u) (hu:wdo u=false) (v:Value):udw (w.setCell p v) x q:=by
 obtain ⟨s1,s2,e,h1,h2⟩:=h;exact ⟨s1,s2,e,h1.box hp hu v,h2.box hp hu v⟩
def jeq (q:Rat) (L:Nat) (w:World) (e:Ending) (w':World):Prop:=
 ∃ (x y:Value) (n:Int) (d:Nat),e=.returned (.tuple #[x,y])/\wdl w' x n L/\wdl w' y (d:Nat) L/\0 < d/\q=mkRat n d/\Ext w w'
theorem xeo {w W : World} {g g' : Nat} {q : Rat} {n : Int} {d L : Nat} {b s b' s' u0 u1 u2 u3 : Value} (hx : Ext w W) (hg : w.heap.size <= g) (hg' : w.heap.size <= g') (hne : g ≠ g') (h0 : W.cell? ⟨g, 0, none⟩ = some u0) (h1 : W.cell? ⟨g, 1, none⟩ = some u1)
 (h2:W.cell? ⟨g',0,none⟩=some u2) (h3:W.cell? ⟨g',1,none⟩=some u3) (d0:wdo u0=false) (d1:wdo u1=false) (d2:wdo u2=false) (d3:wdo u3=false) (hN:wdl W (.agg #[b,s]) n L) (hM:wdl W (.agg #[b',s']) (d:Nat) L) (hd:0 < d) (hq:q=mkRat n d) :
 jeq q L w (.returned (.tuple #[.agg #[b,s],.agg #[b',s']])) ((((W.setCell ⟨g,0,none⟩ b).setCell ⟨g,1,none⟩ s).setCell ⟨g',0,none⟩ b').setCell ⟨g',1,none⟩ s'):=by
 have k1:(W.setCell ⟨g,0,none⟩ b).cell? ⟨g,1,none⟩=some u1:=by rw [pe _ _ _ _ (by simp),h1]
 have k2:((W.setCell ⟨g,0,none⟩ b).setCell ⟨g,1,none⟩ s).cell? ⟨g',0,none⟩=some u2:=by
  rw [pe _ _ _ _ (by simp),pe _ _ _ _ (by intro e; injection e; omega),h2]
 have k3:(((W.setCell ⟨g,0,none⟩ b).setCell ⟨g,1,none⟩ s).setCell ⟨g',0,none⟩ b').cell? ⟨g',1,none⟩=some u3:=by
  rw [pe _ _ _ _ (by simp),pe _ _ _ _ (by intro e; injection e; omega),pe _ _ _ _ (by simp),h3]
 exact ⟨_,_,n,d,rfl,(((hN.box h0 d0 _).box k1 d1 _).box k2 d2 _).box k3 d3 _,(((hM.box h0 d0 _).box k1 d1 _).box k2 d2 _).box k3 d3 _,hd,hq,(((hx.setCell (by simpa using hg) _).setCell (by simpa using hg) _).setCell (by simpa using hg') _).setCell (by simpa using hg') _⟩
theorem zdw (v:Value) (q:Rat) (L:Nat) (w:World) (h:kdp w v q L) (hL:1<=L):Calls Tryz.prog 78 #[v] w (jeq q L w):=by
 obtain ⟨neg,s1,s2,ds,es,rfl,⟨A,c,rfl,h1,h2,h3⟩,⟨A',c',rfl,h1',h2',h3'⟩,hq,hl,hl'⟩:=h;have H3:=hid h3;have H3':=hid h3';have HQ:=hid hq;clear h3 h3' hq;go_enter Tryz.func78,Tryz.ntmps78;go_wp2_with fail;generalize hW:((w.alloc (Obj.cells #[.bool neg,.slice A ds.length c,.slice A' es.length c'] 59)).alloc (Obj.cells #[.bool false,.slice none 0 0] 25)).alloc (Obj.cells #[.bool false,.slice none 0 0] 25)=W;have HX0:Hid (Ext w W):=by
  have:Ext w W:=by rw [<- hW]; exact (((Ext.refl w).alloc _).alloc _).alloc _
  exact this
 have HWS:Hid (W.heap.size=w.heap.size+1+1+1):=by
  have:W.heap.size=w.heap.size+1+1+1:=by rw [<- hW]; simp
  exact this
 have HS:Hid (∀ W',Ext W W'->(Ext w W'/\W'.cell? ⟨w.heap.size,0,none⟩=some (.bool neg)/\W'.cell? ⟨w.heap.size,1,none⟩=some (.slice A ds.length c)/\W'.cell? ⟨w.heap.size,2,none⟩=some (.slice A' es.length c'))):=by
  intro W' hx;obtain ⟨hc,hf⟩:=hx.cells;have hsz:=HWS.out;refine ⟨HX0.out.trans hx,?_,?_,?_⟩ <;> (rw [hc _ _ (by omega),<- hW]; simp [go_sem])
 have HR:Hid (∀ W',Ext W W'->(W'.cell? ⟨w.heap.size+1,0,none⟩=some (.bool false)/\W'.cell? ⟨w.heap.size+1,1,none⟩=some (.slice none 0 0)/\W'.cell? ⟨w.heap.size+1+1,0,none⟩=some (.bool false)/\W'.cell? ⟨w.heap.size+1+1,1,none⟩=some (.slice none 0 0)/\W'.frozen? ⟨w.heap.size+1,0,none⟩=false/\W'.frozen? ⟨w.heap.size+1,1,none⟩=false/\W'.frozen? ⟨w.heap.size+1+1,0,none⟩=false/\W'.frozen? ⟨w.heap.size+1+1,1,none⟩=false)):=by
  intro W' hx;obtain ⟨hc,hf⟩:=hx.cells;have hsz:=HWS.out;refine ⟨?_,?_,?_,?_,?_,?_,?_,?_⟩ <;> first | (rw [hc _ _ (by omega),<- hW]; simp [go_sem]; done) | (rw [hf _ _ (by omega),<- hW]; simp [go_sem]; done)
 have ahK:Hid (∀ W'' v0 v1,Ext W W''->∀ W',W'=(W''.setCell ⟨w.heap.size+1,0,none⟩ v0).setCell ⟨w.heap.size+1,1,none⟩ v1->(Ext w W'/\W'.cell? ⟨w.heap.size,0,none⟩=some (.bool neg)/\W'.cell? ⟨w.heap.size,1,none⟩=some (.slice A ds.length c)/\W'.cell? ⟨w.heap.size,2,none⟩=some (.slice A' es.length c'))):=by
  intro W'' v0 v1 hx W' hW';obtain ⟨s1,c0,c1,c2⟩:=HS.out W'' hx;rw [hW'];refine ⟨(s1.setCell (by simp; try omega) _).setCell (by simp; try omega) _,?_,?_,?_⟩ <;> rw [pe _ _ _ _ (by simp; try omega),pe _ _ _ _ (by simp; try omega)] <;> assumption
 have HS2:Hid (∀ W'' v0 v1 v2 v3,Ext W W''->∀ W',W'=(((W''.setCell ⟨w.heap.size+1,0,none⟩ v0).setCell ⟨w.heap.size+1,1,none⟩ v1).setCell ⟨w.heap.size+1+1,0,none⟩ v2).setCell ⟨w.heap.size+1+1,1,none⟩ v3->(Ext w W'/\W'.cell? ⟨w.heap.size,0,none⟩=some (.bool neg)/\W'.cell? ⟨w.heap.size,1,none⟩=some (.slice A ds.length c)/\W'.cell? ⟨w.heap.size,2,none⟩=some (.slice A' es.length c'))):=by
  intro W'' v0 v1 v2 v3 hx W' hW';obtain ⟨s1,c0,c1,c2⟩:=HS.out W'' hx;rw [hW'];refine ⟨(((s1.setCell (by simp; try omega) _).setCell (by simp; try omega) _).setCell (by simp; try omega) _).setCell (by simp; try omega) _,?_,?_,?_⟩ <;> rw [pe _ _ _ _ (by simp; try omega),pe _ _ _ _ (by simp; try omega),pe _ _ _ _ (by simp; try omega),pe _ _ _ _ (by simp; try omega)] <;> assumption
 clear hW;obtain ⟨e0,b0,b1,b2⟩:=HS.out W (Ext.refl W);have E0:=hid e0;clear e0;refine (ud0 _ es _ ⟨A',c',rfl,h1',h2',H3'.out.ext E0.out⟩).mono ?_;rintro e w1 ⟨rfl,rfl⟩
 by_cases h0:val es=0
 · have hb:(val es == 0)=true:=by simp [h0]
   have H0:=hid h0;clear h0;go_wp2_with fail;refine (of_int 1 _ (by omega) (by omega)).mono ?_;rintro e w2 ⟨x2,rfl,⟨v2,rfl,A2,c2,rfl,q1,q2,q3⟩,y2⟩;obtain ⟨r0,r1,r2,r3,f0,f1,f2,f3⟩:=HR.out w2 y2;have hN:wdl w2 (.agg #[.bool (decide ((1:Int) < 0)),.slice A2 (dg (1:Int).natAbs).length c2]) ((1:Nat):Int) L:=wdl.mono (udy.raw ⟨_,rfl,A2,c2,rfl,q1,q2,q3⟩) (by rw [show dg (((1:Nat):Int)).natAbs=[1] from gd5 (by decide) jem]; exact hL);have HF:=hid (xeo (q:=q) (n:=0) (d:=1) (g:=w.heap.size+1) (g':=w.heap.size+1+1) (E0.out.trans y2) (by omega) (by omega) (by omega) r0 r1 r2 r3 rfl rfl rfl rfl (show wdl w2 (.agg #[.bool false,.slice none 0 0]) 0 L from ⟨false,_,[],rfl,zb1.nil _,rfl,pM _⟩) hN (by omega) (by rw [HQ.out,H0.out]; simp));clear hN q3 y2;go_wp2_with fail;exact bodyPost_ret (v:=.tuple #[.agg #[.bool false,.slice none 0 0],.agg #[.bool false,.slice A2 (dg 1).length c2]]) (by simp [results,Tryz.results78,go_sem,r0,r1,r2,r3]) rfl HF.out
 · have hb:(val es == 0)=false:=by simp [h0]
   obtain ⟨r0,r1,r2,r3,f0,f1,f2,f3⟩:=HR.out W (Ext.refl W);have HF:Hid (∀ W',W'=W.drewN 1->jeq q L w (.returned (.tuple #[.agg #[.bool neg,.slice A ds.length c],.agg #[.bool false,.slice A' es.length c']])) ((((W'.setCell ⟨w.heap.size+1,0,none⟩ (.bool neg)).setCell ⟨w.heap.size+1,1,none⟩ (.slice A ds.length c)).setCell ⟨w.heap.size+1+1,0,none⟩ (.bool false)).setCell ⟨w.heap.size+1+1,1,none⟩ (.slice A' es.length c'))):=by
    intro W' hW';have x1:Ext w W':=by rw [hW']; exact E0.out.drewN 1
    exact xeo (n:=sgn neg (val ds)) (d:=val es) x1 (by omega) (by omega) (by omega) (by rw [hW']; exact r0) (by rw [hW']; exact r1) (by rw [hW']; exact r2) (by rw [hW']; exact r3) rfl rfl rfl rfl ⟨neg,_,ds,rfl,⟨A,c,rfl,h1,h2,H3.out.ext x1⟩,rfl,hl⟩ ⟨false,_,es,rfl,⟨A',c',rfl,h1',h2',H3'.out.ext x1⟩,rfl,hl'⟩ (uf h0) HQ.out
   clear h0;go_wp2_with fail
   go_region_held3 (fun W' => Ext w W' /\ W'.cell? ⟨w.heap.size, 0, none⟩ = some (.bool neg) /\ W'.cell? ⟨w.heap.size, 1, none⟩ = some (.slice A ds.length c) /\ W'.cell? ⟨w.heap.size, 2, none⟩ = some (.slice A' es.length c'))
    (first | exact HS.out _ ((Ext.refl W).drew) | exact ahK.out _ _ _ ((Ext.refl W).drew) _ rfl | exact HS2.out _ _ _ _ _ ((Ext.refl W).drew) _ rfl)
    (fail)
   clear HS HS2 ahK HR;go_wp2_with fail;exact bodyPost_ret (v:=.tuple #[.agg #[.bool neg,.slice A ds.length c],.agg #[.bool false,.slice A' es.length c']]) (by simp [results,Tryz.results78,go_sem,r0,r1,r2,r3]) rfl (HF.out _ rfl)
end Go.Proofs.YtheefiaoimbeiaaGreatDoor
