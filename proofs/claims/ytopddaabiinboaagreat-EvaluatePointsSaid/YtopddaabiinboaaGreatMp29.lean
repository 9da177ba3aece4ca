/- Layer 22: recpoly.Eval. -/
import Derived.Test.YtopddaabiinboaaGreatMp24
import Derived.Deep.RegionLawGrows
import Derived.Test.YtopddaabiinboaaGreatMp20
import Derived.Test.YtopddaabiinboaaGreatMp28
import Derived.Test.YtopddaabiinboaaGreatMp19
set_option linter.unusedSimpArgs false
set_option linter.unusedVariables false
set_option maxRecDepth 100000
set_option maxHeartbeats 8000000
namespace Go.Proofs.YtopddaabiinboaaGreat
open Go.RowKit
def vhc (w:World) (g gs:Nat) (p:Pl) (s A:Value) (ρ:Int->Rat) (m:Nat) (wr:World):Prop:=
 Ext w wr/\yc3 wr g p s A/\(∃ b A1 n1 c1 A2 n2 c2,wr.cell? ⟨gs,0,none⟩=some (.bool b)/\wr.cell? ⟨gs,1,none⟩=some (.slice A1 n1 c1)/\wr.cell? ⟨gs,2,none⟩=some (.slice A2 n2 c2)/\uc7 wr (.agg #[.bool b,.slice A1 n1 c1,.slice A2 n2 c2]) (zc3 ρ p.lv (p.cs.drop m)))/\(∀ i,wr.frozen? ⟨gs,i,none⟩=false)/\gs < wr.heap.size/\w.heap.size<=g/\g < gs
theorem vhc.store {w wr w2:World} {g gs:Nat} {p:Pl} {s A:Value} {ρ:Int->Rat} {m m':Nat} (h:vhc w g gs p s A ρ m wr) (hx:Ext wr w2) {b:Bool} {A1 A2:Option Addr} {n1 c1 n2 c2:Nat} (hr:uc7 w2 (.agg #[.bool b,.slice A1 n1 c1,.slice A2 n2 c2]) (zc3 ρ p.lv (p.cs.drop m'))) :
 vhc w g gs p s A ρ m' (((w2.setCell ⟨gs,0,none⟩ (.bool b)).setCell ⟨gs,1,none⟩ (.slice A1 n1 c1)).setCell ⟨gs,2,none⟩ (.slice A2 n2 c2)):=by
 obtain ⟨h1,h2,⟨b',B1,m1,d1,B2,m2,d2,k0,k1,k2,-⟩,h4,h5,h6,h7⟩:=h;have e:∀ i,w2.cell? ⟨gs,i,none⟩=wr.cell? ⟨gs,i,none⟩:=fun i=>hx.cell (p:=⟨gs,i,none⟩) h5
 have k0':=(e 0).trans k0;have k1':=(e 1).trans k1;have k2':=(e 2).trans k2;have q1:(w2.setCell ⟨gs,0,none⟩ (.bool b)).cell? ⟨gs,1,none⟩=some (.slice B1 m1 d1):=by rw [World.cell?_setCell_other _ _ _ _ (by simp)]; exact k1'
 have q2:((w2.setCell ⟨gs,0,none⟩ (.bool b)).setCell ⟨gs,1,none⟩ (.slice A1 n1 c1)).cell? ⟨gs,2,none⟩=some (.slice B2 m2 d2):=by rw [World.cell?_setCell_other _ _ _ _ (by simp),World.cell?_setCell_other _ _ _ _ (by simp)]; exact k2'
 have hgs:w.heap.size<=gs:=by omega
 refine ⟨(((h1.trans hx).setCell hgs _).setCell hgs _).setCell hgs _,h2.turn ?_,⟨b,A1,n1,c1,A2,n2,c2,?_,?_,?_,((hr.box k0' rfl _).box q1 rfl _).box q2 rfl _⟩,fun i=>?_,?_,h6,h7⟩
 · rw [Below.heap_setCell _ _ _ g (by show g ≠ gs; omega),Below.heap_setCell _ _ _ g (by show g ≠ gs; omega),Below.heap_setCell _ _ _ g (by show g ≠ gs; omega)];exact hx.below.block g (by omega)
 · rw [World.cell?_setCell_other _ _ _ _ (by simp),World.cell?_setCell_other _ _ _ _ (by simp)]; exact World.cell?_setCell_same _ _ _ k0'
 · rw [World.cell?_setCell_other _ _ _ _ (by simp)]; exact World.cell?_setCell_same _ _ _ q1
 · exact World.cell?_setCell_same _ _ _ q2
 · rw [World.frozen?_setCell,World.frozen?_setCell,World.frozen?_setCell]; exact (hx.frozen (p:=⟨gs,i,none⟩) h5).trans (h4 i)
 · have:=hx.size;simp only [World.setCell,Array.size_modify]; omega
def qhn (w0:World) (q:Nat->Prop) (L:Nat) (xv:Value) (xs:List Rat) (n:Nat):Prop:=∀ (p:Pl) (v:Value) (w:World),p.sz < n ->  p.eb L<=1099511627776->PlV w0 q p v->Ext w0 w->Calls Tryz.prog 41 #[v,xv] w (vc6 (p.val (rho xs)) w)
theorem wib {w0 w:World} {q:Nat->Prop} {L:Nat} {xv:Value} {xs:List Rat} (hxs:RsV w0 L xv xs) (p:Pl) (v:Value) (heb:p.eb L<=1099511627776) (h:PlV w0 q p v) (hx0:Ext w0 w) (hl:p.lv<=0):Calls Tryz.prog 41 #[v,xv] w (vc6 (p.val (rho xs)) w):=by
 obtain ⟨A0,n0,c0,A,c,rfl,hnat,hl1,hl2,h4⟩:=h.open_;obtain ⟨Ax,cx,rfl,-,-,-⟩:=hxs;obtain ⟨lv,ng,ds,cs⟩:=p;simp only [Pl.cs,Pl.ds,Pl.lv,Pl.neg,plV] at *;have hdl:ds.length<=1099511627776:=by rw [Pl.eb] at heb; omega
 have hpv:(Pl.mk lv ng ds cs).val (rho xs)=((sgn ng (val ds):Int):Rat):=by rw [Pl.val,if_pos hl]
 rw [hpv];obtain ⟨W,hW⟩:=n_m ((w.alloc (.cells #[.int .i64 lv,.bool ng,.slice A0 n0 c0,.slice A cs.length c] 30)).alloc (.cells #[.bool false,.slice none 0 0,.slice none 0 0] 37));have hWx:Ext w W:=by rw [<- hW]; exact ((Ext.refl w).alloc _).alloc _
 have hWs:W.heap.size=w.heap.size+1+1:=by rw [<- hW]; simp
 obtain ⟨b0,b1,b2,b3⟩:yc3 W w.heap.size (.mk lv ng ds cs) (.slice A0 n0 c0) (.slice A cs.length c):=by rw [<- hW]; exact (yc3.new w (.mk lv ng ds cs) _ _ _).ext ((Ext.refl _).alloc _) (by simp)
 simp only [Pl.lv,Pl.neg] at b0 b1;have HZ:Hid ((W.cell? ⟨w.heap.size+1,0,none⟩=some (.bool false)/\W.cell? ⟨w.heap.size+1,1,none⟩=some (.slice none 0 0)/\W.cell? ⟨w.heap.size+1,2,none⟩=some (.slice none 0 0))/\∀ i,W.frozen? ⟨w.heap.size+1,i,none⟩=false):=by
  have:(W.cell? ⟨w.heap.size+1,0,none⟩=some (.bool false)/\W.cell? ⟨w.heap.size+1,1,none⟩=some (.slice none 0 0)/\W.cell? ⟨w.heap.size+1,2,none⟩=some (.slice none 0 0))/\∀ i,W.frozen? ⟨w.heap.size+1,i,none⟩=false:=by
   rw [<- hW]; refine ⟨⟨?_,?_,?_⟩,fun i=>?_⟩ <;> simp [go_sem]
  exact this
 have HI:Hid (xc4 W (.agg #[.bool ng,.slice A0 n0 c0]) (sgn ng (val ds)) ds.length):=⟨ng,_,ds,rfl,hnat.ext (hx0.trans hWx),rfl,Nat.le_refl _⟩;have HWX:=Lib.hid hWx;have hlq:decide (lv<=0)=true:=decide_eq_true hl;clear h hnat h4 hWx heb hpv;go_enter Tryz.func41,Tryz.ntmps41;go_wp2_with fail;clear hW b0 b1 b2 b3;refine (khh _ _ _ _ HI.out (by omega)).mono ?_;rintro e w1 ⟨x1,rfl,r1,y1⟩;obtain ⟨bz,Az,nz,cz,Bz,mz,dz,rfl⟩:=r1.unpack;obtain ⟨⟨z0,z1,z2⟩,zf⟩:=HZ.out;have e1:∀ i,w1.cell? ⟨w.heap.size+1,i,none⟩=W.cell? ⟨w.heap.size+1,i,none⟩:=fun i=>y1.cell (p:=⟨w.heap.size+1,i,none⟩) (by show w.heap.size+1 < _; omega)
 have q0:=(e1 0).trans z0;have q1:=(e1 1).trans z1;have q2:=(e1 2).trans z2;have qf:∀ i,w1.frozen? ⟨w.heap.size+1,i,none⟩=false:=fun i=>(y1.frozen (p:=⟨w.heap.size+1,i,none⟩) (by show w.heap.size+1 < _; omega)).trans (zf i)
 have HF:=Lib.hid (yc7 (g:=w.heap.size+1) (HWX.out.trans y1) (by omega) q0 q1 q2 rfl rfl rfl r1);clear e1 r1 y1 HI HZ z0 z1 z2 zf;go_wp2_with fail;exact bodyPost_ret (v:=.agg #[.bool bz,.slice Az nz cz,.slice Bz mz dz]) (by simp [results,Tryz.results41,go_sem,q0,q1,q2]) rfl HF.out
theorem yhy {w0 w:World} {q:Nat->Prop} {L n:Nat} {xv:Value} {xs:List Rat} (hL:1<=L) (hL2:L<=1099511627776) (hxs:RsV w0 L xv xs) (ih:qhn w0 q L xv xs n) (p:Pl) (v:Value) (hn:p.sz < n+1) (heb:p.eb L<=1099511627776) (h:PlV w0 q p v) (hx0:Ext w0 w) (hl:0 < p.lv) (hl4:p.lv<=4) (hlx:p.lv<=xs.length):Calls Tryz.prog 41 #[v,xv] w (vc6 (p.val (rho xs)) w):=by
 have hdig:=h.dig;obtain ⟨A0,n0,c0,A,c,rfl,hnat,hl1,hl2,h4⟩:=h.open_;have hrho:=fun i=>qiz hL hxs i
 have HXS:=Lib.hid hxs;obtain ⟨Ax,cx,rfl,hxl1,hxl2,hxa⟩:=hxs;have HXA:=Lib.hid hxa;obtain ⟨lv,ng,ds,cs⟩:=p;simp only [Pl.cs,Pl.ds,Pl.lv,Pl.neg,plV] at *;have hpv:(Pl.mk lv ng ds cs).val (rho xs)=zc3 (rho xs) lv cs:=by rw [Pl.val,if_neg (by omega),if_neg (by omega)]
 have hszp:(Pl.mk lv ng ds cs).sz=kc5 cs+1:=by rw [Pl.sz]
 have hebp:ydi L cs+1<=(Pl.mk lv ng ds cs).eb L:=by rw [Pl.eb]; omega
 rw [Pl.dig] at hdig;rw [hpv];have HARG:Hid (∀ k (hk:k < cs.length),cs[k].sz < n /\  cs[k].eb L<=1099511627776/\rlen (zc3 (rho xs) lv (cs.drop (k+1)))<=1099511627776/\rlen (cs[k].val (rho xs))<=1099511627776/\zc3 (rho xs) lv (cs.drop k)=zc3 (rho xs) lv (cs.drop (k+1)) * rho xs lv+cs[k].val (rho xs)):=by
  have:∀ k (hk:k < cs.length),cs[k].sz < n /\  cs[k].eb L<=1099511627776/\rlen (zc3 (rho xs) lv (cs.drop (k+1)))<=1099511627776/\rlen (cs[k].val (rho xs))<=1099511627776/\zc3 (rho xs) lv (cs.drop k)=zc3 (rho xs) lv (cs.drop (k+1)) * rho xs lv+cs[k].val (rho xs):=fun k hk=>by
   have h1:=ygs (List.getElem_mem hk);have h2:=kiq L (List.getElem_mem hk);have h3:=vg7 (rho xs) L hrho lv (cs.drop (k+1)) (qh9 hdig.2 _);have h4:=giz L cs (k+1);have h5:=Pl.val_rlen (rho xs) L hrho cs[k] (vih hdig.2 (List.getElem_mem hk));refine ⟨by omega,  by omega,by omega,by omega,?_⟩;rw [xh9 (rho xs) lv cs k hk,Rat.mul_comm (rho xs lv),Rat.add_comm]
  exact this
 obtain ⟨lx,hlx1⟩:∃ lx:Nat,lv=(lx:Int)+1:=⟨(lv - 1).toNat,by omega⟩;have hlxl:lx < xs.length:=by omega
 have HRX:Hid (rho xs lv=xs[lx]):=by
  have:rho xs lv=xs[lx]:=by
   unfold rho;rw [show (lv - 1).toNat=lx by omega,List.getD_eq_getElem?_getD,List.getElem?_eq_getElem hlxl]; rfl
  exact this
 have HRL:Hid (∀ i,rlen (rho xs i)<=L):=hrho;obtain ⟨adx,bx,X1,xn1,xc1,X2,xn2,xc2,rfl,hadx,hxc,hxr⟩:=hxa lx hlxl;have HXC:=Lib.hid hxc;have HXR:=Lib.hid hxr;have hwx:IntKind.i64.wrap (lv - 1)=lx:=by rw [IntKind.wrap_i64]; omega
 have hlq:decide (lv<=0)=false:=decide_eq_false (by omega);have hlq4:decide (lv > 4)=false:=decide_eq_false (by omega);have hlqx:decide (lv > (xs.length:Int))=false:=decide_eq_false (by omega);obtain ⟨W,hW⟩:=n_m ((w.alloc (.cells #[.int .i64 lv,.bool ng,.slice A0 n0 c0,.slice A cs.length c] 30)).alloc (.cells #[.bool false,.slice none 0 0,.slice none 0 0] 37));have hWx:Ext w W:=by rw [<- hW]; exact ((Ext.refl w).alloc _).alloc _
 have hWs:W.heap.size=w.heap.size+1+1:=by rw [<- hW]; simp
 have hbx:yc3 W w.heap.size (.mk lv ng ds cs) (.slice A0 n0 c0) (.slice A cs.length c):=by rw [<- hW]; exact (yc3.new w (.mk lv ng ds cs) _ _ _).ext ((Ext.refl _).alloc _) (by simp)
 have HZ:Hid ((W.cell? ⟨w.heap.size+1,0,none⟩=some (.bool false)/\W.cell? ⟨w.heap.size+1,1,none⟩=some (.slice none 0 0)/\W.cell? ⟨w.heap.size+1,2,none⟩=some (.slice none 0 0))/\∀ i,W.frozen? ⟨w.heap.size+1,i,none⟩=false):=by
  have:(W.cell? ⟨w.heap.size+1,0,none⟩=some (.bool false)/\W.cell? ⟨w.heap.size+1,1,none⟩=some (.slice none 0 0)/\W.cell? ⟨w.heap.size+1,2,none⟩=some (.slice none 0 0))/\∀ i,W.frozen? ⟨w.heap.size+1,i,none⟩=false:=by
   rw [<- hW]; refine ⟨⟨?_,?_,?_⟩,fun i=>?_⟩ <;> simp [go_sem]
  exact this
 obtain ⟨b0,b1,b2,b3⟩:=id hbx;simp only [Pl.lv,Pl.neg] at b0 b1;have HBX:=Lib.hid hbx;have HWX:=Lib.hid hWx;have H4:=Lib.hid h4;have HX0:=Lib.hid hx0;have IH:=Lib.hid ih;have HLV:=Lib.hid hlx1;clear h hnat h4 hWx heb hpv hebp hszp hdig hrho hxa hxc hxr hbx ih hx0 hlx1 hn;go_enter Tryz.func41,Tryz.ntmps41;go_wp2_with fail;clear hW b0 b1 b2 b3;refine (gg5 0 _ (by omega) (by omega)).mono ?_;rintro e w1 ⟨x1,rfl,r1,y1⟩;obtain ⟨bz,Az,nz,cz,Bz,mz,dz,rfl⟩:=r1.unpack;have hs1:=y1.size;obtain ⟨W2,hW2⟩:=n_m (w1.alloc (.cells #[.bool bz,.slice Az nz cz,.slice Bz mz dz] 37));have hx2:Ext w1 W2:=by rw [<- hW2]; exact (Ext.refl _).alloc _
 have HI0:Hid (vhc w w.heap.size w1.heap.size (.mk lv ng ds cs) (.slice A0 n0 c0) (.slice A cs.length c) (rho xs) cs.length W2):=by
  refine ⟨(HWX.out.trans y1).trans hx2,HBX.out.ext (y1.trans hx2) (by omega),⟨bz,Az,nz,cz,Bz,mz,dz,?_,?_,?_,?_⟩,fun i=>?_,?_,Nat.le_refl _,by omega⟩
  · rw [<- hW2]; simp [go_sem]
  · rw [<- hW2]; simp [go_sem]
  · rw [<- hW2]; simp [go_sem]
  · simp only [Pl.cs,Pl.lv,List.drop_length,zc3]; exact r1.ext hx2
  · rw [<- hW2]; simp [go_sem]
  · rw [<- hW2]; simp
 obtain ⟨a0,a1,a2,a3⟩:=(HBX.out.ext (y1.trans hx2) (by omega));simp only [Pl.lv,Pl.neg] at a0 a1;have hwn:IntKind.i64.wrap ((cs.length:Int) - 1)=(cs.length:Int) - 1:=by rw [IntKind.wrap_i64]; omega
 have HSZ2:Hid (w.heap.size+1 < w1.heap.size):=by
  have:w.heap.size+1 < w1.heap.size:=by omega
  exact this
 have HZ2:Hid ((W2.cell? ⟨w.heap.size+1,0,none⟩=some (.bool false)/\W2.cell? ⟨w.heap.size+1,1,none⟩=some (.slice none 0 0)/\W2.cell? ⟨w.heap.size+1,2,none⟩=some (.slice none 0 0))/\∀ i,W2.frozen? ⟨w.heap.size+1,i,none⟩=false):=by
  obtain ⟨⟨z0,z1,z2⟩,zf⟩:=HZ.out;have e1:∀ i,W2.cell? ⟨w.heap.size+1,i,none⟩=W.cell? ⟨w.heap.size+1,i,none⟩:=fun i=>(y1.trans hx2).cell (p:=⟨w.heap.size+1,i,none⟩) (by show w.heap.size+1 < _; omega)
  exact ⟨⟨(e1 0).trans z0,(e1 1).trans z1,(e1 2).trans z2⟩,fun i=>((y1.trans hx2).frozen (p:=⟨w.heap.size+1,i,none⟩) (by show w.heap.size+1 < _; omega)).trans (zf i)⟩
 clear r1 y1 hx2;go_wp2_with fail;clear hW2 a0 a1 a2 a3
 go_loopw [6] (fun iv wr=>∃ m:Nat,m<=cs.length/\iv=.int .i64 ((m:Int) - 1)/\Hid (vhc w w.heap.size w1.heap.size (.mk lv ng ds cs) (.slice A0 n0 c0) (.slice A cs.length c) (rho xs) m wr/\(∀ i,wr.cell? ⟨w.heap.size+1,i,none⟩=W2.cell? ⟨w.heap.size+1,i,none⟩)/\(∀ i,wr.frozen? ⟨w.heap.size+1,i,none⟩=false))) (fun iv _=>(intOf iv+1).toNat)
 case atStart=>exact ⟨cs.length,Nat.le_refl _,rfl,HI0,fun _=>rfl,HZ2.out.2⟩
 case round =>
  obtain ⟨m,hm,rfl,⟨HI,hzc,hzf⟩⟩:=hrel;obtain ⟨hx,⟨b0,b1,b2,b3⟩,⟨sb,S1,sn1,sc1,S2,sn2,sc2,s0,s1,s2,hsr⟩,hsf,hgs,hg1,hg2⟩:=id HI;have HIV:=Lib.hid HI;have HZC:=Lib.hid hzc;have HZF:=Lib.hid hzf;simp only [Pl.lv,Pl.neg] at b0 b1
  by_cases hm0:m=0
  · subst hm0;obtain ⟨⟨z0,z1,z2⟩,-⟩:=HZ2.out;have q0:=(hzc 0).trans z0;have q1:=(hzc 1).trans z1;have q2:=(hzc 2).trans z2;simp only [Pl.lv,Pl.cs,List.drop_zero] at hsr;have HF:=Lib.hid (yc7 (g:=w.heap.size+1) hx (by omega) q0 q1 q2 rfl rfl rfl hsr);clear hx hsr HIV HI HI0 hzc z0 z1 z2;go_wp2_with fail;exact bodyPost_ret (v:=.agg #[.bool sb,.slice S1 sn1 sc1,.slice S2 sn2 sc2]) (by simp [results,Tryz.results41,go_sem,q0,q1,q2]) rfl HF.out
  · obtain ⟨k,hk⟩:∃ k,m=k+1:=⟨m - 1,by omega⟩;have hmk:((m:Int) - 1)=k:=by omega
    rw [hmk];have hkl:k < cs.length:=by omega
    subst hk;obtain ⟨ad,B0,m0,d0,B1,m1,d1,rfl,hadb,hnd,hkt⟩:=kc3.kid H4.out k hkl;have hxx:Ext w0 wr:=HX0.out.trans hx;obtain ⟨g1,  g2,g4,g5,g6⟩:=HARG.out k hkl;have hadr:ad.block < wr.heap.size:=by have:=hxx.size; omega
    have hadxr:adx.block < wr.heap.size:=by have:=hxx.size; omega
    have hbxr:w.heap.size < wr.heap.size:=by omega
    have hnd':=hnd.ext hxx (by rw [uc2]; exact hadb);obtain ⟨k0,k1,k2⟩:=HXC.out;have hbk:(adx.add (lx * 3)).block < w0.heap.size:=by rw [uc2]; exact hadx
    have k0':=(hxx.cell hbk).trans k0;have k1':=(hxx.cell (p:=⟨(adx.add (lx * 3)).block,(adx.add (lx * 3)).off+1,none⟩) hbk).trans k1;have k2':=(hxx.cell (p:=⟨(adx.add (lx * 3)).block,(adx.add (lx * 3)).off+2,none⟩) hbk).trans k2;have hadw:ad.block < w.heap.size:=by have:=HX0.out.size; omega
    have hadxw:adx.block < w.heap.size:=by have:=HX0.out.size; omega
    have SS:Hid (∀ W',Ext wr W'->(Ext w W'/\W'.cell? ⟨w.heap.size,0,none⟩=some (.int .i64 lv)/\W'.cell? ⟨w.heap.size,3,none⟩=some (.slice (some ad) cs.length c)/\W'.cell? (adx.add (lx * 3))=some (.bool bx)/\W'.cell? ⟨(adx.add (lx * 3)).block,(adx.add (lx * 3)).off+1,none⟩=some (.slice X1 xn1 xc1)/\W'.cell? ⟨(adx.add (lx * 3)).block,(adx.add (lx * 3)).off+2,none⟩=some (.slice X2 xn2 xc2)/\W'.cell? (ad.add (k * 4))=some (.int .i64 cs[k].lv)/\W'.cell? ⟨(ad.add (k * 4)).block,(ad.add (k * 4)).off+1,none⟩=some (.bool cs[k].neg)/\W'.cell? ⟨(ad.add (k * 4)).block,(ad.add (k * 4)).off+2,none⟩=some (.slice B0 m0 d0)/\W'.cell? ⟨(ad.add (k * 4)).block,(ad.add (k * 4)).off+3,none⟩=some (.slice B1 m1 d1))):=by
     intro W' hx';have hbk':(adx.add (lx * 3)).block < wr.heap.size:=by rw [uc2]; exact hadxr
     obtain ⟨a0,a1,a2,a3⟩:=hnd'.ext hx' (by rw [uc2]; exact hadr);exact ⟨hx.trans hx',(hx'.cell (p:=⟨w.heap.size,0,none⟩) hbxr).trans b0,(hx'.cell (p:=⟨w.heap.size,3,none⟩) hbxr).trans b3,(hx'.cell hbk').trans k0',(hx'.cell (p:=⟨(adx.add (lx * 3)).block,(adx.add (lx * 3)).off+1,none⟩) hbk').trans k1',(hx'.cell (p:=⟨(adx.add (lx * 3)).block,(adx.add (lx * 3)).off+2,none⟩) hbk').trans k2',a0,a1,a2,a3⟩
    have SS2:Hid (∀ W'' v0 v1 v2,Ext wr W''->∀ W',W'=((W''.setCell ⟨w1.heap.size,0,none⟩ v0).setCell ⟨w1.heap.size,1,none⟩ v1).setCell ⟨w1.heap.size,2,none⟩ v2->(Ext w W'/\W'.cell? ⟨w.heap.size,0,none⟩=some (.int .i64 lv)/\W'.cell? ⟨w.heap.size,3,none⟩=some (.slice (some ad) cs.length c)/\W'.cell? (adx.add (lx * 3))=some (.bool bx)/\W'.cell? ⟨(adx.add (lx * 3)).block,(adx.add (lx * 3)).off+1,none⟩=some (.slice X1 xn1 xc1)/\W'.cell? ⟨(adx.add (lx * 3)).block,(adx.add (lx * 3)).off+2,none⟩=some (.slice X2 xn2 xc2)/\W'.cell? (ad.add (k * 4))=some (.int .i64 cs[k].lv)/\W'.cell? ⟨(ad.add (k * 4)).block,(ad.add (k * 4)).off+1,none⟩=some (.bool cs[k].neg)/\W'.cell? ⟨(ad.add (k * 4)).block,(ad.add (k * 4)).off+2,none⟩=some (.slice B0 m0 d0)/\W'.cell? ⟨(ad.add (k * 4)).block,(ad.add (k * 4)).off+3,none⟩=some (.slice B1 m1 d1))):=by
     intro W'' v0 v1 v2 hx' W' hW';obtain ⟨s0,s1,s2,s3,s4,s5,s6,s7,s8,s9⟩:=SS.out W'' hx';have hb1:(adx.add (lx * 3)).block < w.heap.size:=by rw [uc2]; exact hadxw
     have hb2:(ad.add (k * 4)).block < w.heap.size:=by rw [uc2]; exact hadw
     have hws:w.heap.size < w1.heap.size:=by omega
     have far:∀ a:Addr,a.block < w1.heap.size->W'.cell? a=W''.cell? a:=fun a ha=>by
      rw [hW',World.cell?_setCell_other _ _ _ _ (by intro e; rw [<- e] at ha; exact absurd ha (Nat.lt_irrefl _)),World.cell?_setCell_other _ _ _ _ (by intro e; rw [<- e] at ha; exact absurd ha (Nat.lt_irrefl _)),World.cell?_setCell_other _ _ _ _ (by intro e; rw [<- e] at ha; exact absurd ha (Nat.lt_irrefl _))]
     refine ⟨?_,(far _ hws).trans s1,(far _ hws).trans s2,(far _ (by omega)).trans s3,(far _ (by show (adx.add (lx * 3)).block < _; omega)).trans s4,(far _ (by show (adx.add (lx * 3)).block < _; omega)).trans s5,(far _ (by omega)).trans s6,(far _ (by show (ad.add (k * 4)).block < _; omega)).trans s7,(far _ (by show (ad.add (k * 4)).block < _; omega)).trans s8,(far _ (by show (ad.add (k * 4)).block < _; omega)).trans s9⟩;rw [hW'];exact ((s0.setCell (Nat.le_of_lt hws) _).setCell (Nat.le_of_lt hws) _).setCell (Nat.le_of_lt hws) _
    have HMUL:Hid (wc7 wr.drew (.agg #[.bool sb,.slice S1 sn1 sc1,.slice S2 sn2 sc2]) (zc3 (rho xs) lv (cs.drop (k+1))) (rlen (zc3 (rho xs) lv (cs.drop (k+1))))/\wc7 wr.drew (.agg #[.bool bx,.slice X1 xn1 xc1,.slice X2 xn2 xc2]) (rho xs lv) L):=by
     refine ⟨(hsr.raw).ext ((Ext.refl wr).drew),?_⟩;rw [HRX.out];exact (HXR.out.ext hxx).ext ((Ext.refl wr).drew)
    have HC:=Lib.hid (fun W' (hxW:Ext wr W')=>IH.out cs[k] _ W' g1  g2 hkt (hxx.trans hxW));have HG4:=Lib.hid (And.intro g4 g5);have HG6:=Lib.hid g6;have HX:=Lib.hid hx;have HSTORE:=Lib.hid (fun w2 (hx2:Ext wr w2) (b:Bool) (A1 A2:Option Addr) (n1 c1 n2 c2:Nat) hr=>HIV.out.store (m':=k) hx2 (b:=b) (A1:=A1) (A2:=A2) (n1:=n1) (c1:=c1) (n2:=n2) (c2:=c2) hr);have hadk:k < cs.length:=hkl;generalize cs[k].val (rho xs)=kv at *;generalize cs[k]=ck at *;clear hnd hnd' hkt hxx k0 k1 k2 k0' k1' k2' g1 g2  g4 g5 g6 hsr HI hzc hzf hx b1 b2 b3 b0 HXC;have HLP:=Lib.hid (uc8 (zc3 (rho xs) lv (cs.drop (k+1))));have hrl:=HRL.out lv;have HRLV:=Lib.hid hrl;have hg4:=HG4.out;go_upto_region 13 with fail;obtain ⟨-,p0,p1,p2,p3,p4,p5,p6,p7,p8⟩:=SS.out wr.drew ((Ext.refl wr).drew);have hd0:=fun i=>((Ext.refl wr).drew).cell (p:=⟨w1.heap.size,i,none⟩) hgs
    have p9:=(hd0 0).trans s0;have p10:=(hd0 1).trans s1;have p11:=(hd0 2).trans s2;have HD0:=Lib.hid hd0;clear hd0
    go_region_law (first
     | (go_simp
        go_at_call 77
        refine (vhm _ _ _ _ _ _ _ HMUL.out.1 HMUL.out.2 HLP.out hL (by omega)).mono ?_;rintro e v1 ⟨z1,rfl,m1',x1'⟩;have y1:Ext wr v1:=Ext.trans ((Ext.refl wr).drew) x1';obtain ⟨mb,M1,mn1,mc1,M2,mn2,mc2,rfl⟩:=m1'.unpack
        obtain ⟨-,p0,p1,p2,p3,p4,p5,p6,p7,p8⟩:=SS.out v1 y1)
     | (go_simp
        go_at_call 41
        refine (HC.out _ y1).mono ?_;rintro e v2 ⟨z2,rfl,m2',x2'⟩;have y2:Ext wr v2:=Ext.trans y1 x2'
        obtain ⟨eb,E1,en1,ec1,E2,en2,ec2,rfl⟩:=m2'.unpack)
     | (go_simp
        go_at_call 76
        refine (jh6 _ _ _ _ _ _ _ ((m1'.raw).ext x2') m2'.raw (uc8 _) (uc8 _) (by
         have hq:=jg7 (zc3 (rho xs) lv (cs.drop (k+1))) (rho xs lv);have hl:=HRLV.out
         omega)).mono ?_
        rintro e v3 ⟨z3,rfl,m3',x3'⟩;have y3:Ext wr v3:=Ext.trans y2 x3';obtain ⟨fb,F1,fn1,fc1,F2,fn2,fc2,rfl⟩:=m3'.unpack;have hc0:=fun i=>y3.cell (p:=⟨w1.heap.size,i,none⟩) hgs
        have r0:=(hc0 0).trans s0;have r1:=(hc0 1).trans s1;have r2:=(hc0 2).trans s2
        have rf:∀ i,v3.frozen? ⟨w1.heap.size,i,none⟩=false:=fun i=>(y3.frozen (p:=⟨w1.heap.size,i,none⟩) hgs).trans (hsf i)))
    all_goals
     have hinv:=HSTORE.out v3 y3 fb F1 F2 fn1 fc1 fn2 fc2 (by simp only [Pl.lv,Pl.cs]; rw [HG6.out]; exact m3');have hsz2:=HSZ2.out;have hzc2:∀ i,(((v3.setCell ⟨w1.heap.size,0,none⟩ (.bool fb)).setCell ⟨w1.heap.size,1,none⟩ (.slice F1 fn1 fc1)).setCell ⟨w1.heap.size,2,none⟩ (.slice F2 fn2 fc2)).cell? ⟨w.heap.size+1,i,none⟩=W2.cell? ⟨w.heap.size+1,i,none⟩:=fun i=>by
      rw [World.cell?_setCell_other _ _ _ _ (by intro e; injection e; omega),World.cell?_setCell_other _ _ _ _ (by intro e; injection e; omega),World.cell?_setCell_other _ _ _ _ (by intro e; injection e; omega),y3.cell (p:=⟨w.heap.size+1,i,none⟩) (by show w.heap.size+1 < _; omega)];exact HZC.out i
     have hzf2:∀ i,(((v3.setCell ⟨w1.heap.size,0,none⟩ (.bool fb)).setCell ⟨w1.heap.size,1,none⟩ (.slice F1 fn1 fc1)).setCell ⟨w1.heap.size,2,none⟩ (.slice F2 fn2 fc2)).frozen? ⟨w.heap.size+1,i,none⟩=false:=fun i=>by
      rw [World.frozen?_setCell,World.frozen?_setCell,World.frozen?_setCell,y3.frozen (p:=⟨w.heap.size+1,i,none⟩) (by show w.heap.size+1 < _; omega)];exact HZF.out i
     have HREL:=Lib.hid (And.intro hinv (And.intro hzc2 hzf2));clear hinv hzc2 hzf2 m1' m2' m3' x1' x2' x3' y1 y2 y3 SS SS2 HC HSTORE HMUL hc0 r0 r1 r2 rf s0 s1 s2 HIV HZC HZF;go_wp2_with fail
     go_roundw
     case rel=>exact ⟨k,by omega,by go_num,HREL⟩
     case measure=>simp [intOf]; try omega
theorem yhk {w0 w:World} {q:Nat->Prop} {L:Nat} {xv:Value} {xs:List Rat} (hxs:RsV w0 L xv xs) (p:Pl) (v:Value) (h:PlV w0 q p v) (hx0:Ext w0 w) (hl:4 < p.lv\/(0 < p.lv/\(xs.length:Int) < p.lv/\p.cs=[])):Calls Tryz.prog 41 #[v,xv] w (vc6 (p.val (rho xs)) w):=by
 obtain ⟨A0,n0,c0,A,c,rfl,hnat,hl1,hl2,h4⟩:=h.open_;obtain ⟨Ax,cx,rfl,-,-,-⟩:=hxs;obtain ⟨lv,ng,ds,cs⟩:=p;simp only [Pl.cs,Pl.ds,Pl.lv,Pl.neg,plV] at *;have hpv:(Pl.mk lv ng ds cs).val (rho xs)=((0:Int):Rat):=by
  rw [Pl.val,if_neg (by omega)]
  by_cases h4':4 < lv
  · rw [if_pos h4']; rfl
  · rw [if_neg h4'];rcases hl with hl | ⟨-,-,rfl⟩
    · exact absurd hl h4'
    · rw [zc3]; rfl
 rw [hpv];obtain ⟨W,hW⟩:=n_m ((w.alloc (.cells #[.int .i64 lv,.bool ng,.slice A0 n0 c0,.slice A cs.length c] 30)).alloc (.cells #[.bool false,.slice none 0 0,.slice none 0 0] 37));have hWx:Ext w W:=by rw [<- hW]; exact ((Ext.refl w).alloc _).alloc _
 have hWs:W.heap.size=w.heap.size+1+1:=by rw [<- hW]; simp
 obtain ⟨b0,b1,b2,b3⟩:yc3 W w.heap.size (.mk lv ng ds cs) (.slice A0 n0 c0) (.slice A cs.length c):=by rw [<- hW]; exact (yc3.new w (.mk lv ng ds cs) _ _ _).ext ((Ext.refl _).alloc _) (by simp)
 simp only [Pl.lv,Pl.neg] at b0 b1;have HZ:Hid ((W.cell? ⟨w.heap.size+1,0,none⟩=some (.bool false)/\W.cell? ⟨w.heap.size+1,1,none⟩=some (.slice none 0 0)/\W.cell? ⟨w.heap.size+1,2,none⟩=some (.slice none 0 0))/\∀ i,W.frozen? ⟨w.heap.size+1,i,none⟩=false):=by
  have:(W.cell? ⟨w.heap.size+1,0,none⟩=some (.bool false)/\W.cell? ⟨w.heap.size+1,1,none⟩=some (.slice none 0 0)/\W.cell? ⟨w.heap.size+1,2,none⟩=some (.slice none 0 0))/\∀ i,W.frozen? ⟨w.heap.size+1,i,none⟩=false:=by
   rw [<- hW]; refine ⟨⟨?_,?_,?_⟩,fun i=>?_⟩ <;> simp [go_sem]
  exact this
 have HWX:=Lib.hid hWx;have hlq:decide (lv<=0)=false:=decide_eq_false (by omega);have fin:Hid (∀ w1 x1,uc7 w1 x1 ((0:Int):Rat)->Ext W w1->∃ bz Az nz cz Bz mz dz,x1=.agg #[.bool bz,.slice Az nz cz,.slice Bz mz dz]/\(w1.cell? ⟨w.heap.size+1,0,none⟩=some (.bool false)/\w1.cell? ⟨w.heap.size+1,1,none⟩=some (.slice none 0 0)/\w1.cell? ⟨w.heap.size+1,2,none⟩=some (.slice none 0 0))/\(∀ i,w1.frozen? ⟨w.heap.size+1,i,none⟩=false)/\vc6 ((0:Int):Rat) w (.returned (.agg #[.bool bz,.slice Az nz cz,.slice Bz mz dz])) (((w1.setCell ⟨w.heap.size+1,0,none⟩ (.bool bz)).setCell ⟨w.heap.size+1,1,none⟩ (.slice Az nz cz)).setCell ⟨w.heap.size+1,2,none⟩ (.slice Bz mz dz))):=by
  intro w1 x1 r1 y1;obtain ⟨bz,Az,nz,cz,Bz,mz,dz,rfl⟩:=r1.unpack;obtain ⟨⟨z0,z1,z2⟩,zf⟩:=HZ.out;have e1:∀ i,w1.cell? ⟨w.heap.size+1,i,none⟩=W.cell? ⟨w.heap.size+1,i,none⟩:=fun i=>y1.cell (p:=⟨w.heap.size+1,i,none⟩) (by show w.heap.size+1 < _; omega)
  have q0:=(e1 0).trans z0;have q1:=(e1 1).trans z1;have q2:=(e1 2).trans z2;exact ⟨bz,Az,nz,cz,Bz,mz,dz,rfl,⟨q0,q1,q2⟩,fun i=>(y1.frozen (p:=⟨w.heap.size+1,i,none⟩) (by show w.heap.size+1 < _; omega)).trans (zf i),yc7 (g:=w.heap.size+1) (HWX.out.trans y1) (by omega) q0 q1 q2 rfl rfl rfl r1⟩
 clear h hnat h4 hWx hpv
 by_cases h4':4 < lv
 · have hlq4:decide (lv > 4)=true:=decide_eq_true h4';go_enter Tryz.func41,Tryz.ntmps41;go_wp2_with fail;clear hW b0 b1 b2 b3;refine (gg5 0 _ (by omega) (by omega)).mono ?_;rintro e w1 ⟨x1,rfl,r1,y1⟩;obtain ⟨bz,Az,nz,cz,Bz,mz,dz,rfl,⟨q0,q1,q2⟩,qf,hf⟩:=fin.out w1 x1 r1 y1;have HF:=Lib.hid hf;clear hf r1 y1 fin HZ;go_wp2_with fail;exact bodyPost_ret (v:=.agg #[.bool bz,.slice Az nz cz,.slice Bz mz dz]) (by simp [results,Tryz.results41,go_sem,q0,q1,q2]) rfl HF.out
 · have hlq4:decide (lv > 4)=false:=decide_eq_false (by omega);obtain ⟨h0,hx,rfl⟩:0 < lv/\(xs.length:Int) < lv/\cs=[]:=hl.resolve_left h4';have hlqx:decide (lv > (xs.length:Int))=true:=decide_eq_true (by omega);rw [List.length_nil] at *;go_enter Tryz.func41,Tryz.ntmps41;go_wp2_with fail;clear hW b0 b1 b2 b3;refine (gg5 0 _ (by omega) (by omega)).mono ?_;rintro e w1 ⟨x1,rfl,r1,y1⟩;obtain ⟨bz,Az,nz,cz,Bz,mz,dz,rfl,⟨q0,q1,q2⟩,qf,hf⟩:=fin.out w1 x1 r1 y1;have HF:=Lib.hid hf;clear hf r1 y1 fin HZ;go_wp2_with fail;exact bodyPost_ret (v:=.agg #[.bool bz,.slice Az nz cz,.slice Bz mz dz]) (by simp [results,Tryz.results41,go_sem,q0,q1,q2]) rfl HF.out
theorem uh3 {w0 w:World} {q:Nat->Prop} {L n:Nat} {xv:Value} {xs:List Rat} (hxs:RsV w0 L xv xs) (ih:qhn w0 q L xv xs n) (p:Pl) (v:Value) (hn:p.sz < n+1) (heb:p.eb L<=1099511627776) (h:PlV w0 q p v) (hx0:Ext w0 w) (hl:0 < p.lv) (hl4:p.lv<=4) (hlx:(xs.length:Int) < p.lv) (hne:p.cs ≠ []):Calls Tryz.prog 41 #[v,xv] w (vc6 (p.val (rho xs)) w):=by
 obtain ⟨A0,n0,c0,A,c,rfl,hnat,hl1,hl2,h4⟩:=h.open_;obtain ⟨Ax,cx,rfl,-,-,-⟩:=hxs;obtain ⟨lv,ng,ds,cs⟩:=p;simp only [Pl.cs,Pl.ds,Pl.lv,Pl.neg,plV] at *;obtain ⟨ck,r,rfl⟩:=List.exists_cons_of_ne_nil hne;have hpv:(Pl.mk lv ng ds (ck :: r)).val (rho xs)=ck.val (rho xs):=by
  rw [Pl.val,if_neg (by omega),if_neg (by omega),zc3,xiz xs lv hlx,Rat.zero_mul,Rat.add_zero]
 have hszk:ck.sz < n:=by
  have h1:(Pl.mk lv ng ds (ck :: r)).sz=kc5 (ck :: r)+1:=by rw [Pl.sz]
  rw [kc5] at h1;omega
 have hebk:ck.eb L<=1099511627776:=by
  rw [Pl.eb,ydi] at heb; omega
 rw [hpv];obtain ⟨ad,B0,m0,d0,B1,m1,d1,rfl,hadb,hnd,hkt⟩:=kc3.kid h4 0 (by simp);simp only [List.getElem_cons_zero,Nat.zero_mul,show ad.add 0=ad by unfold Addr.add; simp] at hnd hkt;obtain ⟨W,hW⟩:=n_m ((w.alloc (.cells #[.int .i64 lv,.bool ng,.slice A0 n0 c0,.slice (some ad) (ck :: r).length c] 30)).alloc (.cells #[.bool false,.slice none 0 0,.slice none 0 0] 37));have hWx:Ext w W:=by rw [<- hW]; exact ((Ext.refl w).alloc _).alloc _
 have hWs:W.heap.size=w.heap.size+1+1:=by rw [<- hW]; simp
 obtain ⟨b0,b1,b2,b3⟩:yc3 W w.heap.size (.mk lv ng ds (ck :: r)) (.slice A0 n0 c0) (.slice (some ad) (ck :: r).length c):=by rw [<- hW]; exact (yc3.new w (.mk lv ng ds (ck :: r)) _ _ _).ext ((Ext.refl _).alloc _) (by simp)
 simp only [Pl.lv,Pl.neg] at b0 b1;have HZ:Hid ((W.cell? ⟨w.heap.size+1,0,none⟩=some (.bool false)/\W.cell? ⟨w.heap.size+1,1,none⟩=some (.slice none 0 0)/\W.cell? ⟨w.heap.size+1,2,none⟩=some (.slice none 0 0))/\∀ i,W.frozen? ⟨w.heap.size+1,i,none⟩=false):=by
  have:(W.cell? ⟨w.heap.size+1,0,none⟩=some (.bool false)/\W.cell? ⟨w.heap.size+1,1,none⟩=some (.slice none 0 0)/\W.cell? ⟨w.heap.size+1,2,none⟩=some (.slice none 0 0))/\∀ i,W.frozen? ⟨w.heap.size+1,i,none⟩=false:=by
   rw [<- hW]; refine ⟨⟨?_,?_,?_⟩,fun i=>?_⟩ <;> simp [go_sem]
  exact this
 have HWX:=Lib.hid hWx;have hlq:decide (lv<=0)=false:=decide_eq_false (by omega);have hlq4:decide (lv > 4)=false:=decide_eq_false (by omega);have hlqx:decide (lv > (xs.length:Int))=true:=decide_eq_true (by omega);obtain ⟨a0,a1,a2,a3⟩:=hnd.ext (hx0.trans hWx) hadb;have HC:=Lib.hid (ih ck _ W hszk hebk hkt (hx0.trans hWx));have hlen:(((ck :: r).length:Nat):Int)=((r.length:Nat):Int)+1:=by simp
 have hle:((((ck :: r).length:Nat):Int) == 0)=false:=by
  rw [Bool.eq_false_iff]; intro h; rw [beq_iff_eq] at h; omega
 clear h hnat h4 hWx hpv hnd hkt ih hlen;generalize (ck :: r).length=N at *;have hN:0 < N:=by
  rcases Nat.eq_zero_or_pos N with h | h
  · subst h; simp at hle
  · exact h
 generalize ck.val (rho xs)=kv at *;go_enter Tryz.func41,Tryz.ntmps41;go_wp2_with fail;clear hW b0 b1 b2 b3;refine HC.out.mono ?_;rintro e w1 ⟨x1,rfl,r1,y1⟩;obtain ⟨bz,Az,nz,cz,Bz,mz,dz,rfl⟩:=r1.unpack;obtain ⟨⟨z0,z1,z2⟩,zf⟩:=HZ.out;have e1:∀ i,w1.cell? ⟨w.heap.size+1,i,none⟩=W.cell? ⟨w.heap.size+1,i,none⟩:=fun i=>y1.cell (p:=⟨w.heap.size+1,i,none⟩) (by show w.heap.size+1 < _; omega)
 have q0:=(e1 0).trans z0;have q1:=(e1 1).trans z1;have q2:=(e1 2).trans z2;have qf:∀ i,w1.frozen? ⟨w.heap.size+1,i,none⟩=false:=fun i=>(y1.frozen (p:=⟨w.heap.size+1,i,none⟩) (by show w.heap.size+1 < _; omega)).trans (zf i)
 have HF:=Lib.hid (yc7 (g:=w.heap.size+1) (HWX.out.trans y1) (by omega) q0 q1 q2 rfl rfl rfl r1);clear e1 r1 y1 HZ z0 z1 z2 zf HC a0 a1 a2 a3;go_wp2_with fail;exact bodyPost_ret (v:=.agg #[.bool bz,.slice Az nz cz,.slice Bz mz dz]) (by simp [results,Tryz.results41,go_sem,q0,q1,q2]) rfl HF.out
theorem kiu {w0:World} {q:Nat->Prop} {L:Nat} {xv:Value} {xs:List Rat} (hL:1<=L) (hL2:L<=1099511627776) (hxs:RsV w0 L xv xs) (n:Nat):qhn w0 q L xv xs n:=by
 induction n with
 | zero=>intro p v w h; omega
 | succ n ih =>
   intro p v w hn heb h hx0
   by_cases h0:p.lv<=0
   · exact wib hxs p v heb h hx0 h0
   · by_cases h4:4 < p.lv
     · exact yhk hxs p v h hx0 (.inl h4)
     · by_cases hx:(xs.length:Int) < p.lv
       · by_cases hc:p.cs=[]
         · exact yhk hxs p v h hx0 (.inr ⟨by omega,hx,hc⟩)
         · exact uh3 hxs ih p v hn heb h hx0 (by omega) (by omega) hx hc
       · exact yhy hL hL2 hxs ih p v hn heb h hx0 (by omega) (by omega) (by omega)
theorem zil {w:World} {q:Nat->Prop} {L:Nat} {xv:Value} {xs:List Rat} (hL:1<=L) (hL2:L<=1099511627776) (hxs:RsV w L xv xs) (p:Pl) (v:Value) (heb:p.eb L<=1099511627776) (h:PlV w q p v):Calls Tryz.prog 41 #[v,xv] w (vc6 (p.val (rho xs)) w):=
 kiu hL hL2 hxs (p.sz+1) p v w (Nat.lt_succ_self _) heb h (Ext.refl w)
/- Layer 5: rational.Sign; layer 40: evaluate.At$1, Poly. -/
set_option maxRecDepth 100000
set_option maxHeartbeats 8000000
def sgQ (q:Rat):Int:=vg2 q 0
theorem uif {n:Int} {d:Nat} (h:0 < d):sgQ (mkRat n d)=sgI n:=by
 have:=whk (n1:=n) (d1:=d) (n2:=0) (d2:=1) h (by omega);unfold sgQ sgI;rw [show (mkRat 0 1:Rat)=0 by decide] at this;rw [<- this];simp
theorem xig (v:Value) (q:Rat) (L:Nat) (w:World) (h:wc7 w v q L) (hL:1<=L):Calls Tryz.prog 40 #[v] w (vc5 (sgQ q) w):=by
 have H:=Lib.hid h;obtain ⟨neg,s1,s2,ds,es,rfl,⟨A,c,rfl,-,-,-⟩,⟨B,b,rfl,-,-,-⟩,-⟩:=h;go_enter Tryz.func40,Tryz.ntmps40;go_wp2_with fail;refine (gdc _ q L _ (H.out.ext ((Ext.refl w).alloc _)) hL).mono ?_;rintro e w1 ⟨xn,xd,n1,d1,rfl,in1,id1,hd1,hq1,y1⟩;obtain ⟨b5,A5,n5,c5,rfl⟩:=in1.unpack;obtain ⟨b6,A6,n6,c6,rfl⟩:=id1.unpack;have HQ:Hid (sgQ q=sgI n1):=by
  have:sgQ q=sgI n1:=by rw [hq1,uif hd1]
  exact this
 have Y1:=Lib.hid (Ext.trans ((Ext.refl w).alloc _) y1);have IN1:=Lib.hid in1;clear hd1 hq1 y1 in1 id1;go_wp2_with fail;refine (wgr _ n1 L _ (IN1.out.ext (((Ext.refl w1).alloc _).alloc _))).mono ?_;rintro e w2 ⟨rfl,x2⟩;have X2:=Lib.hid (((Y1.out.alloc _).alloc _).trans x2);clear x2;go_wp2_with fail;go_ret;exact ⟨by rw [HQ.out]; rfl,X2.out⟩
theorem vi4 {w:World} {q:Nat->Prop} {L:Nat} {xv:Value} {xs:List Rat} {B:Nat} (hL:1<=L) (hL2:L<=1099511627776) (hB:w.cell? ⟨B,0,none⟩=some xv) (hBl:B < w.heap.size) (hxs:RsV w L xv xs) (p:Pl) (v:Value) (heb:p.eb L<=1099511627776) (h:PlV w q p v) :
 Calls Tryz.prog 39 #[v,.pointer (some ⟨B,0,none⟩)] w (vc5 (sgQ (p.val (rho xs))) w):=by
 have HH:=Lib.hid h;have HXS:=Lib.hid hxs;obtain ⟨A0,n0,c0,A,c,rfl,hnat,hl1,hl2,h4⟩:=h.open_;obtain ⟨XA,Xc,rfl,-⟩:=id hxs;obtain ⟨W,hW⟩:=n_m (w.alloc (.cells #[.int .i64 p.lv,.bool p.neg,.slice A0 n0 c0,.slice A p.cs.length c] 30));have hWx:Ext w W:=by rw [<- hW]; exact (Ext.refl w).alloc _
 have hb:W.cell? ⟨B,0,none⟩=some (.slice XA xs.length Xc):=(hWx.cell (p:=⟨B,0,none⟩) hBl).trans hB;obtain ⟨b0,b1,b2,b3⟩:yc3 W w.heap.size p (.slice A0 n0 c0) (.slice A p.cs.length c):=by rw [<- hW]; exact yc3.new w p _ _ _
 have HWX:=Lib.hid hWx;have HC:=Lib.hid (zil hL hL2 (HXS.out.ext hWx) p _ heb (HH.out.ext hWx));clear h hnat h4 hWx hxs hB;unfold plV at HC;generalize p.val (rho xs)=qq at *;unfold plV;go_enter Tryz.func39,Tryz.ntmps39;go_wp2_with fail;clear hW b0 b1 b2 b3 hb;refine HC.out.mono ?_;rintro e w1 ⟨v1,rfl,m1,x1⟩;obtain ⟨bq,A1,n1,c1,B1,k1,d1,rfl⟩:=m1.unpack;have hraw:=m1.raw;have hr:1<=rlen qq:=by
  have:=uc8 qq;omega
 have HS:=Lib.hid (xig _ qq _ w1 hraw hr);have X1:=Lib.hid (HWX.out.trans x1);clear m1 x1 hraw hr HC;go_wp2_with fail;refine HS.out.mono ?_;rintro e w2 ⟨rfl,x2⟩;have X2:=Lib.hid (X1.out.trans x2);clear x2;go_wp2_with fail;go_ret;exact ⟨rfl,X2.out⟩
/- Layer 32: a frame's Sign at rational coordinates. -/
set_option maxRecDepth 100000
set_option maxHeartbeats 8000000
theorem yi6 {p:Pl} (h:p.lv=0) (ρ:Int->Rat):p.val ρ=((p.z:Int):Rat):=by
 cases p with
 | mk l n d cs =>
   have h':l=0:=h;subst h';rw [Pl.val,if_pos (Int.le_refl _)]
   rfl
theorem yik {w:World} {base F L D:Nat} {xs:List Rat} {va vd vt vl:Value} {nd nt nl:Nat} {q:Nat->Prop} (p:Pl) (v:Value) (hf:ydc base F w xs va vd vt vl nd nt nl) (hn:xs.length<=4) (h1:1<=L) (hL:L<=1000000) (hxl:∀ x ∈ xs,rlen x<=L) (hp:Fit p 40 D) (hD:D<=1000000000) (hlv:p.lv<=xs.length) (h:PlV w q p v) :
 Calls Tryz.prog 35 #[.pointer (some ⟨F,0,none⟩),v] w (vc5 (sgI (xc9 xs p xs.length).z) w):=by
 have HF:=Lib.hid hf;have HP:=Lib.hid h;have hpw:PlV w (fun b=>b < w.heap.size) p v:=PlV.turn_ (Nat.le_refl _) (fun _ _ h=>h) (fun b hb _=>⟨hb,rfl⟩) h;have HINS:=Lib.hid (fun (W':World) (hx:Ext w W')=>zib (q:=fun b=>b < w.heap.size) p v (hf.ext hx) hn h1 hL hxl hp hD (hpw.ext hx));have hc0:=qhj (xs:=xs) hp.can hn hlv;have hcan:=xgv (xs:=xs) hp.can xs.length;have hfit:=qg8 (xs:=xs) (L:=L) hxl h1 hp xs.length;have hDk:D+L * 40 * xs.length<=10000000000:=by
  have:L * 40 * xs.length<=L * 40 * 4:=Nat.mul_le_mul_left _ hn;omega
 obtain ⟨A0,n0,c0,A,c,rfl,-,-,-,-⟩:=h.open_;generalize xc9 xs p xs.length=r at *;have hrz:r.sz<=1073741824:=by
  have h0:r.sz<=3111696:=hfit.sz;omega
 have HCON:=Lib.hid (fun (W':World) (v:Value) (hv:PlV W' (fun _=>True) r v)=>zhz (E:=40) (D:=D+L * 40 * xs.length) r v hv hrz (by have:=hfit.dm; omega) (by rw [Pl.nf_of_can hcan]; exact hfit) (by omega));rw [Pl.nf_of_can hcan,if_pos hc0,show decide (r.lv=0)=true from decide_eq_true hc0] at HCON;clear h hf hp hxl hfit hDk hc0 hcan hpw;generalize r.z=z at *;obtain ⟨W,hW⟩:=n_m (w.alloc (.cells #[.int .i64 p.lv,.bool p.neg,.slice A0 n0 c0,.slice A p.cs.length c] 30));have hWx:Ext w W:=by rw [<- hW]; exact (Ext.refl w).alloc _
 have hWs:W.heap.size=w.heap.size+1:=by rw [<- hW]; simp
 have hbx:yc3 W w.heap.size p (.slice A0 n0 c0) (.slice A p.cs.length c):=by rw [<- hW]; exact yc3.new w p _ _ _
 have hfr:∀ i,W.frozen? ⟨w.heap.size,i,none⟩=false:=fun i=>by
  have hb:W.heap[w.heap.size]?=some (.cells #[.int .i64 p.lv,.bool p.neg,.slice A0 n0 c0,.slice A p.cs.length c] 30 (0,0)):=by rw [<- hW]; exact heap_alloc_new w _
  simp [World.frozen?,hb]
 have HBX:=Lib.hid hbx;have HFR:=Lib.hid hfr;have HWX:=Lib.hid hWx;clear hbx hfr hWx HP;unfold plV;unfold plV at HINS;go_enter Tryz.func35,Tryz.ntmps35;go_wp2_with fail;clear hW
 go_loopw [5] (fun sv wr=>sv=.bool false/\Hid (wr=W)) (fun _ _=>0)
 case atStart=>exact ⟨rfl,Lib.hid rfl⟩
 case round =>
  obtain ⟨rfl,hwr⟩:=hrel;obtain rfl:=hwr.out;clear hwr;obtain ⟨b0,b1,b2,b3⟩:=HBX.out;go_wp2_with fail;clear b0 b1 b2 b3;refine (HINS.out _ HWX.out).mono ?_;rintro e w1 ⟨v1,rfl,hp1,x1⟩;obtain ⟨Q0,i0,j0,Q1,j1,rfl,-,-,-,-⟩:=hp1.open_;have hs1:=x1.size;have HX1:=Lib.hid (HWX.out.trans x1);have hfr1:∀ i,w1.frozen? ⟨w.heap.size,i,none⟩=false:=fun i=>(x1.frozen (p:=⟨w.heap.size,i,none⟩) (by show w.heap.size < _; omega)).trans (HFR.out i)
  have g0:=hfr1 0;have g1:=hfr1 1;have g2:=hfr1 2;have g3:=hfr1 3;have hb1:=HBX.out.ext x1 (by omega);obtain ⟨V,hV⟩:=n_m (((((w1.setCell ⟨w.heap.size,0,none⟩ (.int .i64 r.lv)).setCell ⟨w.heap.size,1,none⟩ (.bool r.neg)).setCell ⟨w.heap.size,2,none⟩ (.slice Q0 i0 j0)).setCell ⟨w.heap.size,3,none⟩ (.slice Q1 r.cs.length j1)));have hbv:yc3 V w.heap.size r (.slice Q0 i0 j0) (.slice Q1 r.cs.length j1):=by rw [<- hV]; exact hb1.set
  have hg:w.heap.size<=w.heap.size:=Nat.le_refl _;have HXV:Hid (Ext w V):=Lib.hid (by rw [<- hV]; exact (((HX1.out.setCell hg _).setCell hg _).setCell hg _).setCell hg _);have HPV:Hid (PlV V (fun _=>True) r (plV r (.slice Q0 i0 j0) (.slice Q1 r.cs.length j1))):=Lib.hid (by
   rw [<- hV]
   exact hb1.keep _ _ _ _ hp1 (fun b _ hb=>⟨by rcases hb with h | h <;> omega,trivial⟩))
  obtain ⟨b0,b1,b2,b3⟩:=hb1;have HC:=Lib.hid (HCON.out V _ HPV.out);have HBV:=Lib.hid hbv;clear x1 hp1 hfr1 hbv HPV HCON HINS;unfold plV;unfold plV at HC;go_upto_region 3 with fail
  try rw [hV]
  clear hV b0 b1 b2 b3 g0 g1 g2 g3;obtain ⟨b0,b1,b2,b3⟩:=HBV.out;go_wp2_with fail;clear b0 b1 b2 b3;refine HC.out.mono ?_;rintro e w2 ⟨v2,rfl,hz2,x2⟩;obtain ⟨y2,rfl,hn2⟩:=id hz2;obtain ⟨N2,cn2,rfl,-,-,-⟩:=id hn2;have hxa:Ext w2 (w2.alloc (.cells #[.bool (decide (z < 0)),.slice N2 (dg z.natAbs).length cn2] 27)):=(Ext.refl w2).alloc _;have HSG:=Lib.hid (wgr _ z _ _ (hz2.ext hxa).raw);have HX2:=Lib.hid ((HXV.out.trans x2).trans hxa);clear x2 hz2 hn2 hxa HC;obtain ⟨ln,hln⟩:=n_m ((dg z.natAbs).length);rw [hln] at HSG HX2 ⊢;obtain ⟨sb,hsb⟩:=n_m (decide (z < 0));rw [hsb] at HSG HX2 ⊢;clear hln hsb;go_wp2_with fail;refine HSG.out.mono ?_;rintro e w4 ⟨rfl,x4⟩;have X4:=Lib.hid (HX2.out.trans x4);clear x4 HSG;go_wp2_with fail;go_ret;exact ⟨rfl,X4.out⟩
end Go.Proofs.YtopddaabiinboaaGreat
