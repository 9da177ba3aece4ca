/- Layer 22: recpoly.Eval. -/
import Derived.Test.YtheefiaoimbeiaaGreatDoorMt24
import Derived.Deep.RegionLawGrows
import Derived.Test.YtheefiaoimbeiaaGreatDoorMt9
set_option linter.unusedSimpArgs false
set_option linter.unusedVariables false
set_option maxRecDepth 100000
set_option maxHeartbeats 8000000
namespace Go.Proofs.YtheefiaoimbeiaaGreatDoor
open Go.RowKit
def ua1 (w:World) (g gs:Nat) (p:Pl) (s A:Value) (ρ:Int->Rat) (m:Nat) (wr:World):Prop:=
 Ext w wr/\ql wr g p s A/\(∃ b A1 n1 c1 A2 n2 c2,wr.cell? ⟨gs,0,none⟩=some (.bool b)/\wr.cell? ⟨gs,1,none⟩=some (.slice A1 n1 c1)/\wr.cell? ⟨gs,2,none⟩=some (.slice A2 n2 c2)/\xam wr (.agg #[.bool b,.slice A1 n1 c1,.slice A2 n2 c2]) (uf ρ p.lv (p.cs.drop m)))/\(∀ i,wr.frozen? ⟨gs,i,none⟩=false)/\gs < wr.heap.size/\w.heap.size<=g/\g < gs
theorem ua1.store {w wr w2:World} {g gs:Nat} {p:Pl} {s A:Value} {ρ:Int->Rat} {m m':Nat} (h:ua1 w g gs p s A ρ m wr) (hx:Ext wr w2) {b:Bool} {A1 A2:Option Addr} {n1 c1 n2 c2:Nat} (hr:xam w2 (.agg #[.bool b,.slice A1 n1 c1,.slice A2 n2 c2]) (uf ρ p.lv (p.cs.drop m'))) :
 ua1 w g gs p s A ρ m' (((w2.setCell ⟨gs,0,none⟩ (.bool b)).setCell ⟨gs,1,none⟩ (.slice A1 n1 c1)).setCell ⟨gs,2,none⟩ (.slice A2 n2 c2)):=by
 obtain ⟨h1,h2,⟨b',B1,m1,d1,B2,m2,d2,k0,k1,k2,-⟩,h4,h5,h6,h7⟩:=h;have e:∀ i,w2.cell? ⟨gs,i,none⟩=wr.cell? ⟨gs,i,none⟩:=fun i=>hx.cell (p:=⟨gs,i,none⟩) h5
 have k0':=(e 0).trans k0;have k1':=(e 1).trans k1;have k2':=(e 2).trans k2;have q1:(w2.setCell ⟨gs,0,none⟩ (.bool b)).cell? ⟨gs,1,none⟩=some (.slice B1 m1 d1):=by rw [World.cell?_setCell_other _ _ _ _ (by simp)]; exact k1'
 have q2:((w2.setCell ⟨gs,0,none⟩ (.bool b)).setCell ⟨gs,1,none⟩ (.slice A1 n1 c1)).cell? ⟨gs,2,none⟩=some (.slice B2 m2 d2):=by rw [World.cell?_setCell_other _ _ _ _ (by simp),World.cell?_setCell_other _ _ _ _ (by simp)]; exact k2'
 have hgs:w.heap.size<=gs:=by omega
 refine ⟨(((h1.trans hx).setCell hgs _).setCell hgs _).setCell hgs _,h2.turn ?_,⟨b,A1,n1,c1,A2,n2,c2,?_,?_,?_,((hr.box k0' rfl _).box q1 rfl _).box q2 rfl _⟩,fun i=>?_,?_,h6,h7⟩
 · rw [Below.heap_setCell _ _ _ g (by show g ≠ gs; omega),Below.heap_setCell _ _ _ g (by show g ≠ gs; omega),Below.heap_setCell _ _ _ g (by show g ≠ gs; omega)];exact hx.below.block g (by omega)
 · rw [World.cell?_setCell_other _ _ _ _ (by simp),World.cell?_setCell_other _ _ _ _ (by simp)]; exact World.cell?_setCell_same _ _ _ k0'
 · rw [World.cell?_setCell_other _ _ _ _ (by simp)]; exact World.cell?_setCell_same _ _ _ q1
 · exact World.cell?_setCell_same _ _ _ q2
 · rw [World.frozen?_setCell,World.frozen?_setCell,World.frozen?_setCell]; exact (hx.frozen (p:=⟨gs,i,none⟩) h5).trans (h4 i)
 · have:=hx.size;simp only [World.setCell,Array.size_modify]; omega
def wbb (w0:World) (q:Nat->Prop) (L:Nat) (xv:Value) (xs:List Rat) (n:Nat):Prop:=∀ (p:Pl) (v:Value) (w:World),p.sz < n ->  p.eb L<=1099511627776->PlV w0 q p v->Ext w0 w->Calls Tryz.prog 39 #[v,xv] w (jae (p.val (rho xs)) w)
theorem ybz {w0 w:World} {q:Nat->Prop} {L:Nat} {xv:Value} {xs:List Rat} (hxs:RsV w0 L xv xs) (p:Pl) (v:Value) (heb:p.eb L<=1099511627776) (h:PlV w0 q p v) (hx0:Ext w0 w) (hl:p.lv<=0):Calls Tryz.prog 39 #[v,xv] w (jae (p.val (rho xs)) w):=by
 obtain ⟨A0,n0,c0,A,c,rfl,hnat,hl1,hl2,h4⟩:=h.open_;obtain ⟨Ax,cx,rfl,-,-,-⟩:=hxs;obtain ⟨lv,ng,ds,cs⟩:=p;simp only [Pl.cs,Pl.ds,Pl.lv,Pl.neg,plV] at *;have hdl:ds.length<=1099511627776:=by rw [Pl.eb] at heb; omega
 have hpv:(Pl.mk lv ng ds cs).val (rho xs)=((sgn ng (val ds):Int):Rat):=by rw [Pl.val,if_pos hl]
 rw [hpv];obtain ⟨W,hW⟩:=n_m ((w.alloc (.cells #[.int .i64 lv,.bool ng,.slice A0 n0 c0,.slice A cs.length c] 44)).alloc (.cells #[.bool false,.slice none 0 0,.slice none 0 0] 59));have hWx:Ext w W:=by rw [<- hW]; exact ((Ext.refl w).alloc _).alloc _
 have hWs:W.heap.size=w.heap.size+1+1:=by rw [<- hW]; simp
 obtain ⟨b0,b1,b2,b3⟩:ql W w.heap.size (.mk lv ng ds cs) (.slice A0 n0 c0) (.slice A cs.length c):=by rw [<- hW]; exact (ql.new w (.mk lv ng ds cs) _ _ _).ext ((Ext.refl _).alloc _) (by simp)
 simp only [Pl.lv,Pl.neg] at b0 b1;have HZ:Hid ((W.cell? ⟨w.heap.size+1,0,none⟩=some (.bool false)/\W.cell? ⟨w.heap.size+1,1,none⟩=some (.slice none 0 0)/\W.cell? ⟨w.heap.size+1,2,none⟩=some (.slice none 0 0))/\∀ i,W.frozen? ⟨w.heap.size+1,i,none⟩=false):=by
  have:(W.cell? ⟨w.heap.size+1,0,none⟩=some (.bool false)/\W.cell? ⟨w.heap.size+1,1,none⟩=some (.slice none 0 0)/\W.cell? ⟨w.heap.size+1,2,none⟩=some (.slice none 0 0))/\∀ i,W.frozen? ⟨w.heap.size+1,i,none⟩=false:=by
   rw [<- hW]; refine ⟨⟨?_,?_,?_⟩,fun i=>?_⟩ <;> simp [go_sem]
  exact this
 have HI:Hid (jg W (.agg #[.bool ng,.slice A0 n0 c0]) (sgn ng (val ds)) ds.length):=⟨ng,_,ds,rfl,hnat.ext (hx0.trans hWx),rfl,Nat.le_refl _⟩;have HWX:=Lib.hid hWx;have hlq:decide (lv<=0)=true:=decide_eq_true hl;clear h hnat h4 hWx heb hpv;go_enter Tryz.func39,Tryz.ntmps39;go_wp2_with fail;clear hW b0 b1 b2 b3;refine (qa6 _ _ _ _ HI.out (by omega)).mono ?_;rintro e w1 ⟨x1,rfl,r1,y1⟩;obtain ⟨bz,Az,nz,cz,Bz,mz,dz,rfl⟩:=r1.unpack;obtain ⟨⟨z0,z1,z2⟩,zf⟩:=HZ.out;have e1:∀ i,w1.cell? ⟨w.heap.size+1,i,none⟩=W.cell? ⟨w.heap.size+1,i,none⟩:=fun i=>y1.cell (p:=⟨w.heap.size+1,i,none⟩) (by show w.heap.size+1 < _; omega)
 have q0:=(e1 0).trans z0;have q1:=(e1 1).trans z1;have q2:=(e1 2).trans z2;have qf:∀ i,w1.frozen? ⟨w.heap.size+1,i,none⟩=false:=fun i=>(y1.frozen (p:=⟨w.heap.size+1,i,none⟩) (by show w.heap.size+1 < _; omega)).trans (zf i)
 have HF:=Lib.hid (qaf (g:=w.heap.size+1) (HWX.out.trans y1) (by omega) q0 q1 q2 rfl rfl rfl r1);clear e1 r1 y1 HI HZ z0 z1 z2 zf;go_wp2_with fail;exact bodyPost_ret (v:=.agg #[.bool bz,.slice Az nz cz,.slice Bz mz dz]) (by simp [results,Tryz.results39,go_sem,q0,q1,q2]) rfl HF.out
theorem ybm {w0 w:World} {q:Nat->Prop} {L n:Nat} {xv:Value} {xs:List Rat} (hL:1<=L) (hL2:L<=1099511627776) (hxs:RsV w0 L xv xs) (ih:wbb w0 q L xv xs n) (p:Pl) (v:Value) (hn:p.sz < n+1) (heb:p.eb L<=1099511627776) (h:PlV w0 q p v) (hx0:Ext w0 w) (hl:0 < p.lv) (hl4:p.lv<=4) (hlx:p.lv<=xs.length):Calls Tryz.prog 39 #[v,xv] w (jae (p.val (rho xs)) w):=by
 have hdig:=h.dig;obtain ⟨A0,n0,c0,A,c,rfl,hnat,hl1,hl2,h4⟩:=h.open_;have hrho:=fun i=>jcn hL hxs i
 have HXS:=Lib.hid hxs;obtain ⟨Ax,cx,rfl,hxl1,hxl2,hxa⟩:=hxs;have HXA:=Lib.hid hxa;obtain ⟨lv,ng,ds,cs⟩:=p;simp only [Pl.cs,Pl.ds,Pl.lv,Pl.neg,plV] at *;have hpv:(Pl.mk lv ng ds cs).val (rho xs)=uf (rho xs) lv cs:=by rw [Pl.val,if_neg (by omega),if_neg (by omega)]
 have hszp:(Pl.mk lv ng ds cs).sz=wad cs+1:=by rw [Pl.sz]
 have hebp:qah L cs+1<=(Pl.mk lv ng ds cs).eb L:=by rw [Pl.eb]; omega
 rw [Pl.dig] at hdig;rw [hpv];have HARG:Hid (∀ k (hk:k < cs.length),cs[k].sz < n /\  cs[k].eb L<=1099511627776/\jr (uf (rho xs) lv (cs.drop (k+1)))<=1099511627776/\jr (cs[k].val (rho xs))<=1099511627776/\uf (rho xs) lv (cs.drop k)=uf (rho xs) lv (cs.drop (k+1)) * rho xs lv+cs[k].val (rho xs)):=by
  have:∀ k (hk:k < cs.length),cs[k].sz < n /\  cs[k].eb L<=1099511627776/\jr (uf (rho xs) lv (cs.drop (k+1)))<=1099511627776/\jr (cs[k].val (rho xs))<=1099511627776/\uf (rho xs) lv (cs.drop k)=uf (rho xs) lv (cs.drop (k+1)) * rho xs lv+cs[k].val (rho xs):=fun k hk=>by
   have h1:=vax (List.getElem_mem hk);have h2:=vce L (List.getElem_mem hk);have h3:=kax (rho xs) L hrho lv (cs.drop (k+1)) (ubw hdig.2 _);have h4:=ucn L cs (k+1);have h5:=Pl.val_rlen (rho xs) L hrho cs[k] (jb4 hdig.2 (List.getElem_mem hk));refine ⟨by omega,  by omega,by omega,by omega,?_⟩;rw [vbw (rho xs) lv cs k hk,Rat.mul_comm (rho xs lv),Rat.add_comm]
  exact this
 obtain ⟨lx,hlx1⟩:∃ lx:Nat,lv=(lx:Int)+1:=⟨(lv - 1).toNat,by omega⟩;have hlxl:lx < xs.length:=by omega
 have HRX:Hid (rho xs lv=xs[lx]):=by
  have:rho xs lv=xs[lx]:=by
   unfold rho;rw [show (lv - 1).toNat=lx by omega,List.getD_eq_getElem?_getD,List.getElem?_eq_getElem hlxl]; rfl
  exact this
 have HRL:Hid (∀ i,jr (rho xs i)<=L):=hrho;obtain ⟨adx,bx,X1,xn1,xc1,X2,xn2,xc2,rfl,hadx,hxc,hxr⟩:=hxa lx hlxl;have HXC:=Lib.hid hxc;have HXR:=Lib.hid hxr;have hwx:IntKind.i64.wrap (lv - 1)=lx:=by rw [IntKind.wrap_i64]; omega
 have hlq:decide (lv<=0)=false:=decide_eq_false (by omega);have hlq4:decide (lv > 4)=false:=decide_eq_false (by omega);have hlqx:decide (lv > (xs.length:Int))=false:=decide_eq_false (by omega);obtain ⟨W,hW⟩:=n_m ((w.alloc (.cells #[.int .i64 lv,.bool ng,.slice A0 n0 c0,.slice A cs.length c] 44)).alloc (.cells #[.bool false,.slice none 0 0,.slice none 0 0] 59));have hWx:Ext w W:=by rw [<- hW]; exact ((Ext.refl w).alloc _).alloc _
 have hWs:W.heap.size=w.heap.size+1+1:=by rw [<- hW]; simp
 have hbx:ql W w.heap.size (.mk lv ng ds cs) (.slice A0 n0 c0) (.slice A cs.length c):=by rw [<- hW]; exact (ql.new w (.mk lv ng ds cs) _ _ _).ext ((Ext.refl _).alloc _) (by simp)
 have HZ:Hid ((W.cell? ⟨w.heap.size+1,0,none⟩=some (.bool false)/\W.cell? ⟨w.heap.size+1,1,none⟩=some (.slice none 0 0)/\W.cell? ⟨w.heap.size+1,2,none⟩=some (.slice none 0 0))/\∀ i,W.frozen? ⟨w.heap.size+1,i,none⟩=false):=by
  have:(W.cell? ⟨w.heap.size+1,0,none⟩=some (.bool false)/\W.cell? ⟨w.heap.size+1,1,none⟩=some (.slice none 0 0)/\W.cell? ⟨w.heap.size+1,2,none⟩=some (.slice none 0 0))/\∀ i,W.frozen? ⟨w.heap.size+1,i,none⟩=false:=by
   rw [<- hW]; refine ⟨⟨?_,?_,?_⟩,fun i=>?_⟩ <;> simp [go_sem]
  exact this
 obtain ⟨b0,b1,b2,b3⟩:=id hbx;simp only [Pl.lv,Pl.neg] at b0 b1;have HBX:=Lib.hid hbx;have HWX:=Lib.hid hWx;have H4:=Lib.hid h4;have HX0:=Lib.hid hx0;have IH:=Lib.hid ih;have HLV:=Lib.hid hlx1;clear h hnat h4 hWx heb hpv hebp hszp hdig hrho hxa hxc hxr hbx ih hx0 hlx1 hn;go_enter Tryz.func39,Tryz.ntmps39;go_wp2_with fail;clear hW b0 b1 b2 b3;refine (xbk 0 _ (by omega) (by omega)).mono ?_;rintro e w1 ⟨x1,rfl,r1,y1⟩;obtain ⟨bz,Az,nz,cz,Bz,mz,dz,rfl⟩:=r1.unpack;have hs1:=y1.size;obtain ⟨W2,hW2⟩:=n_m (w1.alloc (.cells #[.bool bz,.slice Az nz cz,.slice Bz mz dz] 59));have hx2:Ext w1 W2:=by rw [<- hW2]; exact (Ext.refl _).alloc _
 have HI0:Hid (ua1 w w.heap.size w1.heap.size (.mk lv ng ds cs) (.slice A0 n0 c0) (.slice A cs.length c) (rho xs) cs.length W2):=by
  refine ⟨(HWX.out.trans y1).trans hx2,HBX.out.ext (y1.trans hx2) (by omega),⟨bz,Az,nz,cz,Bz,mz,dz,?_,?_,?_,?_⟩,fun i=>?_,?_,Nat.le_refl _,by omega⟩
  · rw [<- hW2]; simp [go_sem]
  · rw [<- hW2]; simp [go_sem]
  · rw [<- hW2]; simp [go_sem]
  · simp only [Pl.cs,Pl.lv,List.drop_length,uf]; exact r1.ext hx2
  · rw [<- hW2]; simp [go_sem]
  · rw [<- hW2]; simp
 obtain ⟨a0,a1,a2,a3⟩:=(HBX.out.ext (y1.trans hx2) (by omega));simp only [Pl.lv,Pl.neg] at a0 a1;have hwn:IntKind.i64.wrap ((cs.length:Int) - 1)=(cs.length:Int) - 1:=by rw [IntKind.wrap_i64]; omega
 have HSZ2:Hid (w.heap.size+1 < w1.heap.size):=by
  have:w.heap.size+1 < w1.heap.size:=by omega
  exact this
 have HZ2:Hid ((W2.cell? ⟨w.heap.size+1,0,none⟩=some (.bool false)/\W2.cell? ⟨w.heap.size+1,1,none⟩=some (.slice none 0 0)/\W2.cell? ⟨w.heap.size+1,2,none⟩=some (.slice none 0 0))/\∀ i,W2.frozen? ⟨w.heap.size+1,i,none⟩=false):=by
  obtain ⟨⟨z0,z1,z2⟩,zf⟩:=HZ.out;have e1:∀ i,W2.cell? ⟨w.heap.size+1,i,none⟩=W.cell? ⟨w.heap.size+1,i,none⟩:=fun i=>(y1.trans hx2).cell (p:=⟨w.heap.size+1,i,none⟩) (by show w.heap.size+1 < _; omega)
  exact ⟨⟨(e1 0).trans z0,(e1 1).trans z1,(e1 2).trans z2⟩,fun i=>((y1.trans hx2).frozen (p:=⟨w.heap.size+1,i,none⟩) (by show w.heap.size+1 < _; omega)).trans (zf i)⟩
 clear r1 y1 hx2;go_wp2_with fail;clear hW2 a0 a1 a2 a3
 go_loopw [6] (fun iv wr=>∃ m:Nat,m<=cs.length/\iv=.int .i64 ((m:Int) - 1)/\Hid (ua1 w w.heap.size w1.heap.size (.mk lv ng ds cs) (.slice A0 n0 c0) (.slice A cs.length c) (rho xs) m wr/\(∀ i,wr.cell? ⟨w.heap.size+1,i,none⟩=W2.cell? ⟨w.heap.size+1,i,none⟩)/\(∀ i,wr.frozen? ⟨w.heap.size+1,i,none⟩=false))) (fun iv _=>(intOf iv+1).toNat)
 case atStart=>exact ⟨cs.length,Nat.le_refl _,rfl,HI0,fun _=>rfl,HZ2.out.2⟩
 case round =>
  obtain ⟨m,hm,rfl,⟨HI,hzc,hzf⟩⟩:=hrel;obtain ⟨hx,⟨b0,b1,b2,b3⟩,⟨sb,S1,sn1,sc1,S2,sn2,sc2,s0,s1,s2,hsr⟩,hsf,hgs,hg1,hg2⟩:=id HI;have HIV:=Lib.hid HI;have HZC:=Lib.hid hzc;have HZF:=Lib.hid hzf;simp only [Pl.lv,Pl.neg] at b0 b1
  by_cases hm0:m=0
  · subst hm0;obtain ⟨⟨z0,z1,z2⟩,-⟩:=HZ2.out;have q0:=(hzc 0).trans z0;have q1:=(hzc 1).trans z1;have q2:=(hzc 2).trans z2;simp only [Pl.lv,Pl.cs,List.drop_zero] at hsr;have HF:=Lib.hid (qaf (g:=w.heap.size+1) hx (by omega) q0 q1 q2 rfl rfl rfl hsr);clear hx hsr HIV HI HI0 hzc z0 z1 z2;go_wp2_with fail;exact bodyPost_ret (v:=.agg #[.bool sb,.slice S1 sn1 sc1,.slice S2 sn2 sc2]) (by simp [results,Tryz.results39,go_sem,q0,q1,q2]) rfl HF.out
  · obtain ⟨k,hk⟩:∃ k,m=k+1:=⟨m - 1,by omega⟩;have hmk:((m:Int) - 1)=k:=by omega
    rw [hmk];have hkl:k < cs.length:=by omega
    subst hk;obtain ⟨ad,B0,m0,d0,B1,m1,d1,rfl,hadb,hnd,hkt⟩:=jf.kid H4.out k hkl;have hxx:Ext w0 wr:=HX0.out.trans hx;obtain ⟨g1,  g2,g4,g5,g6⟩:=HARG.out k hkl;have hadr:ad.block < wr.heap.size:=by have:=hxx.size; omega
    have hadxr:adx.block < wr.heap.size:=by have:=hxx.size; omega
    have hbxr:w.heap.size < wr.heap.size:=by omega
    have hnd':=hnd.ext hxx (by rw [jb]; exact hadb);obtain ⟨k0,k1,k2⟩:=HXC.out;have hbk:(adx.add (lx * 3)).block < w0.heap.size:=by rw [jb]; exact hadx
    have k0':=(hxx.cell hbk).trans k0;have k1':=(hxx.cell (p:=⟨(adx.add (lx * 3)).block,(adx.add (lx * 3)).off+1,none⟩) hbk).trans k1;have k2':=(hxx.cell (p:=⟨(adx.add (lx * 3)).block,(adx.add (lx * 3)).off+2,none⟩) hbk).trans k2;have hadw:ad.block < w.heap.size:=by have:=HX0.out.size; omega
    have hadxw:adx.block < w.heap.size:=by have:=HX0.out.size; omega
    have SS:Hid (∀ W',Ext wr W'->(Ext w W'/\W'.cell? ⟨w.heap.size,0,none⟩=some (.int .i64 lv)/\W'.cell? ⟨w.heap.size,3,none⟩=some (.slice (some ad) cs.length c)/\W'.cell? (adx.add (lx * 3))=some (.bool bx)/\W'.cell? ⟨(adx.add (lx * 3)).block,(adx.add (lx * 3)).off+1,none⟩=some (.slice X1 xn1 xc1)/\W'.cell? ⟨(adx.add (lx * 3)).block,(adx.add (lx * 3)).off+2,none⟩=some (.slice X2 xn2 xc2)/\W'.cell? (ad.add (k * 4))=some (.int .i64 cs[k].lv)/\W'.cell? ⟨(ad.add (k * 4)).block,(ad.add (k * 4)).off+1,none⟩=some (.bool cs[k].neg)/\W'.cell? ⟨(ad.add (k * 4)).block,(ad.add (k * 4)).off+2,none⟩=some (.slice B0 m0 d0)/\W'.cell? ⟨(ad.add (k * 4)).block,(ad.add (k * 4)).off+3,none⟩=some (.slice B1 m1 d1))):=by
     intro W' hx';have hbk':(adx.add (lx * 3)).block < wr.heap.size:=by rw [jb]; exact hadxr
     obtain ⟨a0,a1,a2,a3⟩:=hnd'.ext hx' (by rw [jb]; exact hadr);exact ⟨hx.trans hx',(hx'.cell (p:=⟨w.heap.size,0,none⟩) hbxr).trans b0,(hx'.cell (p:=⟨w.heap.size,3,none⟩) hbxr).trans b3,(hx'.cell hbk').trans k0',(hx'.cell (p:=⟨(adx.add (lx * 3)).block,(adx.add (lx * 3)).off+1,none⟩) hbk').trans k1',(hx'.cell (p:=⟨(adx.add (lx * 3)).block,(adx.add (lx * 3)).off+2,none⟩) hbk').trans k2',a0,a1,a2,a3⟩
    have SS2:Hid (∀ W'' v0 v1 v2,Ext wr W''->∀ W',W'=((W''.setCell ⟨w1.heap.size,0,none⟩ v0).setCell ⟨w1.heap.size,1,none⟩ v1).setCell ⟨w1.heap.size,2,none⟩ v2->(Ext w W'/\W'.cell? ⟨w.heap.size,0,none⟩=some (.int .i64 lv)/\W'.cell? ⟨w.heap.size,3,none⟩=some (.slice (some ad) cs.length c)/\W'.cell? (adx.add (lx * 3))=some (.bool bx)/\W'.cell? ⟨(adx.add (lx * 3)).block,(adx.add (lx * 3)).off+1,none⟩=some (.slice X1 xn1 xc1)/\W'.cell? ⟨(adx.add (lx * 3)).block,(adx.add (lx * 3)).off+2,none⟩=some (.slice X2 xn2 xc2)/\W'.cell? (ad.add (k * 4))=some (.int .i64 cs[k].lv)/\W'.cell? ⟨(ad.add (k * 4)).block,(ad.add (k * 4)).off+1,none⟩=some (.bool cs[k].neg)/\W'.cell? ⟨(ad.add (k * 4)).block,(ad.add (k * 4)).off+2,none⟩=some (.slice B0 m0 d0)/\W'.cell? ⟨(ad.add (k * 4)).block,(ad.add (k * 4)).off+3,none⟩=some (.slice B1 m1 d1))):=by
     intro W'' v0 v1 v2 hx' W' hW';obtain ⟨s0,s1,s2,s3,s4,s5,s6,s7,s8,s9⟩:=SS.out W'' hx';have hb1:(adx.add (lx * 3)).block < w.heap.size:=by rw [jb]; exact hadxw
     have hb2:(ad.add (k * 4)).block < w.heap.size:=by rw [jb]; exact hadw
     have hws:w.heap.size < w1.heap.size:=by omega
     have far:∀ a:Addr,a.block < w1.heap.size->W'.cell? a=W''.cell? a:=fun a ha=>by
      rw [hW',World.cell?_setCell_other _ _ _ _ (by intro e; rw [<- e] at ha; exact absurd ha (Nat.lt_irrefl _)),World.cell?_setCell_other _ _ _ _ (by intro e; rw [<- e] at ha; exact absurd ha (Nat.lt_irrefl _)),World.cell?_setCell_other _ _ _ _ (by intro e; rw [<- e] at ha; exact absurd ha (Nat.lt_irrefl _))]
     refine ⟨?_,(far _ hws).trans s1,(far _ hws).trans s2,(far _ (by omega)).trans s3,(far _ (by show (adx.add (lx * 3)).block < _; omega)).trans s4,(far _ (by show (adx.add (lx * 3)).block < _; omega)).trans s5,(far _ (by omega)).trans s6,(far _ (by show (ad.add (k * 4)).block < _; omega)).trans s7,(far _ (by show (ad.add (k * 4)).block < _; omega)).trans s8,(far _ (by show (ad.add (k * 4)).block < _; omega)).trans s9⟩;rw [hW'];exact ((s0.setCell (Nat.le_of_lt hws) _).setCell (Nat.le_of_lt hws) _).setCell (Nat.le_of_lt hws) _
    have HMUL:Hid (kae wr.drew (.agg #[.bool sb,.slice S1 sn1 sc1,.slice S2 sn2 sc2]) (uf (rho xs) lv (cs.drop (k+1))) (jr (uf (rho xs) lv (cs.drop (k+1))))/\kae wr.drew (.agg #[.bool bx,.slice X1 xn1 xc1,.slice X2 xn2 xc2]) (rho xs lv) L):=by
     refine ⟨(hsr.raw).ext ((Ext.refl wr).drew),?_⟩;rw [HRX.out];exact (HXR.out.ext hxx).ext ((Ext.refl wr).drew)
    have HC:=Lib.hid (fun W' (hxW:Ext wr W')=>IH.out cs[k] _ W' g1  g2 hkt (hxx.trans hxW));have HG4:=Lib.hid (And.intro g4 g5);have HG6:=Lib.hid g6;have HX:=Lib.hid hx;have HSTORE:=Lib.hid (fun w2 (hx2:Ext wr w2) (b:Bool) (A1 A2:Option Addr) (n1 c1 n2 c2:Nat) hr=>HIV.out.store (m':=k) hx2 (b:=b) (A1:=A1) (A2:=A2) (n1:=n1) (c1:=c1) (n2:=n2) (c2:=c2) hr);have hadk:k < cs.length:=hkl;generalize cs[k].val (rho xs)=kv at *;generalize cs[k]=ck at *;clear hnd hnd' hkt hxx k0 k1 k2 k0' k1' k2' g1 g2  g4 g5 g6 hsr HI hzc hzf hx b1 b2 b3 b0 HXC;have HLP:=Lib.hid (kao (uf (rho xs) lv (cs.drop (k+1))));have hrl:=HRL.out lv;have HRLV:=Lib.hid hrl;have hg4:=HG4.out;go_upto_region 13 with fail;obtain ⟨-,p0,p1,p2,p3,p4,p5,p6,p7,p8⟩:=SS.out wr.drew ((Ext.refl wr).drew);have hd0:=fun i=>((Ext.refl wr).drew).cell (p:=⟨w1.heap.size,i,none⟩) hgs
    have p9:=(hd0 0).trans s0;have p10:=(hd0 1).trans s1;have p11:=(hd0 2).trans s2;have HD0:=Lib.hid hd0;clear hd0
    go_region_law (first
     | (go_simp
        go_at_call 81
        refine (ucp _ _ _ _ _ _ _ HMUL.out.1 HMUL.out.2 HLP.out hL (by omega)).mono ?_;rintro e v1 ⟨z1,rfl,m1',x1'⟩;have y1:Ext wr v1:=Ext.trans ((Ext.refl wr).drew) x1';obtain ⟨mb,M1,mn1,mc1,M2,mn2,mc2,rfl⟩:=m1'.unpack
        obtain ⟨-,p0,p1,p2,p3,p4,p5,p6,p7,p8⟩:=SS.out v1 y1)
     | (go_simp
        go_at_call 39
        refine (HC.out _ y1).mono ?_;rintro e v2 ⟨z2,rfl,m2',x2'⟩;have y2:Ext wr v2:=Ext.trans y1 x2'
        obtain ⟨eb,E1,en1,ec1,E2,en2,ec2,rfl⟩:=m2'.unpack)
     | (go_simp
        go_at_call 80
        refine (gct _ _ _ _ _ _ _ ((m1'.raw).ext x2') m2'.raw (kao _) (kao _) (by
         have hq:=xax (uf (rho xs) lv (cs.drop (k+1))) (rho xs lv);have hl:=HRLV.out
         omega)).mono ?_
        rintro e v3 ⟨z3,rfl,m3',x3'⟩;have y3:Ext wr v3:=Ext.trans y2 x3';obtain ⟨fb,F1,fn1,fc1,F2,fn2,fc2,rfl⟩:=m3'.unpack;have hc0:=fun i=>y3.cell (p:=⟨w1.heap.size,i,none⟩) hgs
        have r0:=(hc0 0).trans s0;have r1:=(hc0 1).trans s1;have r2:=(hc0 2).trans s2
        have rf:∀ i,v3.frozen? ⟨w1.heap.size,i,none⟩=false:=fun i=>(y3.frozen (p:=⟨w1.heap.size,i,none⟩) hgs).trans (hsf i)))
    all_goals
     have hinv:=HSTORE.out v3 y3 fb F1 F2 fn1 fc1 fn2 fc2 (by simp only [Pl.lv,Pl.cs]; rw [HG6.out]; exact m3');have hsz2:=HSZ2.out;have hzc2:∀ i,(((v3.setCell ⟨w1.heap.size,0,none⟩ (.bool fb)).setCell ⟨w1.heap.size,1,none⟩ (.slice F1 fn1 fc1)).setCell ⟨w1.heap.size,2,none⟩ (.slice F2 fn2 fc2)).cell? ⟨w.heap.size+1,i,none⟩=W2.cell? ⟨w.heap.size+1,i,none⟩:=fun i=>by
      rw [World.cell?_setCell_other _ _ _ _ (by intro e; injection e; omega),World.cell?_setCell_other _ _ _ _ (by intro e; injection e; omega),World.cell?_setCell_other _ _ _ _ (by intro e; injection e; omega),y3.cell (p:=⟨w.heap.size+1,i,none⟩) (by show w.heap.size+1 < _; omega)];exact HZC.out i
     have hzf2:∀ i,(((v3.setCell ⟨w1.heap.size,0,none⟩ (.bool fb)).setCell ⟨w1.heap.size,1,none⟩ (.slice F1 fn1 fc1)).setCell ⟨w1.heap.size,2,none⟩ (.slice F2 fn2 fc2)).frozen? ⟨w.heap.size+1,i,none⟩=false:=fun i=>by
      rw [World.frozen?_setCell,World.frozen?_setCell,World.frozen?_setCell,y3.frozen (p:=⟨w.heap.size+1,i,none⟩) (by show w.heap.size+1 < _; omega)];exact HZF.out i
     have HREL:=Lib.hid (And.intro hinv (And.intro hzc2 hzf2));clear hinv hzc2 hzf2 m1' m2' m3' x1' x2' x3' y1 y2 y3 SS SS2 HC HSTORE HMUL hc0 r0 r1 r2 rf s0 s1 s2 HIV HZC HZF;go_wp2_with fail
     go_roundw
     case rel=>exact ⟨k,by omega,by go_num,HREL⟩
     case measure=>simp [intOf]; try omega
theorem wa8 {w0 w:World} {q:Nat->Prop} {L:Nat} {xv:Value} {xs:List Rat} (hxs:RsV w0 L xv xs) (p:Pl) (v:Value) (h:PlV w0 q p v) (hx0:Ext w0 w) (hl:4 < p.lv\/(0 < p.lv/\(xs.length:Int) < p.lv/\p.cs=[])):Calls Tryz.prog 39 #[v,xv] w (jae (p.val (rho xs)) w):=by
 obtain ⟨A0,n0,c0,A,c,rfl,hnat,hl1,hl2,h4⟩:=h.open_;obtain ⟨Ax,cx,rfl,-,-,-⟩:=hxs;obtain ⟨lv,ng,ds,cs⟩:=p;simp only [Pl.cs,Pl.ds,Pl.lv,Pl.neg,plV] at *;have hpv:(Pl.mk lv ng ds cs).val (rho xs)=((0:Int):Rat):=by
  rw [Pl.val,if_neg (by omega)]
  by_cases h4':4 < lv
  · rw [if_pos h4']; rfl
  · rw [if_neg h4'];rcases hl with hl | ⟨-,-,rfl⟩
    · exact absurd hl h4'
    · rw [uf]; rfl
 rw [hpv];obtain ⟨W,hW⟩:=n_m ((w.alloc (.cells #[.int .i64 lv,.bool ng,.slice A0 n0 c0,.slice A cs.length c] 44)).alloc (.cells #[.bool false,.slice none 0 0,.slice none 0 0] 59));have hWx:Ext w W:=by rw [<- hW]; exact ((Ext.refl w).alloc _).alloc _
 have hWs:W.heap.size=w.heap.size+1+1:=by rw [<- hW]; simp
 obtain ⟨b0,b1,b2,b3⟩:ql W w.heap.size (.mk lv ng ds cs) (.slice A0 n0 c0) (.slice A cs.length c):=by rw [<- hW]; exact (ql.new w (.mk lv ng ds cs) _ _ _).ext ((Ext.refl _).alloc _) (by simp)
 simp only [Pl.lv,Pl.neg] at b0 b1;have HZ:Hid ((W.cell? ⟨w.heap.size+1,0,none⟩=some (.bool false)/\W.cell? ⟨w.heap.size+1,1,none⟩=some (.slice none 0 0)/\W.cell? ⟨w.heap.size+1,2,none⟩=some (.slice none 0 0))/\∀ i,W.frozen? ⟨w.heap.size+1,i,none⟩=false):=by
  have:(W.cell? ⟨w.heap.size+1,0,none⟩=some (.bool false)/\W.cell? ⟨w.heap.size+1,1,none⟩=some (.slice none 0 0)/\W.cell? ⟨w.heap.size+1,2,none⟩=some (.slice none 0 0))/\∀ i,W.frozen? ⟨w.heap.size+1,i,none⟩=false:=by
   rw [<- hW]; refine ⟨⟨?_,?_,?_⟩,fun i=>?_⟩ <;> simp [go_sem]
  exact this
 have HWX:=Lib.hid hWx;have hlq:decide (lv<=0)=false:=decide_eq_false (by omega);have fin:Hid (∀ w1 x1,xam w1 x1 ((0:Int):Rat)->Ext W w1->∃ bz Az nz cz Bz mz dz,x1=.agg #[.bool bz,.slice Az nz cz,.slice Bz mz dz]/\(w1.cell? ⟨w.heap.size+1,0,none⟩=some (.bool false)/\w1.cell? ⟨w.heap.size+1,1,none⟩=some (.slice none 0 0)/\w1.cell? ⟨w.heap.size+1,2,none⟩=some (.slice none 0 0))/\(∀ i,w1.frozen? ⟨w.heap.size+1,i,none⟩=false)/\jae ((0:Int):Rat) w (.returned (.agg #[.bool bz,.slice Az nz cz,.slice Bz mz dz])) (((w1.setCell ⟨w.heap.size+1,0,none⟩ (.bool bz)).setCell ⟨w.heap.size+1,1,none⟩ (.slice Az nz cz)).setCell ⟨w.heap.size+1,2,none⟩ (.slice Bz mz dz))):=by
  intro w1 x1 r1 y1;obtain ⟨bz,Az,nz,cz,Bz,mz,dz,rfl⟩:=r1.unpack;obtain ⟨⟨z0,z1,z2⟩,zf⟩:=HZ.out;have e1:∀ i,w1.cell? ⟨w.heap.size+1,i,none⟩=W.cell? ⟨w.heap.size+1,i,none⟩:=fun i=>y1.cell (p:=⟨w.heap.size+1,i,none⟩) (by show w.heap.size+1 < _; omega)
  have q0:=(e1 0).trans z0;have q1:=(e1 1).trans z1;have q2:=(e1 2).trans z2;exact ⟨bz,Az,nz,cz,Bz,mz,dz,rfl,⟨q0,q1,q2⟩,fun i=>(y1.frozen (p:=⟨w.heap.size+1,i,none⟩) (by show w.heap.size+1 < _; omega)).trans (zf i),qaf (g:=w.heap.size+1) (HWX.out.trans y1) (by omega) q0 q1 q2 rfl rfl rfl r1⟩
 clear h hnat h4 hWx hpv
 by_cases h4':4 < lv
 · have hlq4:decide (lv > 4)=true:=decide_eq_true h4';go_enter Tryz.func39,Tryz.ntmps39;go_wp2_with fail;clear hW b0 b1 b2 b3;refine (xbk 0 _ (by omega) (by omega)).mono ?_;rintro e w1 ⟨x1,rfl,r1,y1⟩;obtain ⟨bz,Az,nz,cz,Bz,mz,dz,rfl,⟨q0,q1,q2⟩,qf,hf⟩:=fin.out w1 x1 r1 y1;have HF:=Lib.hid hf;clear hf r1 y1 fin HZ;go_wp2_with fail;exact bodyPost_ret (v:=.agg #[.bool bz,.slice Az nz cz,.slice Bz mz dz]) (by simp [results,Tryz.results39,go_sem,q0,q1,q2]) rfl HF.out
 · have hlq4:decide (lv > 4)=false:=decide_eq_false (by omega);obtain ⟨h0,hx,rfl⟩:0 < lv/\(xs.length:Int) < lv/\cs=[]:=hl.resolve_left h4';have hlqx:decide (lv > (xs.length:Int))=true:=decide_eq_true (by omega);rw [List.length_nil] at *;go_enter Tryz.func39,Tryz.ntmps39;go_wp2_with fail;clear hW b0 b1 b2 b3;refine (xbk 0 _ (by omega) (by omega)).mono ?_;rintro e w1 ⟨x1,rfl,r1,y1⟩;obtain ⟨bz,Az,nz,cz,Bz,mz,dz,rfl,⟨q0,q1,q2⟩,qf,hf⟩:=fin.out w1 x1 r1 y1;have HF:=Lib.hid hf;clear hf r1 y1 fin HZ;go_wp2_with fail;exact bodyPost_ret (v:=.agg #[.bool bz,.slice Az nz cz,.slice Bz mz dz]) (by simp [results,Tryz.results39,go_sem,q0,q1,q2]) rfl HF.out
theorem kbq {w0 w:World} {q:Nat->Prop} {L n:Nat} {xv:Value} {xs:List Rat} (hxs:RsV w0 L xv xs) (ih:wbb w0 q L xv xs n) (p:Pl) (v:Value) (hn:p.sz < n+1) (heb:p.eb L<=1099511627776) (h:PlV w0 q p v) (hx0:Ext w0 w) (hl:0 < p.lv) (hl4:p.lv<=4) (hlx:(xs.length:Int) < p.lv) (hne:p.cs ≠ []):Calls Tryz.prog 39 #[v,xv] w (jae (p.val (rho xs)) w):=by
 obtain ⟨A0,n0,c0,A,c,rfl,hnat,hl1,hl2,h4⟩:=h.open_;obtain ⟨Ax,cx,rfl,-,-,-⟩:=hxs;obtain ⟨lv,ng,ds,cs⟩:=p;simp only [Pl.cs,Pl.ds,Pl.lv,Pl.neg,plV] at *;obtain ⟨ck,r,rfl⟩:=List.exists_cons_of_ne_nil hne;have hpv:(Pl.mk lv ng ds (ck :: r)).val (rho xs)=ck.val (rho xs):=by
  rw [Pl.val,if_neg (by omega),if_neg (by omega),uf,qcn xs lv hlx,Rat.zero_mul,Rat.add_zero]
 have hszk:ck.sz < n:=by
  have h1:(Pl.mk lv ng ds (ck :: r)).sz=wad (ck :: r)+1:=by rw [Pl.sz]
  rw [wad] at h1;omega
 have hebk:ck.eb L<=1099511627776:=by
  rw [Pl.eb,qah] at heb; omega
 rw [hpv];obtain ⟨ad,B0,m0,d0,B1,m1,d1,rfl,hadb,hnd,hkt⟩:=jf.kid h4 0 (by simp);simp only [List.getElem_cons_zero,Nat.zero_mul,show ad.add 0=ad by unfold Addr.add; simp] at hnd hkt;obtain ⟨W,hW⟩:=n_m ((w.alloc (.cells #[.int .i64 lv,.bool ng,.slice A0 n0 c0,.slice (some ad) (ck :: r).length c] 44)).alloc (.cells #[.bool false,.slice none 0 0,.slice none 0 0] 59));have hWx:Ext w W:=by rw [<- hW]; exact ((Ext.refl w).alloc _).alloc _
 have hWs:W.heap.size=w.heap.size+1+1:=by rw [<- hW]; simp
 obtain ⟨b0,b1,b2,b3⟩:ql W w.heap.size (.mk lv ng ds (ck :: r)) (.slice A0 n0 c0) (.slice (some ad) (ck :: r).length c):=by rw [<- hW]; exact (ql.new w (.mk lv ng ds (ck :: r)) _ _ _).ext ((Ext.refl _).alloc _) (by simp)
 simp only [Pl.lv,Pl.neg] at b0 b1;have HZ:Hid ((W.cell? ⟨w.heap.size+1,0,none⟩=some (.bool false)/\W.cell? ⟨w.heap.size+1,1,none⟩=some (.slice none 0 0)/\W.cell? ⟨w.heap.size+1,2,none⟩=some (.slice none 0 0))/\∀ i,W.frozen? ⟨w.heap.size+1,i,none⟩=false):=by
  have:(W.cell? ⟨w.heap.size+1,0,none⟩=some (.bool false)/\W.cell? ⟨w.heap.size+1,1,none⟩=some (.slice none 0 0)/\W.cell? ⟨w.heap.size+1,2,none⟩=some (.slice none 0 0))/\∀ i,W.frozen? ⟨w.heap.size+1,i,none⟩=false:=by
   rw [<- hW]; refine ⟨⟨?_,?_,?_⟩,fun i=>?_⟩ <;> simp [go_sem]
  exact this
 have HWX:=Lib.hid hWx;have hlq:decide (lv<=0)=false:=decide_eq_false (by omega);have hlq4:decide (lv > 4)=false:=decide_eq_false (by omega);have hlqx:decide (lv > (xs.length:Int))=true:=decide_eq_true (by omega);obtain ⟨a0,a1,a2,a3⟩:=hnd.ext (hx0.trans hWx) hadb;have HC:=Lib.hid (ih ck _ W hszk hebk hkt (hx0.trans hWx));have hlen:(((ck :: r).length:Nat):Int)=((r.length:Nat):Int)+1:=by simp
 have hle:((((ck :: r).length:Nat):Int) == 0)=false:=by
  rw [Bool.eq_false_iff]; intro h; rw [beq_iff_eq] at h; omega
 clear h hnat h4 hWx hpv hnd hkt ih hlen;generalize (ck :: r).length=N at *;have hN:0 < N:=by
  rcases Nat.eq_zero_or_pos N with h | h
  · subst h; simp at hle
  · exact h
 generalize ck.val (rho xs)=kv at *;go_enter Tryz.func39,Tryz.ntmps39;go_wp2_with fail;clear hW b0 b1 b2 b3;refine HC.out.mono ?_;rintro e w1 ⟨x1,rfl,r1,y1⟩;obtain ⟨bz,Az,nz,cz,Bz,mz,dz,rfl⟩:=r1.unpack;obtain ⟨⟨z0,z1,z2⟩,zf⟩:=HZ.out;have e1:∀ i,w1.cell? ⟨w.heap.size+1,i,none⟩=W.cell? ⟨w.heap.size+1,i,none⟩:=fun i=>y1.cell (p:=⟨w.heap.size+1,i,none⟩) (by show w.heap.size+1 < _; omega)
 have q0:=(e1 0).trans z0;have q1:=(e1 1).trans z1;have q2:=(e1 2).trans z2;have qf:∀ i,w1.frozen? ⟨w.heap.size+1,i,none⟩=false:=fun i=>(y1.frozen (p:=⟨w.heap.size+1,i,none⟩) (by show w.heap.size+1 < _; omega)).trans (zf i)
 have HF:=Lib.hid (qaf (g:=w.heap.size+1) (HWX.out.trans y1) (by omega) q0 q1 q2 rfl rfl rfl r1);clear e1 r1 y1 HZ z0 z1 z2 zf HC a0 a1 a2 a3;go_wp2_with fail;exact bodyPost_ret (v:=.agg #[.bool bz,.slice Az nz cz,.slice Bz mz dz]) (by simp [results,Tryz.results39,go_sem,q0,q1,q2]) rfl HF.out
theorem zcj {w0:World} {q:Nat->Prop} {L:Nat} {xv:Value} {xs:List Rat} (hL:1<=L) (hL2:L<=1099511627776) (hxs:RsV w0 L xv xs) (n:Nat):wbb w0 q L xv xs n:=by
 induction n with
 | zero=>intro p v w h; omega
 | succ n ih =>
   intro p v w hn heb h hx0
   by_cases h0:p.lv<=0
   · exact ybz hxs p v heb h hx0 h0
   · by_cases h4:4 < p.lv
     · exact wa8 hxs p v h hx0 (.inl h4)
     · by_cases hx:(xs.length:Int) < p.lv
       · by_cases hc:p.cs=[]
         · exact wa8 hxs p v h hx0 (.inr ⟨by omega,hx,hc⟩)
         · exact kbq hxs ih p v hn heb h hx0 (by omega) (by omega) hx hc
       · exact ybm hL hL2 hxs ih p v hn heb h hx0 (by omega) (by omega) (by omega)
theorem ub7 {w:World} {q:Nat->Prop} {L:Nat} {xv:Value} {xs:List Rat} (hL:1<=L) (hL2:L<=1099511627776) (hxs:RsV w L xv xs) (p:Pl) (v:Value) (heb:p.eb L<=1099511627776) (h:PlV w q p v):Calls Tryz.prog 39 #[v,xv] w (jae (p.val (rho xs)) w):=
 zcj hL hL2 hxs (p.sz+1) p v w (Nat.lt_succ_self _) heb h (Ext.refl w)
/- Layer 5: rational.Sign; layer 40: evaluate.At$1, Poly. -/
set_option maxRecDepth 100000
set_option maxHeartbeats 8000000
def sgQ (q:Rat):Int:=ya1 q 0
theorem qcw {n:Int} {d:Nat} (h:0 < d):sgQ (mkRat n d)=sgI n:=by
 have:=vbz (n1:=n) (d1:=d) (n2:=0) (d2:=1) h (by omega);unfold sgQ sgI;rw [show (mkRat 0 1:Rat)=0 by decide] at this;rw [<- this];simp
theorem kb3 (v:Value) (q:Rat) (L:Nat) (w:World) (h:kae w v q L) (hL:1<=L):Calls Tryz.prog 38 #[v] w (qp (sgQ q) w):=by
 have H:=Lib.hid h;obtain ⟨neg,s1,s2,ds,es,rfl,⟨A,c,rfl,-,-,-⟩,⟨B,b,rfl,-,-,-⟩,-⟩:=h;go_enter Tryz.func38,Tryz.ntmps38;go_wp2_with fail;refine (jaq _ q L _ (H.out.ext ((Ext.refl w).alloc _)) hL).mono ?_;rintro e w1 ⟨xn,xd,n1,d1,rfl,in1,id1,hd1,hq1,y1⟩;obtain ⟨b5,A5,n5,c5,rfl⟩:=in1.unpack;obtain ⟨b6,A6,n6,c6,rfl⟩:=id1.unpack;have HQ:Hid (sgQ q=sgI n1):=by
  have:sgQ q=sgI n1:=by rw [hq1,qcw hd1]
  exact this
 have Y1:=Lib.hid (Ext.trans ((Ext.refl w).alloc _) y1);have IN1:=Lib.hid in1;clear hd1 hq1 y1 in1 id1;go_wp2_with fail;refine (jao _ n1 L _ (IN1.out.ext (((Ext.refl w1).alloc _).alloc _))).mono ?_;rintro e w2 ⟨rfl,x2⟩;have X2:=Lib.hid (((Y1.out.alloc _).alloc _).trans x2);clear x2;go_wp2_with fail;go_ret;exact ⟨by rw [HQ.out]; rfl,X2.out⟩
end Go.Proofs.YtheefiaoimbeiaaGreatDoor
