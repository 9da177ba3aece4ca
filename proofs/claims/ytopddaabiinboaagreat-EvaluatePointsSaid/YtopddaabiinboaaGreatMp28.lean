/- Layer 22: recpoly.At. -/
import Derived.Test.YtopddaabiinboaaGreatMp27
import Derived.Test.YtopddaabiinboaaGreatMp13
import Derived.Test.YtopddaabiinboaaGreatMp24
import Derived.Test.YtopddaabiinboaaGreatMp7
import Derived.Test.YtopddaabiinboaaGreatMp19
import Derived.Test.YtopddaabiinboaaGreatMp16
import Derived.Test.YtopddaabiinboaaGreatMp25
import Derived.Test.YtopddaabiinboaaGreatMp26
set_option linter.unusedSimpArgs false
set_option linter.unusedVariables false

set_option maxRecDepth 100000
set_option maxHeartbeats 8000000
namespace Go.Proofs.YtopddaabiinboaaGreat
open Go.RowKit
def vha (b:Int) (n:Nat):List Int:=(List.range n).map fun k=>b ^ k
theorem wip (b:Int) (n:Nat):(vha b n).length=n:=by unfold vha; rw [List.length_map,List.length_range]
theorem ziq (b:Int) (n k:Nat) (h:k < (vha b n).length):(vha b n)[k]=b ^ k:=by simp [vha]
theorem jin {α:Type} {L l:List α} {i k:Nat} (h:L.take i=l.take i) (hk:k < i) (h1:k < L.length) (h2:k < l.length):L[k]=l[k]:=by
 have e1:L[k]=(L.take i)[k]'(by rw [List.length_take]; omega):=by rw [List.getElem_take]
 have e2:l[k]=(l.take i)[k]'(by rw [List.length_take]; omega):=by rw [List.getElem_take]
 rw [e1,e2];simp only [h]
theorem wif (W:World) (g:Nat) (a b c:Value) (k:Nat) (h:k ≠ g):(((W.setCell ⟨g,0,none⟩ a).setCell ⟨g,1,none⟩ b).setCell ⟨g,2,none⟩ c).heap[k]?=W.heap[k]?:=by
 rw [Below.heap_setCell _ _ _ k h,Below.heap_setCell _ _ _ k h,Below.heap_setCell _ _ _ k h]
theorem yc5.turn {W W':World} {g:Nat} (h:yc5 W g) (hb:W'.heap[g]?=W.heap[g]?) (hf:∀ a,W'.frozen? a=W.frozen? a):yc5 W' g:=by
 obtain ⟨⟨z0,z1,z2,z3⟩,zf⟩:=h;exact ⟨⟨(World.cell?_of_block (a:=⟨g,0,none⟩) hb).trans z0,(World.cell?_of_block (a:=⟨g,1,none⟩) hb).trans z1,(World.cell?_of_block (a:=⟨g,2,none⟩) hb).trans z2,(World.cell?_of_block (a:=⟨g,3,none⟩) hb).trans z3⟩,fun i=>(hf _).trans (zf i)⟩
structure AtB (w : World) (p : Pl) (b : Bool) (A : Option Addr) (n c : Nat) (B : Option Addr) (m d : Nat) (V : World) : Prop where
 ext:Ext w V
 size:w.heap.size+1+1 < V.heap.size
 box:∃ A0 n0 c0 A1 c1,yc3 V w.heap.size p (.slice A0 n0 c0) (.slice A1 p.cs.length c1)/\PlV V (fun b=>b < w.heap.size\/w.heap.size+1+1 < b) p (plV p (.slice A0 n0 c0) (.slice A1 p.cs.length c1))
 pfr:∀ i,V.frozen? ⟨w.heap.size,i,none⟩=false
 r0:V.cell? ⟨w.heap.size+1,0,none⟩=some (.bool b)
 r1:V.cell? ⟨w.heap.size+1,1,none⟩=some (.slice A n c)
 r2:V.cell? ⟨w.heap.size+1,2,none⟩=some (.slice B m d)
 rfr:∀ i,V.frozen? ⟨w.heap.size+1,i,none⟩=false
 zero:yc5 V (w.heap.size+1+1)
namespace AtB
variable {w V V':World} {p:Pl} {b:Bool} {A B:Option Addr} {n c m d:Nat}
theorem ext_ (h:AtB w p b A n c B m d V) (hx:Ext V V'):AtB w p b A n c B m d V':=by
 obtain ⟨h0,h1,⟨A0,n0,c0,A1,c1,h2,h3⟩,h4,h5,h6,h7,h8,h9⟩:=h;have hs:=hx.size;exact ⟨h0.trans hx,by omega,⟨A0,n0,c0,A1,c1,h2.ext hx (by omega),h3.ext hx⟩,fun i=>(hx.frozen (p:=⟨w.heap.size,i,none⟩) (by show w.heap.size < _; omega)).trans (h4 i),(hx.cell (p:=⟨w.heap.size+1,0,none⟩) (by show w.heap.size+1 < _; omega)).trans h5,(hx.cell (p:=⟨w.heap.size+1,1,none⟩) (by show w.heap.size+1 < _; omega)).trans h6,(hx.cell (p:=⟨w.heap.size+1,2,none⟩) (by show w.heap.size+1 < _; omega)).trans h7,fun i=>(hx.frozen (p:=⟨w.heap.size+1,i,none⟩) (by show w.heap.size+1 < _; omega)).trans (h8 i),h9.ext hx (by omega)⟩
theorem pstore (h:AtB w p b A n c B m d V) {q:Nat->Prop} {C D:Option Addr} {i j k:Nat} (hp:PlV V q p (plV p (.slice C i j) (.slice D p.cs.length k))) (hq:∀ b,b < V.heap.size->q b->b < w.heap.size\/w.heap.size+1+1 < b) :
 AtB w p b A n c B m d ((((V.setCell ⟨w.heap.size,0,none⟩ (.int .i64 p.lv)).setCell ⟨w.heap.size,1,none⟩ (.bool p.neg)).setCell ⟨w.heap.size,2,none⟩ (.slice C i j)).setCell ⟨w.heap.size,3,none⟩ (.slice D p.cs.length k)):=by
 obtain ⟨h0,h1,⟨A0,n0,c0,A1,c1,h2,h3⟩,h4,h5,h6,h7,h8,h9⟩:=h;have hh:=fun k' (hk:k' ≠ w.heap.size)=>xde V w.heap.size (.int .i64 p.lv) (.bool p.neg) (.slice C i j) (.slice D p.cs.length k) k' hk
 exact ⟨(((h0.setCell (Nat.le_refl _) _).setCell (Nat.le_refl _) _).setCell (Nat.le_refl _) _).setCell (Nat.le_refl _) _,by simp [World.setCell]; omega,⟨C,i,j,D,k,h2.set,h2.keep _ _ _ _ hp fun b hb hqb=>⟨by rcases hq b hb hqb with h | h <;> omega,hq b hb hqb⟩⟩,fun i=>by simp only [World.frozen?_setCell]; exact h4 i,
  (World.cell?_of_block (a:=⟨w.heap.size+1,0,none⟩) (hh _ (by show w.heap.size+1 ≠ _; omega))).trans h5,(World.cell?_of_block (a:=⟨w.heap.size+1,1,none⟩) (hh _ (by show w.heap.size+1 ≠ _; omega))).trans h6,(World.cell?_of_block (a:=⟨w.heap.size+1,2,none⟩) (hh _ (by show w.heap.size+1 ≠ _; omega))).trans h7,fun i=>by simp only [World.frozen?_setCell]; exact h8 i,h9.turn (hh _ (by omega)) fun a=>by simp only [World.frozen?_setCell]⟩
theorem rstore (h:AtB w p b A n c B m d V) (b':Bool) (A':Option Addr) (n' c':Nat) (B':Option Addr) (m' d':Nat) :
 AtB w p b' A' n' c' B' m' d' (((V.setCell ⟨w.heap.size+1,0,none⟩ (.bool b')).setCell ⟨w.heap.size+1,1,none⟩ (.slice A' n' c')).setCell ⟨w.heap.size+1,2,none⟩ (.slice B' m' d')):=by
 obtain ⟨h0,h1,⟨A0,n0,c0,A1,c1,h2,h3⟩,h4,h5,h6,h7,h8,h9⟩:=h;have hh:=fun k' (hk:k' ≠ w.heap.size+1)=>wif V (w.heap.size+1) (.bool b') (.slice A' n' c') (.slice B' m' d') k' hk
 have k1:(V.setCell ⟨w.heap.size+1,0,none⟩ (.bool b')).cell? ⟨w.heap.size+1,1,none⟩=some (.slice A n c):=by rw [World.cell?_setCell_other _ _ _ _ (by simp)]; exact h6
 have k2:((V.setCell ⟨w.heap.size+1,0,none⟩ (.bool b')).setCell ⟨w.heap.size+1,1,none⟩ (.slice A' n' c')).cell? ⟨w.heap.size+1,2,none⟩=some (.slice B m d):=by
  rw [World.cell?_setCell_other _ _ _ _ (by simp),World.cell?_setCell_other _ _ _ _ (by simp)]; exact h7
 have hg:w.heap.size<=w.heap.size+1:=Nat.le_succ _;refine ⟨((h0.setCell hg _).setCell hg _).setCell hg _,by simp [World.setCell]; omega,⟨A0,n0,c0,A1,c1,h2.turn (hh _ (by omega)),?_⟩,fun i=>by simp only [World.frozen?_setCell]; exact h4 i,?_,?_,World.cell?_setCell_same _ _ _ k2,fun i=>by simp only [World.frozen?_setCell]; exact h8 i,h9.turn (hh _ (by omega)) fun a=>by simp only [World.frozen?_setCell]⟩
 · exact PlV.turn_ (by simp [World.setCell]) (fun v ds hv=>((hv.box h5 rfl _).box k1 rfl _).box k2 rfl _) (fun b _ hq=>⟨hq,hh _ (by rcases hq with h | h <;> omega)⟩) h3
 · rw [World.cell?_setCell_other _ _ _ _ (by simp),World.cell?_setCell_other _ _ _ _ (by simp)];exact World.cell?_setCell_same _ _ _ h5
 · rw [World.cell?_setCell_other _ _ _ _ (by simp)];exact World.cell?_setCell_same _ _ _ k1
theorem rat (h:AtB w p b A n c B m d V) (b':Bool) (A':Option Addr) (n' c':Nat) (B':Option Addr) (m' d':Nat) {x:Value} {qr:Rat} (hr:uc7 V x qr) :
 uc7 (((V.setCell ⟨w.heap.size+1,0,none⟩ (.bool b')).setCell ⟨w.heap.size+1,1,none⟩ (.slice A' n' c')).setCell ⟨w.heap.size+1,2,none⟩ (.slice B' m' d')) x qr:=by
 have k1:(V.setCell ⟨w.heap.size+1,0,none⟩ (.bool b')).cell? ⟨w.heap.size+1,1,none⟩=some (.slice A n c):=by rw [World.cell?_setCell_other _ _ _ _ (by simp)]; exact h.r1
 have k2:((V.setCell ⟨w.heap.size+1,0,none⟩ (.bool b')).setCell ⟨w.heap.size+1,1,none⟩ (.slice A' n' c')).cell? ⟨w.heap.size+1,2,none⟩=some (.slice B m d):=by
  rw [World.cell?_setCell_other _ _ _ _ (by simp),World.cell?_setCell_other _ _ _ _ (by simp)]; exact h.r2
 exact ((hr.box h.r0 rfl _).box k1 rfl _).box k2 rfl _
end AtB
theorem wiz {w:World} {q:Nat->Prop} {l:Int} {x:Value} {qr:Rat} {L E D:Nat} (p:Pl) (v:Value) (hl:1<=l) (hl4:l<=4) (hE:E<=60) (hL:1<=L) (hL2:L<=1000000) (hD:D<=100000000000) (hp:Fit p E D) (h:PlV w q p v) (hx:wc7 w x qr L) :
 Calls Tryz.prog 101 #[v,.int .i64 l,x] w (vc4 (fun b=>w.heap.size<=b) (p.atQ l qr.num qr.den) w):=by
 have HQ:=Lib.hid hx;have HP:=Lib.hid hp;have hpw:PlV w (fun b=>b < w.heap.size) p v:=PlV.turn_ (Nat.le_refl _) (fun _ _ h=>h) (fun b hb _=>⟨hb,rfl⟩) h;have HH:=Lib.hid hpw;obtain ⟨A0,n0,c0,A1,c1,rfl,-⟩:=h.open_;obtain ⟨ng,s1,s2,ds,es,rfl,⟨A,c,rfl,-⟩,⟨B,d,rfl,-⟩,-⟩:=hx;obtain ⟨W,hW⟩:=n_m (((w.alloc (.cells #[.int .i64 p.lv,.bool p.neg,.slice A0 n0 c0,.slice A1 p.cs.length c1] 30)).alloc (.cells #[.bool ng,.slice A ds.length c,.slice B es.length d] 37)).alloc (.cells #[.int .i64 0,.bool false,.slice none 0 0,.slice none 0 0] 30));have hWx:Ext w W:=by rw [<- hW]; exact (((Ext.refl w).alloc _).alloc _).alloc _
 have hWs:W.heap.size=w.heap.size+1+1+1:=by rw [<- hW]; simp
 have hAB:AtB w p ng A ds.length c B es.length d W:=by
  refine ⟨hWx,by omega,⟨A0,n0,c0,A1,c1,?_,(hpw.ext hWx).mono fun b hb=>.inl hb⟩,fun i=>?_,?_,?_,?_,fun i=>?_,⟨⟨?_,?_,?_,?_⟩,fun i=>?_⟩⟩
  · rw [<- hW]; exact (yc3.new w p _ _ _).ext (((Ext.refl _).alloc _).alloc _) (by simp)
  all_goals
   rw [<- hW]; simp [go_sem]
 have HB:=Lib.hid hAB;have HWX:=Lib.hid hWx;have HRL:Hid (rlen qr<=L):=Lib.hid (wc7.rlen_le HQ.out hL);have hdb:=Pl.dgL_bd hl p hp.can hp.ex;obtain ⟨n,hn⟩:∃ n:Nat,p.dgL l=n:=⟨(p.dgL l).toNat,by omega⟩;have hnE:n<=E:=by omega
 have HR:Hid (p.atQ l qr.num qr.den=p.atL l qr.num qr.den n):=Lib.hid (by unfold Pl.atQ; rw [hn]; rfl);have hdg:∀ k:Nat,(dg k).length<=L->k < B32 ^ L:=fun k hk=>by
  have h1:=gc9 (qdj k);rw [jc3] at h1;exact Nat.lt_of_lt_of_le h1 (Nat.pow_le_pow_right (by decide) hk)
 have hdl:(dg (qr.den:Int).natAbs).length<=L:=Nat.le_trans (ygv qr) HRL.out;have hnl:(dg qr.num.natAbs).length<=L:=Nat.le_trans (zg2 qr) HRL.out;have hden':=hdg _ hdl;have hnum':=hdg _ hnl;have HDN:=Lib.hid hden';have HNL:=Lib.hid hnl;have HDL:=Lib.hid hdl;have hfit:Fit (p.atL l qr.num qr.den n) E (D+L * n):=hp.atL hl hnum' hden' (Int.le_of_eq hn);clear hdg hdl hnl hden' hnum';have HFIT:=Lib.hid hfit;have HDG:=Lib.hid hn;have hlv:(decide (1<=l) && decide (l<=4))=true:=by simp [hl,hl4]
 obtain ⟨-,-,⟨E0,m0,e0,E1,e1,⟨b0,b1,b2,b3⟩,hpv⟩,-,-,-,-,-,-⟩:=id hAB;have HC:=Lib.hid (xg0 _ hpv hp.can);clear h hpw hp hAB hWx hn hdb hfit hpv HH;rw [HR.out];clear HR;obtain ⟨rp,hrp⟩:=n_m (p.atL l qr.num qr.den n);have HRP:=Lib.hid hrp;rw [hrp];rw [hrp] at HFIT;clear hrp;unfold plV;unfold plV at HC;go_enter Tryz.func101,Tryz.ntmps101;go_wp2_with fail;clear hW b0 b1 b2 b3;refine HC.out.mono ?_;rintro e w1 ⟨z1,rfl,m1,x1⟩;obtain ⟨C1,i1,j1,D1,k1,rfl,-⟩:=id m1.open_;have hB1:=HB.out.ext_ x1;have hB2:=hB1.pstore m1 (fun b hb hq=>by
  rcases hq with h | h
  · exact h
  · exact .inr (by omega))
 obtain ⟨V1,hV1⟩:=n_m ((((w1.setCell ⟨w.heap.size,0,none⟩ (.int .i64 p.lv)).setCell ⟨w.heap.size,1,none⟩ (.bool p.neg)).setCell ⟨w.heap.size,2,none⟩ (.slice C1 i1 j1)).setCell ⟨w.heap.size,3,none⟩ (.slice D1 p.cs.length k1));obtain ⟨-,-,⟨_,_,_,_,_,⟨b0,b1,b2,b3⟩,-⟩,pfr,-,-,-,-,-⟩:=hB1;rw [hV1] at hB2;have HB2:=Lib.hid hB2;clear hB2 m1 x1 HC;unfold plV;go_upto_region 2 with fail
 try rw [hV1]
 clear hV1 b0 b1 b2 b3 pfr;obtain ⟨-,-,⟨E0,m0,e0,E1,e1,⟨b0,b1,b2,b3⟩,hpv⟩,-,r0,r1,r2,-,-⟩:=id HB2.out;have HPV:=Lib.hid hpv;clear hpv;go_wp2_with fail;refine (qg5 l _).mono ?_;rintro e w2 ⟨rfl,rfl⟩;rw [hlv];go_wp2_with fail;refine (vgt _ _ HPV.out).mono ?_;rintro e w2 ⟨rfl,x2⟩;have HB3:=Lib.hid (HB2.out.ext_ x2);clear x2 HB2 HPV b0 b1 b2 b3 r0 r1 r2;obtain ⟨hB3x,-,⟨E0,m0,e0,E1,e1,⟨b0,b1,b2,b3⟩,hpv⟩,-,r0,r1,r2,rfr,hzero⟩:=id HB3.out;have HPV:=Lib.hid hpv;have HX3:=Lib.hid hB3x;clear hpv hB3x;cases hz:p.isZ
 case true =>
  have HRZ:Hid (rp=p):=Lib.hid (by
   rw [<- HRP.out,(Pl.zero_isZ HP.out.can).1 hz];unfold Pl.zero;rw [Pl.atL,if_pos (by omega)]
   exact Pl.mul_zero_l _)
  have HCP:=Lib.hid (ug8 p _ HP.out.can (HP.out.copy (by omega)) (Nat.le_trans HP.out.dm (by omega)) HPV.out);clear hz hzero rfr r0 r1 r2;unfold plV at HCP;go_wp2_with fail;refine HCP.out.mono ?_;rintro e w4 ⟨z4,rfl,m4,x4⟩;obtain ⟨C4,i4,j4,D4,k4,rfl,-⟩:=id m4.open_;have hzn:=HB3.out.zero.ext x4 (by have:=HB3.out.size; omega);have hs3:=HB3.out.size;have HF:=Lib.hid (gc5 (q':=fun b=>w.heap.size<=b) (HX3.out.trans x4) (by omega:w.heap.size<=w.heap.size+1+1) hzn m4 (fun b _ hb=>⟨by omega,by omega⟩));obtain ⟨⟨z00,z01,z02,z03⟩,zf⟩:=hzn;clear m4 x4 HCP b0 b1 b2 b3;unfold plV;go_wp2_with fail;rw [HRZ.out];exact bodyPost_ret (v:=plV _ (.slice C4 i4 j4) (.slice D4 _ k4)) (by simp [results,Tryz.results101,go_sem,z00,z01,z02,z03,plV]) rfl HF.out
 clear hz hzero;have HNR:=Lib.hid (zg8 _ qr L w2 (HQ.out.ext HX3.out) hL (by omega));go_wp2_with fail;refine HNR.out.mono ?_;rintro e w3 ⟨z3,rfl,n3,x3⟩;obtain ⟨s1,s2,rfl,⟨F1,f1,rfl,-⟩,⟨F2,f2,rfl,-⟩⟩:=id n3;have hB4:=HB3.out.ext_ x3;have hB5:=hB4.rstore (decide (qr.num < 0)) F1 (dg qr.num.natAbs).length f1 F2 (dg qr.den).length f2;have hR5:=hB4.rat (decide (qr.num < 0)) F1 (dg qr.num.natAbs).length f1 F2 (dg qr.den).length f2 n3;obtain ⟨V4,hV4⟩:=n_m ((((w3.setCell ⟨w.heap.size+1,0,none⟩ (.bool (decide (qr.num < 0)))).setCell ⟨w.heap.size+1,1,none⟩ (.slice F1 (dg qr.num.natAbs).length f1)).setCell ⟨w.heap.size+1,2,none⟩ (.slice F2 (dg qr.den).length f2)));rw [hV4] at hB5 hR5;have HB5:=Lib.hid hB5;have HR5:=Lib.hid hR5;clear b0 b1 b2 b3 r0 r1 r2 rfr;obtain ⟨-,-,-,-,r0,r1,r2,rfr,-⟩:=hB4;clear HNR n3 x3 HB3 HPV hB5 hR5 HQ;go_upto_region 5 with fail
 try rw [hV4]
 clear hV4 r0 r1 r2 rfr;obtain ⟨-,-,-,-,r0,r1,r2,-,-⟩:=id HB5.out;have hden:sgn false (val (dg qr.den))=(qr.den:Int):=by rw [jc3]; simp [sgn]
 have hfr:=kgs false (.slice F2 (dg qr.den).length f2) (dg qr.den) V4 (by
  obtain ⟨t1,t2,e,h1,h2⟩:=HR5.out;simp only [Value.agg.injEq,Array.mk.injEq,List.cons.injEq,and_true,true_and] at e;obtain ⟨rfl,rfl⟩:=e
  exact h2) (by (have:=HRL.out); (have:=ygv qr); omega)
 rw [hden] at hfr;have HFR:=Lib.hid hfr;clear hfr hden;go_wp2_with fail;refine HFR.out.mono ?_;rintro e w5 ⟨z5,rfl,⟨y5,rfl,n5⟩,x5⟩;obtain ⟨G1,g1,rfl,-⟩:=id n5;have HB6:=Lib.hid (HB5.out.ext_ x5);have HR6:=Lib.hid (HR5.out.ext x5);have N5:=Lib.hid n5;clear HFR n5 x5 HB5 HR5 r0 r1 r2;obtain ⟨U,hU⟩:=n_m (w5.alloc (.cells #[.bool (decide ((qr.den:Int) < 0)),.slice G1 (dg qr.den).length g1] 27));have hUx:Ext w5 U:=by rw [<- hU]; exact (Ext.refl _).alloc _
 have hUs:U.heap.size=w5.heap.size+1:=by rw [<- hU]; simp
 have HIB:Hid (jg0 U w5.heap.size (qr.den:Int)):=Lib.hid ⟨⟨G1,(dg qr.den).length,g1,by rw [<- hU]; simp [go_sem],by rw [<- hU]; simp [go_sem],N5.out.ext hUx⟩,fun i=>by rw [<- hU]; simp [go_sem]⟩;have HB7:=Lib.hid (HB6.out.ext_ hUx);have HR7:=Lib.hid (HR6.out.ext hUx);have HUS:=Lib.hid hUs;have HGL:=Lib.hid HB6.out.size;clear HB6 HR6 hUx hUs N5;obtain ⟨hB7x,-,⟨E0,m0,e0,E1,e1,⟨b0,b1,b2,b3⟩,hpv⟩,-,r0,r1,r2,-,-⟩:=id HB7.out;have HDEG:=Lib.hid (yiv hl p _ HP.out.can (HP.out.copy (by omega)) hpv);have HX7:=Lib.hid hB7x;rw [HDG.out] at HDEG;clear hpv hB7x;unfold plV at HDEG;go_upto_region 6 with fail
 try rw [hU]
 clear hU;go_wp2_with fail;refine HDEG.out.mono ?_;rintro e w6 ⟨rfl,x6⟩;have HB8:=Lib.hid (HB7.out.ext_ x6);have HR8:=Lib.hid (HR7.out.ext x6);have HIB8:=Lib.hid (HIB.out.ext x6 (by have:=HUS.out; omega));have HG8:Hid (w5.heap.size < w6.heap.size):=Lib.hid (by have:=HUS.out; have:=x6.size; omega);clear HDEG x6 HB7 HR7 HIB HUS b0 b1 b2 b3 r0 r1 r2;have hw1:IntKind.i64.wrap ((n:Int)+1)=(n:Int)+1:=by rw [IntKind.wrap_i64]; omega
 obtain ⟨V7,hmk,hVx,hVs,hrow⟩:=qha ((n:Int)+1) (by omega) (by omega) w6;rw [show ((n:Int)+1).toNat=n+1 by omega] at hmk hrow;have HO1:=Lib.hid (of_int 1 V7 (by omega) (by omega));have HVX:=Lib.hid hVx;have HROW:=Lib.hid hrow;have HVS:=Lib.hid hVs;clear hVx hrow hVs;go_wp2_with fail;refine HO1.out.mono ?_;rintro e w8 ⟨z8,rfl,⟨y8,rfl,n8⟩,x8⟩;obtain ⟨G2,g2,rfl,-⟩:=id n8;have hr8:=HROW.out.ext x8;have hst:=hr8.set_ 0 (by simp) 1 n8;obtain ⟨J0,j0,jc0,q0,q1,-⟩:=hr8.2.2 0 (by simp);have qf:=hr8.2.1;simp only [Nat.zero_mul,Nat.zero_add] at hst q0 q1;obtain ⟨db,hdb⟩:=n_m (decide ((1:Int) < 0));obtain ⟨ln,hln⟩:=n_m ((dg (1:Int).natAbs).length);rw [hdb,hln] at hst;rw [hdb,hln];obtain ⟨V9,hV9⟩:=n_m ((w8.setCell ⟨w6.heap.size,0,none⟩ (.bool db)).setCell ⟨w6.heap.size,1,none⟩ (.slice G2 ln g2));have HX9:Hid (Ext w6 V9):=Lib.hid (by
  rw [<- hV9]
  exact ((HVX.out.trans x8).setCell (Nat.le_refl _) _).setCell (Nat.le_refl _) _)
 rw [hV9] at hst;have HST9:=Lib.hid hst;clear hdb hln hst n8 x8 HO1 HROW HVS hr8 HVX;go_wp2_with fail
 try rw [hV9]
 clear hV9 q0 q1 qf hmk;have hpb:Hid (∀ k (hk:k < (vha (qr.den:Int) (n+1)).length),(vha (qr.den:Int) (n+1))[k]=(qr.den:Int) ^ k):=Lib.hid (fun k hk=>ziq _ _ k hk);obtain ⟨ps,hps⟩:=n_m (vha (qr.den:Int) (n+1));have hpl:ps.length=n+1:=by rw [<- hps,wip]
 rw [hps] at hpb;have HPL:=Lib.hid hpl;clear hps hpl
 go_loopw [9] (fun iv wr=>∃ i:Nat,i+1<=n+1/\iv=.int .i64 ((i+1:Nat):Int)/\Hid ((∃ X,X.length=n+1/\X.take (i+1)=ps.take (i+1)/\zgy wr w6.heap.size X)/\Ext w6 wr)) (fun iv _=>n+2 - (intOf iv).toNat)
 case atStart =>
  refine ⟨0,by omega,rfl,⟨⟨_,?_,?_,HST9.out⟩,HX9.out⟩⟩
  · simp
  · have h0:ps[0]'(by rw [HPL.out]; omega)=1:=by rw [hpb.out]; simp
    have h1:ps.take 1=[1]:=by
     rw [List.take_succ_eq_append_getElem (by rw [HPL.out]; omega),h0]; rfl
    rw [Nat.zero_add,h1]
    rfl
 case round =>
  obtain ⟨i,hi,rfl,⟨⟨X,hXl,hXt,hrow⟩,hx⟩⟩:=hrel;obtain ⟨j,hj⟩:=n_m (i+1);rw [hj] at hi hXt;rw [hj];have hj1:j<=i+1:=by omega
  have hj2:i+1<=j:=by omega
  clear hj;have HX:=Lib.hid hx;have HROW:=Lib.hid hrow;have HXT:=Lib.hid hXt;have HXL:=Lib.hid hXl;have hR:w6.heap.size < wr.heap.size:=hrow.1;clear hx hXt
  by_cases hlt:j < n+1
  · have hik:i < X.length:=by omega
    have hz:X[i]=(qr.den:Int) ^ i:=by
     rw [jin HXT.out (show i < j by omega) hik (by rw [HPL.out]; omega)];exact hpb.out _ _
    obtain ⟨Q,qn,qc,q0,q1,q2⟩:=hrow.2.2 i hik;have hzl:(dg ((qr.den:Int) ^ i).natAbs).length<=L * i+1:=zc4 (Nat.lt_of_le_of_lt (kg7 HDN.out i) (Nat.pow_lt_pow_right (by decide) (Nat.lt_succ_self _)));rw [hz] at q0 q2;have hLi:L * i<=60000000:=Nat.mul_le_mul (show L<=1000000 by omega) (show i<=60 by omega);have HQI:=Lib.hid (zhd q2 hzl);have hsub:IntKind.i64.wrap ((j:Int) - 1)=(i:Int):=by rw [IntKind.wrap_i64]; omega
    have hin1:(i:Int) < (n:Int)+1:=by omega
    have hin2:(j:Int) < (n:Int)+1:=by omega
    obtain ⟨⟨W1,wn,wc,v0,v1,v2⟩,-⟩:=HIB8.out;have HDC:Hid (∀ W',Ext w6 W'->W'.cell? ⟨w5.heap.size,0,none⟩=some (.bool (decide ((qr.den:Int) < 0)))/\W'.cell? ⟨w5.heap.size,1,none⟩=some (.slice W1 wn wc)):=Lib.hid (fun W' hx=>⟨(hx.cell (p:=⟨w5.heap.size,0,none⟩) HG8.out).trans v0,(hx.cell (p:=⟨w5.heap.size,1,none⟩) HG8.out).trans v1⟩);have HML:=Lib.hid (fun (W':World) (hx:Ext wr W')=>jdf _ _ _ _ _ _ W' (HQI.out.ext hx) ((zhd v2 HDL.out).ext (HX.out.trans hx)) (by omega));have Y0:=Lib.hid ((Ext.refl wr).drew);have HQC:Hid (wr.drew.cell? ⟨w6.heap.size,i * 2,none⟩=some (.bool (decide ((qr.den:Int) ^ i < 0)))/\wr.drew.cell? ⟨w6.heap.size,i * 2+1,none⟩=some (.slice Q qn qc)):=Lib.hid ⟨(Y0.out.cell (p:=⟨w6.heap.size,i * 2,none⟩) hR).trans q0,(Y0.out.cell (p:=⟨w6.heap.size,i * 2+1,none⟩) hR).trans q1⟩;have HNX:Hid (∀ V z,(qr.den:Int) ^ i * (qr.den:Int)=z->zgy V w6.heap.size (X.set j z)->Ext w6 V->(∃ X',X'.length=n+1/\X'.take (j+1)=ps.take (j+1)/\zgy V w6.heap.size X')/\Ext w6 V):=Lib.hid (fun V z hz hr hx=>by
     have hpx:ps[j]'(by rw [HPL.out]; omega)=z:=by rw [hpb.out,<- hz,show j=i+1 by omega]; exact Int.pow_succ ..
     refine ⟨⟨_,by rw [List.length_set]; exact HXL.out,?_,hr⟩,hx⟩;rw [<- hpx]
     exact qdf X ps j HXT.out (by omega) (by rw [HPL.out]; omega))
    clear q0 q1 q2 hz hzl v0 v1 v2 hrow hik HXT;generalize (qr.den:Int) ^ i=bi at *;go_upto_region 11 with fail;refine wp_region_held_drew (S:=fun W'=>Ext w6 W') (by kernel_rfl) (HX.out.trans Y0.out) (fun hHeld=>?_);refine tk 0 ?_;refine tk 1 ?_;refine tk 2 ?_;refine tk 3 ?_;refine tk 4 ?_;refine tk 5 ?_;refine tk 7 ?_ (hy:=Or.inl ⟨by rfl,by intro w' hSw; obtain ⟨v0,v1⟩:=HDC.out w' hSw; go_simp; (try (with_reducible rfl))⟩);refine r_1 6 fun K hK=>?_
    obtain ⟨q0,q1⟩:=HQC.out;go_simp;refine k_t hK (HX.out.trans Y0.out) fun hHeld=>?_
    clear hK K q0 q1;refine r_1 8 fun K hK=>?_
    go_simp
    go_at_call 57
    refine (HML.out _ Y0.out).mono ?_;rintro e w9 ⟨z9,rfl,⟨y9,rfl,n9⟩,x9⟩;obtain ⟨G3,g3,rfl,-⟩:=id n9;have z1:Ext wr w9:=Y0.out.trans x9;refine k_t hK (HX.out.trans z1) fun hHeld=>?_
    clear hK K;refine tk 9 ?_;have hr9:=HROW.out.ext z1;have hst:=hr9.set_ j (by omega) _ n9;obtain ⟨J0,j0,jc0,q0,q1,-⟩:=hr9.2.2 j (by omega);have qf:=hr9.2.1;refine r_1 10 fun K hK=>?_
    go_simp;refine (?atMul:∀ V,(∃ X',X'.length=n+1/\X'.take (j+1)=ps.take (j+1)/\zgy V w6.heap.size X')/\Ext w6 V->K _ V) _ (HNX.out _ _ rfl hst (((HX.out.trans z1).setCell (Nat.le_refl _) _).setCell (Nat.le_refl _) _));intro V hV;refine k_t hK hV.2 fun hHeld=>?_
    clear hK K;refine w_d ?_;have HV:=Lib.hid hV;clear hV n9 x9 z1 hHeld hr9 hst q0 q1 qf HROW HML HQI;go_wp2_with fail
    go_roundw
    case rel=>exact ⟨j,by omega,by go_num,HV.out⟩
    case measure=>simp only [intOf]; omega
  · have hje:j=n+1:=by omega
    have hXe:X=ps:=by
     have h:=HXT.out;rw [hje,List.take_of_length_le (by rw [hXl]; exact Nat.le_refl _),List.take_of_length_le (by rw [HPL.out]; exact Nat.le_refl _)] at h;exact h
    rw [hXe] at hrow;obtain ⟨t1,t2,et,ht1,ht2⟩:=HR8.out;simp only [Value.agg.injEq,Array.mk.injEq,List.cons.injEq,and_true,true_and] at et;obtain ⟨rfl,rfl⟩:=et;have hB:=HB8.out.ext_ HX.out;obtain ⟨hBx,hBs,⟨E0,m0,e0,E1,e1,⟨b0,b1,b2,b3⟩,hpv⟩,-,r0,r1,r2,-,hzero⟩:=id hB;have HAT:=Lib.hid (ji9 (b:=(qr.den:Int)) (pad:=⟨w6.heap.size,0,none⟩) (pc:=n+1) hl (by omega) hnE (by
     have:L * (n+1)<=1000000 * 61:=Nat.mul_le_mul (by omega) (by omega);omega) ((zhd ht1 HNL.out).ext HX.out) HDN.out (Nat.le_refl _) (by omega) (fun k hk=>by
     obtain ⟨Q,qn,qc,q0,q1,q2⟩:=hrow.2.2 k (by rw [HPL.out]; omega);have hzk:=hpb.out k (by rw [HPL.out]; omega);rw [hzk] at q0 q2
     exact ⟨hR,_,Q,qn,qc,by rw [zc9,Nat.zero_add]; exact q0,by rw [zc9,Nat.zero_add]; exact q1,zhd q2 (zc4 (Nat.lt_of_le_of_lt (kg7 HDN.out k) (Nat.pow_lt_pow_right (by decide) (Nat.lt_succ_self _))))⟩) p _ HP.out (Int.le_of_eq HDG.out) hpv)
    rw [HRP.out] at HAT;have HBE:=Lib.hid hB;unfold plV at HAT;clear hrow ht1 ht2 hpv hzero hje hXe HXT HXL hXl hB HB8 HR8 HIB8;go_wp2_with fail;refine HAT.out.mono ?_;rintro e w9 ⟨z9,rfl,m9,x9⟩;clear b0 b1 b2 b3 r0 r1 r2;have HLn:Hid (L * n<=60000000):=Lib.hid (Nat.mul_le_mul (show L<=1000000 by omega) (show n<=60 by omega));have HCP:=Lib.hid (ug8 rp _ HFIT.out.can (HFIT.out.copy (by omega)) (Nat.le_trans HFIT.out.dm (by have:=HLn.out; omega)) m9);obtain ⟨C4,i4,j4,D4,k4,rfl,-⟩:=id m9.open_;have X9:=Lib.hid x9;clear m9 x9 HAT;go_wp2_with fail;refine HCP.out.mono ?_;rintro e wa ⟨za,rfl,ma,xa⟩;obtain ⟨C5,i5,j5,D5,k5,rfl,-⟩:=id ma.open_;have hxa:=X9.out.trans xa;have hzn:=HBE.out.zero.ext hxa hBs;have hsa:=xa.size;have hs9:=X9.out.size;have HF:=Lib.hid (gc5 (q':=fun b=>w.heap.size<=b) (hBx.trans hxa) (by omega:w.heap.size<=w.heap.size+1+1) hzn ma (fun b _ hb=>⟨by omega,by omega⟩));obtain ⟨⟨z00,z01,z02,z03⟩,zf⟩:=hzn;clear ma xa HCP hxa hsa hs9 hBx;unfold plV;go_wp2_with fail;exact bodyPost_ret (v:=plV _ (.slice C5 i5 j5) (.slice D5 _ k5)) (by simp [results,Tryz.results101,go_sem,z00,z01,z02,z03,plV]) rfl HF.out
end Go.Proofs.YtopddaabiinboaaGreat

/- Layer 23: mainvar.isLevel, degree, Degree; recpoly.IsZero of a canonical polynomial. -/
set_option maxRecDepth 100000
set_option maxHeartbeats 8000000
namespace Go.Proofs.YtopddaabiinboaaGreat
open Go.RowKit
theorem khw (l:Int) (w:World):Calls Tryz.prog 138 #[.int .i64 l] w fun e w'=>e=.returned (.bool (decide (1<=l) && decide (l<=4)))/\w'=w:=by
 by_cases h:1<=l
 · go_enter Tryz.func138,Tryz.ntmps138;go_wp2_with fail;go_ret;simp [h]
 · go_enter Tryz.func138,Tryz.ntmps138;go_wp2_with fail;go_ret;have h':l < 1:=by omega
   simp [h]; omega
def yja (w0:World) (q:Nat->Prop) (l:Int) (n:Nat):Prop:=∀ (p:Pl) (v:Value) (w:World),p.sz < n->p.Can->p.cs.length<=1099511627776->(∀ c ∈ p.cs,c.sz<=1099511627776)->PlV w0 q p v->Ext w0 w->Calls Tryz.prog 139 #[v,.int .i64 l] w (vc5 (p.dgL l) w)
theorem zi4 (w0:World) (q:Nat->Prop) (l:Int) (hl:1<=l) (n:Nat):yja w0 q l n:=by
 induction n with
 | zero=>intro p v w h; omega
 | succ n ih =>
 intro p v w hn hcan hlen hks h hx0;obtain ⟨A0,n0,c0,A,c,rfl,-,hl1,hl2,h4⟩:=h.open_;have IH:=Lib.hid ih;have H4:=Lib.hid h4;have HX0:=Lib.hid hx0;have HSZ:Hid (∀ k (hk:k < p.cs.length),p.cs[k].sz < n/\p.cs[k].Can/\p.cs[k].cs.length<=1099511627776/\∀ c ∈ p.cs[k].cs,c.sz<=1099511627776):=by
  have:∀ k (hk:k < p.cs.length),p.cs[k].sz < n/\p.cs[k].Can/\p.cs[k].cs.length<=1099511627776/\∀ c ∈ p.cs[k].cs,c.sz<=1099511627776:=fun k hk=>by
   have hm:=List.getElem_mem hk;have h1:=Pl.sz_kid hm;have h2:=hks _ hm;have h3:=Pl.sz_len p.cs[k];refine ⟨by omega,?_,by omega,fun c hc=>by have:=Pl.sz_kid hc; omega⟩;obtain ⟨lv,ng,ds,cs⟩:=p;rcases Int.lt_or_le 0 lv with h0 | h0
   · exact ((hcan.kids h0).2.2.2.1.mem _ hm).2
   · have:cs=[]:=by
      have:=hcan;rw [Pl.Can] at this;rcases this with ⟨-,h,-⟩ | ⟨h,-⟩
      · exact h
      · omega
     subst this;cases hm
  exact this
 obtain ⟨W,hW⟩:=n_m (w.alloc (.cells #[.int .i64 p.lv,.bool p.neg,.slice A0 n0 c0,.slice A p.cs.length c] 30));have hWx:Ext w W:=by rw [<- hW]; exact (Ext.refl w).alloc _
 have hWs:W.heap.size=w.heap.size+1:=by rw [<- hW]; simp
 have hbx:yc3 W w.heap.size p (.slice A0 n0 c0) (.slice A p.cs.length c):=by rw [<- hW]; exact yc3.new w p _ _ _
 have HWX:=Lib.hid hWx;have HBX:=Lib.hid hbx;obtain ⟨b0,b1,b2,b3⟩:=hbx;clear h h4 ih hx0 hks hWx;unfold plV
 by_cases k1:p.lv < l
 · rw [Pl.dgL_lt k1];have q1:decide (p.lv < l)=true:=by simpa using k1
   go_enter Tryz.func139,Tryz.ntmps139;go_wp2_with fail;go_ret;exact ⟨rfl,HWX.out⟩
 by_cases k2:p.lv=l
 · rw [Pl.dgL_eq k2];have q1:decide (p.lv < l)=false:=by simpa using k1
   have q2:(p.lv == l)=true:=by simpa using k2
   have hw:IntKind.i64.wrap ((p.cs.length:Int) - 1)=(p.cs.length:Int) - 1:=by simp [IntKind.wrap,IntKind.bits,IntKind.signed]; omega
   have HW1:=Lib.hid hw;clear k1 k2;clear HSZ HBX H4;generalize p.cs.length=N at *;go_enter Tryz.func139,Tryz.ntmps139;go_wp2_with fail;go_ret;exact ⟨by first | rfl | rw [HW1.out],HWX.out⟩
 · rw [Pl.dgL_gt (by omega)];have q1:decide (p.lv < l)=false:=by simpa using k1
   have q2:(p.lv == l)=false:=by simpa using k2
   clear k1 k2;go_enter Tryz.func139,Tryz.ntmps139;go_wp2_with fail;clear hW b0 b1 b2 b3
   go_loopw [25,5] (fun iv mv wr=>∃ k:Nat,k<=p.cs.length/\iv=.int .i64 k/\Hid (mv=.int .i64 (jc7 l 0 (p.cs.take k))/\Ext W wr)) (fun iv _ _=>p.cs.length - (intOf iv).toNat)
   case atStart=>exact ⟨0,Nat.zero_le _,rfl,⟨by simp [jc7],Ext.refl W⟩⟩
   case round =>
    obtain ⟨k,hk,rfl,⟨rfl,hxw⟩⟩:=hrel;have HXW:=Lib.hid hxw
    by_cases hlt:k < p.cs.length
    · obtain ⟨ad,B0,m0,d0,B1,m1,d1,rfl,hadb,hnd,hkt⟩:=kc3.kid H4.out k hlt;have hxx:Ext w0 wr:=(HX0.out.trans HWX.out).trans hxw;obtain ⟨e0,e1,e2,e3⟩:=hnd.ext hxx (by rw [uc2]; exact hadb);obtain ⟨hsz1,hsz2,hsz3,hsz4⟩:=HSZ.out k hlt;have HC:=Lib.hid (fun W' (hxW:Ext wr W')=>IH.out p.cs[k] _ W' hsz1 hsz2 hsz3 hsz4 hkt (hxx.trans hxW));have HSTEP:Hid (jc7 l 0 (p.cs.take (k+1))=max (jc7 l 0 (p.cs.take k)) (p.cs[k].dgL l)):=by
       have:jc7 l 0 (p.cs.take (k+1))=max (jc7 l 0 (p.cs.take k)) (p.cs[k].dgL l):=vhi _ _ _ _ hlt;exact this
      generalize jc7 l 0 (p.cs.take k)=mm at *;generalize p.cs[k]=ck at *;generalize ck.dgL l=dk at *;clear hnd hkt hadb hsz1 hsz2 hsz3 hsz4 hxx hxw;go_wp2_with fail;refine (HC.out _ ((Ext.refl _).alloc _)).mono ?_;rintro e w2 ⟨rfl,x2⟩;have X2:=Lib.hid ((HXW.out.alloc _).trans x2);clear x2 HC e0 e1 e2 e3;go_wp2_with fail
      go_roundw
      case rel=>exact ⟨k+1,by omega,by go_num,⟨by rw [HSTEP.out],X2.out⟩⟩
      case measure=>simp only [intOf]; omega
    · have hke:k=p.cs.length:=by omega
      rw [hke,List.take_length];clear hxw hke;generalize jc7 l 0 p.cs=mm at *;go_wp2_with fail;go_ret;exact ⟨rfl,HWX.out.trans HXW.out⟩
theorem ziv {w:World} {q:Nat->Prop} {l:Int} (hl:1<=l) (p:Pl) (v:Value) (hcan:p.Can) (hsz:p.sz<=1099511627776) (h:PlV w q p v):Calls Tryz.prog 139 #[v,.int .i64 l] w (vc5 (p.dgL l) w):=
 zi4 w q l hl (p.sz+1) p v w (Nat.lt_succ_self _) hcan (by have:=Pl.sz_len p; omega) (fun c hc=>by have:=Pl.sz_kid hc; omega) h (Ext.refl w)
theorem gia {w:World} {p:Pl} {q0:Nat->Prop} (v0:Value) (h0:PlV w q0 p v0) (hp:p.Can):Calls Tryz.prog 107 #[v0] w (ydd p.isZ w):=by
 have H0:=Lib.hid h0;obtain ⟨A0,n0,c0,B0,d0,rfl,-,-,-,-⟩:=h0.open_;clear h0;obtain ⟨W,hW⟩:=n_m (w.alloc (.cells #[.int .i64 (p).lv,.bool (p).neg,.slice A0 n0 c0,.slice B0 (p).cs.length d0] 30));have hWx:Ext w W:=by rw [<- hW]; exact (Ext.refl w).alloc _
 have hWs:W.heap.size=w.heap.size+1:=by rw [<- hW]; simp
 have HX0:=Lib.hid hWx;have HS:Hid (∀ W',Ext W W'->(Ext w W'/\yc3 W' (w.heap.size) p (.slice A0 n0 c0) (.slice B0 (p).cs.length d0))):=by
  have:∀ W',Ext W W'->(Ext w W'/\yc3 W' (w.heap.size) p (.slice A0 n0 c0) (.slice B0 (p).cs.length d0)):=fun W' hx=>by
   obtain ⟨hc,hf⟩:=hx.cells;refine ⟨hWx.trans hx,?_,?_,?_,?_⟩ <;> (rw [hc _ _ (by omega),<- hW]; simp [go_sem])
  exact this
 obtain ⟨-,b0,b1,b2,b3⟩:=HS.out W (Ext.refl W);clear hWx;unfold plV;go_enter Tryz.func107,Tryz.ntmps107;go_wp2_with fail;clear hW b0 b1 b2 b3;refine (xg0 _ (H0.out.ext HX0.out) hp).mono ?_;rintro e w1 ⟨z1,rfl,m1,x1⟩;obtain ⟨C1,i1,j1,D1,k1,rfl,-⟩:=id m1.open_;have YY1:=Lib.hid (x1);obtain ⟨-,b0,b1,b2,b3⟩:=HS.out _ YY1.out;unfold plV;go_wp2_with fail;clear b0 b1 b2 b3;refine (vgt p _ m1).mono ?_;rintro e w2 ⟨rfl,x2⟩;have YY2:=Lib.hid (YY1.out.trans x2)
 replace m1:=m1.ext x2
 have X2:=Lib.hid (HX0.out.trans YY2.out);clear m1 x1 x2 HS;generalize p.isZ=res at *;go_wp2_with fail;go_ret;exact ⟨rfl,X2.out⟩
theorem uir {w:World} {q:Nat->Prop} {p:Pl} {l:Int} (v:Value) (hp:p.Can) (hsz:p.sz<=1099511627776) (hdm:p.dm<=35184372088832) (h:PlV w q p v):Calls Tryz.prog 100 #[v,.int .i64 l] w (vc5 (mdg l p) w):=by
 have HP:=Lib.hid h;obtain ⟨A0,n0,c0,A,c,rfl,-⟩:=h.open_;obtain ⟨W,hW⟩:=n_m (w.alloc (.cells #[.int .i64 p.lv,.bool p.neg,.slice A0 n0 c0,.slice A p.cs.length c] 30));have hWx:Ext w W:=by rw [<- hW]; exact (Ext.refl w).alloc _
 have hB0:PBx W (fun _=>True) w.heap.size p:=by rw [<- hW]; exact PBx.new (h.mono fun _ _=>trivial) _
 obtain ⟨r,hr⟩:=n_m (mdg l p);have HM:Hid (r=if p.isZ=true then -1 else if 1<=l/\l<=4 then p.dgL l else 0):=Lib.hid (by rw [<- hr]; exact ji8 hp);rw [hr];clear hr;have HC:=Lib.hid hp;have HN:=Lib.hid (kh1 _ (HP.out.ext hWx) hp hsz hdm);have HWX:=Lib.hid hWx;have HB0:=Lib.hid hB0;have hsz':=hWx.size;obtain ⟨-,-,B0,b0n,b0c,B1,b1c,⟨b0,b1,b2,b3⟩,-⟩:=id hB0;have hE:yc3 W (w.heap.size) p (.slice A0 n0 c0) (.slice A p.cs.length c):=by
  rw [<- hW]; exact ⟨by simp [go_sem],by simp [go_sem],by simp [go_sem],by simp [go_sem]⟩
 clear b0 b1 b2 b3 h hp hB0 hWx;obtain ⟨b0,b1,b2,b3⟩:=hE;unfold plV at HN;unfold plV;go_enter Tryz.func100,Tryz.ntmps100;go_wp2_with fail;clear hW b0 b1 b2 b3;refine HN.out.mono ?_;rintro e w1 ⟨v1,rfl,m1,x1⟩;obtain ⟨C0,j0,f0,C1,f1,rfl,-⟩:=id m1.open_;have hB1:=HB0.out.ext x1;obtain ⟨-,hfr,B0,b0n,b0c,B1,b1c,⟨b0,b1,b2,b3⟩,-⟩:=id hB1;have hsW:w.heap.size < W.heap.size:=HB0.out.1;have hB2:=hB1.store (Q':=fun _=>True) (m1.mono fun b hb=>⟨trivial,by omega⟩);obtain ⟨W1,hW1⟩:=n_m (((((w1.setCell ⟨w.heap.size,0,none⟩ (.int .i64 p.lv)).setCell ⟨w.heap.size,1,none⟩ (.bool p.neg)).setCell ⟨w.heap.size,2,none⟩ (.slice C0 j0 f0)).setCell ⟨w.heap.size,3,none⟩ (.slice C1 p.cs.length f1)));have X1:Hid (Ext w W1):=Lib.hid (by rw [<- hW1]; exact ((((HWX.out.trans x1).setCell (Nat.le_refl _) _).setCell (Nat.le_refl _) _).setCell (Nat.le_refl _) _).setCell (Nat.le_refl _) _);rw [hW1] at hB2;have HB2:=Lib.hid hB2;have f0':=hfr 0;have f1':=hfr 1;have f2':=hfr 2;have f3':=hfr 3;have hd:yc3 W1 (w.heap.size) p (.slice C0 j0 f0) (.slice C1 p.cs.length f1):=by
  rw [<- hW1]; exact yc3.set (HB0.out.ext x1).2.2.choose_spec.choose_spec.choose_spec.choose_spec.choose_spec.1
 have HPV:Hid (PlV W1 (fun b=>W.heap.size<=b) p (plV p (.slice C0 j0 f0) (.slice C1 p.cs.length f1))):=Lib.hid (by rw [<- hW1]; exact hB1.stays m1 (fun b hb=>by omega) _ _ _ _ _ _ _ _);have HD:Hid (∀ W',Ext W1 W'->yc3 W' (w.heap.size) p (.slice C0 j0 f0) (.slice C1 p.cs.length f1)):=Lib.hid (fun W' hx=>by
  have k:∀ i,W'.cell? ⟨w.heap.size,i,none⟩=W1.cell? ⟨w.heap.size,i,none⟩:=fun i=>hx.cell (p:=⟨w.heap.size,i,none⟩) HB2.out.1
  exact ⟨(k 0).trans hd.1,(k 1).trans hd.2.1,(k 2).trans hd.2.2.1,(k 3).trans hd.2.2.2⟩)
 have HIZ:=Lib.hid (gia _ HPV.out HC.out);unfold plV at HIZ;unfold plV;clear hB1 hB2 hfr m1 x1 HN;go_upto_region 2 with fail
 try rw [hW1]
 clear hW1 b0 b1 b2 b3 f0' f1' f2' f3';obtain ⟨b0,b1,b2,b3⟩:=hd;go_wp2_with fail;clear b0 b1 b2 b3;refine HIZ.out.mono ?_;rintro e w2 ⟨rfl,x2⟩
 by_cases hz:p.isZ=true
 · have hM:=HM.out;rw [if_pos hz] at hM;have HR:=Lib.hid hM;rw [hz];have X2:=Lib.hid (X1.out.trans x2);clear x2 HIZ hM hz HM;go_wp2_with fail;go_ret;exact ⟨by rw [HR.out]; rfl,X2.out⟩
 · rw [show p.isZ=false by simpa using hz];have hM:=HM.out;rw [if_neg hz] at hM;have X2:=Lib.hid (X1.out.trans x2);have X12:=Lib.hid x2;have HM2:=Lib.hid hM;clear x2 HIZ hz hM HM;go_wp2_with fail;refine (khw l _).mono ?_;rintro e w3 ⟨rfl,rfl⟩;have hM:=HM2.out;clear HM2
   by_cases hl:1<=l/\l<=4
   · rw [if_pos hl] at hM;have HR:=Lib.hid hM;clear hM;have hlb:(decide (1<=l) && decide (l<=4))=true:=by simp [hl]
     rw [hlb];have HDM:=Lib.hid (fun (W':World) (hx:Ext W1 W')=>ziv hl.1 p _ HC.out hsz (HPV.out.ext hx));unfold plV at HDM;obtain ⟨b0,b1,b2,b3⟩:=HD.out _ X12.out;clear hl hlb;go_wp2_with fail;refine (HDM.out _ X12.out).mono ?_;rintro e w4 ⟨rfl,x4⟩;have X4:=Lib.hid (X2.out.trans x4);clear x4 HDM b0 b1 b2 b3;go_wp2_with fail;go_ret;exact ⟨by rw [HR.out]; rfl,X4.out⟩
   · rw [if_neg hl] at hM;have HR:=Lib.hid hM;clear hM;have hlb:(decide (1<=l) && decide (l<=4))=false:=by
      simp only [Bool.and_eq_false_iff,decide_eq_false_iff_not];omega
     rw [hlb];clear hl hlb;go_wp2_with fail;go_ret;exact ⟨by rw [HR.out]; rfl,X2.out⟩
end Go.Proofs.YtopddaabiinboaaGreat

/- Layer 32: a frame's Insert at rational coordinates. -/
set_option maxRecDepth 100000
set_option maxHeartbeats 8000000
namespace Go.Proofs.YtopddaabiinboaaGreat
open Go.RowKit
def qg9 (w:World) (q:Nat->Prop) (p:Pl) (V:World):Prop:=Ext w V/\w.heap.size+1 < V.heap.size/\yc5 V (w.heap.size+1)/\(∀ i,V.frozen? ⟨w.heap.size,i,none⟩=false)/\∃ A0 n0 c0 A1 n1 c1,yc3 V w.heap.size p (.slice A0 n0 c0) (.slice A1 n1 c1)/\PlV V (fun b=>(q b/\b < w.heap.size)\/w.heap.size+1 < b) p (plV p (.slice A0 n0 c0) (.slice A1 n1 c1))
theorem qg9.ext {w V V':World} {q:Nat->Prop} {p:Pl} (h:qg9 w q p V) (hx:Ext V V'):qg9 w q p V':=by
 obtain ⟨h0,h1,h2,h3,A0,n0,c0,A1,n1,c1,h4,h5⟩:=h;have hs:=hx.size;exact ⟨h0.trans hx,by omega,h2.ext hx (by omega),fun i=>(hx.frozen (p:=⟨w.heap.size,i,none⟩) (by show w.heap.size < _; omega)).trans (h3 i),A0,n0,c0,A1,n1,c1,h4.ext hx (by omega),h5.ext hx⟩
theorem qg9.store {w V:World} {q:Nat->Prop} {p p':Pl} (h:qg9 w q p V) {q2:Nat->Prop} {A0 A1:Option Addr} {n0 c0 n1 c1:Nat} (hp:PlV V q2 p' (plV p' (.slice A0 n0 c0) (.slice A1 n1 c1))) (hq:∀ b,b < V.heap.size->q2 b->(q b/\b < w.heap.size)\/w.heap.size+1 < b) :
 qg9 w q p' ((((V.setCell ⟨w.heap.size,0,none⟩ (.int .i64 p'.lv)).setCell ⟨w.heap.size,1,none⟩ (.bool p'.neg)).setCell ⟨w.heap.size,2,none⟩ (.slice A0 n0 c0)).setCell ⟨w.heap.size,3,none⟩ (.slice A1 n1 c1)):=by
 obtain ⟨h0,h1,h2,h3,B0,m0,d0,B1,m1,d1,h4,-⟩:=h;have hh:=fun k' (hk:k' ≠ w.heap.size)=>xde V w.heap.size (.int .i64 p'.lv) (.bool p'.neg) (.slice A0 n0 c0) (.slice A1 n1 c1) k' hk
 have hg:w.heap.size<=w.heap.size:=Nat.le_refl _;exact ⟨(((h0.setCell hg _).setCell hg _).setCell hg _).setCell hg _,by simp [World.setCell]; omega,h2.turn (hh _ (by omega)) (fun a=>by simp only [World.frozen?_setCell]),fun i=>by simp only [World.frozen?_setCell]; exact h3 i,A0,n0,c0,A1,n1,c1,h4.set,h4.keep _ _ _ _ hp fun b hb hqb=>⟨by rcases hq b hb hqb with h | h <;> omega,hq b hb hqb⟩⟩
theorem zib {w:World} {base F L D:Nat} {xs:List Rat} {va vd vt vl:Value} {nd nt nl:Nat} {q:Nat->Prop} (p:Pl) (v:Value) (hf:ydc base F w xs va vd vt vl nd nt nl) (hn:xs.length<=4) (h1:1<=L) (hL:L<=1000000) (hxl:∀ x ∈ xs,rlen x<=L) (hp:Fit p 40 D) (hD:D<=1000000000) (h:PlV w q p v) :
 Calls Tryz.prog 66 #[.pointer (some ⟨F,0,none⟩),v] w (vc4 (fun b=>(q b/\b < w.heap.size)\/w.heap.size+1 < b) (xc9 xs p xs.length) w):=by
 have HF:=Lib.hid hf;have hFlt:=hf.lt;have hpw:PlV w (fun b=>q b/\b < w.heap.size) p v:=PlV.turn_ (Nat.le_refl _) (fun _ _ h=>h) (fun b hb hq=>⟨⟨hq,hb⟩,rfl⟩) h;obtain ⟨A0,n0,c0,A,c,rfl,-,-,-,-⟩:=h.open_;have HP:=Lib.hid hpw;obtain ⟨VA,vc,rfl,hva1,hva2⟩:=hf.2.ra.len;have hcf:w.cell? ⟨F,0,none⟩=some (.slice VA xs.length vc):=by simp [World.cell?,hf.1]
 have HFI:=Lib.hid (fun k=>qg8 (xs:=xs) (L:=L) hxl h1 hp k);have HXL:=Lib.hid hxl;have hDk:∀ k,k<=4->D+L * 40 * k<=10000000000:=fun k hk=>by
  have:L * 40 * k<=L * 40 * 4:=Nat.mul_le_mul_left _ hk;omega
 have HDK:=Lib.hid hDk;clear h hpw hf hp hxl hDk;obtain ⟨W,hW⟩:=n_m ((w.alloc (.cells #[.int .i64 p.lv,.bool p.neg,.slice A0 n0 c0,.slice A p.cs.length c] 30)).alloc (.cells #[.int .i64 0,.bool false,.slice none 0 0,.slice none 0 0] 30));have hWx:Ext w W:=by rw [<- hW]; exact ((Ext.refl w).alloc _).alloc _
 have hWs:W.heap.size=w.heap.size+1+1:=by rw [<- hW]; simp
 have hbx:yc3 W w.heap.size p (.slice A0 n0 c0) (.slice A p.cs.length c):=by rw [<- hW]; exact (yc3.new w p _ _ _).ext ((Ext.refl _).alloc _) (by simp)
 have hZ:yc5 W (w.heap.size+1):=by
  rw [<- hW];have:=yc5.new (w.alloc (.cells #[.int .i64 p.lv,.bool p.neg,.slice A0 n0 c0,.slice A p.cs.length c] 30)) 30
  rwa [World.size_alloc] at this
 have hfr:∀ i,W.frozen? ⟨w.heap.size,i,none⟩=false:=fun i=>by
  have hb:W.heap[w.heap.size]?=some (.cells #[.int .i64 p.lv,.bool p.neg,.slice A0 n0 c0,.slice A p.cs.length c] 30):=by rw [<- hW,Below.heap_alloc _ _ _ (by simp)]; exact heap_alloc_new w _
  simp [World.frozen?,hb]
 have hcf2:W.cell? ⟨F,0,none⟩=some (.slice VA xs.length vc):=(hWx.cell (p:=⟨F,0,none⟩) hFlt).trans hcf;have HI0:Hid (qg9 w q (xc9 xs p 0) W):=Lib.hid ⟨hWx,by omega,hZ,hfr,A0,n0,c0,A,p.cs.length,c,hbx,PlV.turn_ (Nat.le_refl _) (fun _ _ h=>h) (fun b _ hq=>⟨.inl hq,rfl⟩) (HP.out.ext hWx)⟩;have HWX:=Lib.hid hWx;clear hbx hZ hfr hWx hcf HP;unfold plV;go_enter Tryz.func66,Tryz.ntmps66;go_wp2_with fail;clear hW hcf2
 go_loopw [12] (fun iv wr=>∃ (k:Nat),k<=xs.length/\iv=.int .i64 k/\Hid (qg9 w q (xc9 xs p k) wr/\Ext w wr)) (fun iv _=>xs.length - (intOf iv).toNat)
 case atStart=>exact ⟨0,by omega,rfl,Lib.hid ⟨HI0.out,HWX.out⟩⟩
 case round =>
  obtain ⟨k,hk,rfl,HI⟩:=hrel;have HQ:=Lib.hid HI.out.1;have HE:=Lib.hid HI.out.2;clear HI HI0
  by_cases hlt:k < xs.length
  · obtain ⟨g,c',b1,A1,n1,c1,B1,m1,d1,b2,A2,n2,c2,B2,m2,d2,e',-,hg,⟨a0,a1,a2,a3,a4,a5,a6,a7,a8,a9⟩,hlo,hhi⟩:=(HF.out.ext HE.out).2.ra.get_ k hlt;injection e' with e1 e2 e3
    subst e1;have hzl:=HXL.out _ (List.getElem_mem hlt);have hgd:xs.getD k 0=xs[k]:=by rw [List.getD_eq_getElem?_getD,List.getElem?_eq_getElem hlt]; rfl
    have HSTEP:Hid (xc9 xs p (k+1)=if 0 < mdg (k+1) (xc9 xs p k) then (xc9 xs p k).atQ (k+1) (xs[k]).num (xs[k]).den else xc9 xs p k):=Lib.hid (by rw [<- hgd]; rfl);have hfk:=HFI.out k;have hdk:=HDK.out k (by omega);obtain ⟨r,hr⟩:=n_m (xc9 xs p k);obtain ⟨r',hr'⟩:=n_m (xc9 xs p (k+1));obtain ⟨DK,hDK⟩:=n_m (D+L * 40 * k);rw [hr,hr'] at HSTEP;rw [hr] at HQ hfk;rw [hDK] at hfk hdk;generalize xs[k]=z at *;have hki:(k:Int) < (xs.length:Int):=by omega
    have hk0:(0:Int)<=(k:Int):=by omega
    have hk4:(k:Int)+1<=4:=by omega
    obtain ⟨j,hj⟩:∃ j:Int,(k:Int)+1=j:=⟨_,rfl⟩;have hwr:IntKind.i64.wrap ((k:Int)+1)=j:=by rw [IntKind.wrap_i64]; omega
    rw [hj] at HSTEP;have hj1:1<=j/\j<=4:=by omega
    have HZL:=Lib.hid hzl;have HFK:=Lib.hid hfk;have HR':=Lib.hid hr';have HJ:=Lib.hid hj;clear hDK hr hr' hgd hj hfk hzl e2 e3;obtain ⟨V,hV⟩:=n_m (wr.alloc (.cells #[.int .i64 0,.bool false,.slice none 0 0,.slice none 0 0,.bool b1,.slice A1 n1 c1,.slice B1 m1 d1,.bool b2,.slice A2 n2 c2,.slice B2 m2 d2] 40));have hxa:Ext wr V:=by rw [<- hV]; exact (Ext.refl wr).alloc _
    have hbx:V.heap[wr.heap.size]?=some (.cells #[.int .i64 0,.bool false,.slice none 0 0,.slice none 0 0,.bool b1,.slice A1 n1 c1,.slice B1 m1 d1,.bool b2,.slice A2 n2 c2,.slice B2 m2 d2] 40 (0,0)):=by rw [<- hV]; exact heap_alloc_new wr _
    have hVs:V.heap.size=wr.heap.size+1:=by rw [<- hV]; simp
    have HC:Hid (CoV V (.agg #[.int .i64 0,.bool false,.slice none 0 0,.slice none 0 0,.bool b1,.slice A1 n1 c1,.slice B1 m1 d1,.bool b2,.slice A2 n2 c2,.slice B2 m2 d2]) z):=⟨b1,A1,n1,c1,B1,m1,d1,b2,A2,n2,c2,B2,m2,d2,rfl,hlo.ext hxa,hhi.ext hxa⟩;have HLO:=Lib.hid (hlo.ext hxa);have HXA:=Lib.hid hxa;have HBX:=Lib.hid hbx;have HIV:=Lib.hid (HQ.out.ext hxa);have HEV:=Lib.hid (HE.out.trans hxa);have k0:V.cell? ⟨wr.heap.size,0,none⟩=some (.int .i64 0):=by simp [World.cell?,hbx]
    have k1:V.cell? ⟨wr.heap.size,1,none⟩=some (.bool false):=by simp [World.cell?,hbx]
    have k2:V.cell? ⟨wr.heap.size,2,none⟩=some (.slice none 0 0):=by simp [World.cell?,hbx]
    have k3:V.cell? ⟨wr.heap.size,3,none⟩=some (.slice none 0 0):=by simp [World.cell?,hbx]
    have k4:V.cell? ⟨wr.heap.size,4,none⟩=some (.bool b1):=by simp [World.cell?,hbx]
    have k5:V.cell? ⟨wr.heap.size,5,none⟩=some (.slice A1 n1 c1):=by simp [World.cell?,hbx]
    have k6:V.cell? ⟨wr.heap.size,6,none⟩=some (.slice B1 m1 d1):=by simp [World.cell?,hbx]
    have k7:V.cell? ⟨wr.heap.size,7,none⟩=some (.bool b2):=by simp [World.cell?,hbx]
    have k8:V.cell? ⟨wr.heap.size,8,none⟩=some (.slice A2 n2 c2):=by simp [World.cell?,hbx]
    have k9:V.cell? ⟨wr.heap.size,9,none⟩=some (.slice B2 m2 d2):=by simp [World.cell?,hbx]
    clear hlo hhi hxa hbx HQ HE;go_wp2_with fail;clear hV a0 a1 a2 a3 a4 a5 a6 a7 a8 a9 k0 k1 k2 k3 k4 k5 k6 k7 k8 k9;refine (ugt HC.out (by have:=HZL.out; omega)).mono ?_;rintro e w3 ⟨rfl,x3⟩;have HI3:=Lib.hid (HIV.out.ext x3);have HE3:=Lib.hid (HEV.out.trans x3);have HL3:=Lib.hid (HLO.out.ext x3);have hbx:=(x3.below.block _ (by omega)).trans HBX.out;have HBX3:=Lib.hid hbx;have hs3:=x3.size;clear x3 HIV HEV HLO HC HBX;obtain ⟨-,-,-,hfr3,P0,l0,h0,P1,l1,h1',hb4,hpl⟩:=HI3.out;obtain ⟨b0,b1',b2',b3'⟩:=hb4;have hsz0:r.sz<=3111696:=HFK.out.sz;have hsz:r.sz<=1099511627776:=by omega
    have hdm:r.dm<=35184372088832:=by have:=HFK.out.dm; omega
    have HDEG:=Lib.hid (uir (l:=j) _ HFK.out.can hsz hdm hpl);unfold plV at HDEG;obtain ⟨dg',hdg⟩:=n_m (mdg j r);rw [hdg] at HDEG HSTEP;clear hpl hfr3 hbx hsz hsz0 hdm hdg;go_wp2_with fail;clear b0 b1' b2' b3';refine HDEG.out.mono ?_;rintro e w4 ⟨rfl,x4⟩;have HI4:=Lib.hid (HI3.out.ext x4);have HE4:=Lib.hid (HE3.out.trans x4);have HL4:=Lib.hid (HL3.out.ext x4);have hbx:=(x4.below.block _ (by omega)).trans HBX3.out;clear x4 HI3 HE3 HL3 HDEG HBX3
    by_cases hd0:0 < dg'
    · have hst:=HSTEP.out;rw [if_pos hd0] at hst;obtain ⟨-,hsv,-,hfr4,P0,l0,h0,P1,l1,h1',hb4,hpl⟩:=HI4.out;obtain ⟨b0,b1',b2',b3'⟩:=hb4;have f0:=hfr4 0;have f1:=hfr4 1;have f2:=hfr4 2;have f3:=hfr4 3;have k0:w4.cell? ⟨wr.heap.size,0,none⟩=some (.int .i64 0):=by simp [World.cell?,hbx]
      have k1:w4.cell? ⟨wr.heap.size,1,none⟩=some (.bool false):=by simp [World.cell?,hbx]
      have k2:w4.cell? ⟨wr.heap.size,2,none⟩=some (.slice none 0 0):=by simp [World.cell?,hbx]
      have k3:w4.cell? ⟨wr.heap.size,3,none⟩=some (.slice none 0 0):=by simp [World.cell?,hbx]
      have k4:w4.cell? ⟨wr.heap.size,4,none⟩=some (.bool b1):=by simp [World.cell?,hbx]
      have k5:w4.cell? ⟨wr.heap.size,5,none⟩=some (.slice A1 n1 c1):=by simp [World.cell?,hbx]
      have k6:w4.cell? ⟨wr.heap.size,6,none⟩=some (.slice B1 m1 d1):=by simp [World.cell?,hbx]
      have k7:w4.cell? ⟨wr.heap.size,7,none⟩=some (.bool b2):=by simp [World.cell?,hbx]
      have k8:w4.cell? ⟨wr.heap.size,8,none⟩=some (.slice A2 n2 c2):=by simp [World.cell?,hbx]
      have k9:w4.cell? ⟨wr.heap.size,9,none⟩=some (.slice B2 m2 d2):=by simp [World.cell?,hbx]
      have HAT:=Lib.hid (wiz (l:=j) (E:=40) r _ hj1.1 hj1.2 (by omega) h1 hL (by omega) HFK.out hpl (HL4.out.raw.mono HZL.out));unfold plV at HAT;rw [<- hst] at HAT;clear hpl hfr4 hbx hst;go_wp2_with fail;clear b0 b1' b2' b3' k0 k1 k2 k3 k4 k5 k6 k7 k8 k9;refine HAT.out.mono ?_;rintro e w5 ⟨v5,rfl,hp5,x5⟩;obtain ⟨Q0,i0,j0,Q1,j1,rfl,-,-,-,-⟩:=hp5.open_;have hs5:=x5.size;have hI5:=HI4.out.ext x5;have HN:=Lib.hid (hI5.store hp5 (fun b _ hb=>.inr (by omega)));have HEN:Hid (Ext w ((((w5.setCell ⟨w.heap.size,0,none⟩ (.int .i64 r'.lv)).setCell ⟨w.heap.size,1,none⟩ (.bool r'.neg)).setCell ⟨w.heap.size,2,none⟩ (.slice Q0 i0 j0)).setCell ⟨w.heap.size,3,none⟩ (.slice Q1 r'.cs.length j1))):=Lib.hid HN.out.1;obtain ⟨-,-,-,hfr5,P0',l0',h0',P1',l1',h1'',⟨b0,b1',b2',b3'⟩,-⟩:=hI5;have g0:=hfr5 0;have g1:=hfr5 1;have g2:=hfr5 2;have g3:=hfr5 3;clear x5 hp5 hfr5 HAT HI4 f0 f1 f2 f3;unfold plV;go_wp2_with fail
      go_roundw
      case rel=>exact ⟨k+1,by omega,by rw [<- HJ.out]; go_num,Lib.hid ⟨by rw [HR'.out]; exact HN.out,HEN.out⟩⟩
      case measure =>
       have hjj:=HJ.out;simp [intOf]; omega
    · have hst:=HSTEP.out;rw [if_neg hd0] at hst;have HN:Hid (qg9 w q r' w4):=Lib.hid (by rw [hst]; exact HI4.out);clear hst hbx HI4;go_wp2_with fail
      go_roundw
      case rel=>exact ⟨k+1,by omega,by rw [<- HJ.out]; go_num,Lib.hid ⟨by rw [HR'.out]; exact HN.out,HE4.out⟩⟩
      case measure =>
       have hjj:=HJ.out;simp [intOf]; omega
  · obtain rfl:k=xs.length:=by omega
    obtain ⟨r,hr⟩:=n_m (xc9 xs p xs.length);rw [hr] at HQ;obtain ⟨hx,hsv,hz4,-,P0,l0,h0,P1,l1,h1',hb4,hpl⟩:=HQ.out;have hfn:=gc5 (q':=fun b=>(q b/\b < w.heap.size)\/w.heap.size+1 < b) (g:=w.heap.size+1) hx (by omega) hz4 hpl (fun b _ hb=>⟨by rcases hb with h | h <;> omega,hb⟩);have HFN:Hid (vc4 (fun b=>(q b/\b < w.heap.size)\/w.heap.size+1 < b) (xc9 xs p xs.length) w (.returned (plV r (.slice P0 l0 h0) (.slice P1 l1 h1'))) ((((wr.setCell ⟨w.heap.size+1,0,none⟩ (.int .i64 r.lv)).setCell ⟨w.heap.size+1,1,none⟩ (.bool r.neg)).setCell ⟨w.heap.size+1,2,none⟩ (.slice P0 l0 h0)).setCell ⟨w.heap.size+1,3,none⟩ (.slice P1 l1 h1'))):=Lib.hid (by rw [hr]; exact hfn);clear hfn hr;obtain ⟨b0,b1',b2',b3'⟩:=hb4;obtain ⟨⟨z0,z1,z2,z3⟩,zf⟩:=hz4;have f0:=zf 0;have f1:=zf 1;have f2:=zf 2;have f3:=zf 3;clear hx hpl zf HQ HE;go_wp2_with fail;exact bodyPost_ret (v:=plV r (.slice P0 l0 h0) (.slice P1 l1 h1')) (by unfold plV; simp [results,Tryz.results66,go_sem,z0,z1,z2,z3]) rfl HFN.out
end Go.Proofs.YtopddaabiinboaaGreat
