/- Layer 22: recpoly.mul where the levels are the same and not 0. -/
import Derived.Test.YtheefiaoimbeiaaGreatDoorMp47
import Derived.Test.YtheefiaoimbeiaaGreatDoorMp46
set_option linter.unusedSimpArgs false
set_option linter.unusedVariables false

set_option maxRecDepth 100000
set_option maxHeartbeats 8000000
namespace Go.Proofs.YtheefiaoimbeiaaGreatDoor
open Lib (hid)
open Go.RowKit
theorem xf4:(Tryz.prog.info? 42).map (fun i=>(i.zero,i.size,i.bytes))=some (some (.slice none 0 0),1,24):=by kernel_rfl
theorem ge3 (n:Int) (h0:0<=n) (h1:n<=1099511627776) (w:World) :
 ∃ w',(Instr.makeSlice 224 (.int .i64 n) (.int .i64 n)).run Tryz.prog w=.ok (.slice (some ⟨w.heap.size,0,none⟩) n.toNat n.toNat) w'/\Ext w w'/\w'.heap.size=w.heap.size+1/\∀ lo,w.heap.size < lo->zds lo w' w.heap.size (List.replicate n.toNat []) (fun _=>False):=by
 obtain ⟨i0,hi,hz0,hz1,hz2⟩:=info_parts xf4;have hc:∀ i,i < n.toNat->(w.alloc (.cells (madeCells (Value.slice none 0 0).cells (n.toNat * i0.size)) 42)).cell? ⟨w.heap.size,i,none⟩=some (.slice none 0 0):=by
  intro i hi;rw [cell_of_row _ _ i _ _ (0,0) (heap_alloc_new w _)];rw [hz1];unfold madeCells;rw [Array.getElem?_map,Array.getElem?_range,if_pos (by omega)];show some ((#[Value.slice none 0 0]:Array Value)[i % 1]!)=_;rw [Nat.mod_one]
  rfl
 refine ⟨_,run_make w 224 42 i0 _ Tryz.underlying224 hi hz0 .i64 .i64 n n h0 (by omega) (by rw [hz2]; omega) (by omega),(Ext.refl w).alloc _,by simp,fun lo hlo=>⟨by simp,hlo,fun i=>by simp [go_sem],fun b h=>h.elim,fun k hk=>?_,fun j k v u hj hk _ hv hu o ho=>?_⟩⟩
 · rw [rp] at hk;rw [List.getElem_replicate];exact ⟨_,hc k hk,kdq.nil _ _ _,fun o e=>by cases e⟩
 · rw [rp] at hj;rw [hc j hj] at hv;injection hv with hv
   rw [<- hv] at ho;cases ho
theorem wfx {q:Nat->Prop} {p p':Pl} {w w':World} {e:Ending} (h:p'=p) (hr:gdl q p w e w'):gdl q p' w e w':=by rw [h]; exact hr
theorem kf1 {w0 w : World} {E D F G : Nat} (p q : Pl) (v u : Value) (hp : Fit p E D) (hq : Fit q F G) (hE : E <= 900) (hF : F <= 900) (hD : D + G <= 17592186044000)
 (h:PlV w0 (fun _=>True) p v) (k:PlV w0 (fun _=>True) q u) (hx:Ext w0 w) (heq:p.lv=q.lv) (h0:0 < p.lv)
 (ih:∀ a ∈ p.cs,∀ b ∈ q.cs,∀ x y,PlV w0 (fun _=>True) a x->PlV w0 (fun _=>True) b y->∀ W',Ext w0 W'->Calls Tryz.prog 131 #[x,y] W' (gdl (fun i=>W'.heap.size<=i) (a.mul b) W')) :
 Calls Tryz.prog 131 #[v,u] w (gdl (fun i=>w.heap.size<=i) (p.mul q) w):=by
 have HML:=hid (Pl.zZ hp.can hq.can h0 heq);have HP:=hid hp;have HQ:=hid hq;have HH:=hid h;have HK:=hid k;have IH:=hid ih;have HX0:=hid hx;have hpz:p.xw=false:=by unfold Pl.xw; rw [show decide (p.lv=0)=false by simp; omega]; rfl
 have hqz:q.xw=false:=by unfold Pl.xw; rw [show decide (q.lv=0)=false by simp; omega]; rfl
 obtain ⟨A0,n0,c0,A,c,rfl,-,hl1,hl2,hpa⟩:=h.open_;obtain ⟨B0,m0,d0,B,d,rfl,-,hk1,hk2,hqa⟩:=k.open_;have HPA:=hid hpa;have HQA:=hid hqa;have hlp:p.cs.length<=901/\2<=p.cs.length:=by
  obtain ⟨l,n,d,cs⟩:=p;have h1:=hp.len h0;have h2:=(hp.can.kids h0).2.2.1;simp only [Pl.cs];omega
 have hlq:q.cs.length<=901/\2<=q.cs.length:=by
  have h0':0 < q.lv:=by omega
  obtain ⟨l,n,d,cs⟩:=q;have h1:=hq.len h0';have h2:=(hq.can.kids h0').2.2.1;simp only [Pl.cs];omega
 obtain ⟨W,hW⟩:=n_m (((w.alloc (.cells #[.int .i64 p.lv,.bool p.neg,.slice A0 n0 c0,.slice A p.cs.length c] 44)).alloc (.cells #[.int .i64 q.lv,.bool q.neg,.slice B0 m0 d0,.slice B q.cs.length d] 44)).alloc (.cells #[.int .i64 0,.bool false,.slice none 0 0,.slice none 0 0] 44));have hcut:vea w p q (.slice A0 n0 c0) (.slice A p.cs.length c) (.slice B0 m0 d0) (.slice B q.cs.length d) W:=by
  rw [<- hW];refine ⟨(((Ext.refl w).alloc _).alloc _).alloc _,by simp,(jdm.new w p _ _ _).ext (((Ext.refl _).alloc _).alloc _) (by simp),?_,?_⟩
  · have h1:=jdm.new (w.alloc (.cells #[.int .i64 p.lv,.bool p.neg,.slice A0 n0 c0,.slice A p.cs.length c] 44)) q (.slice B0 m0 d0) (.slice B q.cs.length d) 44;have h2:=h1.ext ((Ext.refl _).alloc (.cells #[.int .i64 0,.bool false,.slice none 0 0,.slice none 0 0] 44)) (by simp);simpa using h2
  · have h1:=zdl.new ((w.alloc (.cells #[.int .i64 p.lv,.bool p.neg,.slice A0 n0 c0,.slice A p.cs.length c] 44)).alloc (.cells #[.int .i64 q.lv,.bool q.neg,.slice B0 m0 d0,.slice B q.cs.length d] 44)) 44;simpa using h1
 have HC:=hid hcut;have HZA:=hid (gd0 p _ (HH.out.ext (hx.trans hcut.ext)));have HZB:Hid (∀ W',Ext W W'->Calls Tryz.prog 146 #[plV q (.slice B0 m0 d0) (.slice B q.cs.length d)] W' fun e w'=>e=.returned (.bool q.xw)/\Ext W' w'):=by
  have:∀ W',Ext W W'->Calls Tryz.prog 146 #[plV q (.slice B0 m0 d0) (.slice B q.cs.length d)] W' fun e w'=>e=.returned (.bool q.xw)/\Ext W' w':=fun W' hx'=>gd0 q _ (HK.out.ext ((HX0.out.trans HC.out.ext).trans hx'))
  exact this
 rw [hpz] at HZA;rw [hqz] at HZB;have hWs:=hcut.size;obtain ⟨b0,b1,b2,b3⟩:=hcut.box;obtain ⟨e0,e1,e2,e3⟩:=hcut.box';have HEQ:=hid heq;have aAX:¬ p.lv < q.lv:=by omega
 have ahz:¬ q.lv < p.lv:=by omega
 have aAS:(p.lv == 0)=false:=by simp; omega
 clear hp hq h k hx heq ih hpz hqz hpa hqa hcut;unfold plV at HZA HZB;unfold plV;go_enter Tryz.func131,Tryz.ntmps131;go_wp2_with fail;clear hW b0 b1 b2 b3 e0 e1 e2 e3;refine HZA.out.mono ?_;rintro e w1 ⟨rfl,x1⟩;have hs1:=x1.size;have X1:=hid x1;obtain ⟨e0,e1,e2,e3⟩:=HC.out.box'.ext x1 (by omega);clear x1 HZA;go_wp2_with fail;clear e0 e1 e2 e3;refine (HZB.out _ X1.out).mono ?_;rintro e w2 ⟨rfl,x2⟩;have hs2:=x2.size;have X2:=hid (X1.out.trans x2);obtain ⟨b0,b1,b2,b3⟩:=HC.out.box.ext X2.out (by omega);obtain ⟨e0,e1,e2,e3⟩:=HC.out.box'.ext X2.out (by omega);clear x2 HZB X1;have hwn:IntKind.i64.wrap ((p.cs.length:Int)+(q.cs.length:Int))=(p.cs.length:Int)+(q.cs.length:Int):=by rw [rD]; omega
 have aAg:IntKind.i64.wrap ((p.cs.length:Int)+(q.cs.length:Int) - 1)=((p.cs.length+q.cs.length - 1:Nat):Int):=by rw [rD]; omega
 obtain ⟨V,hmk,hVx,hVs,aaC⟩:=ge3 ((p.cs.length+q.cs.length - 1:Nat):Int) (by omega) (by omega) w2;rw [rV] at hmk aaC;have aeB:=hid aaC;have XV:=hid (X2.out.trans hVx);have HMK:=hid hmk;clear aaC hVx;have amb:=hid (zen q.cs B d (HQA.out.ext (HX0.out.trans (HC.out.ext.trans XV.out))) (by omega));have aBC:=XV.out.size;obtain ⟨f0,f1,f2,f3⟩:=HC.out.box'.ext XV.out (by omega);go_upto_region 16 with fail;clear hmk HMK b0 b1 b2 b3 e0 e1 e2 e3;go_wp2_with fail;clear f0 f1 f2 f3;refine amb.out.mono ?_;rintro e w3 ⟨v3,rfl,hr3,x3⟩;have hs3:=x3.size;obtain ⟨GB,cb,rfl,-,-⟩:=hr3.len;have HNB:=hid hr3;have X3:=hid (XV.out.trans x3);have as7:=hid (zen p.cs A c (HPA.out.ext (HX0.out.trans (HC.out.ext.trans X3.out))) (by omega));obtain ⟨b0,b1,b2,b3⟩:=HC.out.box.ext X3.out (by omega);have as5:=hid (fun lo hlo=>(aeB.out lo hlo).ext x3);clear hr3 x3 amb aeB;go_wp2_with fail;clear b0 b1 b2 b3;refine as7.out.mono ?_;rintro e w4 ⟨v4,rfl,hr4,x4⟩;have hs4:=x4.size;obtain ⟨GA,ca,rfl,-,-⟩:=hr4.len;have HNA:=hid hr4;have awW:=hid (vdm.ext HNB.out x4);have X4:=hid (X3.out.trans x4);have as4:=hid ((as5.out w4.heap.size (by omega)).ext x4);clear hr4 x4 as7 HNB as5;obtain ⟨N,hN⟩:=n_m (p.cs.length+q.cs.length - 1);have aBJ:N<=1801:=by omega
 rw [hN] at as4 ⊢;have hal:=jef p.cs p.cs.length;have hbl:=jef q.cs q.cs.length;have axk:Hid (∀ i ∈ prs p.cs p.cs.length,i < p.cs.length):=hid (fun i hi=>wfo hi);have axg:Hid (∀ i ∈ prs q.cs q.cs.length,i < q.cs.length):=hid (fun i hi=>wfo hi);have amg:=hid (fun k=>kfh HP.out HQ.out h0 (by have:=HEQ.out; omega) hlp.1 hlq.1 k);have HNN:=hid hN;clear hN;generalize prs p.cs p.cs.length=a at *;generalize prs q.cs q.cs.length=b at *;go_wp2_with fail
 go_loopw [87] (fun iv wr=>∃ x:Nat,x<=a.length/\iv=.int .i64 x/\Hid ((∃ Own,zds w4.heap.size wr w2.heap.size ((List.range N).map fun k=>vdo p.cs q.cs (qdp (a.take x) b) k) Own)/\Ext W wr/\w4.heap.size<=wr.heap.size/\∀ g,g ≠ w2.heap.size->g < w4.heap.size->wr.heap[g]?=w4.heap[g]?)) (fun iv _=>a.length - (intOf iv).toNat)
 case atStart=>exact ⟨0,pM _,rfl,⟨⟨_,by
   have h1:=as4.out;rw [show List.replicate N ([]:List Pl)=(List.range N).map fun k=>vdo p.cs q.cs (qdp (a.take 0) b) k by
    rw [sR]
    simp [qdp,vdo,List.map_const']] at h1
   exact h1⟩,X4.out,pf _,fun _ _ _=>rfl⟩⟩
 case round =>
  obtain ⟨x,hx,rfl,⟨⟨Own,hpr⟩,hxw,hws,ahC⟩⟩:=hrel;have HPR:=hid hpr;have HXW:=hid hxw;have HKE:=hid ahC;clear hpr hxw ahC;obtain ⟨w5,rfl⟩:∃ w5,w5=wr:=⟨wr,rfl⟩
  by_cases hlt:x < a.length
  · obtain ⟨ga,ca',e,arS,aoY,hgc⟩:=qd1.at_ HNA.out x hlt;injection e with e1 e2 e3
    subst e1 e3;have arQ:w5.cell? ⟨ga,x,none⟩=some (.int .i64 a[x]):=(ph (a:=⟨ga,x,none⟩) (HKE.out ga (by omega) aoY)).trans hgc;have arM:ga < w5.heap.size:=by omega
    have hax:a[x] < p.cs.length:=axk.out _ (pt hlt);have HTK:Hid (qdp (a.take (x+1)) b=qdp (a.take x) b ++ b.map fun j=>(a[x],j)):=hid (by
     unfold qdp;rw [pg hlt,tV]
     simp)
    clear hgc;generalize a[x]=i at *;go_wp2_with fail
    go_loopw [93] (fun iv wr=>∃ y:Nat,y<=b.length/\iv=.int .i64 y/\Hid ((∃ Own,zds w4.heap.size wr w2.heap.size ((List.range N).map fun k=>vdo p.cs q.cs (qdp (a.take x) b ++ (b.take y).map fun j=>(i,j)) k) Own)/\Ext W wr/\w4.heap.size<=wr.heap.size/\∀ g,g ≠ w2.heap.size->g < w4.heap.size->wr.heap[g]?=w4.heap[g]?)) (fun iv _=>b.length - (intOf iv).toNat)
    case atStart=>exact ⟨0,pM _,rfl,⟨⟨_,by rw [sR,List.map_nil,tm]; exact HPR.out⟩,HXW.out,hws,HKE.out⟩⟩
    case round =>
     obtain ⟨y,hy,rfl,⟨⟨Own2,hpr⟩,hxw,ahr,ahC⟩⟩:=hrel;have amb:=hid hpr;have asO:=hid hxw;have apB:=hid ahC;clear hpr hxw ahC
     by_cases alC:y < b.length
     · obtain ⟨gb,cb',e,amQ,aoX,hgc⟩:=qd1.at_ (l:=b) awW.out y alC;injection e with e1 e2 e3
       subst e1 e3;have arP:wr.cell? ⟨gb,y,none⟩=some (.int .i64 b[y]):=(ph (a:=⟨gb,y,none⟩) (apB.out gb (by omega) aoX)).trans hgc;have anW:gb < wr.heap.size:=by omega
       have hby:b[y] < q.cs.length:=axg.out _ (pt alC);have asW:Hid ((b.take (y+1)).map (fun j=>(i,j))=(b.take y).map (fun j=>(i,j)) ++ [(i,b[y])]):=hid (by
        rw [pg alC,rC]
        rfl)
       clear hgc;generalize b[y]=j at *;go_upto_region 23 with fail
       go_cut [98] from 97 to 98 (fun s wx=>∃ bb,s=.bool bb/\Hid (Ext wr wx))
       case first =>
        go_region_with (fail)
        all_goals
         go_wp2_with fail
         go_meet
         exact ⟨_,rfl,hid ((Ext.refl wr).alloc _).drew⟩
       case rest =>
        obtain ⟨bb,rfl,aqE⟩:=hcut;have hxc:Ext wr wc:=aqE.out;have HXC:=hid (asO.out.trans hxc);have aqF:=hxc.size;have ath:Hid (∀ g,g ≠ w2.heap.size->g < w4.heap.size->wc.heap[g]?=w4.heap[g]?):=hid (fun g h1 h2=>(hxc.below.block g (by omega)).trans (apB.out g h1 h2));have amJ:=amb.out.ext hxc;have amO:i+j < N:=by have:=HNN.out; omega
        have arH:IntKind.i64.wrap ((i:Int)+(j:Int))=((i+j:Nat):Int):=by rw [rD]; omega
        obtain ⟨ls,hls⟩:=n_m (((List.range N).map fun k=>vdo p.cs q.cs (qdp (a.take x) b ++ (b.take y).map fun j=>(i,j)) k));have ajA:ls.length=N:=by rw [<- hls]; simp
        have aoO:∀ (k:Nat) (hk:k < ls.length),ls[k].length<=1000000:=by
         intro k hk;have h1:ls[k]=vdo p.cs q.cs (qdp (a.take x) b ++ (b.take y).map fun j=>(i,j)) k:=by
          simp only [<- hls,rJ,uo]
         rw [h1];refine po (yey _ _ _ _) ?_;rw [pz,ger,pC,px,px];have h2:min x a.length * b.length<=901 * 901:=tN (by omega) (by omega);omega
        have ank:Hid (ls.set (i+j) ((ls[i+j]'(by omega)) ++ [(Pl.at_ p.cs i).mul (Pl.at_ q.cs j)])=(List.range N).map fun k=>vdo p.cs q.cs (qdp (a.take x) b ++ (b.take (y+1)).map fun j=>(i,j)) k):=hid (by
         rw [asW.out,<- uG];apply List.ext_getElem
         · simp [ajA]
         · intro k hk1 hk2;have h1:k < N:=by simpa using hk2
           rw [List.getElem_set];simp only [<- hls,rJ,uo];rw [vfh]
           by_cases hk:i+j=k
           · rw [if_pos hk,if_pos hk,hk]
           · rw [if_neg hk,if_neg hk])
        rw [hls] at amJ;obtain ⟨PA,pc,aaC,avd,avc,-⟩:=amJ.push (by omega) (i+j) (by omega);obtain ⟨ln,hln⟩:=n_m ((ls[i+j]'(by omega)).length);rw [hln] at aaC;obtain ⟨adp,P0,pn0,pc0,P1,pn1,pc1,rfl,apg,ari,arB⟩:=jdk.kid HPA.out i hax;obtain ⟨adq,Q0,qn0,qc0,Q1,qn1,qc1,rfl,apf,arh,arA⟩:=jdk.kid HQA.out j hby;have aoH:Pl.at_ p.cs i=p.cs[i]:=by unfold Pl.at_; rw [pB,pq hax]; rfl
        have aoF:Pl.at_ q.cs j=q.cs[j]:=by unfold Pl.at_; rw [pB,pq hby]; rfl
        have amF:Ext w0 wc:=(HX0.out.trans HC.out.ext).trans HXC.out;have agr:=hid (fun W' (hW':Ext wc W')=>IH.out p.cs[i] (pt hax) q.cs[j] (pt hby) _ _ arB arA W' (amF.trans hW'));have akW:=hid amJ;have HSS:Hid (∀ W',Ext wc W'->(W'.cell? ⟨w.heap.size,3,none⟩=some (.slice (some adp) p.cs.length c)/\W'.cell? ⟨w.heap.size+1,3,none⟩=some (.slice (some adq) q.cs.length d)/\W'.cell? ⟨w2.heap.size,i+j,none⟩=some (.slice PA ln pc)/\qdw W' (adp.add (i * 4)) p.cs[i] (.slice P0 pn0 pc0) (.slice P1 pn1 pc1)/\qdw W' (adq.add (j * 4)) q.cs[j] (.slice Q0 qn0 qc0) (.slice Q1 qn1 qc1))):=by
         refine hid ?_;intro W' hW';have hb1:=HC.out.box.ext (HXC.out.trans hW') (by omega);have hb2:=HC.out.box'.ext (HXC.out.trans hW') (by omega);exact ⟨hb1.2.2.2,hb2.2.2.2,(hW'.cell (p:=⟨w2.heap.size,i+j,none⟩) (by show w2.heap.size < _; omega)).trans aaC,ari.ext (amF.trans hW') (by rw [zc1]; exact apg),arh.ext (amF.trans hW') (by rw [zc1]; exact apf)⟩
        have aeC:Hid (∀ (v1:World) (D0 D1:Option Addr) (m0 e0 m1 e1:Nat),Ext wc v1->PlV v1 (fun g=>wc.heap.size<=g) (p.cs[i].mul q.cs[j]) (plV (p.cs[i].mul q.cs[j]) (.slice D0 m0 e0) (.slice D1 m1 e1))->∃ (SB:Option Addr) (sn sd:Nat) (w6:World),(Builtin.append_ #[42,42] 42 #[.slice PA ln pc,.slice (some ⟨v1.heap.size,0,none⟩) 1 1]).run Tryz.prog (v1.alloc (.cells #[.int .i64 (p.cs[i].mul q.cs[j]).lv,.bool (p.cs[i].mul q.cs[j]).neg,.slice D0 m0 e0,.slice D1 m1 e1] 44))=.ok (.slice SB sn sd) w6/\w6.frozen? ⟨w2.heap.size,i+j,none⟩=false/\w6.cell? ⟨w2.heap.size,i+j,none⟩=some (.slice PA ln pc)/\(∀ g,g ≠ w2.heap.size->g < w4.heap.size->w6.heap[g]?=wc.heap[g]?) /\
         ((∃ Own,zds w4.heap.size (w6.setCell ⟨w2.heap.size,i+j,none⟩ (.slice SB sn sd)) w2.heap.size ((List.range N).map fun k=>vdo p.cs q.cs (qdp (a.take x) b ++ (b.take (y+1)).map fun j=>(i,j)) k) Own)/\Ext W (w6.setCell ⟨w2.heap.size,i+j,none⟩ (.slice SB sn sd))/\w4.heap.size<=(w6.setCell ⟨w2.heap.size,i+j,none⟩ (.slice SB sn sd)).heap.size/\∀ g,g ≠ w2.heap.size->g < w4.heap.size->(w6.setCell ⟨w2.heap.size,i+j,none⟩ (.slice SB sn sd)).heap[g]?=w4.heap[g]?)):=by
         refine hid ?_;intro v1 D0 D1 m0 e0 m1 e1 hv1 hpl;have hs1:=hv1.size;have hp1:=akW.out.ext hv1;obtain ⟨PA',pc',aga,-,-,anI⟩:=hp1.push (by omega) (i+j) (by omega);have hr2:=(hv1.cell (p:=⟨w2.heap.size,i+j,none⟩) (by show w2.heap.size < _; omega)).trans aaC;rw [hln] at aga anI;rw [hr2] at aga;injection aga with aga
         injection aga with h1 h2 h3
         subst h1 h3;have hlk:=aoO (i+j) (by omega);have aoR:ln+1<=1000000000:=by rw [<- hln]; omega
         obtain ⟨B6,d6,w6,apm,ab3,k1,k2,k3,-,k5,-,-,k7,k8⟩:=anI (p.cs[i].mul q.cs[j]) D0 D1 m0 e0 m1 e1 (hpl.mono fun g hg=>⟨fun ho=>by have:=(akW.out.own g ho).2; omega,by omega⟩) aoR;refine ⟨_,_,_,w6,ab3,k2 _,k3,fun g hg1 hg2=>(Below.heap_setCell w6 _ _ g hg1).symm.trans ((k8 g hg1 hg2).trans (hv1.below.block g (by omega))),⟨apm,?_⟩,k5 W (HXC.out.trans hv1) (by omega),?_,fun g hg1 hg2=>(k8 g hg1 hg2).trans ((hv1.below.block g (by omega)).trans (ath.out g hg1 hg2))⟩
         · have h9:=ank.out;rw [aoH,aoF] at h9;rw [<- h9];exact k1
         · have:(w6.setCell ⟨w2.heap.size,i+j,none⟩ (.slice (some ⟨B6,0,none⟩) (ln+1) d6)).heap.size=w6.heap.size:=by simp [World.setCell]
           omega
        have aj1:Hid (∀ (v1:World) (az:Addr) (D0 D1:Option Addr) (m0 e0 m1 e1:Nat),Ext wc v1->qdw v1 az Pl.zero (.slice none 0 0) (.slice none 0 0)->PlV v1 (fun g=>wc.heap.size<=g) (p.cs[i].mul q.cs[j]) (plV (p.cs[i].mul q.cs[j]) (.slice D0 m0 e0) (.slice D1 m1 e1))->∃ (B:Nat) (sd:Nat) (w6:World),(Builtin.append_ #[42,42] 42 #[.slice PA ln pc,.slice (some az) 1 1]).run Tryz.prog v1=.ok (.slice (some ⟨B,0,none⟩) (ln+1) sd) w6/\w6.frozen? ⟨w2.heap.size,i+j,none⟩=false/\w6.cell? ⟨w2.heap.size,i+j,none⟩=some (.slice PA ln pc)/\(∀ g,g ≠ w2.heap.size->g < w4.heap.size->w6.heap[g]?=wc.heap[g]?) /\
         (∀ i',(w6.setCell ⟨w2.heap.size,i+j,none⟩ (.slice (some ⟨B,0,none⟩) (ln+1) sd)).frozen? ⟨B,i',none⟩=false) /\
         (∃ u0 u1 u2 u3,(w6.setCell ⟨w2.heap.size,i+j,none⟩ (.slice (some ⟨B,0,none⟩) (ln+1) sd)).cell? ⟨B,ln * 4,none⟩=some u0/\(w6.setCell ⟨w2.heap.size,i+j,none⟩ (.slice (some ⟨B,0,none⟩) (ln+1) sd)).cell? ⟨B,ln * 4+1,none⟩=some u1/\(w6.setCell ⟨w2.heap.size,i+j,none⟩ (.slice (some ⟨B,0,none⟩) (ln+1) sd)).cell? ⟨B,ln * 4+2,none⟩=some u2/\(w6.setCell ⟨w2.heap.size,i+j,none⟩ (.slice (some ⟨B,0,none⟩) (ln+1) sd)).cell? ⟨B,ln * 4+3,none⟩=some u3) /\
         ∀ w8,w8=(((((w6.setCell ⟨w2.heap.size,i+j,none⟩ (.slice (some ⟨B,0,none⟩) (ln+1) sd)).setCell ⟨B,ln * 4,none⟩ (.int .i64 (p.cs[i].mul q.cs[j]).lv)).setCell ⟨B,ln * 4+1,none⟩ (.bool (p.cs[i].mul q.cs[j]).neg)).setCell ⟨B,ln * 4+2,none⟩ (.slice D0 m0 e0)).setCell ⟨B,ln * 4+3,none⟩ (.slice D1 m1 e1)) ->
           ((∃ Own,zds w4.heap.size w8 w2.heap.size ((List.range N).map fun k=>vdo p.cs q.cs (qdp (a.take x) b ++ (b.take (y+1)).map fun j=>(i,j)) k) Own)/\Ext W w8/\w4.heap.size<=w8.heap.size/\∀ g,g ≠ w2.heap.size->g < w4.heap.size->w8.heap[g]?=w4.heap[g]?)):=by
         refine hid ?_;intro v1 az D0 D1 m0 e0 m1 e1 hv1 hz hpl;have hs1:=hv1.size;have hp1:=akW.out.ext hv1;have hr2:=(hv1.cell (p:=⟨w2.heap.size,i+j,none⟩) (by show w2.heap.size < _; omega)).trans aaC;have hlk:=aoO (i+j) (by omega);have aoR:ln+1<=1000000000:=by rw [<- hln]; omega
         obtain ⟨B6,d6,w6,apm,ab3,k1,k2,k3,k4,k5,k6,k7⟩:=hp1.yI (by omega) (i+j) (by omega) hr2 hln az (p.cs[i].mul q.cs[j]) D0 D1 m0 e0 m1 e1 hz (hpl.mono fun g hg=>⟨fun ho=>by have:=(akW.out.own g ho).2; omega,by omega⟩) aoR;refine ⟨B6,d6,w6,ab3,k1 _,k2,fun g hg1 hg2=>(k3 g hg1 hg2).trans (hv1.below.block g (by omega)),k5,k6,fun w8 hw8=>?_⟩;obtain ⟨n1',n2',n3',n4'⟩:=k7 w8 hw8;refine ⟨⟨apm,?_⟩,n2' W (HXC.out.trans hv1) (by omega),by omega,fun g hg1 hg2=>(n4' g hg1 hg2).trans ((hv1.below.block g (by omega)).trans (ath.out g hg1 hg2))⟩;have h9:=ank.out;rw [aoH,aoF] at h9;rw [<- h9];exact n1'
        have anp:Hid (∀ W':World,(∀ g,g ≠ w2.heap.size->g < w4.heap.size->W'.heap[g]?=wc.heap[g]?)->(W'.cell? ⟨w.heap.size,3,none⟩=some (.slice (some adp) p.cs.length c)/\W'.cell? ⟨w.heap.size+1,3,none⟩=some (.slice (some adq) q.cs.length d)/\qdw W' (adp.add (i * 4)) p.cs[i] (.slice P0 pn0 pc0) (.slice P1 pn1 pc1)/\qdw W' (adq.add (j * 4)) q.cs[j] (.slice Q0 qn0 qc0) (.slice Q1 qn1 qc1))):=by
         refine hid ?_;intro W' hW';have aAc:=HX0.out.size;have aAa:=HC.out.ext.size;obtain ⟨g1,g2,-,g4,g8⟩:=HSS.out wc (Ext.refl wc);have kk:∀ (a:Addr),a.block ≠ w2.heap.size->a.block < w4.heap.size->W'.cell? a=wc.cell? a:=fun a h1 h2=>ph (hW' a.block h1 h2)
         have hpb:(adp.add (i * 4)).block=adp.block:=zc1 _ _;have hqb:(adq.add (j * 4)).block=adq.block:=zc1 _ _;obtain ⟨p0,p1,p2,p3⟩:=g4;obtain ⟨r0,r1,r2,r3⟩:=g8;refine ⟨(kk _ (by show w.heap.size ≠ _; omega) (by show w.heap.size < _; omega)).trans g1,(kk _ (by show w.heap.size+1 ≠ _; omega) (by show w.heap.size+1 < _; omega)).trans g2,⟨(kk _ (by omega) (by omega)).trans p0,(kk _ (by show (adp.add (i * 4)).block ≠ _; omega) (by show (adp.add (i * 4)).block < _; omega)).trans p1,(kk _ (by show (adp.add (i * 4)).block ≠ _; omega) (by show (adp.add (i * 4)).block < _; omega)).trans p2,(kk _ (by show (adp.add (i * 4)).block ≠ _; omega) (by show (adp.add (i * 4)).block < _; omega)).trans p3⟩,⟨(kk _ (by omega) (by omega)).trans r0,(kk _ (by show (adq.add (j * 4)).block ≠ _; omega) (by show (adq.add (j * 4)).block < _; omega)).trans r1,(kk _ (by show (adq.add (j * 4)).block ≠ _; omega) (by show (adq.add (j * 4)).block < _; omega)).trans r2,(kk _ (by show (adq.add (j * 4)).block ≠ _; omega) (by show (adq.add (j * 4)).block < _; omega)).trans r3⟩⟩
        clear hxc aqE amJ ari arB arh arA aoH aoF amF aoO hls asW avd avc;cases bb
        · have HM0:=hid (agr.out wc.drew ((Ext.refl wc).drew));unfold plV at HM0;generalize aoG:p.cs[i].mul q.cs[j]=prd at *;obtain ⟨g1,g2,g3,⟨g4,g5,g6,g7⟩,⟨g8,g9,g10,g11⟩⟩:=HSS.out wc.drew ((Ext.refl wc).drew);generalize hpi:p.cs[i]=pi at *;generalize hqj:q.cs[j]=qj at *;have hR1:(i:Int) < (p.cs.length:Int):=by omega
          have hR2:(j:Int) < (q.cs.length:Int):=by omega
          obtain ⟨r,hr⟩:=n_m (i+j);simp only [hr] at amO arH HSS aeC g3;have HRR:=hid hr;have hrI:(i:Int)+(j:Int)=(r:Int):=by omega
          have hrW:IntKind.i64.wrap (r:Int)=(r:Int):=by rw [rD]; omega
          clear hr aaC akW ank hln;have hR3:(r:Int) < (N:Int):=by omega
          have HB1:=hid alC;have HB2:=hid amQ;have HB3:=hid ahr;clear hpi hqj aoG arQ arP e2 hlt hx hws arS aoY arM anW hax hby aqF ajA apg apf ahr amQ aoX amO;have HS2:Hid (∀ W',Ext wc W'->(W'.cell? ⟨w.heap.size,3,none⟩=some (.slice (some adp) p.cs.length c)/\W'.cell? ⟨w.heap.size+1,3,none⟩=some (.slice (some adq) q.cs.length d)/\(W'.cell? (adp.add (i * 4))=some (.int .i64 pi.lv)/\W'.cell? ⟨(adp.add (i * 4)).block,(adp.add (i * 4)).off+1,none⟩=some (.bool pi.neg)/\W'.cell? ⟨(adp.add (i * 4)).block,(adp.add (i * 4)).off+2,none⟩=some (.slice P0 pn0 pc0)/\W'.cell? ⟨(adp.add (i * 4)).block,(adp.add (i * 4)).off+3,none⟩=some (.slice P1 pn1 pc1))/\(W'.cell? (adq.add (j * 4))=some (.int .i64 qj.lv)/\W'.cell? ⟨(adq.add (j * 4)).block,(adq.add (j * 4)).off+1,none⟩=some (.bool qj.neg)/\W'.cell? ⟨(adq.add (j * 4)).block,(adq.add (j * 4)).off+2,none⟩=some (.slice Q0 qn0 qc0)/\W'.cell? ⟨(adq.add (j * 4)).block,(adq.add (j * 4)).off+3,none⟩=some (.slice Q1 qn1 qc1)))):=hid (fun W' hW'=>by
           obtain ⟨g1,g2,-,g4,g8⟩:=HSS.out W' hW'
           exact ⟨g1,g2,g4,g8⟩)
          have HR3:Hid (∀ W',Ext wc W'->W'.cell? ⟨w2.heap.size,r,none⟩=some (.slice PA ln pc)):=hid (fun W' hW'=>(HSS.out W' hW').2.2.1);have Y0:=hid ((Ext.refl wc).drew);clear g1 g2 g3 g4 g5 g6 g7 g8 g9 g10 g11 HSS;go_upto_region 26 with fail;refine wp_region_held_drew (S:=fun W'=>W'.cell? ⟨w.heap.size,3,none⟩=some (.slice (some adp) p.cs.length c)/\W'.cell? ⟨w.heap.size+1,3,none⟩=some (.slice (some adq) q.cs.length d)/\(W'.cell? (adp.add (i * 4))=some (.int .i64 pi.lv)/\W'.cell? ⟨(adp.add (i * 4)).block,(adp.add (i * 4)).off+1,none⟩=some (.bool pi.neg)/\W'.cell? ⟨(adp.add (i * 4)).block,(adp.add (i * 4)).off+2,none⟩=some (.slice P0 pn0 pc0)/\W'.cell? ⟨(adp.add (i * 4)).block,(adp.add (i * 4)).off+3,none⟩=some (.slice P1 pn1 pc1))/\(W'.cell? (adq.add (j * 4))=some (.int .i64 qj.lv)/\W'.cell? ⟨(adq.add (j * 4)).block,(adq.add (j * 4)).off+1,none⟩=some (.bool qj.neg)/\W'.cell? ⟨(adq.add (j * 4)).block,(adq.add (j * 4)).off+2,none⟩=some (.slice Q0 qn0 qc0)/\W'.cell? ⟨(adq.add (j * 4)).block,(adq.add (j * 4)).off+3,none⟩=some (.slice Q1 qn1 qc1))) (by kernel_rfl) (HS2.out _ Y0.out) (fun hHeld=>?_);refine tk 0 ?_;refine tk 1 ?_;refine tk 2 ?_;refine tk 3 ?_;refine tk 4 ?_;refine tk 5 ?_;refine tk 6 ?_;refine tk 7 ?_;refine tk 8 ?_;refine tk 10 ?_;refine tk 11 ?_;refine tk 12 ?_;refine tk 13 ?_;refine tk 14 ?_;refine tk 15 ?_;refine tk 16 ?_;refine tk 17 ?_;refine tk 18 ?_;refine tk 19 ?_;refine r_2 9 20 (fun K hK=>?oA) fun K hK=>?oB
          case' oA =>
           have hrw:=HR3.out _ Y0.out;go_simp;refine k_t hK (HS2.out _ Y0.out) fun hHeld=>?_
           clear hK K;clear hrw;refine r_1 20 fun K hK=>?_
           go_simp
           go_at_call 131
           refine HM0.out.mono ?_;rintro e v1 ⟨z1,rfl,m1,x1⟩;have y1:Ext wc v1:=Ext.trans ((Ext.refl wc).drew) x1;obtain ⟨D0,dm0,de0,D1,de1,rfl,-⟩:=id m1.open_;unfold plV;refine k_t hK (HS2.out _ y1) fun hHeld=>?_
           clear hK K;refine r_1 21 fun K hK=>?_
           go_simp;have y2:=Ext.alloc y1 (.cells #[.int .i64 prd.lv,.bool prd.neg,.slice D0 dm0 de0,.slice D1 prd.cs.length de1] 44);refine k_t hK (HS2.out _ y2) fun hHeld=>?_
           clear hK K
          case' oB =>
           go_simp
           go_at_call 131
           refine HM0.out.mono ?_;rintro e v1 ⟨z1,rfl,m1,x1⟩;have y1:Ext wc v1:=Ext.trans ((Ext.refl wc).drew) x1;obtain ⟨D0,dm0,de0,D1,de1,rfl,-⟩:=id m1.open_;unfold plV;refine k_t hK (HS2.out _ y1) fun hHeld=>?_
           clear hK K;refine r_2 9 21 (fun K hK=>?oC) fun K hK=>?oD
           case' oC =>
            have hrw:=HR3.out _ y1;go_simp;refine k_t hK (HS2.out _ y1) fun hHeld=>?_
            clear hK K;clear hrw;refine r_1 21 fun K hK=>?_
            go_simp;have y2:=Ext.alloc y1 (.cells #[.int .i64 prd.lv,.bool prd.neg,.slice D0 dm0 de0,.slice D1 prd.cs.length de1] 44);refine k_t hK (HS2.out _ y2) fun hHeld=>?_
            clear hK K
           case' oD =>
            go_simp;have y2:=Ext.alloc y1 (.cells #[.int .i64 prd.lv,.bool prd.neg,.slice D0 dm0 de0,.slice D1 prd.cs.length de1] 44);refine k_t hK (HS2.out _ y2) fun hHeld=>?_
            clear hK K;refine r_1 9 fun K hK=>?_
            have hrw:=HR3.out _ y2;go_simp;refine k_t hK (HS2.out _ y2) fun hHeld=>?_
            clear hK K;clear hrw
          all_goals
           obtain ⟨SB,sn,sd,w6,ab3,ao0,hc6,ajI,acb⟩:=aeC.out v1 _ _ _ _ _ _ y1 m1;have ach:=hid acb;have HS6:=hid (anp.out w6 ajI);have HS7:=hid (anp.out (w6.setCell ⟨w2.heap.size,r,none⟩ (.slice SB sn sd)) (fun g h1 h2=>(Below.heap_setCell w6 _ _ g h1).trans (ajI g h1 h2)));clear acb ajI m1 x1 y1 y2 aeC HM0 HS2 HR3;refine r_1 22 fun K hK=>?_
           refine jd2 rfl (.tmp 134) (.tmp 146) 42 42 rfl _ _ _ _ (by simp [Act.eval,Act.put]) (by simp [Act.eval,Act.put]) ab3 ?_;refine k_t hK HS6.out fun hHeld=>?_
           clear hK K ab3 HS6;refine tk 23 ?_;refine r_1 24 fun K hK=>?_
           go_simp;refine k_t hK HS7.out fun hHeld=>?_
           clear hK K HS7;refine w_d ?_;clear hc6 ao0;go_wp2_with fail
           go_roundw
           case rel=>exact ⟨y+1,by have:=HB1.out; omega,by go_num,ach⟩
           case measure=>simp [intOf]; have:=HB1.out; omega
        · unfold plV at agr;generalize aoG:p.cs[i].mul q.cs[j]=prd at *;generalize hpi:p.cs[i]=pi at *;generalize hqj:q.cs[j]=qj at *;have hR1:(i:Int) < (p.cs.length:Int):=by omega
          have hR2:(j:Int) < (q.cs.length:Int):=by omega
          obtain ⟨r,hr⟩:=n_m (i+j);simp only [hr] at amO arH HSS aj1;have HRR:=hid hr;have hrI:(i:Int)+(j:Int)=(r:Int):=by omega
          have hrW:IntKind.i64.wrap (r:Int)=(r:Int):=by rw [rD]; omega
          clear hr aaC akW ank hln aeC;have hR3:(r:Int) < (N:Int):=by omega
          have aAY:(ln:Int) < ((ln+1:Nat):Int):=by omega
          have HB1:=hid alC;have HB2:=hid amQ;have HB3:=hid ahr;clear hpi hqj aoG arQ arP e2 hlt hx hws arS aoY arM anW hax hby aqF ajA apg apf ahr amQ aoX amO;have HS2:Hid (∀ W',Ext wc W'->(W'.cell? ⟨w.heap.size,3,none⟩=some (.slice (some adp) p.cs.length c)/\W'.cell? ⟨w.heap.size+1,3,none⟩=some (.slice (some adq) q.cs.length d)/\(W'.cell? (adp.add (i * 4))=some (.int .i64 pi.lv)/\W'.cell? ⟨(adp.add (i * 4)).block,(adp.add (i * 4)).off+1,none⟩=some (.bool pi.neg)/\W'.cell? ⟨(adp.add (i * 4)).block,(adp.add (i * 4)).off+2,none⟩=some (.slice P0 pn0 pc0)/\W'.cell? ⟨(adp.add (i * 4)).block,(adp.add (i * 4)).off+3,none⟩=some (.slice P1 pn1 pc1))/\(W'.cell? (adq.add (j * 4))=some (.int .i64 qj.lv)/\W'.cell? ⟨(adq.add (j * 4)).block,(adq.add (j * 4)).off+1,none⟩=some (.bool qj.neg)/\W'.cell? ⟨(adq.add (j * 4)).block,(adq.add (j * 4)).off+2,none⟩=some (.slice Q0 qn0 qc0)/\W'.cell? ⟨(adq.add (j * 4)).block,(adq.add (j * 4)).off+3,none⟩=some (.slice Q1 qn1 qc1)))):=hid (fun W' hW'=>by
           obtain ⟨g1,g2,-,g4,g8⟩:=HSS.out W' hW'
           exact ⟨g1,g2,g4,g8⟩)
          have HR3:Hid (∀ W',Ext wc W'->W'.cell? ⟨w2.heap.size,r,none⟩=some (.slice PA ln pc)):=hid (fun W' hW'=>(HSS.out W' hW').2.2.1);have Y0:=hid ((Ext.refl wc).drew);clear HSS;go_upto_region 24 with fail;refine wp_region_held_drew (S:=fun W'=>W'.cell? ⟨w.heap.size,3,none⟩=some (.slice (some adp) p.cs.length c)/\W'.cell? ⟨w.heap.size+1,3,none⟩=some (.slice (some adq) q.cs.length d)/\(W'.cell? (adp.add (i * 4))=some (.int .i64 pi.lv)/\W'.cell? ⟨(adp.add (i * 4)).block,(adp.add (i * 4)).off+1,none⟩=some (.bool pi.neg)/\W'.cell? ⟨(adp.add (i * 4)).block,(adp.add (i * 4)).off+2,none⟩=some (.slice P0 pn0 pc0)/\W'.cell? ⟨(adp.add (i * 4)).block,(adp.add (i * 4)).off+3,none⟩=some (.slice P1 pn1 pc1))/\(W'.cell? (adq.add (j * 4))=some (.int .i64 qj.lv)/\W'.cell? ⟨(adq.add (j * 4)).block,(adq.add (j * 4)).off+1,none⟩=some (.bool qj.neg)/\W'.cell? ⟨(adq.add (j * 4)).block,(adq.add (j * 4)).off+2,none⟩=some (.slice Q0 qn0 qc0)/\W'.cell? ⟨(adq.add (j * 4)).block,(adq.add (j * 4)).off+3,none⟩=some (.slice Q1 qn1 qc1))) (by kernel_rfl) (HS2.out _ Y0.out) (fun hHeld=>?_);refine tk 0 ?_;refine tk 1 ?_;refine tk 2 ?_;refine tk 3 ?_;refine tk 4 ?_;refine tk 5 ?_;refine tk 6 ?_;refine tk 7 ?_;refine tk 8 ?_;refine tk 10 ?_;refine tk 11 ?_;refine tk 12 ?_;refine tk 13 ?_;refine tk 14 ?_;refine tk 15 ?_;refine tk 16 ?_;refine tk 17 ?_;refine tk 18 ?_;refine tk 19 ?_;refine wpAnyH_ready (rs:=[9,20,22]) (by kernel_rfl) (by simp) ?_;refine rI rfl (fun K hK=>?z1x9) (rI rfl (fun K hK=>?z1x20) (rI rfl (fun K hK=>?z1x22) (sI)))
          case' z1x9 =>
           have hrw:=HR3.out _ Y0.out;go_simp;refine k_t hK (HS2.out _ Y0.out) fun hHeld=>?_
           clear hK K hrw;refine tk 21 ?_;refine wpAnyH_ready (rs:=[20,22]) (by kernel_rfl) (by simp) ?_;refine rI rfl (fun K hK=>?z2x20) (rI rfl (fun K hK=>?z2x22) (sI))
           case' z2x20 =>
            go_simp
            go_at_call 131
            refine (agr.out _ Y0.out).mono ?_;rintro e v1 ⟨z1,rfl,m1,x1⟩;have y1:Ext wc v1:=Ext.trans Y0.out x1;obtain ⟨D0,dm0,de0,D1,de1,rfl,-⟩:=id m1.open_;unfold plV;refine k_t hK (HS2.out _ y1) fun hHeld=>?_
            clear hK K;refine wpAnyH_ready (rs:=[22]) (by kernel_rfl) (by simp) ?_;refine rI rfl (fun K hK=>?z3x22) (sI)
            case' z3x22 =>
             go_simp;have y2:=Ext.alloc y1 (.cells #[.int .i64 0,.bool false,.slice none 0 0,.slice none 0 0] 44);refine k_t hK (HS2.out _ y2) fun hHeld=>?_
             clear hK K;have yE:=y2;have mE:=(m1.mono (fun g (hg:wc.heap.size<=g)=>hg)).ext ((Ext.refl v1).alloc (.cells #[.int .i64 0,.bool false,.slice none 0 0,.slice none 0 0] 44));have zE:qdw (v1.alloc (.cells #[.int .i64 0,.bool false,.slice none 0 0,.slice none 0 0] 44)) ⟨v1.heap.size,0,none⟩ Pl.zero (.slice none 0 0) (.slice none 0 0):=by refine ⟨?_,?_,?_,?_⟩ <;> simp [go_sem,Pl.zero,Pl.lv,Pl.neg]
           case' z2x22 =>
            go_simp;have y2:=Ext.alloc Y0.out (.cells #[.int .i64 0,.bool false,.slice none 0 0,.slice none 0 0] 44);refine k_t hK (HS2.out _ y2) fun hHeld=>?_
            clear hK K;refine wpAnyH_ready (rs:=[20]) (by kernel_rfl) (by simp) ?_;refine rI rfl (fun K hK=>?z4x20) (sI)
            case' z4x20 =>
             go_simp
             go_at_call 131
             refine (agr.out _ y2).mono ?_;rintro e v1 ⟨z1,rfl,m1,x1⟩;have y1:Ext wc v1:=Ext.trans y2 x1;obtain ⟨D0,dm0,de0,D1,de1,rfl,-⟩:=id m1.open_;unfold plV;refine k_t hK (HS2.out _ y1) fun hHeld=>?_
             clear hK K;have yE:=y1;have mE:PlV v1 (fun g=>wc.heap.size<=g) prd _:=m1.mono (fun g hg=>by simp at hg; have hd:wc.drew.heap.size=wc.heap.size:=rfl; omega);have zE0:qdw (wc.drew.alloc (.cells #[.int .i64 0,.bool false,.slice none 0 0,.slice none 0 0] 44)) ⟨wc.drew.heap.size,0,none⟩ Pl.zero (.slice none 0 0) (.slice none 0 0):=by refine ⟨?_,?_,?_,?_⟩ <;> simp [go_sem,Pl.zero,Pl.lv,Pl.neg]
             have zE:=zE0.ext x1 (by simp)
          case' z1x20 =>
           go_simp
           go_at_call 131
           refine (agr.out _ Y0.out).mono ?_;rintro e v1 ⟨z1,rfl,m1,x1⟩;have y1:Ext wc v1:=Ext.trans Y0.out x1;obtain ⟨D0,dm0,de0,D1,de1,rfl,-⟩:=id m1.open_;unfold plV;refine k_t hK (HS2.out _ y1) fun hHeld=>?_
           clear hK K;refine wpAnyH_ready (rs:=[9,22]) (by kernel_rfl) (by simp) ?_;refine rI rfl (fun K hK=>?z5x9) (rI rfl (fun K hK=>?z5x22) (sI))
           case' z5x9 =>
            have hrw:=HR3.out _ y1;go_simp;refine k_t hK (HS2.out _ y1) fun hHeld=>?_
            clear hK K hrw;refine tk 21 ?_;refine wpAnyH_ready (rs:=[22]) (by kernel_rfl) (by simp) ?_;refine rI rfl (fun K hK=>?z6x22) (sI)
            case' z6x22 =>
             go_simp;have y2:=Ext.alloc y1 (.cells #[.int .i64 0,.bool false,.slice none 0 0,.slice none 0 0] 44);refine k_t hK (HS2.out _ y2) fun hHeld=>?_
             clear hK K;have yE:=y2;have mE:=(m1.mono (fun g (hg:wc.heap.size<=g)=>hg)).ext ((Ext.refl v1).alloc (.cells #[.int .i64 0,.bool false,.slice none 0 0,.slice none 0 0] 44));have zE:qdw (v1.alloc (.cells #[.int .i64 0,.bool false,.slice none 0 0,.slice none 0 0] 44)) ⟨v1.heap.size,0,none⟩ Pl.zero (.slice none 0 0) (.slice none 0 0):=by refine ⟨?_,?_,?_,?_⟩ <;> simp [go_sem,Pl.zero,Pl.lv,Pl.neg]
           case' z5x22 =>
            go_simp;have y2:=Ext.alloc y1 (.cells #[.int .i64 0,.bool false,.slice none 0 0,.slice none 0 0] 44);refine k_t hK (HS2.out _ y2) fun hHeld=>?_
            clear hK K;refine wpAnyH_ready (rs:=[9]) (by kernel_rfl) (by simp) ?_;refine rI rfl (fun K hK=>?z7x9) (sI)
            case' z7x9 =>
             have hrw:=HR3.out _ y2;go_simp;refine k_t hK (HS2.out _ y2) fun hHeld=>?_
             clear hK K hrw;refine tk 21 ?_;have yE:=y2;have mE:=(m1.mono (fun g (hg:wc.heap.size<=g)=>hg)).ext ((Ext.refl v1).alloc (.cells #[.int .i64 0,.bool false,.slice none 0 0,.slice none 0 0] 44));have zE:qdw (v1.alloc (.cells #[.int .i64 0,.bool false,.slice none 0 0,.slice none 0 0] 44)) ⟨v1.heap.size,0,none⟩ Pl.zero (.slice none 0 0) (.slice none 0 0):=by refine ⟨?_,?_,?_,?_⟩ <;> simp [go_sem,Pl.zero,Pl.lv,Pl.neg]
          case' z1x22 =>
           go_simp;have y2:=Ext.alloc Y0.out (.cells #[.int .i64 0,.bool false,.slice none 0 0,.slice none 0 0] 44);refine k_t hK (HS2.out _ y2) fun hHeld=>?_
           clear hK K;refine wpAnyH_ready (rs:=[9,20]) (by kernel_rfl) (by simp) ?_;refine rI rfl (fun K hK=>?z8x9) (rI rfl (fun K hK=>?z8x20) (sI))
           case' z8x9 =>
            have hrw:=HR3.out _ y2;have au1:=HR3.out _ ((Ext.refl wc).alloc (.cells #[.int .i64 0,.bool false,.slice none 0 0,.slice none 0 0] 44));have au0:=HR3.out _ (Ext.refl wc);have auZ:=HR3.out _ ((Ext.refl wc).alloc (.cells #[.int .i64 0,.bool false,.slice none 0 0,.slice none 0 0] 44)).drew;go_simp;refine k_t hK (HS2.out _ y2) fun hHeld=>?_
            clear hK K hrw au1 au0 auZ;refine tk 21 ?_;refine wpAnyH_ready (rs:=[20]) (by kernel_rfl) (by simp) ?_;refine rI rfl (fun K hK=>?z9x20) (sI)
            case' z9x20 =>
             go_simp
             go_at_call 131
             refine (agr.out _ y2).mono ?_;rintro e v1 ⟨z1,rfl,m1,x1⟩;have y1:Ext wc v1:=Ext.trans y2 x1;obtain ⟨D0,dm0,de0,D1,de1,rfl,-⟩:=id m1.open_;unfold plV;refine k_t hK (HS2.out _ y1) fun hHeld=>?_
             clear hK K;have yE:=y1;have mE:PlV v1 (fun g=>wc.heap.size<=g) prd _:=m1.mono (fun g hg=>by simp at hg; have hd:wc.drew.heap.size=wc.heap.size:=rfl; omega);have zE0:qdw (wc.drew.alloc (.cells #[.int .i64 0,.bool false,.slice none 0 0,.slice none 0 0] 44)) ⟨wc.drew.heap.size,0,none⟩ Pl.zero (.slice none 0 0) (.slice none 0 0):=by refine ⟨?_,?_,?_,?_⟩ <;> simp [go_sem,Pl.zero,Pl.lv,Pl.neg]
             have zE:=zE0.ext x1 (by simp)
           case' z8x20 =>
            go_simp
            go_at_call 131
            refine (agr.out _ y2).mono ?_;rintro e v1 ⟨z1,rfl,m1,x1⟩;have y1:Ext wc v1:=Ext.trans y2 x1;obtain ⟨D0,dm0,de0,D1,de1,rfl,-⟩:=id m1.open_;unfold plV;refine k_t hK (HS2.out _ y1) fun hHeld=>?_
            clear hK K;refine wpAnyH_ready (rs:=[9]) (by kernel_rfl) (by simp) ?_;refine rI rfl (fun K hK=>?z10x9) (sI)
            case' z10x9 =>
             have hrw:=HR3.out _ y1;go_simp;refine k_t hK (HS2.out _ y1) fun hHeld=>?_
             clear hK K hrw;refine tk 21 ?_;have yE:=y1;have mE:PlV v1 (fun g=>wc.heap.size<=g) prd _:=m1.mono (fun g hg=>by simp at hg; have hd:wc.drew.heap.size=wc.heap.size:=rfl; omega);have zE0:qdw (wc.drew.alloc (.cells #[.int .i64 0,.bool false,.slice none 0 0,.slice none 0 0] 44)) ⟨wc.drew.heap.size,0,none⟩ Pl.zero (.slice none 0 0) (.slice none 0 0):=by refine ⟨?_,?_,?_,?_⟩ <;> simp [go_sem,Pl.zero,Pl.lv,Pl.neg]
             have zE:=zE0.ext x1 (by simp)
          all_goals
           obtain ⟨B6,sd,w6,ab3,ao0,hc6,ajI,aoZ,⟨u0,u1,u2,u3,c0,c1,c2,c3⟩,acb⟩:=aj1.out _ _ _ _ _ _ _ _ yE zE mE;have ach:=hid (acb _ rfl);have HS6:=hid (anp.out w6 ajI);have HS7:=hid (anp.out (w6.setCell ⟨w2.heap.size,r,none⟩ (.slice (some ⟨B6,0,none⟩) (ln+1) sd)) (fun g h1 h2=>(Below.heap_setCell w6 _ _ g h1).trans (ajI g h1 h2)));have HCB:Hid (_/\_/\_/\_/\_):=hid ⟨aoZ,c0,c1,c2,c3⟩;clear acb ajI m1 x1 y1 y2 yE zE mE aj1 agr HS2 HR3 aoZ c0 c1 c2 c3;refine r_1 23 fun K hK=>?_
           refine jd2 rfl (.tmp 108) (.tmp 121) 42 42 rfl _ _ _ _ (by simp [Act.eval,Act.put]) (by simp [Act.eval,Act.put]) ab3 ?_;refine k_t hK HS6.out fun hHeld=>?_
           clear hK K ab3 HS6;refine tk 24 ?_;refine r_1 25 fun K hK=>?_
           go_simp;refine k_t hK HS7.out fun hHeld=>?_
           clear hK K HS7;refine w_d ?_;clear hc6 ao0;obtain ⟨aoZ,c0,c1,c2,c3⟩:=HCB.out;go_wp2_with fail
           go_roundw
           case rel=>exact ⟨y+1,by have:=HB1.out; omega,by go_num,ach⟩
           case measure=>simp [intOf]; have:=HB1.out; omega
     · have hye:y=b.length:=by omega
       have awQ:Hid (∃ Own,zds w4.heap.size wr w2.heap.size ((List.range N).map fun k=>vdo p.cs q.cs (qdp (a.take (x+1)) b) k) Own):=hid ⟨Own2,by
        have h1:=amb.out;rw [hye,pw,<- HTK.out] at h1
        exact h1⟩
       clear hye;go_wp2_with fail
       go_roundw
       case rel=>exact ⟨x+1,by omega,by go_num,⟨awQ.out,asO.out,ahr,apB.out⟩⟩
       case measure=>simp [intOf]; omega
  · have hxe:x=a.length:=by omega
    obtain ⟨ls,hls⟩:=n_m (((List.range N).map fun k=>vdo p.cs q.cs (qdp a b) k));have ajA:ls.length=N:=by rw [<- hls]; simp
    have HPF:Hid (zds w4.heap.size w5 w2.heap.size ls Own):=hid (by
     have h1:=HPR.out;rw [hxe,pw,hls] at h1
     exact h1)
    have HLA:Hid (∀ k (hk:k < ls.length),(∀ r ∈ ls[k],r.Can/\r.ex (E+F))/\lnr ls[k] < B32 ^ (D+G)/\ls[k].length<=1000000):=hid (fun k hk=>by
     have h1:ls[k]=vdo p.cs q.cs (qdp a b) k:=by simp only [<- hls,rJ,uo]
     rw [h1]; exact amg.out k)
    have HMU:Hid (p.mul q=wdx p.lv (ls.map jdt)):=hid (by
     have h1:=HML.out;rw [HNN.out] at h1
     rw [h1,<- hls,List.map_map]; rfl)
    have asR:Hid (w2.heap.size < w5.heap.size):=hid (by omega);clear HPR hls hxe amg HML;obtain ⟨V2,amL,aso,aBE,alo⟩:=jd9 (N:Int) (by omega) (by omega) w5;rw [rV] at amL alo;have aoc:=hid (alo (fun g=>w5.heap.size<=g));have asU:=hid aso;clear alo aso;go_wp2_with fail;clear amL
    go_loopw [156] (fun iv wr=>∃ k:Nat,k<=N/\iv=.int .i64 k/\Hid ((∃ M:List Pl,M.length=N/\M.take k=(ls.map jdt).take k/\yd9 wr (fun g=>w5.heap.size<=g) w5.heap.size M)/\Ext w5 wr)) (fun iv _=>N - (intOf iv).toNat)
    case atStart=>exact ⟨0,pM _,rfl,⟨⟨_,rp,by simp,aoc.out⟩,asU.out⟩⟩
    case round =>
     obtain ⟨k,hk,rfl,⟨⟨M,hMl,hMt,aaC⟩,hx5⟩⟩:=hrel;have HX5:=hid hx5;have acn:=hid aaC;have HMT:=hid hMt;have auU:=hx5.size;have amZ:w5.heap.size < wr.heap.size:=aaC.1;clear hx5 aaC hMt aoc asU
     by_cases hlk:k < N
     · obtain ⟨PV,hcv,hq5,-⟩:=HPF.out.row k (by omega);obtain ⟨PA,pc,rfl,hp1,hp2⟩:=hq5.len;have alO:wr.cell? ⟨w2.heap.size,k,none⟩=some (.slice PA ls[k].length pc):=(HX5.out.cell (p:=⟨w2.heap.size,k,none⟩) asR.out).trans hcv;obtain ⟨ha1,ha2,ha3⟩:=HLA.out k (by omega);have HAD:=hid (kfe (E:=E+F) (D:=D+G) ls[k] PA pc (by omega) (by omega) ha1 ha2 ha3 hp1 hp2 (hq5.at_.ext HX5.out));have ahg:Hid ((M.set k (jdt ls[k])).take (k+1)=(ls.map jdt).take (k+1)):=hid (by
        have h1:=kd1 M (ls.map jdt) k HMT.out (by omega) (by rw [pC]; omega);rw [rJ] at h1
        exact h1)
       clear hcv hq5 ha1 ha2 HMT;generalize jdt ls[k]=res at *;generalize ls[k].length=lk at *;have hkN:(k:Int) < (N:Int):=by omega
       go_wp2_with fail;clear alO;refine HAD.out.mono ?_;rintro e w6 ⟨v6,rfl,p6,x6⟩;obtain ⟨C0,j0,f0,C1,f1,rfl,-⟩:=id p6.open_;have hr6:=acn.out.ext x6;obtain ⟨D0,n2,g0,D1,n3,g1,⟨r0,r1,r2,r3⟩,-⟩:=hr6.2.2 k (by omega);have hfr:=hr6.2.1;have hst:=(hr6.qG k (by omega) res (p6.mono fun i hi=>⟨by omega,by omega⟩)).1;simp only at r0 r1 r2 r3;have HST:=hid hst;have X6:=hid (HX5.out.trans x6);unfold plV;clear hr6 hst p6 x6 HAD acn;go_wp2_with fail
       go_roundw
       case rel=>exact ⟨k+1,by omega,by go_num,⟨_,by rw [pN]; exact hMl,ahg.out,HST.out⟩,(((X6.out.setCell (pf _) _).setCell (pf _) _).setCell (pf _) _).setCell (pf _) _⟩
       case measure=>simp [intOf]; omega
     · have hke:k=N:=by omega
       have hMe:M=ls.map jdt:=by
        have h:=HMT.out;rw [hke,show N=(ls.map jdt).length by rw [pC,ajA],pw,pC,ajA,<- hMl,pw] at h;exact h
       have amX:=HXW.out.trans HX5.out;have htr:=zey p.lv (ls.map jdt) (some ⟨w5.heap.size,0,none⟩) N (by have h1:=acn.out.fin (pf _); rw [hMe] at h1; exact h1) (by rw [pC]; omega) (by omega);rw [pC,ajA] at htr;generalize wdx p.lv (ls.map jdt)=res at *;have HTR:=hid htr;obtain ⟨b0,b1,b2,b3⟩:=HC.out.box.ext amX (by omega);have HZR:=hid (HC.out.zero.ext amX (by omega));have HXR:=hid (HC.out.ext.trans amX);clear htr amX hMe acn HMT;go_wp2_with fail;clear b0 b1 b2 b3;refine HTR.out.mono ?_;rintro e w6 ⟨v6,rfl,p6,x6⟩;obtain ⟨C0,j0,f0,C1,f1,rfl,-⟩:=id p6.open_;have hz6:=HZR.out.ext x6 (by omega);have hf:=zdm (q:=fun g=>w5.heap.size<=g) (q':=fun i=>w.heap.size<=i) (HXR.out.trans x6) (by omega) hz6 p6 (fun b _ hb=>by have:=asR.out; exact ⟨by omega,by omega⟩);have HF:=hid (wfx HMU.out hf);obtain ⟨⟨z0,z1,z2,z3⟩,zf⟩:=hz6;clear hf p6 x6 HTR HZR HXR;unfold plV;go_wp2_with fail;exact bodyPost_ret (v:=plV res (.slice C0 j0 f0) (.slice C1 res.cs.length f1)) (by simp [results,uT,go_sem,z0,z1,z2,z3,plV]) rfl HF.out
end Go.Proofs.YtheefiaoimbeiaaGreatDoor
