/- Layer 22: recpoly.mul where the levels are the same and not 0. -/
import Derived.Test.YtheefiaoimbeiaaGreatDoorMt18
import Derived.Test.YtheefiaoimbeiaaGreatDoorMt27
import Derived.Test.YtheefiaoimbeiaaGreatDoorMt28
import Derived.Test.YtheefiaoimbeiaaGreatDoorMt9
import Derived.Deep.RegionLawGrows
set_option linter.unusedSimpArgs false
set_option linter.unusedVariables false

set_option maxRecDepth 100000
set_option maxHeartbeats 8000000
namespace Go.Proofs.YtheefiaoimbeiaaGreatDoor
open Go.RowKit
theorem wch:(Tryz.prog.info? 42).map (fun i=>(i.zero,i.size,i.bytes))=some (some (.slice none 0 0),1,24):=by kernel_rfl
theorem zbj (n:Int) (h0:0<=n) (h1:n<=1099511627776) (w:World) :
 ∃ w',(Instr.makeSlice 224 (.int .i64 n) (.int .i64 n)).run Tryz.prog w=.ok (.slice (some ⟨w.heap.size,0,none⟩) n.toNat n.toNat) w'/\Ext w w'/\w'.heap.size=w.heap.size+1/\∀ lo,w.heap.size < lo->vz lo w' w.heap.size (List.replicate n.toNat []) (fun _=>False):=by
 obtain ⟨i0,hi,hz0,hz1,hz2⟩:=info_parts wch;have hc:∀ i,i < n.toNat->(w.alloc (.cells (madeCells (Value.slice none 0 0).cells (n.toNat * i0.size)) 42)).cell? ⟨w.heap.size,i,none⟩=some (.slice none 0 0):=by
  intro i hi;rw [cell_of_row _ _ i _ _ (0,0) (heap_alloc_new w _)];rw [hz1];unfold madeCells;rw [Array.getElem?_map,Array.getElem?_range,if_pos (by omega)];show some ((#[Value.slice none 0 0]:Array Value)[i % 1]!)=_;rw [Nat.mod_one]
  rfl
 refine ⟨_,run_make w 224 42 i0 _ Tryz.underlying224 hi hz0 .i64 .i64 n n h0 (by omega) (by rw [hz2]; omega) (by omega),(Ext.refl w).alloc _,by simp,fun lo hlo=>⟨by simp,hlo,fun i=>by simp [go_sem],fun b h=>h.elim,fun k hk=>?_,fun j k v u hj hk _ hv hu o ho=>?_⟩⟩
 · rw [List.length_replicate] at hk;rw [List.getElem_replicate];exact ⟨_,hc k hk,kw.nil _ _ _,fun o e=>by cases e⟩
 · rw [List.length_replicate] at hj;rw [hc j hj] at hv;injection hv with hv
   rw [<- hv] at ho;cases ho
theorem vcc {q:Nat->Prop} {p p':Pl} {w w':World} {e:Ending} (h:p'=p) (hr:ji q p w e w'):ji q p' w e w':=by rw [h]; exact hr
theorem zcg {w0 w : World} {E D F G : Nat} (p q : Pl) (v u : Value) (hp : Fit p E D) (hq : Fit q F G) (hE : E <= 900) (hF : F <= 900) (hD : D + G <= 17592186044000)
 (h:PlV w0 (fun _=>True) p v) (k:PlV w0 (fun _=>True) q u) (hx:Ext w0 w) (heq:p.lv=q.lv) (h0:0 < p.lv)
 (ih:∀ a ∈ p.cs,∀ b ∈ q.cs,∀ x y,PlV w0 (fun _=>True) a x->PlV w0 (fun _=>True) b y->∀ W',Ext w0 W'->Calls Tryz.prog 131 #[x,y] W' (ji (fun i=>W'.heap.size<=i) (a.mul b) W')) :
 Calls Tryz.prog 131 #[v,u] w (ji (fun i=>w.heap.size<=i) (p.mul q) w):=by
 have HML:=Lib.hid (Pl.mul_level hp.can hq.can h0 heq);have HP:=Lib.hid hp;have HQ:=Lib.hid hq;have HH:=Lib.hid h;have HK:=Lib.hid k;have IH:=Lib.hid ih;have HX0:=Lib.hid hx;have hpz:p.isZ=false:=by unfold Pl.isZ; rw [show decide (p.lv=0)=false by simp; omega]; rfl
 have hqz:q.isZ=false:=by unfold Pl.isZ; rw [show decide (q.lv=0)=false by simp; omega]; rfl
 obtain ⟨A0,n0,c0,A,c,rfl,-,hl1,hl2,hpa⟩:=h.open_;obtain ⟨B0,m0,d0,B,d,rfl,-,hk1,hk2,hqa⟩:=k.open_;have HPA:=Lib.hid hpa;have HQA:=Lib.hid hqa;have hlp:p.cs.length<=901/\2<=p.cs.length:=by
  obtain ⟨l,n,d,cs⟩:=p;have h1:=hp.len h0;have h2:=(hp.can.kids h0).2.2.1;simp only [Pl.cs];omega
 have hlq:q.cs.length<=901/\2<=q.cs.length:=by
  have h0':0 < q.lv:=by omega
  obtain ⟨l,n,d,cs⟩:=q;have h1:=hq.len h0';have h2:=(hq.can.kids h0').2.2.1;simp only [Pl.cs];omega
 obtain ⟨W,hW⟩:=n_m (((w.alloc (.cells #[.int .i64 p.lv,.bool p.neg,.slice A0 n0 c0,.slice A p.cs.length c] 44)).alloc (.cells #[.int .i64 q.lv,.bool q.neg,.slice B0 m0 d0,.slice B q.cs.length d] 44)).alloc (.cells #[.int .i64 0,.bool false,.slice none 0 0,.slice none 0 0] 44));have hcut:xar w p q (.slice A0 n0 c0) (.slice A p.cs.length c) (.slice B0 m0 d0) (.slice B q.cs.length d) W:=by
  rw [<- hW];refine ⟨(((Ext.refl w).alloc _).alloc _).alloc _,by simp,(ql.new w p _ _ _).ext (((Ext.refl _).alloc _).alloc _) (by simp),?_,?_⟩
  · have h1:=ql.new (w.alloc (.cells #[.int .i64 p.lv,.bool p.neg,.slice A0 n0 c0,.slice A p.cs.length c] 44)) q (.slice B0 m0 d0) (.slice B q.cs.length d) 44;have h2:=h1.ext ((Ext.refl _).alloc (.cells #[.int .i64 0,.bool false,.slice none 0 0,.slice none 0 0] 44)) (by simp);simpa using h2
  · have h1:=yh.new ((w.alloc (.cells #[.int .i64 p.lv,.bool p.neg,.slice A0 n0 c0,.slice A p.cs.length c] 44)).alloc (.cells #[.int .i64 q.lv,.bool q.neg,.slice B0 m0 d0,.slice B q.cs.length d] 44)) 44;simpa using h1
 have HC:=Lib.hid hcut;have HZA:=Lib.hid (uah p _ (HH.out.ext (hx.trans hcut.ext)));have HZB:Hid (∀ W',Ext W W'->Calls Tryz.prog 146 #[plV q (.slice B0 m0 d0) (.slice B q.cs.length d)] W' fun e w'=>e=.returned (.bool q.isZ)/\Ext W' w'):=by
  have:∀ W',Ext W W'->Calls Tryz.prog 146 #[plV q (.slice B0 m0 d0) (.slice B q.cs.length d)] W' fun e w'=>e=.returned (.bool q.isZ)/\Ext W' w':=fun W' hx'=>uah q _ (HK.out.ext ((HX0.out.trans HC.out.ext).trans hx'))
  exact this
 rw [hpz] at HZA;rw [hqz] at HZB;have hWs:=hcut.size;obtain ⟨b0,b1,b2,b3⟩:=hcut.box;obtain ⟨e0,e1,e2,e3⟩:=hcut.box';have HEQ:=Lib.hid heq;have hlt1:¬ p.lv < q.lv:=by omega
 have hlt2:¬ q.lv < p.lv:=by omega
 have hne0:(p.lv == 0)=false:=by simp; omega
 clear hp hq h k hx heq ih hpz hqz hpa hqa hcut;unfold plV at HZA HZB;unfold plV;go_enter Tryz.func131,Tryz.ntmps131;go_wp2_with fail;clear hW b0 b1 b2 b3 e0 e1 e2 e3;refine HZA.out.mono ?_;rintro e w1 ⟨rfl,x1⟩;have hs1:=x1.size;have X1:=Lib.hid x1;obtain ⟨e0,e1,e2,e3⟩:=HC.out.box'.ext x1 (by omega);clear x1 HZA;go_wp2_with fail;clear e0 e1 e2 e3;refine (HZB.out _ X1.out).mono ?_;rintro e w2 ⟨rfl,x2⟩;have hs2:=x2.size;have X2:=Lib.hid (X1.out.trans x2);obtain ⟨b0,b1,b2,b3⟩:=HC.out.box.ext X2.out (by omega);obtain ⟨e0,e1,e2,e3⟩:=HC.out.box'.ext X2.out (by omega);clear x2 HZB X1;have hwn:IntKind.i64.wrap ((p.cs.length:Int)+(q.cs.length:Int))=(p.cs.length:Int)+(q.cs.length:Int):=by rw [IntKind.wrap_i64]; omega
 have hwn2:IntKind.i64.wrap ((p.cs.length:Int)+(q.cs.length:Int) - 1)=((p.cs.length+q.cs.length - 1:Nat):Int):=by rw [IntKind.wrap_i64]; omega
 obtain ⟨V,hmk,hVx,hVs,hrow⟩:=zbj ((p.cs.length+q.cs.length - 1:Nat):Int) (by omega) (by omega) w2;rw [Int.toNat_natCast] at hmk hrow;have HROW:=Lib.hid hrow;have XV:=Lib.hid (X2.out.trans hVx);have HMK:=Lib.hid hmk;clear hrow hVx;have HPR2:=Lib.hid (ua3 q.cs B d (HQA.out.ext (HX0.out.trans (HC.out.ext.trans XV.out))) (by omega));have hXVs:=XV.out.size;obtain ⟨f0,f1,f2,f3⟩:=HC.out.box'.ext XV.out (by omega);go_upto_region 16 with fail;clear hmk HMK b0 b1 b2 b3 e0 e1 e2 e3;go_wp2_with fail;clear f0 f1 f2 f3;refine HPR2.out.mono ?_;rintro e w3 ⟨v3,rfl,hr3,x3⟩;have hs3:=x3.size;obtain ⟨GB,cb,rfl,-,-⟩:=hr3.len;have HNB:=Lib.hid hr3;have X3:=Lib.hid (XV.out.trans x3);have HPR1:=Lib.hid (ua3 p.cs A c (HPA.out.ext (HX0.out.trans (HC.out.ext.trans X3.out))) (by omega));obtain ⟨b0,b1,b2,b3⟩:=HC.out.box.ext X3.out (by omega);have HRO3:=Lib.hid (fun lo hlo=>(HROW.out lo hlo).ext x3);clear hr3 x3 HPR2 HROW;go_wp2_with fail;clear b0 b1 b2 b3;refine HPR1.out.mono ?_;rintro e w4 ⟨v4,rfl,hr4,x4⟩;have hs4:=x4.size;obtain ⟨GA,ca,rfl,-,-⟩:=hr4.len;have HNA:=Lib.hid hr4;have HNB4:=Lib.hid (yj.ext HNB.out x4);have X4:=Lib.hid (X3.out.trans x4);have HRO4:=Lib.hid ((HRO3.out w4.heap.size (by omega)).ext x4);clear hr4 x4 HPR1 HNB HRO3;obtain ⟨N,hN⟩:=n_m (p.cs.length+q.cs.length - 1);have hNle:N<=1801:=by omega
 rw [hN] at HRO4 ⊢;have hal:=uav p.cs p.cs.length;have hbl:=uav q.cs q.cs.length;have HALT:Hid (∀ i ∈ prs p.cs p.cs.length,i < p.cs.length):=Lib.hid (fun i hi=>zb4 hi);have HBLT:Hid (∀ i ∈ prs q.cs q.cs.length,i < q.cs.length):=Lib.hid (fun i hi=>zb4 hi);have HADD:=Lib.hid (fun k=>jbw HP.out HQ.out h0 (by have:=HEQ.out; omega) hlp.1 hlq.1 k);have HNN:=Lib.hid hN;clear hN;generalize prs p.cs p.cs.length=a at *;generalize prs q.cs q.cs.length=b at *;go_wp2_with fail
 go_loopw [87] (fun iv wr=>∃ x:Nat,x<=a.length/\iv=.int .i64 x/\Hid ((∃ Own,vz w4.heap.size wr w2.heap.size ((List.range N).map fun k=>zq p.cs q.cs (zu (a.take x) b) k) Own)/\Ext W wr/\w4.heap.size<=wr.heap.size/\∀ g,g ≠ w2.heap.size->g < w4.heap.size->wr.heap[g]?=w4.heap[g]?)) (fun iv _=>a.length - (intOf iv).toNat)
 case atStart=>exact ⟨0,Nat.zero_le _,rfl,⟨⟨_,by
   have h1:=HRO4.out;rw [show List.replicate N ([]:List Pl)=(List.range N).map fun k=>zq p.cs q.cs (zu (a.take 0) b) k by
    rw [List.take_zero]
    simp [zu,zq,List.map_const']] at h1
   exact h1⟩,X4.out,Nat.le_refl _,fun _ _ _=>rfl⟩⟩
 case round =>
  obtain ⟨x,hx,rfl,⟨⟨Own,hpr⟩,hxw,hws,hkeep⟩⟩:=hrel;have HPR:=Lib.hid hpr;have HXW:=Lib.hid hxw;have HKE:=Lib.hid hkeep;clear hpr hxw hkeep;obtain ⟨w5,rfl⟩:∃ w5,w5=wr:=⟨wr,rfl⟩
  by_cases hlt:x < a.length
  · obtain ⟨ga,ca',e,hga1,hga2,hgc⟩:=zai.at_ HNA.out x hlt;injection e with e1 e2 e3
    subst e1 e3;have hgc2:w5.cell? ⟨ga,x,none⟩=some (.int .i64 a[x]):=(World.cell?_of_block (a:=⟨ga,x,none⟩) (HKE.out ga (by omega) hga2)).trans hgc;have hgsz:ga < w5.heap.size:=by omega
    have hax:a[x] < p.cs.length:=HALT.out _ (List.getElem_mem hlt);have HTK:Hid (zu (a.take (x+1)) b=zu (a.take x) b ++ b.map fun j=>(a[x],j)):=Lib.hid (by
     unfold zu;rw [List.take_succ_eq_append_getElem hlt,List.flatMap_append]
     simp)
    clear hgc;generalize a[x]=i at *;go_wp2_with fail
    go_loopw [93] (fun iv wr=>∃ y:Nat,y<=b.length/\iv=.int .i64 y/\Hid ((∃ Own,vz w4.heap.size wr w2.heap.size ((List.range N).map fun k=>zq p.cs q.cs (zu (a.take x) b ++ (b.take y).map fun j=>(i,j)) k) Own)/\Ext W wr/\w4.heap.size<=wr.heap.size/\∀ g,g ≠ w2.heap.size->g < w4.heap.size->wr.heap[g]?=w4.heap[g]?)) (fun iv _=>b.length - (intOf iv).toNat)
    case atStart=>exact ⟨0,Nat.zero_le _,rfl,⟨⟨_,by rw [List.take_zero,List.map_nil,List.append_nil]; exact HPR.out⟩,HXW.out,hws,HKE.out⟩⟩
    case round =>
     obtain ⟨y,hy,rfl,⟨⟨Own2,hpr⟩,hxw,hws2,hkeep⟩⟩:=hrel;have HPR2:=Lib.hid hpr;have HXW2:=Lib.hid hxw;have HKE2:=Lib.hid hkeep;clear hpr hxw hkeep
     by_cases hlty:y < b.length
     · obtain ⟨gb,cb',e,hgb1,hgb2,hgc⟩:=zai.at_ (l:=b) HNB4.out y hlty;injection e with e1 e2 e3
       subst e1 e3;have hgc3:wr.cell? ⟨gb,y,none⟩=some (.int .i64 b[y]):=(World.cell?_of_block (a:=⟨gb,y,none⟩) (HKE2.out gb (by omega) hgb2)).trans hgc;have hgsz2:gb < wr.heap.size:=by omega
       have hby:b[y] < q.cs.length:=HBLT.out _ (List.getElem_mem hlty);have HTK2:Hid ((b.take (y+1)).map (fun j=>(i,j))=(b.take y).map (fun j=>(i,j)) ++ [(i,b[y])]):=Lib.hid (by
        rw [List.take_succ_eq_append_getElem hlty,List.map_append]
        rfl)
       clear hgc;generalize b[y]=j at *;go_upto_region 23 with fail
       go_cut [98] from 97 to 98 (fun s wx=>∃ bb,s=.bool bb/\Hid (Ext wr wx))
       case first =>
        go_region_with (fail)
        all_goals
         go_wp2_with fail
         go_meet
         exact ⟨_,rfl,Lib.hid ((Ext.refl wr).alloc _).drew⟩
       case rest =>
        obtain ⟨bb,rfl,hxc0⟩:=hcut;have hxc:Ext wr wc:=hxc0.out;have HXC:=Lib.hid (HXW2.out.trans hxc);have hwsc:=hxc.size;have HKEC:Hid (∀ g,g ≠ w2.heap.size->g < w4.heap.size->wc.heap[g]?=w4.heap[g]?):=Lib.hid (fun g h1 h2=>(hxc.below.block g (by omega)).trans (HKE2.out g h1 h2));have hprc:=HPR2.out.ext hxc;have hijN:i+j < N:=by have:=HNN.out; omega
        have hijw:IntKind.i64.wrap ((i:Int)+(j:Int))=((i+j:Nat):Int):=by rw [IntKind.wrap_i64]; omega
        obtain ⟨ls,hls⟩:=n_m (((List.range N).map fun k=>zq p.cs q.cs (zu (a.take x) b ++ (b.take y).map fun j=>(i,j)) k));have hlsN:ls.length=N:=by rw [<- hls]; simp
        have hlsk:∀ (k:Nat) (hk:k < ls.length),ls[k].length<=1000000:=by
         intro k hk;have h1:ls[k]=zq p.cs q.cs (zu (a.take x) b ++ (b.take y).map fun j=>(i,j)) k:=by
          simp only [<- hls,List.getElem_map,List.getElem_range]
         rw [h1];refine Nat.le_trans (ubd _ _ _ _) ?_;rw [List.length_append,wa7,List.length_map,List.length_take,List.length_take];have h2:min x a.length * b.length<=901 * 901:=Nat.mul_le_mul (by omega) (by omega);omega
        have HNXT:Hid (ls.set (i+j) ((ls[i+j]'(by omega)) ++ [(Pl.at_ p.cs i).mul (Pl.at_ q.cs j)])=(List.range N).map fun k=>zq p.cs q.cs (zu (a.take x) b ++ (b.take (y+1)).map fun j=>(i,j)) k):=Lib.hid (by
         rw [HTK2.out,<- List.append_assoc];apply List.ext_getElem
         · simp [hlsN]
         · intro k hk1 hk2;have h1:k < N:=by simpa using hk2
           rw [List.getElem_set];simp only [<- hls,List.getElem_map,List.getElem_range];rw [kbw]
           by_cases hk:i+j=k
           · rw [if_pos hk,if_pos hk,hk]
           · rw [if_neg hk,if_neg hk])
        rw [hls] at hprc;obtain ⟨PA,pc,hrow,hpc1,hpc2,-⟩:=hprc.push (by omega) (i+j) (by omega);obtain ⟨ln,hln⟩:=n_m ((ls[i+j]'(by omega)).length);rw [hln] at hrow;obtain ⟨adp,P0,pn0,pc0,P1,pn1,pc1,rfl,hadp,hndp,hktp⟩:=jf.kid HPA.out i hax;obtain ⟨adq,Q0,qn0,qc0,Q1,qn1,qc1,rfl,hadq,hndq,hktq⟩:=jf.kid HQA.out j hby;have hpat:Pl.at_ p.cs i=p.cs[i]:=by unfold Pl.at_; rw [List.getD_eq_getElem?_getD,List.getElem?_eq_getElem hax]; rfl
        have hqat:Pl.at_ q.cs j=q.cs[j]:=by unfold Pl.at_; rw [List.getD_eq_getElem?_getD,List.getElem?_eq_getElem hby]; rfl
        have hx0c:Ext w0 wc:=(HX0.out.trans HC.out.ext).trans HXC.out;have HMUL:=Lib.hid (fun W' (hW':Ext wc W')=>IH.out p.cs[i] (List.getElem_mem hax) q.cs[j] (List.getElem_mem hby) _ _ hktp hktq W' (hx0c.trans hW'));have HPRC:=Lib.hid hprc;have HSS:Hid (∀ W',Ext wc W'->(W'.cell? ⟨w.heap.size,3,none⟩=some (.slice (some adp) p.cs.length c)/\W'.cell? ⟨w.heap.size+1,3,none⟩=some (.slice (some adq) q.cs.length d)/\W'.cell? ⟨w2.heap.size,i+j,none⟩=some (.slice PA ln pc)/\qad W' (adp.add (i * 4)) p.cs[i] (.slice P0 pn0 pc0) (.slice P1 pn1 pc1)/\qad W' (adq.add (j * 4)) q.cs[j] (.slice Q0 qn0 qc0) (.slice Q1 qn1 qc1))):=by
         refine Lib.hid ?_;intro W' hW';have hb1:=HC.out.box.ext (HXC.out.trans hW') (by omega);have hb2:=HC.out.box'.ext (HXC.out.trans hW') (by omega);exact ⟨hb1.2.2.2,hb2.2.2.2,(hW'.cell (p:=⟨w2.heap.size,i+j,none⟩) (by show w2.heap.size < _; omega)).trans hrow,hndp.ext (hx0c.trans hW') (by rw [jb]; exact hadp),hndq.ext (hx0c.trans hW') (by rw [jb]; exact hadq)⟩
        have HPUSH:Hid (∀ (v1:World) (D0 D1:Option Addr) (m0 e0 m1 e1:Nat),Ext wc v1->PlV v1 (fun g=>wc.heap.size<=g) (p.cs[i].mul q.cs[j]) (plV (p.cs[i].mul q.cs[j]) (.slice D0 m0 e0) (.slice D1 m1 e1))->∃ (SB:Option Addr) (sn sd:Nat) (w6:World),(Builtin.append_ #[42,42] 42 #[.slice PA ln pc,.slice (some ⟨v1.heap.size,0,none⟩) 1 1]).run Tryz.prog (v1.alloc (.cells #[.int .i64 (p.cs[i].mul q.cs[j]).lv,.bool (p.cs[i].mul q.cs[j]).neg,.slice D0 m0 e0,.slice D1 m1 e1] 44))=.ok (.slice SB sn sd) w6/\w6.frozen? ⟨w2.heap.size,i+j,none⟩=false/\w6.cell? ⟨w2.heap.size,i+j,none⟩=some (.slice PA ln pc)/\(∀ g,g ≠ w2.heap.size->g < w4.heap.size->w6.heap[g]?=wc.heap[g]?) /\
         ((∃ Own,vz w4.heap.size (w6.setCell ⟨w2.heap.size,i+j,none⟩ (.slice SB sn sd)) w2.heap.size ((List.range N).map fun k=>zq p.cs q.cs (zu (a.take x) b ++ (b.take (y+1)).map fun j=>(i,j)) k) Own)/\Ext W (w6.setCell ⟨w2.heap.size,i+j,none⟩ (.slice SB sn sd))/\w4.heap.size<=(w6.setCell ⟨w2.heap.size,i+j,none⟩ (.slice SB sn sd)).heap.size/\∀ g,g ≠ w2.heap.size->g < w4.heap.size->(w6.setCell ⟨w2.heap.size,i+j,none⟩ (.slice SB sn sd)).heap[g]?=w4.heap[g]?)):=by
         refine Lib.hid ?_;intro v1 D0 D1 m0 e0 m1 e1 hv1 hpl;have hs1:=hv1.size;have hp1:=HPRC.out.ext hv1;obtain ⟨PA',pc',hrow',-,-,hpush⟩:=hp1.push (by omega) (i+j) (by omega);have hr2:=(hv1.cell (p:=⟨w2.heap.size,i+j,none⟩) (by show w2.heap.size < _; omega)).trans hrow;rw [hln] at hrow' hpush;rw [hr2] at hrow';injection hrow' with hrow'
         injection hrow' with h1 h2 h3
         subst h1 h3;have hlk:=hlsk (i+j) (by omega);have hlk2:ln+1<=1000000000:=by rw [<- hln]; omega
         obtain ⟨B6,d6,w6,Own6,hrun,k1,k2,k3,-,k5,-,-,k7,k8⟩:=hpush (p.cs[i].mul q.cs[j]) D0 D1 m0 e0 m1 e1 (hpl.mono fun g hg=>⟨fun ho=>by have:=(HPRC.out.own g ho).2; omega,by omega⟩) hlk2;refine ⟨_,_,_,w6,hrun,k2 _,k3,fun g hg1 hg2=>(Below.heap_setCell w6 _ _ g hg1).symm.trans ((k8 g hg1 hg2).trans (hv1.below.block g (by omega))),⟨Own6,?_⟩,k5 W (HXC.out.trans hv1) (by omega),?_,fun g hg1 hg2=>(k8 g hg1 hg2).trans ((hv1.below.block g (by omega)).trans (HKEC.out g hg1 hg2))⟩
         · have h9:=HNXT.out;rw [hpat,hqat] at h9;rw [<- h9];exact k1
         · have:(w6.setCell ⟨w2.heap.size,i+j,none⟩ (.slice (some ⟨B6,0,none⟩) (ln+1) d6)).heap.size=w6.heap.size:=by simp [World.setCell]
           omega
        have HPUSHZ:Hid (∀ (v1:World) (az:Addr) (D0 D1:Option Addr) (m0 e0 m1 e1:Nat),Ext wc v1->qad v1 az Pl.zero (.slice none 0 0) (.slice none 0 0)->PlV v1 (fun g=>wc.heap.size<=g) (p.cs[i].mul q.cs[j]) (plV (p.cs[i].mul q.cs[j]) (.slice D0 m0 e0) (.slice D1 m1 e1))->∃ (B:Nat) (sd:Nat) (w6:World),(Builtin.append_ #[42,42] 42 #[.slice PA ln pc,.slice (some az) 1 1]).run Tryz.prog v1=.ok (.slice (some ⟨B,0,none⟩) (ln+1) sd) w6/\w6.frozen? ⟨w2.heap.size,i+j,none⟩=false/\w6.cell? ⟨w2.heap.size,i+j,none⟩=some (.slice PA ln pc)/\(∀ g,g ≠ w2.heap.size->g < w4.heap.size->w6.heap[g]?=wc.heap[g]?) /\
         (∀ i',(w6.setCell ⟨w2.heap.size,i+j,none⟩ (.slice (some ⟨B,0,none⟩) (ln+1) sd)).frozen? ⟨B,i',none⟩=false) /\
         (∃ u0 u1 u2 u3,(w6.setCell ⟨w2.heap.size,i+j,none⟩ (.slice (some ⟨B,0,none⟩) (ln+1) sd)).cell? ⟨B,ln * 4,none⟩=some u0/\(w6.setCell ⟨w2.heap.size,i+j,none⟩ (.slice (some ⟨B,0,none⟩) (ln+1) sd)).cell? ⟨B,ln * 4+1,none⟩=some u1/\(w6.setCell ⟨w2.heap.size,i+j,none⟩ (.slice (some ⟨B,0,none⟩) (ln+1) sd)).cell? ⟨B,ln * 4+2,none⟩=some u2/\(w6.setCell ⟨w2.heap.size,i+j,none⟩ (.slice (some ⟨B,0,none⟩) (ln+1) sd)).cell? ⟨B,ln * 4+3,none⟩=some u3) /\
         ∀ w8,w8=(((((w6.setCell ⟨w2.heap.size,i+j,none⟩ (.slice (some ⟨B,0,none⟩) (ln+1) sd)).setCell ⟨B,ln * 4,none⟩ (.int .i64 (p.cs[i].mul q.cs[j]).lv)).setCell ⟨B,ln * 4+1,none⟩ (.bool (p.cs[i].mul q.cs[j]).neg)).setCell ⟨B,ln * 4+2,none⟩ (.slice D0 m0 e0)).setCell ⟨B,ln * 4+3,none⟩ (.slice D1 m1 e1)) ->
           ((∃ Own,vz w4.heap.size w8 w2.heap.size ((List.range N).map fun k=>zq p.cs q.cs (zu (a.take x) b ++ (b.take (y+1)).map fun j=>(i,j)) k) Own)/\Ext W w8/\w4.heap.size<=w8.heap.size/\∀ g,g ≠ w2.heap.size->g < w4.heap.size->w8.heap[g]?=w4.heap[g]?)):=by
         refine Lib.hid ?_;intro v1 az D0 D1 m0 e0 m1 e1 hv1 hz hpl;have hs1:=hv1.size;have hp1:=HPRC.out.ext hv1;have hr2:=(hv1.cell (p:=⟨w2.heap.size,i+j,none⟩) (by show w2.heap.size < _; omega)).trans hrow;have hlk:=hlsk (i+j) (by omega);have hlk2:ln+1<=1000000000:=by rw [<- hln]; omega
         obtain ⟨B6,d6,w6,Own6,hrun,k1,k2,k3,k4,k5,k6,k7⟩:=hp1.pushSet (by omega) (i+j) (by omega) hr2 hln az (p.cs[i].mul q.cs[j]) D0 D1 m0 e0 m1 e1 hz (hpl.mono fun g hg=>⟨fun ho=>by have:=(HPRC.out.own g ho).2; omega,by omega⟩) hlk2;refine ⟨B6,d6,w6,hrun,k1 _,k2,fun g hg1 hg2=>(k3 g hg1 hg2).trans (hv1.below.block g (by omega)),k5,k6,fun w8 hw8=>?_⟩;obtain ⟨n1',n2',n3',n4'⟩:=k7 w8 hw8;refine ⟨⟨Own6,?_⟩,n2' W (HXC.out.trans hv1) (by omega),by omega,fun g hg1 hg2=>(n4' g hg1 hg2).trans ((hv1.below.block g (by omega)).trans (HKEC.out g hg1 hg2))⟩;have h9:=HNXT.out;rw [hpat,hqat] at h9;rw [<- h9];exact n1'
        have HBLK:Hid (∀ W':World,(∀ g,g ≠ w2.heap.size->g < w4.heap.size->W'.heap[g]?=wc.heap[g]?)->(W'.cell? ⟨w.heap.size,3,none⟩=some (.slice (some adp) p.cs.length c)/\W'.cell? ⟨w.heap.size+1,3,none⟩=some (.slice (some adq) q.cs.length d)/\qad W' (adp.add (i * 4)) p.cs[i] (.slice P0 pn0 pc0) (.slice P1 pn1 pc1)/\qad W' (adq.add (j * 4)) q.cs[j] (.slice Q0 qn0 qc0) (.slice Q1 qn1 qc1))):=by
         refine Lib.hid ?_;intro W' hW';have hx0s:=HX0.out.size;have hxcs:=HC.out.ext.size;obtain ⟨g1,g2,-,g4,g8⟩:=HSS.out wc (Ext.refl wc);have kk:∀ (a:Addr),a.block ≠ w2.heap.size->a.block < w4.heap.size->W'.cell? a=wc.cell? a:=fun a h1 h2=>World.cell?_of_block (hW' a.block h1 h2)
         have hpb:(adp.add (i * 4)).block=adp.block:=jb _ _;have hqb:(adq.add (j * 4)).block=adq.block:=jb _ _;obtain ⟨p0,p1,p2,p3⟩:=g4;obtain ⟨r0,r1,r2,r3⟩:=g8;refine ⟨(kk _ (by show w.heap.size ≠ _; omega) (by show w.heap.size < _; omega)).trans g1,(kk _ (by show w.heap.size+1 ≠ _; omega) (by show w.heap.size+1 < _; omega)).trans g2,⟨(kk _ (by omega) (by omega)).trans p0,(kk _ (by show (adp.add (i * 4)).block ≠ _; omega) (by show (adp.add (i * 4)).block < _; omega)).trans p1,(kk _ (by show (adp.add (i * 4)).block ≠ _; omega) (by show (adp.add (i * 4)).block < _; omega)).trans p2,(kk _ (by show (adp.add (i * 4)).block ≠ _; omega) (by show (adp.add (i * 4)).block < _; omega)).trans p3⟩,⟨(kk _ (by omega) (by omega)).trans r0,(kk _ (by show (adq.add (j * 4)).block ≠ _; omega) (by show (adq.add (j * 4)).block < _; omega)).trans r1,(kk _ (by show (adq.add (j * 4)).block ≠ _; omega) (by show (adq.add (j * 4)).block < _; omega)).trans r2,(kk _ (by show (adq.add (j * 4)).block ≠ _; omega) (by show (adq.add (j * 4)).block < _; omega)).trans r3⟩⟩
        clear hxc hxc0 hprc hndp hktp hndq hktq hpat hqat hx0c hlsk hls HTK2 hpc1 hpc2;cases bb
        · have HM0:=Lib.hid (HMUL.out wc.drew ((Ext.refl wc).drew));unfold plV at HM0;generalize hprd:p.cs[i].mul q.cs[j]=prd at *;obtain ⟨g1,g2,g3,⟨g4,g5,g6,g7⟩,⟨g8,g9,g10,g11⟩⟩:=HSS.out wc.drew ((Ext.refl wc).drew);generalize hpi:p.cs[i]=pi at *;generalize hqj:q.cs[j]=qj at *;have hR1:(i:Int) < (p.cs.length:Int):=by omega
          have hR2:(j:Int) < (q.cs.length:Int):=by omega
          obtain ⟨r,hr⟩:=n_m (i+j);simp only [hr] at hijN hijw HSS HPUSH g3;have HRR:=Lib.hid hr;have hrI:(i:Int)+(j:Int)=(r:Int):=by omega
          have hrW:IntKind.i64.wrap (r:Int)=(r:Int):=by rw [IntKind.wrap_i64]; omega
          clear hr hrow HPRC HNXT hln;have hR3:(r:Int) < (N:Int):=by omega
          have HB1:=Lib.hid hlty;have HB2:=Lib.hid hgb1;have HB3:=Lib.hid hws2;clear hpi hqj hprd hgc2 hgc3 e2 hlt hx hws hga1 hga2 hgsz hgsz2 hax hby hwsc hlsN hadp hadq hws2 hgb1 hgb2 hijN;have HS2:Hid (∀ W',Ext wc W'->(W'.cell? ⟨w.heap.size,3,none⟩=some (.slice (some adp) p.cs.length c)/\W'.cell? ⟨w.heap.size+1,3,none⟩=some (.slice (some adq) q.cs.length d)/\(W'.cell? (adp.add (i * 4))=some (.int .i64 pi.lv)/\W'.cell? ⟨(adp.add (i * 4)).block,(adp.add (i * 4)).off+1,none⟩=some (.bool pi.neg)/\W'.cell? ⟨(adp.add (i * 4)).block,(adp.add (i * 4)).off+2,none⟩=some (.slice P0 pn0 pc0)/\W'.cell? ⟨(adp.add (i * 4)).block,(adp.add (i * 4)).off+3,none⟩=some (.slice P1 pn1 pc1))/\(W'.cell? (adq.add (j * 4))=some (.int .i64 qj.lv)/\W'.cell? ⟨(adq.add (j * 4)).block,(adq.add (j * 4)).off+1,none⟩=some (.bool qj.neg)/\W'.cell? ⟨(adq.add (j * 4)).block,(adq.add (j * 4)).off+2,none⟩=some (.slice Q0 qn0 qc0)/\W'.cell? ⟨(adq.add (j * 4)).block,(adq.add (j * 4)).off+3,none⟩=some (.slice Q1 qn1 qc1)))):=Lib.hid (fun W' hW'=>by
           obtain ⟨g1,g2,-,g4,g8⟩:=HSS.out W' hW'
           exact ⟨g1,g2,g4,g8⟩)
          have HR3:Hid (∀ W',Ext wc W'->W'.cell? ⟨w2.heap.size,r,none⟩=some (.slice PA ln pc)):=Lib.hid (fun W' hW'=>(HSS.out W' hW').2.2.1);have Y0:=Lib.hid ((Ext.refl wc).drew);clear g1 g2 g3 g4 g5 g6 g7 g8 g9 g10 g11 HSS;go_upto_region 26 with fail;refine wp_region_held_drew (S:=fun W'=>W'.cell? ⟨w.heap.size,3,none⟩=some (.slice (some adp) p.cs.length c)/\W'.cell? ⟨w.heap.size+1,3,none⟩=some (.slice (some adq) q.cs.length d)/\(W'.cell? (adp.add (i * 4))=some (.int .i64 pi.lv)/\W'.cell? ⟨(adp.add (i * 4)).block,(adp.add (i * 4)).off+1,none⟩=some (.bool pi.neg)/\W'.cell? ⟨(adp.add (i * 4)).block,(adp.add (i * 4)).off+2,none⟩=some (.slice P0 pn0 pc0)/\W'.cell? ⟨(adp.add (i * 4)).block,(adp.add (i * 4)).off+3,none⟩=some (.slice P1 pn1 pc1))/\(W'.cell? (adq.add (j * 4))=some (.int .i64 qj.lv)/\W'.cell? ⟨(adq.add (j * 4)).block,(adq.add (j * 4)).off+1,none⟩=some (.bool qj.neg)/\W'.cell? ⟨(adq.add (j * 4)).block,(adq.add (j * 4)).off+2,none⟩=some (.slice Q0 qn0 qc0)/\W'.cell? ⟨(adq.add (j * 4)).block,(adq.add (j * 4)).off+3,none⟩=some (.slice Q1 qn1 qc1))) (by kernel_rfl) (HS2.out _ Y0.out) (fun hHeld=>?_);refine tk 0 ?_;refine tk 1 ?_;refine tk 2 ?_;refine tk 3 ?_;refine tk 4 ?_;refine tk 5 ?_;refine tk 6 ?_;refine tk 7 ?_;refine tk 8 ?_;refine tk 10 ?_;refine tk 11 ?_;refine tk 12 ?_;refine tk 13 ?_;refine tk 14 ?_;refine tk 15 ?_;refine tk 16 ?_;refine tk 17 ?_;refine tk 18 ?_;refine tk 19 ?_;refine r_2 9 20 (fun K hK=>?oA) fun K hK=>?oB
          case' oA =>
           have hrw:=HR3.out _ Y0.out;go_simp;refine k_t hK (HS2.out _ Y0.out) fun hHeld=>?_
           clear hK K;clear hrw;refine r_1 20 fun K hK=>?_
           go_simp
           go_at_call 131
           refine HM0.out.mono ?_;rintro e v1 ⟨z1,rfl,m1,x1⟩;have y1:Ext wc v1:=Ext.trans ((Ext.refl wc).drew) x1;obtain ⟨D0,dm0,de0,D1,de1,rfl,-⟩:=id m1.open_;unfold plV;refine k_t hK (HS2.out _ y1) fun hHeld=>?_
           clear hK K;refine r_1 21 fun K hK=>?_
           go_simp;have y2:=Ext.alloc y1 (.cells #[.int .i64 prd.lv,.bool prd.neg,.slice D0 dm0 de0,.slice D1 prd.cs.length de1] 44);refine k_t hK (HS2.out _ y2) fun hHeld=>?_
           clear hK K
          case' oB =>
           go_simp
           go_at_call 131
           refine HM0.out.mono ?_;rintro e v1 ⟨z1,rfl,m1,x1⟩;have y1:Ext wc v1:=Ext.trans ((Ext.refl wc).drew) x1;obtain ⟨D0,dm0,de0,D1,de1,rfl,-⟩:=id m1.open_;unfold plV;refine k_t hK (HS2.out _ y1) fun hHeld=>?_
           clear hK K;refine r_2 9 21 (fun K hK=>?oC) fun K hK=>?oD
           case' oC =>
            have hrw:=HR3.out _ y1;go_simp;refine k_t hK (HS2.out _ y1) fun hHeld=>?_
            clear hK K;clear hrw;refine r_1 21 fun K hK=>?_
            go_simp;have y2:=Ext.alloc y1 (.cells #[.int .i64 prd.lv,.bool prd.neg,.slice D0 dm0 de0,.slice D1 prd.cs.length de1] 44);refine k_t hK (HS2.out _ y2) fun hHeld=>?_
            clear hK K
           case' oD =>
            go_simp;have y2:=Ext.alloc y1 (.cells #[.int .i64 prd.lv,.bool prd.neg,.slice D0 dm0 de0,.slice D1 prd.cs.length de1] 44);refine k_t hK (HS2.out _ y2) fun hHeld=>?_
            clear hK K;refine r_1 9 fun K hK=>?_
            have hrw:=HR3.out _ y2;go_simp;refine k_t hK (HS2.out _ y2) fun hHeld=>?_
            clear hK K;clear hrw
          all_goals
           obtain ⟨SB,sn,sd,w6,hrun,hfr6,hc6,hbl6,hfin⟩:=HPUSH.out v1 _ _ _ _ _ _ y1 m1;have HFIN:=Lib.hid hfin;have HS6:=Lib.hid (HBLK.out w6 hbl6);have HS7:=Lib.hid (HBLK.out (w6.setCell ⟨w2.heap.size,r,none⟩ (.slice SB sn sd)) (fun g h1 h2=>(Below.heap_setCell w6 _ _ g h1).trans (hbl6 g h1 h2)));clear hfin hbl6 m1 x1 y1 y2 HPUSH HM0 HS2 HR3;refine r_1 22 fun K hK=>?_
           refine wam rfl (.tmp 134) (.tmp 146) 42 42 rfl _ _ _ _ (by simp [Act.eval,Act.put]) (by simp [Act.eval,Act.put]) hrun ?_;refine k_t hK HS6.out fun hHeld=>?_
           clear hK K hrun HS6;refine tk 23 ?_;refine r_1 24 fun K hK=>?_
           go_simp;refine k_t hK HS7.out fun hHeld=>?_
           clear hK K HS7;refine w_d ?_;clear hc6 hfr6;go_wp2_with fail
           go_roundw
           case rel=>exact ⟨y+1,by have:=HB1.out; omega,by go_num,HFIN⟩
           case measure=>simp [intOf]; have:=HB1.out; omega
        · unfold plV at HMUL;generalize hprd:p.cs[i].mul q.cs[j]=prd at *;generalize hpi:p.cs[i]=pi at *;generalize hqj:q.cs[j]=qj at *;have hR1:(i:Int) < (p.cs.length:Int):=by omega
          have hR2:(j:Int) < (q.cs.length:Int):=by omega
          obtain ⟨r,hr⟩:=n_m (i+j);simp only [hr] at hijN hijw HSS HPUSHZ;have HRR:=Lib.hid hr;have hrI:(i:Int)+(j:Int)=(r:Int):=by omega
          have hrW:IntKind.i64.wrap (r:Int)=(r:Int):=by rw [IntKind.wrap_i64]; omega
          clear hr hrow HPRC HNXT hln HPUSH;have hR3:(r:Int) < (N:Int):=by omega
          have hlnB:(ln:Int) < ((ln+1:Nat):Int):=by omega
          have HB1:=Lib.hid hlty;have HB2:=Lib.hid hgb1;have HB3:=Lib.hid hws2;clear hpi hqj hprd hgc2 hgc3 e2 hlt hx hws hga1 hga2 hgsz hgsz2 hax hby hwsc hlsN hadp hadq hws2 hgb1 hgb2 hijN;have HS2:Hid (∀ W',Ext wc W'->(W'.cell? ⟨w.heap.size,3,none⟩=some (.slice (some adp) p.cs.length c)/\W'.cell? ⟨w.heap.size+1,3,none⟩=some (.slice (some adq) q.cs.length d)/\(W'.cell? (adp.add (i * 4))=some (.int .i64 pi.lv)/\W'.cell? ⟨(adp.add (i * 4)).block,(adp.add (i * 4)).off+1,none⟩=some (.bool pi.neg)/\W'.cell? ⟨(adp.add (i * 4)).block,(adp.add (i * 4)).off+2,none⟩=some (.slice P0 pn0 pc0)/\W'.cell? ⟨(adp.add (i * 4)).block,(adp.add (i * 4)).off+3,none⟩=some (.slice P1 pn1 pc1))/\(W'.cell? (adq.add (j * 4))=some (.int .i64 qj.lv)/\W'.cell? ⟨(adq.add (j * 4)).block,(adq.add (j * 4)).off+1,none⟩=some (.bool qj.neg)/\W'.cell? ⟨(adq.add (j * 4)).block,(adq.add (j * 4)).off+2,none⟩=some (.slice Q0 qn0 qc0)/\W'.cell? ⟨(adq.add (j * 4)).block,(adq.add (j * 4)).off+3,none⟩=some (.slice Q1 qn1 qc1)))):=Lib.hid (fun W' hW'=>by
           obtain ⟨g1,g2,-,g4,g8⟩:=HSS.out W' hW'
           exact ⟨g1,g2,g4,g8⟩)
          have HR3:Hid (∀ W',Ext wc W'->W'.cell? ⟨w2.heap.size,r,none⟩=some (.slice PA ln pc)):=Lib.hid (fun W' hW'=>(HSS.out W' hW').2.2.1);have Y0:=Lib.hid ((Ext.refl wc).drew);clear HSS;go_upto_region 24 with fail;refine wp_region_held_drew (S:=fun W'=>W'.cell? ⟨w.heap.size,3,none⟩=some (.slice (some adp) p.cs.length c)/\W'.cell? ⟨w.heap.size+1,3,none⟩=some (.slice (some adq) q.cs.length d)/\(W'.cell? (adp.add (i * 4))=some (.int .i64 pi.lv)/\W'.cell? ⟨(adp.add (i * 4)).block,(adp.add (i * 4)).off+1,none⟩=some (.bool pi.neg)/\W'.cell? ⟨(adp.add (i * 4)).block,(adp.add (i * 4)).off+2,none⟩=some (.slice P0 pn0 pc0)/\W'.cell? ⟨(adp.add (i * 4)).block,(adp.add (i * 4)).off+3,none⟩=some (.slice P1 pn1 pc1))/\(W'.cell? (adq.add (j * 4))=some (.int .i64 qj.lv)/\W'.cell? ⟨(adq.add (j * 4)).block,(adq.add (j * 4)).off+1,none⟩=some (.bool qj.neg)/\W'.cell? ⟨(adq.add (j * 4)).block,(adq.add (j * 4)).off+2,none⟩=some (.slice Q0 qn0 qc0)/\W'.cell? ⟨(adq.add (j * 4)).block,(adq.add (j * 4)).off+3,none⟩=some (.slice Q1 qn1 qc1))) (by kernel_rfl) (HS2.out _ Y0.out) (fun hHeld=>?_);refine tk 0 ?_;refine tk 1 ?_;refine tk 2 ?_;refine tk 3 ?_;refine tk 4 ?_;refine tk 5 ?_;refine tk 6 ?_;refine tk 7 ?_;refine tk 8 ?_;refine tk 10 ?_;refine tk 11 ?_;refine tk 12 ?_;refine tk 13 ?_;refine tk 14 ?_;refine tk 15 ?_;refine tk 16 ?_;refine tk 17 ?_;refine tk 18 ?_;refine tk 19 ?_;refine wpAnyH_ready (rs:=[9,20,22]) (by kernel_rfl) (by simp) ?_;refine AllReadyH.cons rfl (fun K hK=>?z1x9) (AllReadyH.cons rfl (fun K hK=>?z1x20) (AllReadyH.cons rfl (fun K hK=>?z1x22) (AllReadyH.nil)))
          case' z1x9 =>
           have hrw:=HR3.out _ Y0.out;go_simp;refine k_t hK (HS2.out _ Y0.out) fun hHeld=>?_
           clear hK K hrw;refine tk 21 ?_;refine wpAnyH_ready (rs:=[20,22]) (by kernel_rfl) (by simp) ?_;refine AllReadyH.cons rfl (fun K hK=>?z2x20) (AllReadyH.cons rfl (fun K hK=>?z2x22) (AllReadyH.nil))
           case' z2x20 =>
            go_simp
            go_at_call 131
            refine (HMUL.out _ Y0.out).mono ?_;rintro e v1 ⟨z1,rfl,m1,x1⟩;have y1:Ext wc v1:=Ext.trans Y0.out x1;obtain ⟨D0,dm0,de0,D1,de1,rfl,-⟩:=id m1.open_;unfold plV;refine k_t hK (HS2.out _ y1) fun hHeld=>?_
            clear hK K;refine wpAnyH_ready (rs:=[22]) (by kernel_rfl) (by simp) ?_;refine AllReadyH.cons rfl (fun K hK=>?z3x22) (AllReadyH.nil)
            case' z3x22 =>
             go_simp;have y2:=Ext.alloc y1 (.cells #[.int .i64 0,.bool false,.slice none 0 0,.slice none 0 0] 44);refine k_t hK (HS2.out _ y2) fun hHeld=>?_
             clear hK K;have yE:=y2;have mE:=(m1.mono (fun g (hg:wc.heap.size<=g)=>hg)).ext ((Ext.refl v1).alloc (.cells #[.int .i64 0,.bool false,.slice none 0 0,.slice none 0 0] 44));have zE:qad (v1.alloc (.cells #[.int .i64 0,.bool false,.slice none 0 0,.slice none 0 0] 44)) ⟨v1.heap.size,0,none⟩ Pl.zero (.slice none 0 0) (.slice none 0 0):=by refine ⟨?_,?_,?_,?_⟩ <;> simp [go_sem,Pl.zero,Pl.lv,Pl.neg]
           case' z2x22 =>
            go_simp;have y2:=Ext.alloc Y0.out (.cells #[.int .i64 0,.bool false,.slice none 0 0,.slice none 0 0] 44);refine k_t hK (HS2.out _ y2) fun hHeld=>?_
            clear hK K;refine wpAnyH_ready (rs:=[20]) (by kernel_rfl) (by simp) ?_;refine AllReadyH.cons rfl (fun K hK=>?z4x20) (AllReadyH.nil)
            case' z4x20 =>
             go_simp
             go_at_call 131
             refine (HMUL.out _ y2).mono ?_;rintro e v1 ⟨z1,rfl,m1,x1⟩;have y1:Ext wc v1:=Ext.trans y2 x1;obtain ⟨D0,dm0,de0,D1,de1,rfl,-⟩:=id m1.open_;unfold plV;refine k_t hK (HS2.out _ y1) fun hHeld=>?_
             clear hK K;have yE:=y1;have mE:PlV v1 (fun g=>wc.heap.size<=g) prd _:=m1.mono (fun g hg=>by simp at hg; have hd:wc.drew.heap.size=wc.heap.size:=rfl; omega);have zE0:qad (wc.drew.alloc (.cells #[.int .i64 0,.bool false,.slice none 0 0,.slice none 0 0] 44)) ⟨wc.drew.heap.size,0,none⟩ Pl.zero (.slice none 0 0) (.slice none 0 0):=by refine ⟨?_,?_,?_,?_⟩ <;> simp [go_sem,Pl.zero,Pl.lv,Pl.neg]
             have zE:=zE0.ext x1 (by simp)
          case' z1x20 =>
           go_simp
           go_at_call 131
           refine (HMUL.out _ Y0.out).mono ?_;rintro e v1 ⟨z1,rfl,m1,x1⟩;have y1:Ext wc v1:=Ext.trans Y0.out x1;obtain ⟨D0,dm0,de0,D1,de1,rfl,-⟩:=id m1.open_;unfold plV;refine k_t hK (HS2.out _ y1) fun hHeld=>?_
           clear hK K;refine wpAnyH_ready (rs:=[9,22]) (by kernel_rfl) (by simp) ?_;refine AllReadyH.cons rfl (fun K hK=>?z5x9) (AllReadyH.cons rfl (fun K hK=>?z5x22) (AllReadyH.nil))
           case' z5x9 =>
            have hrw:=HR3.out _ y1;go_simp;refine k_t hK (HS2.out _ y1) fun hHeld=>?_
            clear hK K hrw;refine tk 21 ?_;refine wpAnyH_ready (rs:=[22]) (by kernel_rfl) (by simp) ?_;refine AllReadyH.cons rfl (fun K hK=>?z6x22) (AllReadyH.nil)
            case' z6x22 =>
             go_simp;have y2:=Ext.alloc y1 (.cells #[.int .i64 0,.bool false,.slice none 0 0,.slice none 0 0] 44);refine k_t hK (HS2.out _ y2) fun hHeld=>?_
             clear hK K;have yE:=y2;have mE:=(m1.mono (fun g (hg:wc.heap.size<=g)=>hg)).ext ((Ext.refl v1).alloc (.cells #[.int .i64 0,.bool false,.slice none 0 0,.slice none 0 0] 44));have zE:qad (v1.alloc (.cells #[.int .i64 0,.bool false,.slice none 0 0,.slice none 0 0] 44)) ⟨v1.heap.size,0,none⟩ Pl.zero (.slice none 0 0) (.slice none 0 0):=by refine ⟨?_,?_,?_,?_⟩ <;> simp [go_sem,Pl.zero,Pl.lv,Pl.neg]
           case' z5x22 =>
            go_simp;have y2:=Ext.alloc y1 (.cells #[.int .i64 0,.bool false,.slice none 0 0,.slice none 0 0] 44);refine k_t hK (HS2.out _ y2) fun hHeld=>?_
            clear hK K;refine wpAnyH_ready (rs:=[9]) (by kernel_rfl) (by simp) ?_;refine AllReadyH.cons rfl (fun K hK=>?z7x9) (AllReadyH.nil)
            case' z7x9 =>
             have hrw:=HR3.out _ y2;go_simp;refine k_t hK (HS2.out _ y2) fun hHeld=>?_
             clear hK K hrw;refine tk 21 ?_;have yE:=y2;have mE:=(m1.mono (fun g (hg:wc.heap.size<=g)=>hg)).ext ((Ext.refl v1).alloc (.cells #[.int .i64 0,.bool false,.slice none 0 0,.slice none 0 0] 44));have zE:qad (v1.alloc (.cells #[.int .i64 0,.bool false,.slice none 0 0,.slice none 0 0] 44)) ⟨v1.heap.size,0,none⟩ Pl.zero (.slice none 0 0) (.slice none 0 0):=by refine ⟨?_,?_,?_,?_⟩ <;> simp [go_sem,Pl.zero,Pl.lv,Pl.neg]
          case' z1x22 =>
           go_simp;have y2:=Ext.alloc Y0.out (.cells #[.int .i64 0,.bool false,.slice none 0 0,.slice none 0 0] 44);refine k_t hK (HS2.out _ y2) fun hHeld=>?_
           clear hK K;refine wpAnyH_ready (rs:=[9,20]) (by kernel_rfl) (by simp) ?_;refine AllReadyH.cons rfl (fun K hK=>?z8x9) (AllReadyH.cons rfl (fun K hK=>?z8x20) (AllReadyH.nil))
           case' z8x9 =>
            have hrw:=HR3.out _ y2;have hrw1:=HR3.out _ ((Ext.refl wc).alloc (.cells #[.int .i64 0,.bool false,.slice none 0 0,.slice none 0 0] 44));have hrw2:=HR3.out _ (Ext.refl wc);have hrw3:=HR3.out _ ((Ext.refl wc).alloc (.cells #[.int .i64 0,.bool false,.slice none 0 0,.slice none 0 0] 44)).drew;go_simp;refine k_t hK (HS2.out _ y2) fun hHeld=>?_
            clear hK K hrw hrw1 hrw2 hrw3;refine tk 21 ?_;refine wpAnyH_ready (rs:=[20]) (by kernel_rfl) (by simp) ?_;refine AllReadyH.cons rfl (fun K hK=>?z9x20) (AllReadyH.nil)
            case' z9x20 =>
             go_simp
             go_at_call 131
             refine (HMUL.out _ y2).mono ?_;rintro e v1 ⟨z1,rfl,m1,x1⟩;have y1:Ext wc v1:=Ext.trans y2 x1;obtain ⟨D0,dm0,de0,D1,de1,rfl,-⟩:=id m1.open_;unfold plV;refine k_t hK (HS2.out _ y1) fun hHeld=>?_
             clear hK K;have yE:=y1;have mE:PlV v1 (fun g=>wc.heap.size<=g) prd _:=m1.mono (fun g hg=>by simp at hg; have hd:wc.drew.heap.size=wc.heap.size:=rfl; omega);have zE0:qad (wc.drew.alloc (.cells #[.int .i64 0,.bool false,.slice none 0 0,.slice none 0 0] 44)) ⟨wc.drew.heap.size,0,none⟩ Pl.zero (.slice none 0 0) (.slice none 0 0):=by refine ⟨?_,?_,?_,?_⟩ <;> simp [go_sem,Pl.zero,Pl.lv,Pl.neg]
             have zE:=zE0.ext x1 (by simp)
           case' z8x20 =>
            go_simp
            go_at_call 131
            refine (HMUL.out _ y2).mono ?_;rintro e v1 ⟨z1,rfl,m1,x1⟩;have y1:Ext wc v1:=Ext.trans y2 x1;obtain ⟨D0,dm0,de0,D1,de1,rfl,-⟩:=id m1.open_;unfold plV;refine k_t hK (HS2.out _ y1) fun hHeld=>?_
            clear hK K;refine wpAnyH_ready (rs:=[9]) (by kernel_rfl) (by simp) ?_;refine AllReadyH.cons rfl (fun K hK=>?z10x9) (AllReadyH.nil)
            case' z10x9 =>
             have hrw:=HR3.out _ y1;go_simp;refine k_t hK (HS2.out _ y1) fun hHeld=>?_
             clear hK K hrw;refine tk 21 ?_;have yE:=y1;have mE:PlV v1 (fun g=>wc.heap.size<=g) prd _:=m1.mono (fun g hg=>by simp at hg; have hd:wc.drew.heap.size=wc.heap.size:=rfl; omega);have zE0:qad (wc.drew.alloc (.cells #[.int .i64 0,.bool false,.slice none 0 0,.slice none 0 0] 44)) ⟨wc.drew.heap.size,0,none⟩ Pl.zero (.slice none 0 0) (.slice none 0 0):=by refine ⟨?_,?_,?_,?_⟩ <;> simp [go_sem,Pl.zero,Pl.lv,Pl.neg]
             have zE:=zE0.ext x1 (by simp)
          all_goals
           obtain ⟨B6,sd,w6,hrun,hfr6,hc6,hbl6,hfrB,⟨u0,u1,u2,u3,c0,c1,c2,c3⟩,hfin⟩:=HPUSHZ.out _ _ _ _ _ _ _ _ yE zE mE;have HFIN:=Lib.hid (hfin _ rfl);have HS6:=Lib.hid (HBLK.out w6 hbl6);have HS7:=Lib.hid (HBLK.out (w6.setCell ⟨w2.heap.size,r,none⟩ (.slice (some ⟨B6,0,none⟩) (ln+1) sd)) (fun g h1 h2=>(Below.heap_setCell w6 _ _ g h1).trans (hbl6 g h1 h2)));have HCB:Hid (_/\_/\_/\_/\_):=Lib.hid ⟨hfrB,c0,c1,c2,c3⟩;clear hfin hbl6 m1 x1 y1 y2 yE zE mE HPUSHZ HMUL HS2 HR3 hfrB c0 c1 c2 c3;refine r_1 23 fun K hK=>?_
           refine wam rfl (.tmp 108) (.tmp 121) 42 42 rfl _ _ _ _ (by simp [Act.eval,Act.put]) (by simp [Act.eval,Act.put]) hrun ?_;refine k_t hK HS6.out fun hHeld=>?_
           clear hK K hrun HS6;refine tk 24 ?_;refine r_1 25 fun K hK=>?_
           go_simp;refine k_t hK HS7.out fun hHeld=>?_
           clear hK K HS7;refine w_d ?_;clear hc6 hfr6;obtain ⟨hfrB,c0,c1,c2,c3⟩:=HCB.out;go_wp2_with fail
           go_roundw
           case rel=>exact ⟨y+1,by have:=HB1.out; omega,by go_num,HFIN⟩
           case measure=>simp [intOf]; have:=HB1.out; omega
     · have hye:y=b.length:=by omega
       have HPRF:Hid (∃ Own,vz w4.heap.size wr w2.heap.size ((List.range N).map fun k=>zq p.cs q.cs (zu (a.take (x+1)) b) k) Own):=Lib.hid ⟨Own2,by
        have h1:=HPR2.out;rw [hye,List.take_length,<- HTK.out] at h1
        exact h1⟩
       clear hye;go_wp2_with fail
       go_roundw
       case rel=>exact ⟨x+1,by omega,by go_num,⟨HPRF.out,HXW2.out,hws2,HKE2.out⟩⟩
       case measure=>simp [intOf]; omega
  · have hxe:x=a.length:=by omega
    obtain ⟨ls,hls⟩:=n_m (((List.range N).map fun k=>zq p.cs q.cs (zu a b) k));have hlsN:ls.length=N:=by rw [<- hls]; simp
    have HPF:Hid (vz w4.heap.size w5 w2.heap.size ls Own):=Lib.hid (by
     have h1:=HPR.out;rw [hxe,List.take_length,hls] at h1
     exact h1)
    have HLA:Hid (∀ k (hk:k < ls.length),(∀ r ∈ ls[k],r.Can/\r.ex (E+F))/\lnr ls[k] < B32 ^ (D+G)/\ls[k].length<=1000000):=Lib.hid (fun k hk=>by
     have h1:ls[k]=zq p.cs q.cs (zu a b) k:=by simp only [<- hls,List.getElem_map,List.getElem_range]
     rw [h1]; exact HADD.out k)
    have HMU:Hid (p.mul q=xaf p.lv (ls.map waa)):=Lib.hid (by
     have h1:=HML.out;rw [HNN.out] at h1
     rw [h1,<- hls,List.map_map]; rfl)
    have HW25:Hid (w2.heap.size < w5.heap.size):=Lib.hid (by omega);clear HPR hls hxe HADD HML;obtain ⟨V2,hmk2,hVx2,hVs2,hrow2⟩:=xaq (N:Int) (by omega) (by omega) w5;rw [Int.toNat_natCast] at hmk2 hrow2;have HROW2:=Lib.hid (hrow2 (fun g=>w5.heap.size<=g));have HVX2:=Lib.hid hVx2;clear hrow2 hVx2;go_wp2_with fail;clear hmk2
    go_loopw [156] (fun iv wr=>∃ k:Nat,k<=N/\iv=.int .i64 k/\Hid ((∃ M:List Pl,M.length=N/\M.take k=(ls.map waa).take k/\wap wr (fun g=>w5.heap.size<=g) w5.heap.size M)/\Ext w5 wr)) (fun iv _=>N - (intOf iv).toNat)
    case atStart=>exact ⟨0,Nat.zero_le _,rfl,⟨⟨_,List.length_replicate,by simp,HROW2.out⟩,HVX2.out⟩⟩
    case round =>
     obtain ⟨k,hk,rfl,⟨⟨M,hMl,hMt,hrow⟩,hx5⟩⟩:=hrel;have HX5:=Lib.hid hx5;have HROWk:=Lib.hid hrow;have HMT:=Lib.hid hMt;have hws5:=hx5.size;have hRlt:w5.heap.size < wr.heap.size:=hrow.1;clear hx5 hrow hMt HROW2 HVX2
     by_cases hlk:k < N
     · obtain ⟨PV,hcv,hq5,-⟩:=HPF.out.row k (by omega);obtain ⟨PA,pc,rfl,hp1,hp2⟩:=hq5.len;have hcv':wr.cell? ⟨w2.heap.size,k,none⟩=some (.slice PA ls[k].length pc):=(HX5.out.cell (p:=⟨w2.heap.size,k,none⟩) HW25.out).trans hcv;obtain ⟨ha1,ha2,ha3⟩:=HLA.out k (by omega);have HAD:=Lib.hid (qbt (E:=E+F) (D:=D+G) ls[k] PA pc (by omega) (by omega) ha1 ha2 ha3 hp1 hp2 (hq5.at_.ext HX5.out));have HSET:Hid ((M.set k (waa ls[k])).take (k+1)=(ls.map waa).take (k+1)):=Lib.hid (by
        have h1:=xai M (ls.map waa) k HMT.out (by omega) (by rw [List.length_map]; omega);rw [List.getElem_map] at h1
        exact h1)
       clear hcv hq5 ha1 ha2 HMT;generalize waa ls[k]=res at *;generalize ls[k].length=lk at *;have hkN:(k:Int) < (N:Int):=by omega
       go_wp2_with fail;clear hcv';refine HAD.out.mono ?_;rintro e w6 ⟨v6,rfl,p6,x6⟩;obtain ⟨C0,j0,f0,C1,f1,rfl,-⟩:=id p6.open_;have hr6:=HROWk.out.ext x6;obtain ⟨D0,n2,g0,D1,n3,g1,⟨r0,r1,r2,r3⟩,-⟩:=hr6.2.2 k (by omega);have hfr:=hr6.2.1;have hst:=(hr6.set_ k (by omega) res (p6.mono fun i hi=>⟨by omega,by omega⟩)).1;simp only at r0 r1 r2 r3;have HST:=Lib.hid hst;have X6:=Lib.hid (HX5.out.trans x6);unfold plV;clear hr6 hst p6 x6 HAD HROWk;go_wp2_with fail
       go_roundw
       case rel=>exact ⟨k+1,by omega,by go_num,⟨_,by rw [List.length_set]; exact hMl,HSET.out,HST.out⟩,(((X6.out.setCell (Nat.le_refl _) _).setCell (Nat.le_refl _) _).setCell (Nat.le_refl _) _).setCell (Nat.le_refl _) _⟩
       case measure=>simp [intOf]; omega
     · have hke:k=N:=by omega
       have hMe:M=ls.map waa:=by
        have h:=HMT.out;rw [hke,show N=(ls.map waa).length by rw [List.length_map,hlsN],List.take_length,List.length_map,hlsN,<- hMl,List.take_length] at h;exact h
       have hXWr:=HXW.out.trans HX5.out;have htr:=vbd p.lv (ls.map waa) (some ⟨w5.heap.size,0,none⟩) N (by have h1:=HROWk.out.fin (Nat.le_refl _); rw [hMe] at h1; exact h1) (by rw [List.length_map]; omega) (by omega);rw [List.length_map,hlsN] at htr;generalize xaf p.lv (ls.map waa)=res at *;have HTR:=Lib.hid htr;obtain ⟨b0,b1,b2,b3⟩:=HC.out.box.ext hXWr (by omega);have HZR:=Lib.hid (HC.out.zero.ext hXWr (by omega));have HXR:=Lib.hid (HC.out.ext.trans hXWr);clear htr hXWr hMe HROWk HMT;go_wp2_with fail;clear b0 b1 b2 b3;refine HTR.out.mono ?_;rintro e w6 ⟨v6,rfl,p6,x6⟩;obtain ⟨C0,j0,f0,C1,f1,rfl,-⟩:=id p6.open_;have hz6:=HZR.out.ext x6 (by omega);have hf:=qi (q:=fun g=>w5.heap.size<=g) (q':=fun i=>w.heap.size<=i) (HXR.out.trans x6) (by omega) hz6 p6 (fun b _ hb=>by have:=HW25.out; exact ⟨by omega,by omega⟩);have HF:=Lib.hid (vcc HMU.out hf);obtain ⟨⟨z0,z1,z2,z3⟩,zf⟩:=hz6;clear hf p6 x6 HTR HZR HXR;unfold plV;go_wp2_with fail;exact bodyPost_ret (v:=plV res (.slice C0 j0 f0) (.slice C1 res.cs.length f1)) (by simp [results,Tryz.results131,go_sem,z0,z1,z2,z3,plV]) rfl HF.out
end Go.Proofs.YtheefiaoimbeiaaGreatDoor
