/- Layer 22: recpoly.mul where the levels are the same and not 0. -/
import Derived.Test.YtcepajijiabkmaaGreatMq20
import Derived.Test.YtcepajijiabkmaaGreatMq21
set_option linter.unusedSimpArgs false
set_option linter.unusedVariables false

set_option maxRecDepth 100000
set_option maxHeartbeats 8000000
namespace Go.Proofs.YtcepajijiabkmaaGreat
open Lib (hid)
open Go.RowKit
theorem qcu:(Tryz.prog.info? 31).map (fun i=>(i.zero,i.size,i.bytes))=some (some (.slice none 0 0),1,24):=by kernel_rfl
theorem qbs (n:Int) (h0:0<=n) (h1:n<=1099511627776) (w:World) :
 ∃ w',(Instr.makeSlice 97 (.int .i64 n) (.int .i64 n)).run Tryz.prog w=.ok (.slice (some ⟨w.heap.size,0,none⟩) n.toNat n.toNat) w'/\Ext w w'/\w'.heap.size=w.heap.size+1/\∀ lo,w.heap.size < lo->uw lo w' w.heap.size (List.replicate n.toNat []) (fun _=>False):=by
 obtain ⟨i0,hi,lh,gK,iU⟩:=info_parts qcu;have hc:∀ i,i < n.toNat->(w.alloc (.cells (madeCells (Value.slice none 0 0).cells (n.toNat * i0.size)) 31)).cell? ⟨w.heap.size,i,none⟩=some (.slice none 0 0):=by
  intro i hi;rw [cell_of_row _ _ i _ _ (0,0) (heap_alloc_new w _)];rw [gK];unfold madeCells;rw [Array.getElem?_map,Array.getElem?_range,if_pos (by omega)];show some ((#[Value.slice none 0 0]:Array Value)[i % 1]!)=_;rw [Nat.mod_one]
  rfl
 refine ⟨_,run_make w 97 31 i0 _ Tryz.underlying97 hi lh .i64 .i64 n n h0 (by omega) (by rw [iU]; omega) (by omega),(Ext.refl w).alloc _,by simp,fun lo hlo=>⟨by simp,hlo,fun i=>by simp [go_sem],fun b h=>h.elim,fun k hk=>?_,fun j k v u hj hk _ hv hu o ho=>?_⟩⟩
 · rw [List.length_replicate] at hk;rw [List.getElem_replicate];exact ⟨_,hc k hk,yh.nil _ _ _,fun o e=>by cases e⟩
 · rw [List.length_replicate] at hj;rw [hc j hj] at hv;injection hv with hv
   rw [<- hv] at ho;cases ho
theorem gcq {q:Nat->Prop} {p p':Pl} {w w':World} {e:Ending} (h:p'=p) (hr:zg q p w e w'):zg q p' w e w':=by rw [h]; exact hr
theorem zct {w0 w : World} {E D F G : Nat} (p q : Pl) (v u : Value) (hp : Fit p E D) (hq : Fit q F G) (hE : E <= 900) (hF : F <= 900) (hD : D + G <= 17592186044000)
 (h:PlV w0 (fun _=>True) p v) (k:PlV w0 (fun _=>True) q u) (hx:Ext w0 w) (heq:p.lv=q.lv) (h0:0 < p.lv)
 (ih:∀ a ∈ p.cs,∀ b ∈ q.cs,∀ x y,PlV w0 (fun _=>True) a x->PlV w0 (fun _=>True) b y->∀ W',Ext w0 W'->Calls Tryz.prog 40 #[x,y] W' (zg (fun i=>W'.heap.size<=i) (a.mul b) W')) :
 Calls Tryz.prog 40 #[v,u] w (zg (fun i=>w.heap.size<=i) (p.mul q) w):=by
 have yZ:=hid (Pl.mul_level hp.can hq.can h0 heq);have HP:=hid hp;have HQ:=hid hq;have HH:=hid h;have HK:=hid k;have IH:=hid ih;have ay:=hid hx;have hpz:p.isZ=false:=by unfold Pl.isZ; rw [show decide (p.lv=0)=false by simp; omega]; rfl
 have hqz:q.isZ=false:=by unfold Pl.isZ; rw [show decide (q.lv=0)=false by simp; omega]; rfl
 obtain ⟨A0,n0,c0,A,c,rfl,-,dY,dK,wV⟩:=h.open_;obtain ⟨B0,m0,d0,B,d,rfl,-,xA,hk2,hqa⟩:=k.open_;have Gv:=hid wV;have HQA:=hid hqa;have Dx:p.cs.length<=901/\2<=p.cs.length:=by
  obtain ⟨l,n,d,cs⟩:=p;have h1:=hp.len h0;have h2:=(hp.can.kids h0).2.2.1;simp only [Pl.cs];omega
 have Lj:q.cs.length<=901/\2<=q.cs.length:=by
  have Be:0 < q.lv:=by omega
  obtain ⟨l,n,d,cs⟩:=q;have h1:=hq.len Be;have h2:=(hq.can.kids Be).2.2.1;simp only [Pl.cs];omega
 obtain ⟨W,hW⟩:=n_m (((w.alloc (.cells #[.int .i64 p.lv,.bool p.neg,.slice A0 n0 c0,.slice A p.cs.length c] 33)).alloc (.cells #[.int .i64 q.lv,.bool q.neg,.slice B0 m0 d0,.slice B q.cs.length d] 33)).alloc (.cells #[.int .i64 0,.bool false,.slice none 0 0,.slice none 0 0] 33));have hcut:uap w p q (.slice A0 n0 c0) (.slice A p.cs.length c) (.slice B0 m0 d0) (.slice B q.cs.length d) W:=by
  rw [<- hW];refine ⟨(((Ext.refl w).alloc _).alloc _).alloc _,by simp,(jc.new w p _ _ _).ext (((Ext.refl _).alloc _).alloc _) (by simp),?_,?_⟩
  · have h1:=jc.new (w.alloc (.cells #[.int .i64 p.lv,.bool p.neg,.slice A0 n0 c0,.slice A p.cs.length c] 33)) q (.slice B0 m0 d0) (.slice B q.cs.length d) 33;have h2:=h1.ext ((Ext.refl _).alloc (.cells #[.int .i64 0,.bool false,.slice none 0 0,.slice none 0 0] 33)) (by simp);simpa using h2
  · have h1:=uf.new ((w.alloc (.cells #[.int .i64 p.lv,.bool p.neg,.slice A0 n0 c0,.slice A p.cs.length c] 33)).alloc (.cells #[.int .i64 q.lv,.bool q.neg,.slice B0 m0 d0,.slice B q.cs.length d] 33)) 33;simpa using h1
 have HC:=hid hcut;have F9:=hid (kad p _ (HH.out.ext (hx.trans hcut.ext)));have Ec:Hid (∀ W',Ext W W'->Calls Tryz.prog 49 #[plV q (.slice B0 m0 d0) (.slice B q.cs.length d)] W' fun e w'=>e=.returned (.bool q.isZ)/\Ext W' w'):=by
  have:∀ W',Ext W W'->Calls Tryz.prog 49 #[plV q (.slice B0 m0 d0) (.slice B q.cs.length d)] W' fun e w'=>e=.returned (.bool q.isZ)/\Ext W' w':=fun W' ed=>kad q _ (HK.out.ext ((ay.out.trans HC.out.ext).trans ed))
  exact this
 rw [hpz] at F9;rw [hqz] at Ec;have bY:=hcut.size;obtain ⟨b0,b1,b2,b3⟩:=hcut.box;obtain ⟨e0,e1,e2,e3⟩:=hcut.box';have vZ:=hid heq;have afx:¬ p.lv < q.lv:=by omega
 have mO:¬ q.lv < p.lv:=by omega
 have afo:(p.lv == 0)=false:=by simp; omega
 clear hp hq h k hx heq ih hpz hqz wV hqa hcut;unfold plV at F9 Ec;unfold plV;go_enter Tryz.func40,Tryz.ntmps40;go_wp2_with fail;clear hW b0 b1 b2 b3 e0 e1 e2 e3;refine F9.out.mono ?_;rintro e w1 ⟨rfl,x1⟩;have bW:=x1.size;have X1:=hid x1;obtain ⟨e0,e1,e2,e3⟩:=HC.out.box'.ext x1 (by omega);clear x1 F9;go_wp2_with fail;clear e0 e1 e2 e3;refine (Ec.out _ X1.out).mono ?_;rintro e w2 ⟨rfl,x2⟩;have jT:=x2.size;have X2:=hid (X1.out.trans x2);obtain ⟨b0,b1,b2,b3⟩:=HC.out.box.ext X2.out (by omega);obtain ⟨e0,e1,e2,e3⟩:=HC.out.box'.ext X2.out (by omega);clear x2 Ec X1;have VU:IntKind.i64.wrap ((p.cs.length:Int)+(q.cs.length:Int))=(p.cs.length:Int)+(q.cs.length:Int):=by rw [IntKind.wrap_i64]; omega
 have aeS:IntKind.i64.wrap ((p.cs.length:Int)+(q.cs.length:Int) - 1)=((p.cs.length+q.cs.length - 1:Nat):Int):=by rw [IntKind.wrap_i64]; omega
 obtain ⟨V,dB,fD,AV,ae⟩:=qbs ((p.cs.length+q.cs.length - 1:Nat):Int) (by omega) (by omega) w2;rw [Int.toNat_natCast] at dB ae;have aS:=hid ae;have XV:=hid (X2.out.trans fD);have HMK:=hid dB;clear ae fD;have BB:=hid (za9 q.cs B d (HQA.out.ext (ay.out.trans (HC.out.ext.trans XV.out))) (by omega));have agf:=XV.out.size;obtain ⟨f0,f1,f2,f3⟩:=HC.out.box'.ext XV.out (by omega);go_upto_region 16 with fail;clear dB HMK b0 b1 b2 b3 e0 e1 e2 e3;go_wp2_with fail;clear f0 f1 f2 f3;refine BB.out.mono ?_;rintro e w3 ⟨v3,rfl,wU,x3⟩;have EK:=x3.size;obtain ⟨GB,cb,rfl,-,-⟩:=wU.len;have Gz:=hid wU;have X3:=hid (XV.out.trans x3);have RS:=hid (za9 p.cs A c (Gv.out.ext (ay.out.trans (HC.out.ext.trans X3.out))) (by omega));obtain ⟨b0,b1,b2,b3⟩:=HC.out.box.ext X3.out (by omega);have RI:=hid (fun lo hlo=>(aS.out lo hlo).ext x3);clear wU x3 BB aS;go_wp2_with fail;clear b0 b1 b2 b3;refine RS.out.mono ?_;rintro e w4 ⟨v4,rfl,EQ,x4⟩;have TS:=x4.size;obtain ⟨GA,ca,rfl,-,-⟩:=EQ.len;have En:=hid EQ;have Z5:=hid (jm.ext Gz.out x4);have X4:=hid (X3.out.trans x4);have RH:=hid ((RI.out w4.heap.size (by omega)).ext x4);clear EQ x4 RS Gz RI;obtain ⟨N,hN⟩:=n_m (p.cs.length+q.cs.length - 1);have agv:N<=1801:=by omega
 rw [hN] at RH ⊢;have Jh:=uax p.cs p.cs.length;have uT:=uax q.cs q.cs.length;have aay:Hid (∀ i ∈ prs p.cs p.cs.length,i < p.cs.length):=hid (fun i hi=>wci hi);have aat:Hid (∀ i ∈ prs q.cs q.cs.length,i < q.cs.length):=hid (fun i hi=>wci hi);have BO:=hid (fun k=>qcb HP.out HQ.out h0 (by have:=vZ.out; omega) Dx.1 Lj.1 k);have Gx:=hid hN;clear hN;generalize prs p.cs p.cs.length=a at *;generalize prs q.cs q.cs.length=b at *;go_wp2_with fail
 go_loopw [87] (fun iv wr=>∃ x:Nat,x<=a.length/\iv=.int .i64 x/\Hid ((∃ Own,uw w4.heap.size wr w2.heap.size ((List.range N).map fun k=>zo p.cs q.cs (jq (a.take x) b) k) Own)/\Ext W wr/\w4.heap.size<=wr.heap.size/\∀ g,g ≠ w2.heap.size->g < w4.heap.size->wr.heap[g]?=w4.heap[g]?)) (fun iv _=>a.length - (intOf iv).toNat)
 case atStart=>exact ⟨0,Nat.zero_le _,rfl,⟨⟨_,by
   have h1:=RH.out;rw [show List.replicate N ([]:List Pl)=(List.range N).map fun k=>zo p.cs q.cs (jq (a.take 0) b) k by
    rw [List.take_zero]
    simp [jq,zo,List.map_const']] at h1
   exact h1⟩,X4.out,Nat.le_refl _,fun _ _ _=>rfl⟩⟩
 case round =>
  obtain ⟨x,hx,rfl,⟨⟨Own,cZ⟩,mr,lK,iF⟩⟩:=hrel;have Gu:=hid cZ;have vN:=hid mr;have HKE:=hid iF;clear cZ mr iF;obtain ⟨w5,rfl⟩:∃ w5,w5=wr:=⟨wr,rfl⟩
  by_cases af:x < a.length
  · obtain ⟨ga,ca',e,PM,IK,PL⟩:=kaf.at_ En.out x af;injection e with e1 e2 e3
    subst e1 e3;have PK:w5.cell? ⟨ga,x,none⟩=some (.int .i64 a[x]):=(World.cell?_of_block (a:=⟨ga,x,none⟩) (HKE.out ga (by omega) IK)).trans PL;have Pz:ga < w5.heap.size:=by omega
    have sZ:a[x] < p.cs.length:=aay.out _ (List.getElem_mem af);have vP:Hid (jq (a.take (x+1)) b=jq (a.take x) b ++ b.map fun j=>(a[x],j)):=hid (by
     unfold jq;rw [List.take_succ_eq_append_getElem af,List.flatMap_append]
     simp)
    clear PL;generalize a[x]=i at *;go_wp2_with fail
    go_loopw [93] (fun iv wr=>∃ y:Nat,y<=b.length/\iv=.int .i64 y/\Hid ((∃ Own,uw w4.heap.size wr w2.heap.size ((List.range N).map fun k=>zo p.cs q.cs (jq (a.take x) b ++ (b.take y).map fun j=>(i,j)) k) Own)/\Ext W wr/\w4.heap.size<=wr.heap.size/\∀ g,g ≠ w2.heap.size->g < w4.heap.size->wr.heap[g]?=w4.heap[g]?)) (fun iv _=>b.length - (intOf iv).toNat)
    case atStart=>exact ⟨0,Nat.zero_le _,rfl,⟨⟨_,by rw [List.take_zero,List.map_nil,List.append_nil]; exact Gu.out⟩,vN.out,lK,HKE.out⟩⟩
    case round =>
     obtain ⟨y,hy,rfl,⟨⟨Own2,cZ⟩,mr,kH,iF⟩⟩:=hrel;have BB:=hid cZ;have xR:=hid mr;have JX:=hid iF;clear cZ mr iF
     by_cases Ag:y < b.length
     · obtain ⟨gb,cb',e,Aw,II,PL⟩:=kaf.at_ (l:=b) Z5.out y Ag;injection e with e1 e2 e3
       subst e1 e3;have PI:wr.cell? ⟨gb,y,none⟩=some (.int .i64 b[y]):=(World.cell?_of_block (a:=⟨gb,y,none⟩) (JX.out gb (by omega) II)).trans PL;have Fp:gb < wr.heap.size:=by omega
       have xH:b[y] < q.cs.length:=aat.out _ (List.getElem_mem Ag);have Ru:Hid ((b.take (y+1)).map (fun j=>(i,j))=(b.take y).map (fun j=>(i,j)) ++ [(i,b[y])]):=hid (by
        rw [List.take_succ_eq_append_getElem Ag,List.map_append]
        rfl)
       clear PL;generalize b[y]=j at *;go_upto_region 23 with fail
       go_cut [98] from 97 to 98 (fun s wx=>∃ bb,s=.bool bb/\Hid (Ext wr wx))
       case first =>
        go_region_with (fail)
        all_goals
         go_wp2_with fail
         go_meet
         exact ⟨_,rfl,hid ((Ext.refl wr).alloc _).drew⟩
       case rest =>
        obtain ⟨bb,rfl,Nu⟩:=hcut;have yF:Ext wr wc:=Nu.out;have tu:=hid (xR.out.trans yF);have Nz:=yF.size;have Sv:Hid (∀ g,g ≠ w2.heap.size->g < w4.heap.size->wc.heap[g]?=w4.heap[g]?):=hid (fun g h1 h2=>(yF.below.block g (by omega)).trans (JX.out g h1 h2));have Dn:=BB.out.ext yF;have Dz:i+j < N:=by have:=Gx.out; omega
        have Pn:IntKind.i64.wrap ((i:Int)+(j:Int))=((i+j:Nat):Int):=by rw [IntKind.wrap_i64]; omega
        obtain ⟨ls,qE⟩:=n_m (((List.range N).map fun k=>zo p.cs q.cs (jq (a.take x) b ++ (b.take y).map fun j=>(i,j)) k));have sJ:ls.length=N:=by rw [<- qE]; simp
        have Ir:∀ (k:Nat) (hk:k < ls.length),ls[k].length<=1000000:=by
         intro k hk;have h1:ls[k]=zo p.cs q.cs (jq (a.take x) b ++ (b.take y).map fun j=>(i,j)) k:=by
          simp only [<- qE,List.getElem_map,List.getElem_range]
         rw [h1];refine Nat.le_trans (ubl _ _ _ _) ?_;rw [List.length_append,zbg,List.length_map,List.length_take,List.length_take];have h2:min x a.length * b.length<=901 * 901:=Nat.mul_le_mul (by omega) (by omega);omega
        have Em:Hid (ls.set (i+j) ((ls[i+j]'(by omega)) ++ [(Pl.at_ p.cs i).mul (Pl.at_ q.cs j)])=(List.range N).map fun k=>zo p.cs q.cs (jq (a.take x) b ++ (b.take (y+1)).map fun j=>(i,j)) k):=hid (by
         rw [Ru.out,<- List.append_assoc];apply List.ext_getElem
         · simp [sJ]
         · intro k xA hk2;have h1:k < N:=by simpa using hk2
           rw [List.getElem_set];simp only [<- qE,List.getElem_map,List.getElem_range];rw [jcb]
           by_cases hk:i+j=k
           · rw [if_pos hk,if_pos hk,hk]
           · rw [if_neg hk,if_neg hk])
        rw [qE] at Dn;obtain ⟨PA,pc,ae,WL,WJ,-⟩:=Dn.push (by omega) (i+j) (by omega);obtain ⟨ln,iV⟩:=n_m ((ls[i+j]'(by omega)).length);rw [iV] at ae;obtain ⟨dW,P0,KH,KJ,P1,KG,KI,rfl,Jj,OH,O5⟩:=jd.kid Gv.out i sZ;obtain ⟨dV,Q0,KE,KF,Q1,KC,qc1,rfl,Ji,OG,O4⟩:=jd.kid HQA.out j xH;have Ih:Pl.at_ p.cs i=p.cs[i]:=by unfold Pl.at_; rw [List.getD_eq_getElem?_getD,List.getElem?_eq_getElem sZ]; rfl
        have Ic:Pl.at_ q.cs j=q.cs[j]:=by unfold Pl.at_; rw [List.getD_eq_getElem?_getD,List.getElem?_eq_getElem xH]; rfl
        have Dc:Ext w0 wc:=(ay.out.trans HC.out.ext).trans tu.out;have qZ:=hid (fun W' (bg:Ext wc W')=>IH.out p.cs[i] (List.getElem_mem sZ) q.cs[j] (List.getElem_mem xH) _ _ O5 O4 W' (Dc.trans bg));have xY:=hid Dn;have aN:Hid (∀ W',Ext wc W'->(W'.cell? ⟨w.heap.size,3,none⟩=some (.slice (some dW) p.cs.length c)/\W'.cell? ⟨w.heap.size+1,3,none⟩=some (.slice (some dV) q.cs.length d)/\W'.cell? ⟨w2.heap.size,i+j,none⟩=some (.slice PA ln pc)/\vaa W' (dW.add (i * 4)) p.cs[i] (.slice P0 KH KJ) (.slice P1 KG KI)/\vaa W' (dV.add (j * 4)) q.cs[j] (.slice Q0 KE KF) (.slice Q1 KC qc1))):=by
         refine hid ?_;intro W' bg;have cO:=HC.out.box.ext (tu.out.trans bg) (by omega);have bT:=HC.out.box'.ext (tu.out.trans bg) (by omega);exact ⟨cO.2.2.2,bT.2.2.2,(bg.cell (p:=⟨w2.heap.size,i+j,none⟩) (by show w2.heap.size < _; omega)).trans ae,OH.ext (Dc.trans bg) (by rw [ja]; exact Jj),OG.ext (Dc.trans bg) (by rw [ja]; exact Ji)⟩
        have gJ:Hid (∀ (v1:World) (D0 D1:Option Addr) (m0 e0 m1 e1:Nat),Ext wc v1->PlV v1 (fun g=>wc.heap.size<=g) (p.cs[i].mul q.cs[j]) (plV (p.cs[i].mul q.cs[j]) (.slice D0 m0 e0) (.slice D1 m1 e1))->∃ (SB:Option Addr) (sn sd:Nat) (w6:World),(Builtin.append_ #[31,31] 31 #[.slice PA ln pc,.slice (some ⟨v1.heap.size,0,none⟩) 1 1]).run Tryz.prog (v1.alloc (.cells #[.int .i64 (p.cs[i].mul q.cs[j]).lv,.bool (p.cs[i].mul q.cs[j]).neg,.slice D0 m0 e0,.slice D1 m1 e1] 33))=.ok (.slice SB sn sd) w6/\w6.frozen? ⟨w2.heap.size,i+j,none⟩=false/\w6.cell? ⟨w2.heap.size,i+j,none⟩=some (.slice PA ln pc)/\(∀ g,g ≠ w2.heap.size->g < w4.heap.size->w6.heap[g]?=wc.heap[g]?) /\
         ((∃ Own,uw w4.heap.size (w6.setCell ⟨w2.heap.size,i+j,none⟩ (.slice SB sn sd)) w2.heap.size ((List.range N).map fun k=>zo p.cs q.cs (jq (a.take x) b ++ (b.take (y+1)).map fun j=>(i,j)) k) Own)/\Ext W (w6.setCell ⟨w2.heap.size,i+j,none⟩ (.slice SB sn sd))/\w4.heap.size<=(w6.setCell ⟨w2.heap.size,i+j,none⟩ (.slice SB sn sd)).heap.size/\∀ g,g ≠ w2.heap.size->g < w4.heap.size->(w6.setCell ⟨w2.heap.size,i+j,none⟩ (.slice SB sn sd)).heap[g]?=w4.heap[g]?)):=by
         refine hid ?_;intro v1 D0 D1 m0 e0 m1 e1 aU jV;have bW:=aU.size;have pR:=xY.out.ext aU;obtain ⟨PA',pc',jU,-,-,ER⟩:=pR.push (by omega) (i+j) (by omega);have fA:=(aU.cell (p:=⟨w2.heap.size,i+j,none⟩) (by show w2.heap.size < _; omega)).trans ae;rw [iV] at jU ER;rw [fA] at jU;injection jU with jU
         injection jU with h1 h2 h3
         subst h1 h3;have Ai:=Ir (i+j) (by omega);have Iu:ln+1<=1000000000:=by rw [<- iV]; omega
         obtain ⟨B6,d6,w6,JA,ax,k1,k2,k3,-,k5,-,-,k7,k8⟩:=ER (p.cs[i].mul q.cs[j]) D0 D1 m0 e0 m1 e1 (jV.mono fun g hg=>⟨fun ho=>by have:=(xY.out.own g ho).2; omega,by omega⟩) Iu;refine ⟨_,_,_,w6,ax,k2 _,k3,fun g iH dL=>(Below.heap_setCell w6 _ _ g iH).symm.trans ((k8 g iH dL).trans (aU.below.block g (by omega))),⟨JA,?_⟩,k5 W (tu.out.trans aU) (by omega),?_,fun g iH dL=>(k8 g iH dL).trans ((aU.below.block g (by omega)).trans (Sv.out g iH dL))⟩
         · have h9:=Em.out;rw [Ih,Ic] at h9;rw [<- h9];exact k1
         · have:(w6.setCell ⟨w2.heap.size,i+j,none⟩ (.slice (some ⟨B6,0,none⟩) (ln+1) d6)).heap.size=w6.heap.size:=by simp [World.setCell]
           omega
        have tJ:Hid (∀ (v1:World) (az:Addr) (D0 D1:Option Addr) (m0 e0 m1 e1:Nat),Ext wc v1->vaa v1 az Pl.zero (.slice none 0 0) (.slice none 0 0)->PlV v1 (fun g=>wc.heap.size<=g) (p.cs[i].mul q.cs[j]) (plV (p.cs[i].mul q.cs[j]) (.slice D0 m0 e0) (.slice D1 m1 e1))->∃ (B:Nat) (sd:Nat) (w6:World),(Builtin.append_ #[31,31] 31 #[.slice PA ln pc,.slice (some az) 1 1]).run Tryz.prog v1=.ok (.slice (some ⟨B,0,none⟩) (ln+1) sd) w6/\w6.frozen? ⟨w2.heap.size,i+j,none⟩=false/\w6.cell? ⟨w2.heap.size,i+j,none⟩=some (.slice PA ln pc)/\(∀ g,g ≠ w2.heap.size->g < w4.heap.size->w6.heap[g]?=wc.heap[g]?) /\
         (∀ i',(w6.setCell ⟨w2.heap.size,i+j,none⟩ (.slice (some ⟨B,0,none⟩) (ln+1) sd)).frozen? ⟨B,i',none⟩=false) /\
         (∃ u0 u1 u2 u3,(w6.setCell ⟨w2.heap.size,i+j,none⟩ (.slice (some ⟨B,0,none⟩) (ln+1) sd)).cell? ⟨B,ln * 4,none⟩=some u0/\(w6.setCell ⟨w2.heap.size,i+j,none⟩ (.slice (some ⟨B,0,none⟩) (ln+1) sd)).cell? ⟨B,ln * 4+1,none⟩=some u1/\(w6.setCell ⟨w2.heap.size,i+j,none⟩ (.slice (some ⟨B,0,none⟩) (ln+1) sd)).cell? ⟨B,ln * 4+2,none⟩=some u2/\(w6.setCell ⟨w2.heap.size,i+j,none⟩ (.slice (some ⟨B,0,none⟩) (ln+1) sd)).cell? ⟨B,ln * 4+3,none⟩=some u3) /\
         ∀ w8,w8=(((((w6.setCell ⟨w2.heap.size,i+j,none⟩ (.slice (some ⟨B,0,none⟩) (ln+1) sd)).setCell ⟨B,ln * 4,none⟩ (.int .i64 (p.cs[i].mul q.cs[j]).lv)).setCell ⟨B,ln * 4+1,none⟩ (.bool (p.cs[i].mul q.cs[j]).neg)).setCell ⟨B,ln * 4+2,none⟩ (.slice D0 m0 e0)).setCell ⟨B,ln * 4+3,none⟩ (.slice D1 m1 e1)) ->
           ((∃ Own,uw w4.heap.size w8 w2.heap.size ((List.range N).map fun k=>zo p.cs q.cs (jq (a.take x) b ++ (b.take (y+1)).map fun j=>(i,j)) k) Own)/\Ext W w8/\w4.heap.size<=w8.heap.size/\∀ g,g ≠ w2.heap.size->g < w4.heap.size->w8.heap[g]?=w4.heap[g]?)):=by
         refine hid ?_;intro v1 az D0 D1 m0 e0 m1 e1 aU hz jV;have bW:=aU.size;have pR:=xY.out.ext aU;have fA:=(aU.cell (p:=⟨w2.heap.size,i+j,none⟩) (by show w2.heap.size < _; omega)).trans ae;have Ai:=Ir (i+j) (by omega);have Iu:ln+1<=1000000000:=by rw [<- iV]; omega
         obtain ⟨B6,d6,w6,JA,ax,k1,k2,k3,k4,k5,k6,k7⟩:=pR.pushSet (by omega) (i+j) (by omega) fA iV az (p.cs[i].mul q.cs[j]) D0 D1 m0 e0 m1 e1 hz (jV.mono fun g hg=>⟨fun ho=>by have:=(xY.out.own g ho).2; omega,by omega⟩) Iu;refine ⟨B6,d6,w6,ax,k1 _,k2,fun g iH dL=>(k3 g iH dL).trans (aU.below.block g (by omega)),k5,k6,fun w8 KP=>?_⟩;obtain ⟨n1',n2',Nj,n4'⟩:=k7 w8 KP;refine ⟨⟨JA,?_⟩,n2' W (tu.out.trans aU) (by omega),by omega,fun g iH dL=>(n4' g iH dL).trans ((aU.below.block g (by omega)).trans (Sv.out g iH dL))⟩;have h9:=Em.out;rw [Ih,Ic] at h9;rw [<- h9];exact n1'
        have ED:Hid (∀ W':World,(∀ g,g ≠ w2.heap.size->g < w4.heap.size->W'.heap[g]?=wc.heap[g]?)->(W'.cell? ⟨w.heap.size,3,none⟩=some (.slice (some dW) p.cs.length c)/\W'.cell? ⟨w.heap.size+1,3,none⟩=some (.slice (some dV) q.cs.length d)/\vaa W' (dW.add (i * 4)) p.cs[i] (.slice P0 KH KJ) (.slice P1 KG KI)/\vaa W' (dV.add (j * 4)) q.cs[j] (.slice Q0 KE KF) (.slice Q1 KC qc1))):=by
         refine hid ?_;intro W' bg;have VR:=ay.out.size;have aeJ:=HC.out.ext.size;obtain ⟨g1,g2,-,g4,g8⟩:=aN.out wc (Ext.refl wc);have kk:∀ (a:Addr),a.block ≠ w2.heap.size->a.block < w4.heap.size->W'.cell? a=wc.cell? a:=fun a h1 h2=>World.cell?_of_block (bg a.block h1 h2)
         have yK:(dW.add (i * 4)).block=dW.block:=ja _ _;have hqb:(dV.add (j * 4)).block=dV.block:=ja _ _;obtain ⟨p0,p1,p2,p3⟩:=g4;obtain ⟨r0,r1,r2,r3⟩:=g8;refine ⟨(kk _ (by show w.heap.size ≠ _; omega) (by show w.heap.size < _; omega)).trans g1,(kk _ (by show w.heap.size+1 ≠ _; omega) (by show w.heap.size+1 < _; omega)).trans g2,⟨(kk _ (by omega) (by omega)).trans p0,(kk _ (by show (dW.add (i * 4)).block ≠ _; omega) (by show (dW.add (i * 4)).block < _; omega)).trans p1,(kk _ (by show (dW.add (i * 4)).block ≠ _; omega) (by show (dW.add (i * 4)).block < _; omega)).trans p2,(kk _ (by show (dW.add (i * 4)).block ≠ _; omega) (by show (dW.add (i * 4)).block < _; omega)).trans p3⟩,⟨(kk _ (by omega) (by omega)).trans r0,(kk _ (by show (dV.add (j * 4)).block ≠ _; omega) (by show (dV.add (j * 4)).block < _; omega)).trans r1,(kk _ (by show (dV.add (j * 4)).block ≠ _; omega) (by show (dV.add (j * 4)).block < _; omega)).trans r2,(kk _ (by show (dV.add (j * 4)).block ≠ _; omega) (by show (dV.add (j * 4)).block < _; omega)).trans r3⟩⟩
        clear yF Nu Dn OH O5 OG O4 Ih Ic Dc Ir qE Ru WL WJ;cases bb
        · have Vg:=hid (qZ.out wc.drew ((Ext.refl wc).drew));unfold plV at Vg;generalize Ie:p.cs[i].mul q.cs[j]=prd at *;obtain ⟨g1,g2,g3,⟨g4,g5,g6,g7⟩,⟨g8,g9,g10,g11⟩⟩:=aN.out wc.drew ((Ext.refl wc).drew);generalize KU:p.cs[i]=pi at *;generalize WE:q.cs[j]=qj at *;have Uz:(i:Int) < (p.cs.length:Int):=by omega
          have Uy:(j:Int) < (q.cs.length:Int):=by omega
          obtain ⟨r,hr⟩:=n_m (i+j);simp only [hr] at Dz Pn aN gJ g3;have oO:=hid hr;have hrI:(i:Int)+(j:Int)=(r:Int):=by omega
          have hrW:IntKind.i64.wrap (r:Int)=(r:Int):=by rw [IntKind.wrap_i64]; omega
          clear hr ae xY Em iV;have hR3:(r:Int) < (N:Int):=by omega
          have fM:=hid Ag;have wG:=hid Aw;have MW:=hid kH;clear KU WE Ie PK PI e2 af hx lK PM IK Pz Fp sZ xH Nz sJ Jj Ji kH Aw II Dz;have aW:Hid (∀ W',Ext wc W'->(W'.cell? ⟨w.heap.size,3,none⟩=some (.slice (some dW) p.cs.length c)/\W'.cell? ⟨w.heap.size+1,3,none⟩=some (.slice (some dV) q.cs.length d)/\(W'.cell? (dW.add (i * 4))=some (.int .i64 pi.lv)/\W'.cell? ⟨(dW.add (i * 4)).block,(dW.add (i * 4)).off+1,none⟩=some (.bool pi.neg)/\W'.cell? ⟨(dW.add (i * 4)).block,(dW.add (i * 4)).off+2,none⟩=some (.slice P0 KH KJ)/\W'.cell? ⟨(dW.add (i * 4)).block,(dW.add (i * 4)).off+3,none⟩=some (.slice P1 KG KI))/\(W'.cell? (dV.add (j * 4))=some (.int .i64 qj.lv)/\W'.cell? ⟨(dV.add (j * 4)).block,(dV.add (j * 4)).off+1,none⟩=some (.bool qj.neg)/\W'.cell? ⟨(dV.add (j * 4)).block,(dV.add (j * 4)).off+2,none⟩=some (.slice Q0 KE KF)/\W'.cell? ⟨(dV.add (j * 4)).block,(dV.add (j * 4)).off+3,none⟩=some (.slice Q1 KC qc1)))):=hid (fun W' bg=>by
           obtain ⟨g1,g2,-,g4,g8⟩:=aN.out W' bg
           exact ⟨g1,g2,g4,g8⟩)
          have vV:Hid (∀ W',Ext wc W'->W'.cell? ⟨w2.heap.size,r,none⟩=some (.slice PA ln pc)):=hid (fun W' bg=>(aN.out W' bg).2.2.1);have Y0:=hid ((Ext.refl wc).drew);clear g1 g2 g3 g4 g5 g6 g7 g8 g9 g10 g11 aN;go_upto_region 26 with fail;refine wp_region_held_drew (S:=fun W'=>W'.cell? ⟨w.heap.size,3,none⟩=some (.slice (some dW) p.cs.length c)/\W'.cell? ⟨w.heap.size+1,3,none⟩=some (.slice (some dV) q.cs.length d)/\(W'.cell? (dW.add (i * 4))=some (.int .i64 pi.lv)/\W'.cell? ⟨(dW.add (i * 4)).block,(dW.add (i * 4)).off+1,none⟩=some (.bool pi.neg)/\W'.cell? ⟨(dW.add (i * 4)).block,(dW.add (i * 4)).off+2,none⟩=some (.slice P0 KH KJ)/\W'.cell? ⟨(dW.add (i * 4)).block,(dW.add (i * 4)).off+3,none⟩=some (.slice P1 KG KI))/\(W'.cell? (dV.add (j * 4))=some (.int .i64 qj.lv)/\W'.cell? ⟨(dV.add (j * 4)).block,(dV.add (j * 4)).off+1,none⟩=some (.bool qj.neg)/\W'.cell? ⟨(dV.add (j * 4)).block,(dV.add (j * 4)).off+2,none⟩=some (.slice Q0 KE KF)/\W'.cell? ⟨(dV.add (j * 4)).block,(dV.add (j * 4)).off+3,none⟩=some (.slice Q1 KC qc1))) (by kernel_rfl) (aW.out _ Y0.out) (fun hHeld=>?_);refine tk 0 ?_;refine tk 1 ?_;refine tk 2 ?_;refine tk 3 ?_;refine tk 4 ?_;refine tk 5 ?_;refine tk 6 ?_;refine tk 7 ?_;refine tk 8 ?_;refine tk 10 ?_;refine tk 11 ?_;refine tk 12 ?_;refine tk 13 ?_;refine tk 14 ?_;refine tk 15 ?_;refine tk 16 ?_;refine tk 17 ?_;refine tk 18 ?_;refine tk 19 ?_;refine r_2 9 20 (fun K hK=>?oA) fun K hK=>?oB
          case' oA =>
           have bK:=vV.out _ Y0.out;go_simp;refine k_t hK (aW.out _ Y0.out) fun hHeld=>?_
           clear hK K;clear bK;refine r_1 20 fun K hK=>?_
           go_simp
           go_at_call 40
           refine Vg.out.mono ?_;rintro e v1 ⟨z1,rfl,m1,x1⟩;have y1:Ext wc v1:=Ext.trans ((Ext.refl wc).drew) x1;obtain ⟨D0,D8,Eb,D1,Ea,rfl,-⟩:=id m1.open_;unfold plV;refine k_t hK (aW.out _ y1) fun hHeld=>?_
           clear hK K;refine r_1 21 fun K hK=>?_
           go_simp;have y2:=Ext.alloc y1 (.cells #[.int .i64 prd.lv,.bool prd.neg,.slice D0 D8 Eb,.slice D1 prd.cs.length Ea] 33);refine k_t hK (aW.out _ y2) fun hHeld=>?_
           clear hK K
          case' oB =>
           go_simp
           go_at_call 40
           refine Vg.out.mono ?_;rintro e v1 ⟨z1,rfl,m1,x1⟩;have y1:Ext wc v1:=Ext.trans ((Ext.refl wc).drew) x1;obtain ⟨D0,D8,Eb,D1,Ea,rfl,-⟩:=id m1.open_;unfold plV;refine k_t hK (aW.out _ y1) fun hHeld=>?_
           clear hK K;refine r_2 9 21 (fun K hK=>?oC) fun K hK=>?oD
           case' oC =>
            have bK:=vV.out _ y1;go_simp;refine k_t hK (aW.out _ y1) fun hHeld=>?_
            clear hK K;clear bK;refine r_1 21 fun K hK=>?_
            go_simp;have y2:=Ext.alloc y1 (.cells #[.int .i64 prd.lv,.bool prd.neg,.slice D0 D8 Eb,.slice D1 prd.cs.length Ea] 33);refine k_t hK (aW.out _ y2) fun hHeld=>?_
            clear hK K
           case' oD =>
            go_simp;have y2:=Ext.alloc y1 (.cells #[.int .i64 prd.lv,.bool prd.neg,.slice D0 D8 Eb,.slice D1 prd.cs.length Ea] 33);refine k_t hK (aW.out _ y2) fun hHeld=>?_
            clear hK K;refine r_1 9 fun K hK=>?_
            have bK:=vV.out _ y2;go_simp;refine k_t hK (aW.out _ y2) fun hHeld=>?_
            clear hK K;clear bK
          all_goals
           obtain ⟨SB,sn,sd,w6,ax,IP,Yk,sS,aQ⟩:=gJ.out v1 _ _ _ _ _ _ y1 m1;have bD:=hid aQ;have Gp:=hid (ED.out w6 sS);have RD:=hid (ED.out (w6.setCell ⟨w2.heap.size,r,none⟩ (.slice SB sn sd)) (fun g h1 h2=>(Below.heap_setCell w6 _ _ g h1).trans (sS g h1 h2)));clear aQ sS m1 x1 y1 y2 gJ Vg aW vV;refine r_1 22 fun K hK=>?_
           refine wag rfl (.tmp 134) (.tmp 146) 31 31 rfl _ _ _ _ (by simp [Act.eval,Act.put]) (by simp [Act.eval,Act.put]) ax ?_;refine k_t hK Gp.out fun hHeld=>?_
           clear hK K ax Gp;refine tk 23 ?_;refine r_1 24 fun K hK=>?_
           go_simp;refine k_t hK RD.out fun hHeld=>?_
           clear hK K RD;refine w_d ?_;clear Yk IP;go_wp2_with fail
           go_roundw
           case rel=>exact ⟨y+1,by have:=fM.out; omega,by go_num,bD⟩
           case measure=>simp [intOf]; have:=fM.out; omega
        · unfold plV at qZ;generalize Ie:p.cs[i].mul q.cs[j]=prd at *;generalize KU:p.cs[i]=pi at *;generalize WE:q.cs[j]=qj at *;have Uz:(i:Int) < (p.cs.length:Int):=by omega
          have Uy:(j:Int) < (q.cs.length:Int):=by omega
          obtain ⟨r,hr⟩:=n_m (i+j);simp only [hr] at Dz Pn aN tJ;have oO:=hid hr;have hrI:(i:Int)+(j:Int)=(r:Int):=by omega
          have hrW:IntKind.i64.wrap (r:Int)=(r:Int):=by rw [IntKind.wrap_i64]; omega
          clear hr ae xY Em iV gJ;have hR3:(r:Int) < (N:Int):=by omega
          have afz:(ln:Int) < ((ln+1:Nat):Int):=by omega
          have fM:=hid Ag;have wG:=hid Aw;have MW:=hid kH;clear KU WE Ie PK PI e2 af hx lK PM IK Pz Fp sZ xH Nz sJ Jj Ji kH Aw II Dz;have aW:Hid (∀ W',Ext wc W'->(W'.cell? ⟨w.heap.size,3,none⟩=some (.slice (some dW) p.cs.length c)/\W'.cell? ⟨w.heap.size+1,3,none⟩=some (.slice (some dV) q.cs.length d)/\(W'.cell? (dW.add (i * 4))=some (.int .i64 pi.lv)/\W'.cell? ⟨(dW.add (i * 4)).block,(dW.add (i * 4)).off+1,none⟩=some (.bool pi.neg)/\W'.cell? ⟨(dW.add (i * 4)).block,(dW.add (i * 4)).off+2,none⟩=some (.slice P0 KH KJ)/\W'.cell? ⟨(dW.add (i * 4)).block,(dW.add (i * 4)).off+3,none⟩=some (.slice P1 KG KI))/\(W'.cell? (dV.add (j * 4))=some (.int .i64 qj.lv)/\W'.cell? ⟨(dV.add (j * 4)).block,(dV.add (j * 4)).off+1,none⟩=some (.bool qj.neg)/\W'.cell? ⟨(dV.add (j * 4)).block,(dV.add (j * 4)).off+2,none⟩=some (.slice Q0 KE KF)/\W'.cell? ⟨(dV.add (j * 4)).block,(dV.add (j * 4)).off+3,none⟩=some (.slice Q1 KC qc1)))):=hid (fun W' bg=>by
           obtain ⟨g1,g2,-,g4,g8⟩:=aN.out W' bg
           exact ⟨g1,g2,g4,g8⟩)
          have vV:Hid (∀ W',Ext wc W'->W'.cell? ⟨w2.heap.size,r,none⟩=some (.slice PA ln pc)):=hid (fun W' bg=>(aN.out W' bg).2.2.1);have Y0:=hid ((Ext.refl wc).drew);clear aN;go_upto_region 24 with fail;refine wp_region_held_drew (S:=fun W'=>W'.cell? ⟨w.heap.size,3,none⟩=some (.slice (some dW) p.cs.length c)/\W'.cell? ⟨w.heap.size+1,3,none⟩=some (.slice (some dV) q.cs.length d)/\(W'.cell? (dW.add (i * 4))=some (.int .i64 pi.lv)/\W'.cell? ⟨(dW.add (i * 4)).block,(dW.add (i * 4)).off+1,none⟩=some (.bool pi.neg)/\W'.cell? ⟨(dW.add (i * 4)).block,(dW.add (i * 4)).off+2,none⟩=some (.slice P0 KH KJ)/\W'.cell? ⟨(dW.add (i * 4)).block,(dW.add (i * 4)).off+3,none⟩=some (.slice P1 KG KI))/\(W'.cell? (dV.add (j * 4))=some (.int .i64 qj.lv)/\W'.cell? ⟨(dV.add (j * 4)).block,(dV.add (j * 4)).off+1,none⟩=some (.bool qj.neg)/\W'.cell? ⟨(dV.add (j * 4)).block,(dV.add (j * 4)).off+2,none⟩=some (.slice Q0 KE KF)/\W'.cell? ⟨(dV.add (j * 4)).block,(dV.add (j * 4)).off+3,none⟩=some (.slice Q1 KC qc1))) (by kernel_rfl) (aW.out _ Y0.out) (fun hHeld=>?_);refine tk 0 ?_;refine tk 1 ?_;refine tk 2 ?_;refine tk 3 ?_;refine tk 4 ?_;refine tk 5 ?_;refine tk 6 ?_;refine tk 7 ?_;refine tk 8 ?_;refine tk 10 ?_;refine tk 11 ?_;refine tk 12 ?_;refine tk 13 ?_;refine tk 14 ?_;refine tk 15 ?_;refine tk 16 ?_;refine tk 17 ?_;refine tk 18 ?_;refine tk 19 ?_;refine wpAnyH_ready (rs:=[9,20,22]) (by kernel_rfl) (by simp) ?_;refine AllReadyH.cons rfl (fun K hK=>?z1x9) (AllReadyH.cons rfl (fun K hK=>?z1x20) (AllReadyH.cons rfl (fun K hK=>?z1x22) (AllReadyH.nil)))
          case' z1x9 =>
           have bK:=vV.out _ Y0.out;go_simp;refine k_t hK (aW.out _ Y0.out) fun hHeld=>?_
           clear hK K bK;refine tk 21 ?_;refine wpAnyH_ready (rs:=[20,22]) (by kernel_rfl) (by simp) ?_;refine AllReadyH.cons rfl (fun K hK=>?z2x20) (AllReadyH.cons rfl (fun K hK=>?z2x22) (AllReadyH.nil))
           case' z2x20 =>
            go_simp
            go_at_call 40
            refine (qZ.out _ Y0.out).mono ?_;rintro e v1 ⟨z1,rfl,m1,x1⟩;have y1:Ext wc v1:=Ext.trans Y0.out x1;obtain ⟨D0,D8,Eb,D1,Ea,rfl,-⟩:=id m1.open_;unfold plV;refine k_t hK (aW.out _ y1) fun hHeld=>?_
            clear hK K;refine wpAnyH_ready (rs:=[22]) (by kernel_rfl) (by simp) ?_;refine AllReadyH.cons rfl (fun K hK=>?z3x22) (AllReadyH.nil)
            case' z3x22 =>
             go_simp;have y2:=Ext.alloc y1 (.cells #[.int .i64 0,.bool false,.slice none 0 0,.slice none 0 0] 33);refine k_t hK (aW.out _ y2) fun hHeld=>?_
             clear hK K;have yE:=y2;have mE:=(m1.mono (fun g (hg:wc.heap.size<=g)=>hg)).ext ((Ext.refl v1).alloc (.cells #[.int .i64 0,.bool false,.slice none 0 0,.slice none 0 0] 33));have zE:vaa (v1.alloc (.cells #[.int .i64 0,.bool false,.slice none 0 0,.slice none 0 0] 33)) ⟨v1.heap.size,0,none⟩ Pl.zero (.slice none 0 0) (.slice none 0 0):=by refine ⟨?_,?_,?_,?_⟩ <;> simp [go_sem,Pl.zero,Pl.lv,Pl.neg]
           case' z2x22 =>
            go_simp;have y2:=Ext.alloc Y0.out (.cells #[.int .i64 0,.bool false,.slice none 0 0,.slice none 0 0] 33);refine k_t hK (aW.out _ y2) fun hHeld=>?_
            clear hK K;refine wpAnyH_ready (rs:=[20]) (by kernel_rfl) (by simp) ?_;refine AllReadyH.cons rfl (fun K hK=>?z4x20) (AllReadyH.nil)
            case' z4x20 =>
             go_simp
             go_at_call 40
             refine (qZ.out _ y2).mono ?_;rintro e v1 ⟨z1,rfl,m1,x1⟩;have y1:Ext wc v1:=Ext.trans y2 x1;obtain ⟨D0,D8,Eb,D1,Ea,rfl,-⟩:=id m1.open_;unfold plV;refine k_t hK (aW.out _ y1) fun hHeld=>?_
             clear hK K;have yE:=y1;have mE:PlV v1 (fun g=>wc.heap.size<=g) prd _:=m1.mono (fun g hg=>by simp at hg; have hd:wc.drew.heap.size=wc.heap.size:=rfl; omega);have MX:vaa (wc.drew.alloc (.cells #[.int .i64 0,.bool false,.slice none 0 0,.slice none 0 0] 33)) ⟨wc.drew.heap.size,0,none⟩ Pl.zero (.slice none 0 0) (.slice none 0 0):=by refine ⟨?_,?_,?_,?_⟩ <;> simp [go_sem,Pl.zero,Pl.lv,Pl.neg]
             have zE:=MX.ext x1 (by simp)
          case' z1x20 =>
           go_simp
           go_at_call 40
           refine (qZ.out _ Y0.out).mono ?_;rintro e v1 ⟨z1,rfl,m1,x1⟩;have y1:Ext wc v1:=Ext.trans Y0.out x1;obtain ⟨D0,D8,Eb,D1,Ea,rfl,-⟩:=id m1.open_;unfold plV;refine k_t hK (aW.out _ y1) fun hHeld=>?_
           clear hK K;refine wpAnyH_ready (rs:=[9,22]) (by kernel_rfl) (by simp) ?_;refine AllReadyH.cons rfl (fun K hK=>?z5x9) (AllReadyH.cons rfl (fun K hK=>?z5x22) (AllReadyH.nil))
           case' z5x9 =>
            have bK:=vV.out _ y1;go_simp;refine k_t hK (aW.out _ y1) fun hHeld=>?_
            clear hK K bK;refine tk 21 ?_;refine wpAnyH_ready (rs:=[22]) (by kernel_rfl) (by simp) ?_;refine AllReadyH.cons rfl (fun K hK=>?z6x22) (AllReadyH.nil)
            case' z6x22 =>
             go_simp;have y2:=Ext.alloc y1 (.cells #[.int .i64 0,.bool false,.slice none 0 0,.slice none 0 0] 33);refine k_t hK (aW.out _ y2) fun hHeld=>?_
             clear hK K;have yE:=y2;have mE:=(m1.mono (fun g (hg:wc.heap.size<=g)=>hg)).ext ((Ext.refl v1).alloc (.cells #[.int .i64 0,.bool false,.slice none 0 0,.slice none 0 0] 33));have zE:vaa (v1.alloc (.cells #[.int .i64 0,.bool false,.slice none 0 0,.slice none 0 0] 33)) ⟨v1.heap.size,0,none⟩ Pl.zero (.slice none 0 0) (.slice none 0 0):=by refine ⟨?_,?_,?_,?_⟩ <;> simp [go_sem,Pl.zero,Pl.lv,Pl.neg]
           case' z5x22 =>
            go_simp;have y2:=Ext.alloc y1 (.cells #[.int .i64 0,.bool false,.slice none 0 0,.slice none 0 0] 33);refine k_t hK (aW.out _ y2) fun hHeld=>?_
            clear hK K;refine wpAnyH_ready (rs:=[9]) (by kernel_rfl) (by simp) ?_;refine AllReadyH.cons rfl (fun K hK=>?z7x9) (AllReadyH.nil)
            case' z7x9 =>
             have bK:=vV.out _ y2;go_simp;refine k_t hK (aW.out _ y2) fun hHeld=>?_
             clear hK K bK;refine tk 21 ?_;have yE:=y2;have mE:=(m1.mono (fun g (hg:wc.heap.size<=g)=>hg)).ext ((Ext.refl v1).alloc (.cells #[.int .i64 0,.bool false,.slice none 0 0,.slice none 0 0] 33));have zE:vaa (v1.alloc (.cells #[.int .i64 0,.bool false,.slice none 0 0,.slice none 0 0] 33)) ⟨v1.heap.size,0,none⟩ Pl.zero (.slice none 0 0) (.slice none 0 0):=by refine ⟨?_,?_,?_,?_⟩ <;> simp [go_sem,Pl.zero,Pl.lv,Pl.neg]
          case' z1x22 =>
           go_simp;have y2:=Ext.alloc Y0.out (.cells #[.int .i64 0,.bool false,.slice none 0 0,.slice none 0 0] 33);refine k_t hK (aW.out _ y2) fun hHeld=>?_
           clear hK K;refine wpAnyH_ready (rs:=[9,20]) (by kernel_rfl) (by simp) ?_;refine AllReadyH.cons rfl (fun K hK=>?z8x9) (AllReadyH.cons rfl (fun K hK=>?z8x20) (AllReadyH.nil))
           case' z8x9 =>
            have bK:=vV.out _ y2;have Wx:=vV.out _ ((Ext.refl wc).alloc (.cells #[.int .i64 0,.bool false,.slice none 0 0,.slice none 0 0] 33));have Wv:=vV.out _ (Ext.refl wc);have Wu:=vV.out _ ((Ext.refl wc).alloc (.cells #[.int .i64 0,.bool false,.slice none 0 0,.slice none 0 0] 33)).drew;go_simp;refine k_t hK (aW.out _ y2) fun hHeld=>?_
            clear hK K bK Wx Wv Wu;refine tk 21 ?_;refine wpAnyH_ready (rs:=[20]) (by kernel_rfl) (by simp) ?_;refine AllReadyH.cons rfl (fun K hK=>?z9x20) (AllReadyH.nil)
            case' z9x20 =>
             go_simp
             go_at_call 40
             refine (qZ.out _ y2).mono ?_;rintro e v1 ⟨z1,rfl,m1,x1⟩;have y1:Ext wc v1:=Ext.trans y2 x1;obtain ⟨D0,D8,Eb,D1,Ea,rfl,-⟩:=id m1.open_;unfold plV;refine k_t hK (aW.out _ y1) fun hHeld=>?_
             clear hK K;have yE:=y1;have mE:PlV v1 (fun g=>wc.heap.size<=g) prd _:=m1.mono (fun g hg=>by simp at hg; have hd:wc.drew.heap.size=wc.heap.size:=rfl; omega);have MX:vaa (wc.drew.alloc (.cells #[.int .i64 0,.bool false,.slice none 0 0,.slice none 0 0] 33)) ⟨wc.drew.heap.size,0,none⟩ Pl.zero (.slice none 0 0) (.slice none 0 0):=by refine ⟨?_,?_,?_,?_⟩ <;> simp [go_sem,Pl.zero,Pl.lv,Pl.neg]
             have zE:=MX.ext x1 (by simp)
           case' z8x20 =>
            go_simp
            go_at_call 40
            refine (qZ.out _ y2).mono ?_;rintro e v1 ⟨z1,rfl,m1,x1⟩;have y1:Ext wc v1:=Ext.trans y2 x1;obtain ⟨D0,D8,Eb,D1,Ea,rfl,-⟩:=id m1.open_;unfold plV;refine k_t hK (aW.out _ y1) fun hHeld=>?_
            clear hK K;refine wpAnyH_ready (rs:=[9]) (by kernel_rfl) (by simp) ?_;refine AllReadyH.cons rfl (fun K hK=>?z10x9) (AllReadyH.nil)
            case' z10x9 =>
             have bK:=vV.out _ y1;go_simp;refine k_t hK (aW.out _ y1) fun hHeld=>?_
             clear hK K bK;refine tk 21 ?_;have yE:=y1;have mE:PlV v1 (fun g=>wc.heap.size<=g) prd _:=m1.mono (fun g hg=>by simp at hg; have hd:wc.drew.heap.size=wc.heap.size:=rfl; omega);have MX:vaa (wc.drew.alloc (.cells #[.int .i64 0,.bool false,.slice none 0 0,.slice none 0 0] 33)) ⟨wc.drew.heap.size,0,none⟩ Pl.zero (.slice none 0 0) (.slice none 0 0):=by refine ⟨?_,?_,?_,?_⟩ <;> simp [go_sem,Pl.zero,Pl.lv,Pl.neg]
             have zE:=MX.ext x1 (by simp)
          all_goals
           obtain ⟨B6,sd,w6,ax,IP,Yk,sS,IM,⟨u0,u1,u2,u3,c0,c1,c2,c3⟩,aQ⟩:=tJ.out _ _ _ _ _ _ _ _ yE zE mE;have bD:=hid (aQ _ rfl);have Gp:=hid (ED.out w6 sS);have RD:=hid (ED.out (w6.setCell ⟨w2.heap.size,r,none⟩ (.slice (some ⟨B6,0,none⟩) (ln+1) sd)) (fun g h1 h2=>(Below.heap_setCell w6 _ _ g h1).trans (sS g h1 h2)));have HCB:Hid (_/\_/\_/\_/\_):=hid ⟨IM,c0,c1,c2,c3⟩;clear aQ sS m1 x1 y1 y2 yE zE mE tJ qZ aW vV IM c0 c1 c2 c3;refine r_1 23 fun K hK=>?_
           refine wag rfl (.tmp 108) (.tmp 121) 31 31 rfl _ _ _ _ (by simp [Act.eval,Act.put]) (by simp [Act.eval,Act.put]) ax ?_;refine k_t hK Gp.out fun hHeld=>?_
           clear hK K ax Gp;refine tk 24 ?_;refine r_1 25 fun K hK=>?_
           go_simp;refine k_t hK RD.out fun hHeld=>?_
           clear hK K RD;refine w_d ?_;clear Yk IP;obtain ⟨IM,c0,c1,c2,c3⟩:=HCB.out;go_wp2_with fail
           go_roundw
           case rel=>exact ⟨y+1,by have:=fM.out; omega,by go_num,bD⟩
           case measure=>simp [intOf]; have:=fM.out; omega
     · have VK:y=b.length:=by omega
       have ZP:Hid (∃ Own,uw w4.heap.size wr w2.heap.size ((List.range N).map fun k=>zo p.cs q.cs (jq (a.take (x+1)) b) k) Own):=hid ⟨Own2,by
        have h1:=BB.out;rw [VK,List.take_length,<- vP.out] at h1
        exact h1⟩
       clear VK;go_wp2_with fail
       go_roundw
       case rel=>exact ⟨x+1,by omega,by go_num,⟨ZP.out,xR.out,kH,JX.out⟩⟩
       case measure=>simp [intOf]; omega
  · have CZ:x=a.length:=by omega
    obtain ⟨ls,qE⟩:=n_m (((List.range N).map fun k=>zo p.cs q.cs (jq a b) k));have sJ:ls.length=N:=by rw [<- qE]; simp
    have HPF:Hid (uw w4.heap.size w5 w2.heap.size ls Own):=hid (by
     have h1:=Gu.out;rw [CZ,List.take_length,qE] at h1
     exact h1)
    have Sr:Hid (∀ k (hk:k < ls.length),(∀ r ∈ ls[k],r.Can/\r.ex (E+F))/\lnr ls[k] < B32 ^ (D+G)/\ls[k].length<=1000000):=hid (fun k hk=>by
     have h1:ls[k]=zo p.cs q.cs (jq a b) k:=by simp only [<- qE,List.getElem_map,List.getElem_range]
     rw [h1]; exact BO.out k)
    have Eo:Hid (p.mul q=uaa p.lv (ls.map xy)):=hid (by
     have h1:=yZ.out;rw [Gx.out] at h1
     rw [h1,<- qE,List.map_map]; rfl)
    have Ro:Hid (w2.heap.size < w5.heap.size):=hid (by omega);clear Gu qE CZ BO yZ;obtain ⟨V2,qC,QE,agl,dS⟩:=qab (N:Int) (by omega) (by omega) w5;rw [Int.toNat_natCast] at qC dS;have Gs:=hid (dS (fun g=>w5.heap.size<=g));have Rq:=hid QE;clear dS QE;go_wp2_with fail;clear qC
    go_loopw [156] (fun iv wr=>∃ k:Nat,k<=N/\iv=.int .i64 k/\Hid ((∃ M:List Pl,M.length=N/\M.take k=(ls.map xy).take k/\zi wr (fun g=>w5.heap.size<=g) w5.heap.size M)/\Ext w5 wr)) (fun iv _=>N - (intOf iv).toNat)
    case atStart=>exact ⟨0,Nat.zero_le _,rfl,⟨⟨_,List.length_replicate,by simp,Gs.out⟩,Rq.out⟩⟩
    case round =>
     obtain ⟨k,hk,rfl,⟨⟨M,FP,hMt,ae⟩,wL⟩⟩:=hrel;have U0:=hid wL;have aC:=hid ae;have Ve:=hid hMt;have VT:=wL.size;have oN:w5.heap.size < wr.heap.size:=ae.1;clear wL ae hMt Gs Rq
     by_cases Ai:k < N
     · obtain ⟨PV,Ja,WF,-⟩:=HPF.out.row k (by omega);obtain ⟨PA,pc,rfl,pR,zZ⟩:=WF.len;have Yc:wr.cell? ⟨w2.heap.size,k,none⟩=some (.slice PA ls[k].length pc):=(U0.out.cell (p:=⟨w2.heap.size,k,none⟩) Ro.out).trans Ja;obtain ⟨ha1,ha2,ha3⟩:=Sr.out k (by omega);have HAD:=hid (yb8 (E:=E+F) (D:=D+G) ls[k] PA pc (by omega) (by omega) ha1 ha2 ha3 pR zZ (WF.at_.ext U0.out));have dI:Hid ((M.set k (xy ls[k])).take (k+1)=(ls.map xy).take (k+1)):=hid (by
        have h1:=vaf M (ls.map xy) k Ve.out (by omega) (by rw [List.length_map]; omega);rw [List.getElem_map] at h1
        exact h1)
       clear Ja WF ha1 ha2 Ve;generalize xy ls[k]=res at *;generalize ls[k].length=lk at *;have Ph:(k:Int) < (N:Int):=by omega
       go_wp2_with fail;clear Yc;refine HAD.out.mono ?_;rintro e w6 ⟨v6,rfl,p6,x6⟩;obtain ⟨C0,j0,f0,C1,f1,rfl,-⟩:=id p6.open_;have TT:=aC.out.ext x6;obtain ⟨D0,n2,g0,D1,n3,g1,⟨r0,r1,r2,r3⟩,-⟩:=TT.2.2 k (by omega);have bu:=TT.2.1;have dF:=(TT.set_ k (by omega) res (p6.mono fun i hi=>⟨by omega,by omega⟩)).1;simp only at r0 r1 r2 r3;have dP:=hid dF;have X6:=hid (U0.out.trans x6);unfold plV;clear TT dF p6 x6 HAD aC;go_wp2_with fail
       go_roundw
       case rel=>exact ⟨k+1,by omega,by go_num,⟨_,by rw [List.length_set]; exact FP,dI.out,dP.out⟩,(((X6.out.setCell (Nat.le_refl _) _).setCell (Nat.le_refl _) _).setCell (Nat.le_refl _) _).setCell (Nat.le_refl _) _⟩
       case measure=>simp [intOf]; omega
     · have bV:k=N:=by omega
       have FT:M=ls.map xy:=by
        have h:=Ve.out;rw [bV,show N=(ls.map xy).length by rw [List.length_map,sJ],List.take_length,List.length_map,sJ,<- FP,List.take_length] at h;exact h
       have DX:=vN.out.trans U0.out;have Hz:=vbl p.lv (ls.map xy) (some ⟨w5.heap.size,0,none⟩) N (by have h1:=aC.out.fin (Nat.le_refl _); rw [FT] at h1; exact h1) (by rw [List.length_map]; omega) (by omega);rw [List.length_map,sJ] at Hz;generalize uaa p.lv (ls.map xy)=res at *;have Md:=hid Hz;obtain ⟨b0,b1,b2,b3⟩:=HC.out.box.ext DX (by omega);have Rj:=hid (HC.out.zero.ext DX (by omega));have rG:=hid (HC.out.ext.trans DX);clear Hz DX FT aC Ve;go_wp2_with fail;clear b0 b1 b2 b3;refine Md.out.mono ?_;rintro e w6 ⟨v6,rfl,p6,x6⟩;obtain ⟨C0,j0,f0,C1,f1,rfl,-⟩:=id p6.open_;have fJ:=Rj.out.ext x6 (by omega);have hf:=jg (q:=fun g=>w5.heap.size<=g) (q':=fun i=>w.heap.size<=i) (rG.out.trans x6) (by omega) fJ p6 (fun b _ hb=>by have:=Ro.out; exact ⟨by omega,by omega⟩);have HF:=hid (gcq Eo.out hf);obtain ⟨⟨z0,z1,z2,z3⟩,zf⟩:=fJ;clear hf p6 x6 Md Rj rG;unfold plV;go_wp2_with fail;exact bodyPost_ret (v:=plV res (.slice C0 j0 f0) (.slice C1 res.cs.length f1)) (by simp [results,Tryz.results40,go_sem,z0,z1,z2,z3,plV]) rfl HF.out
end Go.Proofs.YtcepajijiabkmaaGreat
