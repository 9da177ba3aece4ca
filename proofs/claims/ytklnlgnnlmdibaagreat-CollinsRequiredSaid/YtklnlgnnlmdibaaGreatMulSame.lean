/- Layer 22: recpoly.mul where the levels are the same and not 0. -/
import Derived.Test.YtklnlgnnlmdibaaGreatMq21
import Derived.Test.YtklnlgnnlmdibaaGreatMq22
set_option linter.unusedSimpArgs false
set_option linter.unusedVariables false

set_option maxRecDepth 100000
set_option maxHeartbeats 8000000
namespace Go.Proofs.YtklnlgnnlmdibaaGreat
open Lib (hid)
open Go.RowKit
theorem vcm:(Tryz.prog.info? 24).map (fun i=>(i.zero,i.size,i.bytes))=some (some (.slice none 0 0),1,24):=by kernel_rfl
theorem jbo (n:Int) (h0:0<=n) (h1:n<=1099511627776) (w:World) :
 ∃ w',(Instr.makeSlice 99 (.int .i64 n) (.int .i64 n)).run Tryz.prog w=.ok (.slice (some ⟨w.heap.size,0,none⟩) n.toNat n.toNat) w'/\Ext w w'/\w'.heap.size=w.heap.size+1/\∀ lo,w.heap.size < lo->zx lo w' w.heap.size (List.replicate n.toNat []) (fun _=>False):=by
 obtain ⟨i0,hi,jI,kZ,jT⟩:=info_parts vcm;have hc:∀ i,i < n.toNat->(w.alloc (.cells (madeCells (Value.slice none 0 0).cells (n.toNat * i0.size)) 24)).cell? ⟨w.heap.size,i,none⟩=some (.slice none 0 0):=by
  intro i hi;rw [cell_of_row _ _ i _ _ (0,0) (heap_alloc_new w _)];rw [kZ];unfold madeCells;rw [Array.getElem?_map,Array.getElem?_range,if_pos (by omega)];show some ((#[Value.slice none 0 0]:Array Value)[i % 1]!)=_;rw [Nat.mod_one]
  rfl
 refine ⟨_,run_make w 99 24 i0 _ Tryz.underlying99 hi jI .i64 .i64 n n h0 (by omega) (by rw [jT]; omega) (by omega),(Ext.refl w).alloc _,by simp,fun lo hlo=>⟨by simp,hlo,fun i=>by simp [go_sem],fun b h=>h.elim,fun k hk=>?_,fun j k v u hj hk _ hv hu o ho=>?_⟩⟩
 · rw [List.length_replicate] at hk;rw [List.getElem_replicate];exact ⟨_,hc k hk,uh.nil _ _ _,fun o e=>by cases e⟩
 · rw [List.length_replicate] at hj;rw [hc j hj] at hv;injection hv with hv
   rw [<- hv] at ho;cases ho
theorem qcj {q:Nat->Prop} {p p':Pl} {w w':World} {e:Ending} (h:p'=p) (hr:uf q p w e w'):uf q p' w e w':=by rw [h]; exact hr
theorem wcl {w0 w : World} {E D F G : Nat} (p q : Pl) (v u : Value) (hp : Fit p E D) (hq : Fit q F G) (hE : E <= 900) (hF : F <= 900) (hD : D + G <= 17592186044000)
 (h:PlV w0 (fun _=>True) p v) (k:PlV w0 (fun _=>True) q u) (hx:Ext w0 w) (heq:p.lv=q.lv) (h0:0 < p.lv)
 (ih:∀ a ∈ p.cs,∀ b ∈ q.cs,∀ x y,PlV w0 (fun _=>True) a x->PlV w0 (fun _=>True) b y->∀ W',Ext w0 W'->Calls Tryz.prog 47 #[x,y] W' (uf (fun i=>W'.heap.size<=i) (a.mul b) W')) :
 Calls Tryz.prog 47 #[v,u] w (uf (fun i=>w.heap.size<=i) (p.mul q) w):=by
 have BI:=hid (Pl.mul_level hp.can hq.can h0 heq);have HP:=hid hp;have HQ:=hid hq;have HH:=hid h;have HK:=hid k;have IH:=hid ih;have ax:=hid hx;have Ro:p.isZ=false:=by unfold Pl.isZ; rw [show decide (p.lv=0)=false by simp; omega]; rfl
 have hqz:q.isZ=false:=by unfold Pl.isZ; rw [show decide (q.lv=0)=false by simp; omega]; rfl
 obtain ⟨A0,n0,c0,A,c,rfl,-,dY,eF,lU⟩:=h.open_;obtain ⟨B0,m0,d0,B,d,rfl,-,Eu,hk2,hqa⟩:=k.open_;have rP:=hid lU;have PX:=hid hqa;have FK:p.cs.length<=901/\2<=p.cs.length:=by
  obtain ⟨l,n,d,cs⟩:=p;have h1:=hp.len h0;have h2:=(hp.can.kids h0).2.2.1;simp only [Pl.cs];omega
 have OO:q.cs.length<=901/\2<=q.cs.length:=by
  have DF:0 < q.lv:=by omega
  obtain ⟨l,n,d,cs⟩:=q;have h1:=hq.len DF;have h2:=(hq.can.kids DF).2.2.1;simp only [Pl.cs];omega
 obtain ⟨W,hW⟩:=n_m (((w.alloc (.cells #[.int .i64 p.lv,.bool p.neg,.slice A0 n0 c0,.slice A p.cs.length c] 35)).alloc (.cells #[.int .i64 q.lv,.bool q.neg,.slice B0 m0 d0,.slice B q.cs.length d] 35)).alloc (.cells #[.int .i64 0,.bool false,.slice none 0 0,.slice none 0 0] 35));have hcut:jap w p q (.slice A0 n0 c0) (.slice A p.cs.length c) (.slice B0 m0 d0) (.slice B q.cs.length d) W:=by
  rw [<- hW];refine ⟨(((Ext.refl w).alloc _).alloc _).alloc _,by simp,(jb.new w p _ _ _).ext (((Ext.refl _).alloc _).alloc _) (by simp),?_,?_⟩
  · have h1:=jb.new (w.alloc (.cells #[.int .i64 p.lv,.bool p.neg,.slice A0 n0 c0,.slice A p.cs.length c] 35)) q (.slice B0 m0 d0) (.slice B q.cs.length d) 35;have h2:=h1.ext ((Ext.refl _).alloc (.cells #[.int .i64 0,.bool false,.slice none 0 0,.slice none 0 0] 35)) (by simp);simpa using h2
  · have h1:=jf.new ((w.alloc (.cells #[.int .i64 p.lv,.bool p.neg,.slice A0 n0 c0,.slice A p.cs.length c] 35)).alloc (.cells #[.int .i64 q.lv,.bool q.neg,.slice B0 m0 d0,.slice B q.cs.length d] 35)) 35;simpa using h1
 have HC:=hid hcut;have Jn:=hid (zae p _ (HH.out.ext (hx.trans hcut.ext)));have Gw:Hid (∀ W',Ext W W'->Calls Tryz.prog 66 #[plV q (.slice B0 m0 d0) (.slice B q.cs.length d)] W' fun e w'=>e=.returned (.bool q.isZ)/\Ext W' w'):=by
  have:∀ W',Ext W W'->Calls Tryz.prog 66 #[plV q (.slice B0 m0 d0) (.slice B q.cs.length d)] W' fun e w'=>e=.returned (.bool q.isZ)/\Ext W' w':=fun W' iY=>zae q _ (HK.out.ext ((ax.out.trans HC.out.ext).trans iY))
  exact this
 rw [Ro] at Jn;rw [hqz] at Gw;have dE:=hcut.size;obtain ⟨b0,b1,b2,b3⟩:=hcut.box;obtain ⟨e0,e1,e2,e3⟩:=hcut.box';have yL:=hid heq;have ajW:¬ p.lv < q.lv:=by omega
 have lI:¬ q.lv < p.lv:=by omega
 have ajN:(p.lv == 0)=false:=by simp; omega
 clear hp hq h k hx heq ih Ro hqz lU hqa hcut;unfold plV at Jn Gw;unfold plV;go_enter Tryz.func47,Tryz.ntmps47;go_wp2_with fail;clear hW b0 b1 b2 b3 e0 e1 e2 e3;refine Jn.out.mono ?_;rintro e w1 ⟨rfl,x1⟩;have bU:=x1.size;have X1:=hid x1;obtain ⟨e0,e1,e2,e3⟩:=HC.out.box'.ext x1 (by omega);clear x1 Jn;go_wp2_with fail;clear e0 e1 e2 e3;refine (Gw.out _ X1.out).mono ?_;rintro e w2 ⟨rfl,x2⟩;have jF:=x2.size;have X2:=hid (X1.out.trans x2);obtain ⟨b0,b1,b2,b3⟩:=HC.out.box.ext X2.out (by omega);obtain ⟨e0,e1,e2,e3⟩:=HC.out.box'.ext X2.out (by omega);clear x2 Gw X1;have Xw:IntKind.i64.wrap ((p.cs.length:Int)+(q.cs.length:Int))=(p.cs.length:Int)+(q.cs.length:Int):=by rw [IntKind.wrap_i64]; omega
 have ajb:IntKind.i64.wrap ((p.cs.length:Int)+(q.cs.length:Int) - 1)=((p.cs.length+q.cs.length - 1:Nat):Int):=by rw [IntKind.wrap_i64]; omega
 obtain ⟨V,cu,eH,xW,ae⟩:=jbo ((p.cs.length+q.cs.length - 1:Nat):Int) (by omega) (by omega) w2;rw [Int.toNat_natCast] at cu ae;have dF:=hid ae;have XV:=hid (X2.out.trans eH);have HMK:=hid cu;clear ae eH;have DW:=hid (ja7 q.cs B d (PX.out.ext (ax.out.trans (HC.out.ext.trans XV.out))) (by omega));have akL:=XV.out.size;obtain ⟨f0,f1,f2,f3⟩:=HC.out.box'.ext XV.out (by omega);go_upto_region 16 with fail;clear cu HMK b0 b1 b2 b3 e0 e1 e2 e3;go_wp2_with fail;clear f0 f1 f2 f3;refine DW.out.mono ?_;rintro e w3 ⟨v3,rfl,yQ,x3⟩;have En:=x3.size;obtain ⟨GB,cb,rfl,-,-⟩:=yQ.len;have Jw:=hid yQ;have X3:=hid (XV.out.trans x3);have Wi:=hid (ja7 p.cs A c (rP.out.ext (ax.out.trans (HC.out.ext.trans X3.out))) (by omega));obtain ⟨b0,b1,b2,b3⟩:=HC.out.box.ext X3.out (by omega);have VX:=hid (fun lo hlo=>(dF.out lo hlo).ext x3);clear yQ x3 DW dF;go_wp2_with fail;clear b0 b1 b2 b3;refine Wi.out.mono ?_;rintro e w4 ⟨v4,rfl,Ic,x4⟩;have XL:=x4.size;obtain ⟨GA,ca,rfl,-,-⟩:=Ic.len;have GV:=hid Ic;have aec:=hid (jr.ext Jw.out x4);have X4:=hid (X3.out.trans x4);have VW:=hid ((VX.out w4.heap.size (by omega)).ext x4);clear Ic x4 Wi Jw VX;obtain ⟨N,hN⟩:=n_m (p.cs.length+q.cs.length - 1);have ak0:N<=1801:=by omega
 rw [hN] at VW ⊢;have LY:=xaw p.cs p.cs.length;have xQ:=xaw q.cs q.cs.length;have aeN:Hid (∀ i ∈ prs p.cs p.cs.length,i < p.cs.length):=hid (fun i hi=>gca hi);have aeI:Hid (∀ i ∈ prs q.cs q.cs.length,i < q.cs.length):=hid (fun i hi=>gca hi);have Ee:=hid (fun k=>yb4 HP.out HQ.out h0 (by have:=yL.out; omega) FK.1 OO.1 k);have qZ:=hid hN;clear hN;generalize prs p.cs p.cs.length=a at *;generalize prs q.cs q.cs.length=b at *;go_wp2_with fail
 go_loopw [87] (fun iv wr=>∃ x:Nat,x<=a.length/\iv=.int .i64 x/\Hid ((∃ Own,zx w4.heap.size wr w2.heap.size ((List.range N).map fun k=>qo p.cs q.cs (gp (a.take x) b) k) Own)/\Ext W wr/\w4.heap.size<=wr.heap.size/\∀ g,g ≠ w2.heap.size->g < w4.heap.size->wr.heap[g]?=w4.heap[g]?)) (fun iv _=>a.length - (intOf iv).toNat)
 case atStart=>exact ⟨0,Nat.zero_le _,rfl,⟨⟨_,by
   have h1:=VW.out;rw [show List.replicate N ([]:List Pl)=(List.range N).map fun k=>qo p.cs q.cs (gp (a.take 0) b) k by
    rw [List.take_zero]
    simp [gp,qo,List.map_const']] at h1
   exact h1⟩,X4.out,Nat.le_refl _,fun _ _ _=>rfl⟩⟩
 case round =>
  obtain ⟨x,hx,rfl,⟨⟨Own,aP⟩,iQ,oK,jK⟩⟩:=hrel;have Wj:=hid aP;have yD:=hid iQ;have HKE:=hid jK;clear aP iQ jK;obtain ⟨w5,rfl⟩:∃ w5,w5=wr:=⟨wr,rfl⟩
  by_cases af:x < a.length
  · obtain ⟨ga,ca',e,Ua,Lh,FV⟩:=kag.at_ GV.out x af;injection e with e1 e2 e3
    subst e1 e3;have TZ:w5.cell? ⟨ga,x,none⟩=some (.int .i64 a[x]):=(World.cell?_of_block (a:=⟨ga,x,none⟩) (HKE.out ga (by omega) Lh)).trans FV;have TT:ga < w5.heap.size:=by omega
    have vY:a[x] < p.cs.length:=aeN.out _ (List.getElem_mem af);have oz:Hid (gp (a.take (x+1)) b=gp (a.take x) b ++ b.map fun j=>(a[x],j)):=hid (by
     unfold gp;rw [List.take_succ_eq_append_getElem af,List.flatMap_append]
     simp)
    clear FV;generalize a[x]=i at *;go_wp2_with fail
    go_loopw [93] (fun iv wr=>∃ y:Nat,y<=b.length/\iv=.int .i64 y/\Hid ((∃ Own,zx w4.heap.size wr w2.heap.size ((List.range N).map fun k=>qo p.cs q.cs (gp (a.take x) b ++ (b.take y).map fun j=>(i,j)) k) Own)/\Ext W wr/\w4.heap.size<=wr.heap.size/\∀ g,g ≠ w2.heap.size->g < w4.heap.size->wr.heap[g]?=w4.heap[g]?)) (fun iv _=>b.length - (intOf iv).toNat)
    case atStart=>exact ⟨0,Nat.zero_le _,rfl,⟨⟨_,by rw [List.take_zero,List.map_nil,List.append_nil]; exact Wj.out⟩,yD.out,oK,HKE.out⟩⟩
    case round =>
     obtain ⟨y,hy,rfl,⟨⟨Own2,aP⟩,iQ,mV,jK⟩⟩:=hrel;have DW:=hid aP;have VJ:=hid iQ;have NP:=hid jK;clear aP iQ jK
     by_cases CY:y < b.length
     · obtain ⟨gb,cb',e,Dh,Le,FV⟩:=kag.at_ (l:=b) aec.out y CY;injection e with e1 e2 e3
       subst e1 e3;have TY:wr.cell? ⟨gb,y,none⟩=some (.int .i64 b[y]):=(World.cell?_of_block (a:=⟨gb,y,none⟩) (NP.out gb (by omega) Le)).trans FV;have IJ:gb < wr.heap.size:=by omega
       have zJ:b[y] < q.cs.length:=aeI.out _ (List.getElem_mem CY);have VR:Hid ((b.take (y+1)).map (fun j=>(i,j))=(b.take y).map (fun j=>(i,j)) ++ [(i,b[y])]):=hid (by
        rw [List.take_succ_eq_append_getElem CY,List.map_append]
        rfl)
       clear FV;generalize b[y]=j at *;go_upto_region 23 with fail
       go_cut [98] from 97 to 98 (fun s wx=>∃ bb,s=.bool bb/\Hid (Ext wr wx))
       case first =>
        go_region_with (fail)
        all_goals
         go_wp2_with fail
         go_meet
         exact ⟨_,rfl,hid ((Ext.refl wr).alloc _).drew⟩
       case rest =>
        obtain ⟨bb,rfl,QH⟩:=hcut;have Hw:Ext wr wc:=QH.out;have VK:=hid (VJ.out.trans Hw);have QL:=Hw.size;have WJ:Hid (∀ g,g ≠ w2.heap.size->g < w4.heap.size->wc.heap[g]?=w4.heap[g]?):=hid (fun g h1 h2=>(Hw.below.block g (by omega)).trans (NP.out g h1 h2));have Fj:=DW.out.ext Hw;have FN:i+j < N:=by have:=qZ.out; omega
        have TM:IntKind.i64.wrap ((i:Int)+(j:Int))=((i+j:Nat):Int):=by rw [IntKind.wrap_i64]; omega
        obtain ⟨ls,sS⟩:=n_m (((List.range N).map fun k=>qo p.cs q.cs (gp (a.take x) b ++ (b.take y).map fun j=>(i,j)) k));have vP:ls.length=N:=by rw [<- sS]; simp
        have KN:∀ (k:Nat) (hk:k < ls.length),ls[k].length<=1000000:=by
         intro k hk;have h1:ls[k]=qo p.cs q.cs (gp (a.take x) b ++ (b.take y).map fun j=>(i,j)) k:=by
          simp only [<- sS,List.getElem_map,List.getElem_range]
         rw [h1];refine Nat.le_trans (wbi _ _ _ _) ?_;rw [List.length_append,jbd,List.length_map,List.length_take,List.length_take];have h2:min x a.length * b.length<=901 * 901:=Nat.mul_le_mul (by omega) (by omega);omega
        have GN:Hid (ls.set (i+j) ((ls[i+j]'(by omega)) ++ [(Pl.at_ p.cs i).mul (Pl.at_ q.cs j)])=(List.range N).map fun k=>qo p.cs q.cs (gp (a.take x) b ++ (b.take (y+1)).map fun j=>(i,j)) k):=hid (by
         rw [VR.out,<- List.append_assoc];apply List.ext_getElem
         · simp [vP]
         · intro k Eu hk2;have h1:k < N:=by simpa using hk2
           rw [List.getElem_set];simp only [<- sS,List.getElem_map,List.getElem_range];rw [xb4]
           by_cases hk:i+j=k
           · rw [if_pos hk,if_pos hk,hk]
           · rw [if_neg hk,if_neg hk])
        rw [sS] at Fj;obtain ⟨PA,pc,ae,aaR,aaQ,-⟩:=Fj.push (by omega) (i+j) (by omega);obtain ⟨ln,kD⟩:=n_m ((ls[i+j]'(by omega)).length);rw [kD] at ae;obtain ⟨fG,P0,JO,JQ,P1,JM,JP,rfl,L6,Su,Tu⟩:=jc.kid rP.out i vY;obtain ⟨fF,Q0,Oq,Ot,Q1,Oo,qc1,rfl,LZ,Sr,Tt⟩:=jc.kid PX.out j zJ;have KD:Pl.at_ p.cs i=p.cs[i]:=by unfold Pl.at_; rw [List.getD_eq_getElem?_getD,List.getElem?_eq_getElem vY]; rfl
        have yS:Pl.at_ q.cs j=q.cs[j]:=by unfold Pl.at_; rw [List.getD_eq_getElem?_getD,List.getElem?_eq_getElem zJ]; rfl
        have EW:Ext w0 wc:=(ax.out.trans HC.out.ext).trans VK.out;have tZ:=hid (fun W' (bJ:Ext wc W')=>IH.out p.cs[i] (List.getElem_mem vY) q.cs[j] (List.getElem_mem zJ) _ _ Tu Tt W' (EW.trans bJ));have Ai:=hid Fj;have aG:Hid (∀ W',Ext wc W'->(W'.cell? ⟨w.heap.size,3,none⟩=some (.slice (some fG) p.cs.length c)/\W'.cell? ⟨w.heap.size+1,3,none⟩=some (.slice (some fF) q.cs.length d)/\W'.cell? ⟨w2.heap.size,i+j,none⟩=some (.slice PA ln pc)/\uo W' (fG.add (i * 4)) p.cs[i] (.slice P0 JO JQ) (.slice P1 JM JP)/\uo W' (fF.add (j * 4)) q.cs[j] (.slice Q0 Oq Ot) (.slice Q1 Oo qc1))):=by
         refine hid ?_;intro W' bJ;have aX:=HC.out.box.ext (VK.out.trans bJ) (by omega);have dA:=HC.out.box'.ext (VK.out.trans bJ) (by omega);exact ⟨aX.2.2.2,dA.2.2.2,(bJ.cell (p:=⟨w2.heap.size,i+j,none⟩) (by show w2.heap.size < _; omega)).trans ae,Su.ext (EW.trans bJ) (by rw [ja]; exact L6),Sr.ext (EW.trans bJ) (by rw [ja]; exact LZ)⟩
        have jE:Hid (∀ (v1:World) (D0 D1:Option Addr) (m0 e0 m1 e1:Nat),Ext wc v1->PlV v1 (fun g=>wc.heap.size<=g) (p.cs[i].mul q.cs[j]) (plV (p.cs[i].mul q.cs[j]) (.slice D0 m0 e0) (.slice D1 m1 e1))->∃ (SB:Option Addr) (sn sd:Nat) (w6:World),(Builtin.append_ #[24,24] 24 #[.slice PA ln pc,.slice (some ⟨v1.heap.size,0,none⟩) 1 1]).run Tryz.prog (v1.alloc (.cells #[.int .i64 (p.cs[i].mul q.cs[j]).lv,.bool (p.cs[i].mul q.cs[j]).neg,.slice D0 m0 e0,.slice D1 m1 e1] 35))=.ok (.slice SB sn sd) w6/\w6.frozen? ⟨w2.heap.size,i+j,none⟩=false/\w6.cell? ⟨w2.heap.size,i+j,none⟩=some (.slice PA ln pc)/\(∀ g,g ≠ w2.heap.size->g < w4.heap.size->w6.heap[g]?=wc.heap[g]?) /\
         ((∃ Own,zx w4.heap.size (w6.setCell ⟨w2.heap.size,i+j,none⟩ (.slice SB sn sd)) w2.heap.size ((List.range N).map fun k=>qo p.cs q.cs (gp (a.take x) b ++ (b.take (y+1)).map fun j=>(i,j)) k) Own)/\Ext W (w6.setCell ⟨w2.heap.size,i+j,none⟩ (.slice SB sn sd))/\w4.heap.size<=(w6.setCell ⟨w2.heap.size,i+j,none⟩ (.slice SB sn sd)).heap.size/\∀ g,g ≠ w2.heap.size->g < w4.heap.size->(w6.setCell ⟨w2.heap.size,i+j,none⟩ (.slice SB sn sd)).heap[g]?=w4.heap[g]?)):=by
         refine hid ?_;intro v1 D0 D1 m0 e0 m1 e1 aY kH;have bU:=aY.size;have mY:=Ai.out.ext aY;obtain ⟨PA',pc',lS,-,-,Ih⟩:=mY.push (by omega) (i+j) (by omega);have gI:=(aY.cell (p:=⟨w2.heap.size,i+j,none⟩) (by show w2.heap.size < _; omega)).trans ae;rw [kD] at lS Ih;rw [gI] at lS;injection lS with lS
         injection lS with h1 h2 h3
         subst h1 h3;have zB:=KN (i+j) (by omega);have KO:ln+1<=1000000000:=by rw [<- kD]; omega
         obtain ⟨B6,d6,w6,MW,aH,k1,k2,k3,-,k5,-,-,k7,k8⟩:=Ih (p.cs[i].mul q.cs[j]) D0 D1 m0 e0 m1 e1 (kH.mono fun g hg=>⟨fun ho=>by have:=(Ai.out.own g ho).2; omega,by omega⟩) KO;refine ⟨_,_,_,w6,aH,k2 _,k3,fun g nD gJ=>(Below.heap_setCell w6 _ _ g nD).symm.trans ((k8 g nD gJ).trans (aY.below.block g (by omega))),⟨MW,?_⟩,k5 W (VK.out.trans aY) (by omega),?_,fun g nD gJ=>(k8 g nD gJ).trans ((aY.below.block g (by omega)).trans (WJ.out g nD gJ))⟩
         · have h9:=GN.out;rw [KD,yS] at h9;rw [<- h9];exact k1
         · have:(w6.setCell ⟨w2.heap.size,i+j,none⟩ (.slice (some ⟨B6,0,none⟩) (ln+1) d6)).heap.size=w6.heap.size:=by simp [World.setCell]
           omega
        have wJ:Hid (∀ (v1:World) (az:Addr) (D0 D1:Option Addr) (m0 e0 m1 e1:Nat),Ext wc v1->uo v1 az Pl.zero (.slice none 0 0) (.slice none 0 0)->PlV v1 (fun g=>wc.heap.size<=g) (p.cs[i].mul q.cs[j]) (plV (p.cs[i].mul q.cs[j]) (.slice D0 m0 e0) (.slice D1 m1 e1))->∃ (B:Nat) (sd:Nat) (w6:World),(Builtin.append_ #[24,24] 24 #[.slice PA ln pc,.slice (some az) 1 1]).run Tryz.prog v1=.ok (.slice (some ⟨B,0,none⟩) (ln+1) sd) w6/\w6.frozen? ⟨w2.heap.size,i+j,none⟩=false/\w6.cell? ⟨w2.heap.size,i+j,none⟩=some (.slice PA ln pc)/\(∀ g,g ≠ w2.heap.size->g < w4.heap.size->w6.heap[g]?=wc.heap[g]?) /\
         (∀ i',(w6.setCell ⟨w2.heap.size,i+j,none⟩ (.slice (some ⟨B,0,none⟩) (ln+1) sd)).frozen? ⟨B,i',none⟩=false) /\
         (∃ u0 u1 u2 u3,(w6.setCell ⟨w2.heap.size,i+j,none⟩ (.slice (some ⟨B,0,none⟩) (ln+1) sd)).cell? ⟨B,ln * 4,none⟩=some u0/\(w6.setCell ⟨w2.heap.size,i+j,none⟩ (.slice (some ⟨B,0,none⟩) (ln+1) sd)).cell? ⟨B,ln * 4+1,none⟩=some u1/\(w6.setCell ⟨w2.heap.size,i+j,none⟩ (.slice (some ⟨B,0,none⟩) (ln+1) sd)).cell? ⟨B,ln * 4+2,none⟩=some u2/\(w6.setCell ⟨w2.heap.size,i+j,none⟩ (.slice (some ⟨B,0,none⟩) (ln+1) sd)).cell? ⟨B,ln * 4+3,none⟩=some u3) /\
         ∀ w8,w8=(((((w6.setCell ⟨w2.heap.size,i+j,none⟩ (.slice (some ⟨B,0,none⟩) (ln+1) sd)).setCell ⟨B,ln * 4,none⟩ (.int .i64 (p.cs[i].mul q.cs[j]).lv)).setCell ⟨B,ln * 4+1,none⟩ (.bool (p.cs[i].mul q.cs[j]).neg)).setCell ⟨B,ln * 4+2,none⟩ (.slice D0 m0 e0)).setCell ⟨B,ln * 4+3,none⟩ (.slice D1 m1 e1)) ->
           ((∃ Own,zx w4.heap.size w8 w2.heap.size ((List.range N).map fun k=>qo p.cs q.cs (gp (a.take x) b ++ (b.take (y+1)).map fun j=>(i,j)) k) Own)/\Ext W w8/\w4.heap.size<=w8.heap.size/\∀ g,g ≠ w2.heap.size->g < w4.heap.size->w8.heap[g]?=w4.heap[g]?)):=by
         refine hid ?_;intro v1 az D0 D1 m0 e0 m1 e1 aY hz kH;have bU:=aY.size;have mY:=Ai.out.ext aY;have gI:=(aY.cell (p:=⟨w2.heap.size,i+j,none⟩) (by show w2.heap.size < _; omega)).trans ae;have zB:=KN (i+j) (by omega);have KO:ln+1<=1000000000:=by rw [<- kD]; omega
         obtain ⟨B6,d6,w6,MW,aH,k1,k2,k3,k4,k5,k6,k7⟩:=mY.pushSet (by omega) (i+j) (by omega) gI kD az (p.cs[i].mul q.cs[j]) D0 D1 m0 e0 m1 e1 hz (kH.mono fun g hg=>⟨fun ho=>by have:=(Ai.out.own g ho).2; omega,by omega⟩) KO;refine ⟨B6,d6,w6,aH,k1 _,k2,fun g nD gJ=>(k3 g nD gJ).trans (aY.below.block g (by omega)),k5,k6,fun w8 Oy=>?_⟩;obtain ⟨n1',n2',Qz,n4'⟩:=k7 w8 Oy;refine ⟨⟨MW,?_⟩,n2' W (VK.out.trans aY) (by omega),by omega,fun g nD gJ=>(n4' g nD gJ).trans ((aY.below.block g (by omega)).trans (WJ.out g nD gJ))⟩;have h9:=GN.out;rw [KD,yS] at h9;rw [<- h9];exact n1'
        have Hm:Hid (∀ W':World,(∀ g,g ≠ w2.heap.size->g < w4.heap.size->W'.heap[g]?=wc.heap[g]?)->(W'.cell? ⟨w.heap.size,3,none⟩=some (.slice (some fG) p.cs.length c)/\W'.cell? ⟨w.heap.size+1,3,none⟩=some (.slice (some fF) q.cs.length d)/\uo W' (fG.add (i * 4)) p.cs[i] (.slice P0 JO JQ) (.slice P1 JM JP)/\uo W' (fF.add (j * 4)) q.cs[j] (.slice Q0 Oq Ot) (.slice Q1 Oo qc1))):=by
         refine hid ?_;intro W' bJ;have aar:=ax.out.size;have ai2:=HC.out.ext.size;obtain ⟨g1,g2,-,g4,g8⟩:=aG.out wc (Ext.refl wc);have kk:∀ (a:Addr),a.block ≠ w2.heap.size->a.block < w4.heap.size->W'.cell? a=wc.cell? a:=fun a h1 h2=>World.cell?_of_block (bJ a.block h1 h2)
         have qA:(fG.add (i * 4)).block=fG.block:=ja _ _;have hqb:(fF.add (j * 4)).block=fF.block:=ja _ _;obtain ⟨p0,p1,p2,p3⟩:=g4;obtain ⟨r0,r1,r2,r3⟩:=g8;refine ⟨(kk _ (by show w.heap.size ≠ _; omega) (by show w.heap.size < _; omega)).trans g1,(kk _ (by show w.heap.size+1 ≠ _; omega) (by show w.heap.size+1 < _; omega)).trans g2,⟨(kk _ (by omega) (by omega)).trans p0,(kk _ (by show (fG.add (i * 4)).block ≠ _; omega) (by show (fG.add (i * 4)).block < _; omega)).trans p1,(kk _ (by show (fG.add (i * 4)).block ≠ _; omega) (by show (fG.add (i * 4)).block < _; omega)).trans p2,(kk _ (by show (fG.add (i * 4)).block ≠ _; omega) (by show (fG.add (i * 4)).block < _; omega)).trans p3⟩,⟨(kk _ (by omega) (by omega)).trans r0,(kk _ (by show (fF.add (j * 4)).block ≠ _; omega) (by show (fF.add (j * 4)).block < _; omega)).trans r1,(kk _ (by show (fF.add (j * 4)).block ≠ _; omega) (by show (fF.add (j * 4)).block < _; omega)).trans r2,(kk _ (by show (fF.add (j * 4)).block ≠ _; omega) (by show (fF.add (j * 4)).block < _; omega)).trans r3⟩⟩
        clear Hw QH Fj Su Tu Sr Tt KD yS EW KN sS VR aaR aaQ;cases bb
        · have NK:=hid (tZ.out wc.drew ((Ext.refl wc).drew));unfold plV at NK;generalize Kz:p.cs[i].mul q.cs[j]=prd at *;obtain ⟨g1,g2,g3,⟨g4,g5,g6,g7⟩,⟨g8,g9,g10,g11⟩⟩:=aG.out wc.drew ((Ext.refl wc).drew);generalize Ep:p.cs[i]=pi at *;generalize hqj:q.cs[j]=qj at *;have hR1:(i:Int) < (p.cs.length:Int):=by omega
          have hR2:(j:Int) < (q.cs.length:Int):=by omega
          obtain ⟨r,hr⟩:=n_m (i+j);simp only [hr] at FN TM aG jE g3;have lC:=hid hr;have hrI:(i:Int)+(j:Int)=(r:Int):=by omega
          have hrW:IntKind.i64.wrap (r:Int)=(r:Int):=by rw [IntKind.wrap_i64]; omega
          clear hr ae Ai GN kD;have hR3:(r:Int) < (N:Int):=by omega
          have dG:=hid CY;have yN:=hid Dh;have JI:=hid mV;clear Ep hqj Kz TZ TY e2 af hx oK Ua Lh TT IJ vY zJ QL vP L6 LZ mV Dh Le FN;have bK:Hid (∀ W',Ext wc W'->(W'.cell? ⟨w.heap.size,3,none⟩=some (.slice (some fG) p.cs.length c)/\W'.cell? ⟨w.heap.size+1,3,none⟩=some (.slice (some fF) q.cs.length d)/\(W'.cell? (fG.add (i * 4))=some (.int .i64 pi.lv)/\W'.cell? ⟨(fG.add (i * 4)).block,(fG.add (i * 4)).off+1,none⟩=some (.bool pi.neg)/\W'.cell? ⟨(fG.add (i * 4)).block,(fG.add (i * 4)).off+2,none⟩=some (.slice P0 JO JQ)/\W'.cell? ⟨(fG.add (i * 4)).block,(fG.add (i * 4)).off+3,none⟩=some (.slice P1 JM JP))/\(W'.cell? (fF.add (j * 4))=some (.int .i64 qj.lv)/\W'.cell? ⟨(fF.add (j * 4)).block,(fF.add (j * 4)).off+1,none⟩=some (.bool qj.neg)/\W'.cell? ⟨(fF.add (j * 4)).block,(fF.add (j * 4)).off+2,none⟩=some (.slice Q0 Oq Ot)/\W'.cell? ⟨(fF.add (j * 4)).block,(fF.add (j * 4)).off+3,none⟩=some (.slice Q1 Oo qc1)))):=hid (fun W' bJ=>by
           obtain ⟨g1,g2,-,g4,g8⟩:=aG.out W' bJ
           exact ⟨g1,g2,g4,g8⟩)
          have yF:Hid (∀ W',Ext wc W'->W'.cell? ⟨w2.heap.size,r,none⟩=some (.slice PA ln pc)):=hid (fun W' bJ=>(aG.out W' bJ).2.2.1);have Y0:=hid ((Ext.refl wc).drew);clear g1 g2 g3 g4 g5 g6 g7 g8 g9 g10 g11 aG;go_upto_region 26 with fail;refine wp_region_held_drew (S:=fun W'=>W'.cell? ⟨w.heap.size,3,none⟩=some (.slice (some fG) p.cs.length c)/\W'.cell? ⟨w.heap.size+1,3,none⟩=some (.slice (some fF) q.cs.length d)/\(W'.cell? (fG.add (i * 4))=some (.int .i64 pi.lv)/\W'.cell? ⟨(fG.add (i * 4)).block,(fG.add (i * 4)).off+1,none⟩=some (.bool pi.neg)/\W'.cell? ⟨(fG.add (i * 4)).block,(fG.add (i * 4)).off+2,none⟩=some (.slice P0 JO JQ)/\W'.cell? ⟨(fG.add (i * 4)).block,(fG.add (i * 4)).off+3,none⟩=some (.slice P1 JM JP))/\(W'.cell? (fF.add (j * 4))=some (.int .i64 qj.lv)/\W'.cell? ⟨(fF.add (j * 4)).block,(fF.add (j * 4)).off+1,none⟩=some (.bool qj.neg)/\W'.cell? ⟨(fF.add (j * 4)).block,(fF.add (j * 4)).off+2,none⟩=some (.slice Q0 Oq Ot)/\W'.cell? ⟨(fF.add (j * 4)).block,(fF.add (j * 4)).off+3,none⟩=some (.slice Q1 Oo qc1))) (by kernel_rfl) (bK.out _ Y0.out) (fun hHeld=>?_);refine tk 0 ?_;refine tk 1 ?_;refine tk 2 ?_;refine tk 3 ?_;refine tk 4 ?_;refine tk 5 ?_;refine tk 6 ?_;refine tk 7 ?_;refine tk 8 ?_;refine tk 10 ?_;refine tk 11 ?_;refine tk 12 ?_;refine tk 13 ?_;refine tk 14 ?_;refine tk 15 ?_;refine tk 16 ?_;refine tk 17 ?_;refine tk 18 ?_;refine tk 19 ?_;refine r_2 9 20 (fun K hK=>?oA) fun K hK=>?oB
          case' oA =>
           have di:=yF.out _ Y0.out;go_simp;refine k_t hK (bK.out _ Y0.out) fun hHeld=>?_
           clear hK K;clear di;refine r_1 20 fun K hK=>?_
           go_simp
           go_at_call 47
           refine NK.out.mono ?_;rintro e v1 ⟨z1,rfl,m1,x1⟩;have y1:Ext wc v1:=Ext.trans ((Ext.refl wc).drew) x1;obtain ⟨D0,Gs,Gu,D1,Gt,rfl,-⟩:=id m1.open_;unfold plV;refine k_t hK (bK.out _ y1) fun hHeld=>?_
           clear hK K;refine r_1 21 fun K hK=>?_
           go_simp;have y2:=Ext.alloc y1 (.cells #[.int .i64 prd.lv,.bool prd.neg,.slice D0 Gs Gu,.slice D1 prd.cs.length Gt] 35);refine k_t hK (bK.out _ y2) fun hHeld=>?_
           clear hK K
          case' oB =>
           go_simp
           go_at_call 47
           refine NK.out.mono ?_;rintro e v1 ⟨z1,rfl,m1,x1⟩;have y1:Ext wc v1:=Ext.trans ((Ext.refl wc).drew) x1;obtain ⟨D0,Gs,Gu,D1,Gt,rfl,-⟩:=id m1.open_;unfold plV;refine k_t hK (bK.out _ y1) fun hHeld=>?_
           clear hK K;refine r_2 9 21 (fun K hK=>?oC) fun K hK=>?oD
           case' oC =>
            have di:=yF.out _ y1;go_simp;refine k_t hK (bK.out _ y1) fun hHeld=>?_
            clear hK K;clear di;refine r_1 21 fun K hK=>?_
            go_simp;have y2:=Ext.alloc y1 (.cells #[.int .i64 prd.lv,.bool prd.neg,.slice D0 Gs Gu,.slice D1 prd.cs.length Gt] 35);refine k_t hK (bK.out _ y2) fun hHeld=>?_
            clear hK K
           case' oD =>
            go_simp;have y2:=Ext.alloc y1 (.cells #[.int .i64 prd.lv,.bool prd.neg,.slice D0 Gs Gu,.slice D1 prd.cs.length Gt] 35);refine k_t hK (bK.out _ y2) fun hHeld=>?_
            clear hK K;refine r_1 9 fun K hK=>?_
            have di:=yF.out _ y2;go_simp;refine k_t hK (bK.out _ y2) fun hHeld=>?_
            clear hK K;clear di
          all_goals
           obtain ⟨SB,sn,sd,w6,aH,Lm,hc6,vX,aS⟩:=jE.out v1 _ _ _ _ _ _ y1 m1;have bV:=hid aS;have Js:=hid (Hm.out w6 vX);have VV:=hid (Hm.out (w6.setCell ⟨w2.heap.size,r,none⟩ (.slice SB sn sd)) (fun g h1 h2=>(Below.heap_setCell w6 _ _ g h1).trans (vX g h1 h2)));clear aS vX m1 x1 y1 y2 jE NK bK yF;refine r_1 22 fun K hK=>?_
           refine vah rfl (.tmp 134) (.tmp 146) 24 24 rfl _ _ _ _ (by simp [Act.eval,Act.put]) (by simp [Act.eval,Act.put]) aH ?_;refine k_t hK Js.out fun hHeld=>?_
           clear hK K aH Js;refine tk 23 ?_;refine r_1 24 fun K hK=>?_
           go_simp;refine k_t hK VV.out fun hHeld=>?_
           clear hK K VV;refine w_d ?_;clear hc6 Lm;go_wp2_with fail
           go_roundw
           case rel=>exact ⟨y+1,by have:=dG.out; omega,by go_num,bV⟩
           case measure=>simp [intOf]; have:=dG.out; omega
        · unfold plV at tZ;generalize Kz:p.cs[i].mul q.cs[j]=prd at *;generalize Ep:p.cs[i]=pi at *;generalize hqj:q.cs[j]=qj at *;have hR1:(i:Int) < (p.cs.length:Int):=by omega
          have hR2:(j:Int) < (q.cs.length:Int):=by omega
          obtain ⟨r,hr⟩:=n_m (i+j);simp only [hr] at FN TM aG wJ;have lC:=hid hr;have hrI:(i:Int)+(j:Int)=(r:Int):=by omega
          have hrW:IntKind.i64.wrap (r:Int)=(r:Int):=by rw [IntKind.wrap_i64]; omega
          clear hr ae Ai GN kD jE;have hR3:(r:Int) < (N:Int):=by omega
          have ajY:(ln:Int) < ((ln+1:Nat):Int):=by omega
          have dG:=hid CY;have yN:=hid Dh;have JI:=hid mV;clear Ep hqj Kz TZ TY e2 af hx oK Ua Lh TT IJ vY zJ QL vP L6 LZ mV Dh Le FN;have bK:Hid (∀ W',Ext wc W'->(W'.cell? ⟨w.heap.size,3,none⟩=some (.slice (some fG) p.cs.length c)/\W'.cell? ⟨w.heap.size+1,3,none⟩=some (.slice (some fF) q.cs.length d)/\(W'.cell? (fG.add (i * 4))=some (.int .i64 pi.lv)/\W'.cell? ⟨(fG.add (i * 4)).block,(fG.add (i * 4)).off+1,none⟩=some (.bool pi.neg)/\W'.cell? ⟨(fG.add (i * 4)).block,(fG.add (i * 4)).off+2,none⟩=some (.slice P0 JO JQ)/\W'.cell? ⟨(fG.add (i * 4)).block,(fG.add (i * 4)).off+3,none⟩=some (.slice P1 JM JP))/\(W'.cell? (fF.add (j * 4))=some (.int .i64 qj.lv)/\W'.cell? ⟨(fF.add (j * 4)).block,(fF.add (j * 4)).off+1,none⟩=some (.bool qj.neg)/\W'.cell? ⟨(fF.add (j * 4)).block,(fF.add (j * 4)).off+2,none⟩=some (.slice Q0 Oq Ot)/\W'.cell? ⟨(fF.add (j * 4)).block,(fF.add (j * 4)).off+3,none⟩=some (.slice Q1 Oo qc1)))):=hid (fun W' bJ=>by
           obtain ⟨g1,g2,-,g4,g8⟩:=aG.out W' bJ
           exact ⟨g1,g2,g4,g8⟩)
          have yF:Hid (∀ W',Ext wc W'->W'.cell? ⟨w2.heap.size,r,none⟩=some (.slice PA ln pc)):=hid (fun W' bJ=>(aG.out W' bJ).2.2.1);have Y0:=hid ((Ext.refl wc).drew);clear aG;go_upto_region 24 with fail;refine wp_region_held_drew (S:=fun W'=>W'.cell? ⟨w.heap.size,3,none⟩=some (.slice (some fG) p.cs.length c)/\W'.cell? ⟨w.heap.size+1,3,none⟩=some (.slice (some fF) q.cs.length d)/\(W'.cell? (fG.add (i * 4))=some (.int .i64 pi.lv)/\W'.cell? ⟨(fG.add (i * 4)).block,(fG.add (i * 4)).off+1,none⟩=some (.bool pi.neg)/\W'.cell? ⟨(fG.add (i * 4)).block,(fG.add (i * 4)).off+2,none⟩=some (.slice P0 JO JQ)/\W'.cell? ⟨(fG.add (i * 4)).block,(fG.add (i * 4)).off+3,none⟩=some (.slice P1 JM JP))/\(W'.cell? (fF.add (j * 4))=some (.int .i64 qj.lv)/\W'.cell? ⟨(fF.add (j * 4)).block,(fF.add (j * 4)).off+1,none⟩=some (.bool qj.neg)/\W'.cell? ⟨(fF.add (j * 4)).block,(fF.add (j * 4)).off+2,none⟩=some (.slice Q0 Oq Ot)/\W'.cell? ⟨(fF.add (j * 4)).block,(fF.add (j * 4)).off+3,none⟩=some (.slice Q1 Oo qc1))) (by kernel_rfl) (bK.out _ Y0.out) (fun hHeld=>?_);refine tk 0 ?_;refine tk 1 ?_;refine tk 2 ?_;refine tk 3 ?_;refine tk 4 ?_;refine tk 5 ?_;refine tk 6 ?_;refine tk 7 ?_;refine tk 8 ?_;refine tk 10 ?_;refine tk 11 ?_;refine tk 12 ?_;refine tk 13 ?_;refine tk 14 ?_;refine tk 15 ?_;refine tk 16 ?_;refine tk 17 ?_;refine tk 18 ?_;refine tk 19 ?_;refine wpAnyH_ready (rs:=[9,20,22]) (by kernel_rfl) (by simp) ?_;refine AllReadyH.cons rfl (fun K hK=>?z1x9) (AllReadyH.cons rfl (fun K hK=>?z1x20) (AllReadyH.cons rfl (fun K hK=>?z1x22) (AllReadyH.nil)))
          case' z1x9 =>
           have di:=yF.out _ Y0.out;go_simp;refine k_t hK (bK.out _ Y0.out) fun hHeld=>?_
           clear hK K di;refine tk 21 ?_;refine wpAnyH_ready (rs:=[20,22]) (by kernel_rfl) (by simp) ?_;refine AllReadyH.cons rfl (fun K hK=>?z2x20) (AllReadyH.cons rfl (fun K hK=>?z2x22) (AllReadyH.nil))
           case' z2x20 =>
            go_simp
            go_at_call 47
            refine (tZ.out _ Y0.out).mono ?_;rintro e v1 ⟨z1,rfl,m1,x1⟩;have y1:Ext wc v1:=Ext.trans Y0.out x1;obtain ⟨D0,Gs,Gu,D1,Gt,rfl,-⟩:=id m1.open_;unfold plV;refine k_t hK (bK.out _ y1) fun hHeld=>?_
            clear hK K;refine wpAnyH_ready (rs:=[22]) (by kernel_rfl) (by simp) ?_;refine AllReadyH.cons rfl (fun K hK=>?z3x22) (AllReadyH.nil)
            case' z3x22 =>
             go_simp;have y2:=Ext.alloc y1 (.cells #[.int .i64 0,.bool false,.slice none 0 0,.slice none 0 0] 35);refine k_t hK (bK.out _ y2) fun hHeld=>?_
             clear hK K;have yE:=y2;have mE:=(m1.mono (fun g (hg:wc.heap.size<=g)=>hg)).ext ((Ext.refl v1).alloc (.cells #[.int .i64 0,.bool false,.slice none 0 0,.slice none 0 0] 35));have zE:uo (v1.alloc (.cells #[.int .i64 0,.bool false,.slice none 0 0,.slice none 0 0] 35)) ⟨v1.heap.size,0,none⟩ Pl.zero (.slice none 0 0) (.slice none 0 0):=by refine ⟨?_,?_,?_,?_⟩ <;> simp [go_sem,Pl.zero,Pl.lv,Pl.neg]
           case' z2x22 =>
            go_simp;have y2:=Ext.alloc Y0.out (.cells #[.int .i64 0,.bool false,.slice none 0 0,.slice none 0 0] 35);refine k_t hK (bK.out _ y2) fun hHeld=>?_
            clear hK K;refine wpAnyH_ready (rs:=[20]) (by kernel_rfl) (by simp) ?_;refine AllReadyH.cons rfl (fun K hK=>?z4x20) (AllReadyH.nil)
            case' z4x20 =>
             go_simp
             go_at_call 47
             refine (tZ.out _ y2).mono ?_;rintro e v1 ⟨z1,rfl,m1,x1⟩;have y1:Ext wc v1:=Ext.trans y2 x1;obtain ⟨D0,Gs,Gu,D1,Gt,rfl,-⟩:=id m1.open_;unfold plV;refine k_t hK (bK.out _ y1) fun hHeld=>?_
             clear hK K;have yE:=y1;have mE:PlV v1 (fun g=>wc.heap.size<=g) prd _:=m1.mono (fun g hg=>by simp at hg; have hd:wc.drew.heap.size=wc.heap.size:=rfl; omega);have Qo:uo (wc.drew.alloc (.cells #[.int .i64 0,.bool false,.slice none 0 0,.slice none 0 0] 35)) ⟨wc.drew.heap.size,0,none⟩ Pl.zero (.slice none 0 0) (.slice none 0 0):=by refine ⟨?_,?_,?_,?_⟩ <;> simp [go_sem,Pl.zero,Pl.lv,Pl.neg]
             have zE:=Qo.ext x1 (by simp)
          case' z1x20 =>
           go_simp
           go_at_call 47
           refine (tZ.out _ Y0.out).mono ?_;rintro e v1 ⟨z1,rfl,m1,x1⟩;have y1:Ext wc v1:=Ext.trans Y0.out x1;obtain ⟨D0,Gs,Gu,D1,Gt,rfl,-⟩:=id m1.open_;unfold plV;refine k_t hK (bK.out _ y1) fun hHeld=>?_
           clear hK K;refine wpAnyH_ready (rs:=[9,22]) (by kernel_rfl) (by simp) ?_;refine AllReadyH.cons rfl (fun K hK=>?z5x9) (AllReadyH.cons rfl (fun K hK=>?z5x22) (AllReadyH.nil))
           case' z5x9 =>
            have di:=yF.out _ y1;go_simp;refine k_t hK (bK.out _ y1) fun hHeld=>?_
            clear hK K di;refine tk 21 ?_;refine wpAnyH_ready (rs:=[22]) (by kernel_rfl) (by simp) ?_;refine AllReadyH.cons rfl (fun K hK=>?z6x22) (AllReadyH.nil)
            case' z6x22 =>
             go_simp;have y2:=Ext.alloc y1 (.cells #[.int .i64 0,.bool false,.slice none 0 0,.slice none 0 0] 35);refine k_t hK (bK.out _ y2) fun hHeld=>?_
             clear hK K;have yE:=y2;have mE:=(m1.mono (fun g (hg:wc.heap.size<=g)=>hg)).ext ((Ext.refl v1).alloc (.cells #[.int .i64 0,.bool false,.slice none 0 0,.slice none 0 0] 35));have zE:uo (v1.alloc (.cells #[.int .i64 0,.bool false,.slice none 0 0,.slice none 0 0] 35)) ⟨v1.heap.size,0,none⟩ Pl.zero (.slice none 0 0) (.slice none 0 0):=by refine ⟨?_,?_,?_,?_⟩ <;> simp [go_sem,Pl.zero,Pl.lv,Pl.neg]
           case' z5x22 =>
            go_simp;have y2:=Ext.alloc y1 (.cells #[.int .i64 0,.bool false,.slice none 0 0,.slice none 0 0] 35);refine k_t hK (bK.out _ y2) fun hHeld=>?_
            clear hK K;refine wpAnyH_ready (rs:=[9]) (by kernel_rfl) (by simp) ?_;refine AllReadyH.cons rfl (fun K hK=>?z7x9) (AllReadyH.nil)
            case' z7x9 =>
             have di:=yF.out _ y2;go_simp;refine k_t hK (bK.out _ y2) fun hHeld=>?_
             clear hK K di;refine tk 21 ?_;have yE:=y2;have mE:=(m1.mono (fun g (hg:wc.heap.size<=g)=>hg)).ext ((Ext.refl v1).alloc (.cells #[.int .i64 0,.bool false,.slice none 0 0,.slice none 0 0] 35));have zE:uo (v1.alloc (.cells #[.int .i64 0,.bool false,.slice none 0 0,.slice none 0 0] 35)) ⟨v1.heap.size,0,none⟩ Pl.zero (.slice none 0 0) (.slice none 0 0):=by refine ⟨?_,?_,?_,?_⟩ <;> simp [go_sem,Pl.zero,Pl.lv,Pl.neg]
          case' z1x22 =>
           go_simp;have y2:=Ext.alloc Y0.out (.cells #[.int .i64 0,.bool false,.slice none 0 0,.slice none 0 0] 35);refine k_t hK (bK.out _ y2) fun hHeld=>?_
           clear hK K;refine wpAnyH_ready (rs:=[9,20]) (by kernel_rfl) (by simp) ?_;refine AllReadyH.cons rfl (fun K hK=>?z8x9) (AllReadyH.cons rfl (fun K hK=>?z8x20) (AllReadyH.nil))
           case' z8x9 =>
            have di:=yF.out _ y2;have aaI:=yF.out _ ((Ext.refl wc).alloc (.cells #[.int .i64 0,.bool false,.slice none 0 0,.slice none 0 0] 35));have aaH:=yF.out _ (Ext.refl wc);have aaG:=yF.out _ ((Ext.refl wc).alloc (.cells #[.int .i64 0,.bool false,.slice none 0 0,.slice none 0 0] 35)).drew;go_simp;refine k_t hK (bK.out _ y2) fun hHeld=>?_
            clear hK K di aaI aaH aaG;refine tk 21 ?_;refine wpAnyH_ready (rs:=[20]) (by kernel_rfl) (by simp) ?_;refine AllReadyH.cons rfl (fun K hK=>?z9x20) (AllReadyH.nil)
            case' z9x20 =>
             go_simp
             go_at_call 47
             refine (tZ.out _ y2).mono ?_;rintro e v1 ⟨z1,rfl,m1,x1⟩;have y1:Ext wc v1:=Ext.trans y2 x1;obtain ⟨D0,Gs,Gu,D1,Gt,rfl,-⟩:=id m1.open_;unfold plV;refine k_t hK (bK.out _ y1) fun hHeld=>?_
             clear hK K;have yE:=y1;have mE:PlV v1 (fun g=>wc.heap.size<=g) prd _:=m1.mono (fun g hg=>by simp at hg; have hd:wc.drew.heap.size=wc.heap.size:=rfl; omega);have Qo:uo (wc.drew.alloc (.cells #[.int .i64 0,.bool false,.slice none 0 0,.slice none 0 0] 35)) ⟨wc.drew.heap.size,0,none⟩ Pl.zero (.slice none 0 0) (.slice none 0 0):=by refine ⟨?_,?_,?_,?_⟩ <;> simp [go_sem,Pl.zero,Pl.lv,Pl.neg]
             have zE:=Qo.ext x1 (by simp)
           case' z8x20 =>
            go_simp
            go_at_call 47
            refine (tZ.out _ y2).mono ?_;rintro e v1 ⟨z1,rfl,m1,x1⟩;have y1:Ext wc v1:=Ext.trans y2 x1;obtain ⟨D0,Gs,Gu,D1,Gt,rfl,-⟩:=id m1.open_;unfold plV;refine k_t hK (bK.out _ y1) fun hHeld=>?_
            clear hK K;refine wpAnyH_ready (rs:=[9]) (by kernel_rfl) (by simp) ?_;refine AllReadyH.cons rfl (fun K hK=>?z10x9) (AllReadyH.nil)
            case' z10x9 =>
             have di:=yF.out _ y1;go_simp;refine k_t hK (bK.out _ y1) fun hHeld=>?_
             clear hK K di;refine tk 21 ?_;have yE:=y1;have mE:PlV v1 (fun g=>wc.heap.size<=g) prd _:=m1.mono (fun g hg=>by simp at hg; have hd:wc.drew.heap.size=wc.heap.size:=rfl; omega);have Qo:uo (wc.drew.alloc (.cells #[.int .i64 0,.bool false,.slice none 0 0,.slice none 0 0] 35)) ⟨wc.drew.heap.size,0,none⟩ Pl.zero (.slice none 0 0) (.slice none 0 0):=by refine ⟨?_,?_,?_,?_⟩ <;> simp [go_sem,Pl.zero,Pl.lv,Pl.neg]
             have zE:=Qo.ext x1 (by simp)
          all_goals
           obtain ⟨B6,sd,w6,aH,Lm,hc6,vX,Ll,⟨u0,u1,u2,u3,c0,c1,c2,c3⟩,aS⟩:=wJ.out _ _ _ _ _ _ _ _ yE zE mE;have bV:=hid (aS _ rfl);have Js:=hid (Hm.out w6 vX);have VV:=hid (Hm.out (w6.setCell ⟨w2.heap.size,r,none⟩ (.slice (some ⟨B6,0,none⟩) (ln+1) sd)) (fun g h1 h2=>(Below.heap_setCell w6 _ _ g h1).trans (vX g h1 h2)));have Ql:Hid (_/\_/\_/\_/\_):=hid ⟨Ll,c0,c1,c2,c3⟩;clear aS vX m1 x1 y1 y2 yE zE mE wJ tZ bK yF Ll c0 c1 c2 c3;refine r_1 23 fun K hK=>?_
           refine vah rfl (.tmp 108) (.tmp 121) 24 24 rfl _ _ _ _ (by simp [Act.eval,Act.put]) (by simp [Act.eval,Act.put]) aH ?_;refine k_t hK Js.out fun hHeld=>?_
           clear hK K aH Js;refine tk 24 ?_;refine r_1 25 fun K hK=>?_
           go_simp;refine k_t hK VV.out fun hHeld=>?_
           clear hK K VV;refine w_d ?_;clear hc6 Lm;obtain ⟨Ll,c0,c1,c2,c3⟩:=Ql.out;go_wp2_with fail
           go_roundw
           case rel=>exact ⟨y+1,by have:=dG.out; omega,by go_num,bV⟩
           case measure=>simp [intOf]; have:=dG.out; omega
     · have hye:y=b.length:=by omega
       have adU:Hid (∃ Own,zx w4.heap.size wr w2.heap.size ((List.range N).map fun k=>qo p.cs q.cs (gp (a.take (x+1)) b) k) Own):=hid ⟨Own2,by
        have h1:=DW.out;rw [hye,List.take_length,<- oz.out] at h1
        exact h1⟩
       clear hye;go_wp2_with fail
       go_roundw
       case rel=>exact ⟨x+1,by omega,by go_num,⟨adU.out,VJ.out,mV,NP.out⟩⟩
       case measure=>simp [intOf]; omega
  · have EU:x=a.length:=by omega
    obtain ⟨ls,sS⟩:=n_m (((List.range N).map fun k=>qo p.cs q.cs (gp a b) k));have vP:ls.length=N:=by rw [<- sS]; simp
    have HPF:Hid (zx w4.heap.size w5 w2.heap.size ls Own):=hid (by
     have h1:=Wj.out;rw [EU,List.take_length,sS] at h1
     exact h1)
    have WG:Hid (∀ k (hk:k < ls.length),(∀ r ∈ ls[k],r.Can/\r.ex (E+F))/\lnr ls[k] < B32 ^ (D+G)/\ls[k].length<=1000000):=hid (fun k hk=>by
     have h1:ls[k]=qo p.cs q.cs (gp a b) k:=by simp only [<- sS,List.getElem_map,List.getElem_range]
     rw [h1]; exact Ee.out k)
    have Zr:Hid (p.mul q=gaa p.lv (ls.map uy)):=hid (by
     have h1:=BI.out;rw [qZ.out] at h1
     rw [h1,<- sS,List.map_map]; rfl)
    have VN:Hid (w2.heap.size < w5.heap.size):=hid (by omega);clear Wj sS EU Ee BI;obtain ⟨V2,sO,UZ,akO,dH⟩:=uw (N:Int) (by omega) (by omega) w5;rw [Int.toNat_natCast] at sO dH;have qH:=hid (dH (fun g=>w5.heap.size<=g));have VO:=hid UZ;clear dH UZ;go_wp2_with fail;clear sO
    go_loopw [156] (fun iv wr=>∃ k:Nat,k<=N/\iv=.int .i64 k/\Hid ((∃ M:List Pl,M.length=N/\M.take k=(ls.map uy).take k/\xh wr (fun g=>w5.heap.size<=g) w5.heap.size M)/\Ext w5 wr)) (fun iv _=>N - (intOf iv).toNat)
    case atStart=>exact ⟨0,Nat.zero_le _,rfl,⟨⟨_,List.length_replicate,by simp,qH.out⟩,VO.out⟩⟩
    case round =>
     obtain ⟨k,hk,rfl,⟨⟨M,uJ,hMt,ae⟩,Ox⟩⟩:=hrel;have Af:=hid Ox;have aA:=hid ae;have Zt:=hid hMt;have aat:=Ox.size;have gZ:w5.heap.size < wr.heap.size:=ae.1;clear Ox ae hMt qH VO
     by_cases zB:k < N
     · obtain ⟨PV,LM,Ky,-⟩:=HPF.out.row k (by omega);obtain ⟨PA,pc,rfl,mY,vM⟩:=Ky.len;have abT:wr.cell? ⟨w2.heap.size,k,none⟩=some (.slice PA ls[k].length pc):=(Af.out.cell (p:=⟨w2.heap.size,k,none⟩) VN.out).trans LM;obtain ⟨ha1,ha2,ha3⟩:=WG.out k (by omega);have EP:=hid (zb0 (E:=E+F) (D:=D+G) ls[k] PA pc (by omega) (by omega) ha1 ha2 ha3 mY vM (Ky.at_.ext Af.out));have dO:Hid ((M.set k (uy ls[k])).take (k+1)=(ls.map uy).take (k+1)):=hid (by
        have h1:=kad M (ls.map uy) k Zt.out (by omega) (by rw [List.length_map]; omega);rw [List.getElem_map] at h1
        exact h1)
       clear LM Ky ha1 ha2 Zt;generalize uy ls[k]=res at *;generalize ls[k].length=lk at *;have IB:(k:Int) < (N:Int):=by omega
       go_wp2_with fail;clear abT;refine EP.out.mono ?_;rintro e w6 ⟨v6,rfl,p6,x6⟩;obtain ⟨C0,j0,f0,C1,f1,rfl,-⟩:=id p6.open_;have XN:=aA.out.ext x6;obtain ⟨D0,n2,g0,D1,n3,g1,⟨r0,r1,r2,r3⟩,-⟩:=XN.2.2 k (by omega);have bF:=XN.2.1;have dR:=(XN.set_ k (by omega) res (p6.mono fun i hi=>⟨by omega,by omega⟩)).1;simp only at r0 r1 r2 r3;have dN:=hid dR;have X6:=hid (Af.out.trans x6);unfold plV;clear XN dR p6 x6 EP aA;go_wp2_with fail
       go_roundw
       case rel=>exact ⟨k+1,by omega,by go_num,⟨_,by rw [List.length_set]; exact uJ,dO.out,dN.out⟩,(((X6.out.setCell (Nat.le_refl _) _).setCell (Nat.le_refl _) _).setCell (Nat.le_refl _) _).setCell (Nat.le_refl _) _⟩
       case measure=>simp [intOf]; omega
     · have bH:k=N:=by omega
       have Bl:M=ls.map uy:=by
        have h:=Zt.out;rw [bH,show N=(ls.map uy).length by rw [List.length_map,vP],List.take_length,List.length_map,vP,<- uJ,List.take_length] at h;exact h
       have Gl:=yD.out.trans Af.out;have JY:=gbi p.lv (ls.map uy) (some ⟨w5.heap.size,0,none⟩) N (by have h1:=aA.out.fin (Nat.le_refl _); rw [Bl] at h1; exact h1) (by rw [List.length_map]; omega) (by omega);rw [List.length_map,vP] at JY;generalize gaa p.lv (ls.map uy)=res at *;have PN:=hid JY;obtain ⟨b0,b1,b2,b3⟩:=HC.out.box.ext Gl (by omega);have Gv:=hid (HC.out.zero.ext Gl (by omega));have mF:=hid (HC.out.ext.trans Gl);clear JY Gl Bl aA Zt;go_wp2_with fail;clear b0 b1 b2 b3;refine PN.out.mono ?_;rintro e w6 ⟨v6,rfl,p6,x6⟩;obtain ⟨C0,j0,f0,C1,f1,rfl,-⟩:=id p6.open_;have bT:=Gv.out.ext x6 (by omega);have hf:=qf (q:=fun g=>w5.heap.size<=g) (q':=fun i=>w.heap.size<=i) (mF.out.trans x6) (by omega) bT p6 (fun b _ hb=>by have:=VN.out; exact ⟨by omega,by omega⟩);have HF:=hid (qcj Zr.out hf);obtain ⟨⟨z0,z1,z2,z3⟩,zf⟩:=bT;clear hf p6 x6 PN Gv mF;unfold plV;go_wp2_with fail;exact bodyPost_ret (v:=plV res (.slice C0 j0 f0) (.slice C1 res.cs.length f1)) (by simp [results,Tryz.results47,go_sem,z0,z1,z2,z3,plV]) rfl HF.out
end Go.Proofs.YtklnlgnnlmdibaaGreat
