/- Layer 22: recpoly.mul where the levels are the same and not 0. -/
import Derived.Test.YtcepajijiabkmaaGreatMp20
import Derived.Test.YtcepajijiabkmaaGreatMp21
set_option linter.unusedSimpArgs false
set_option linter.unusedVariables false

set_option maxRecDepth 100000
set_option maxHeartbeats 8000000
namespace Go.Proofs.YtcepajijiabkmaaGreat
open Lib (hid)
open Go.RowKit
theorem ucx:(Tryz.prog.info? 31).map (fun i=>(i.zero,i.size,i.bytes))=some (some (.slice none 0 0),1,24):=by kernel_rfl
theorem gbu (n:Int) (h0:0<=n) (h1:n<=1099511627776) (w:World) :
 ∃ w',(Instr.makeSlice 97 (.int .i64 n) (.int .i64 n)).run Tryz.prog w=.ok (.slice (some ⟨w.heap.size,0,none⟩) n.toNat n.toNat) w'/\Ext w w'/\w'.heap.size=w.heap.size+1/\∀ lo,w.heap.size < lo->qx lo w' w.heap.size (List.replicate n.toNat []) (fun _=>False):=by
 obtain ⟨i0,hi,iV,iI,iH⟩:=info_parts ucx;have hc:∀ i,i < n.toNat->(w.alloc (.cells (madeCells (Value.slice none 0 0).cells (n.toNat * i0.size)) 31)).cell? ⟨w.heap.size,i,none⟩=some (.slice none 0 0):=by
  intro i hi;rw [cell_of_row _ _ i _ _ (0,0) (heap_alloc_new w _)];rw [iI];unfold madeCells;rw [Sq,RW,if_pos (by omega)];show some ((#[Value.slice none 0 0]:Array Value)[i % 1]!)=_;rw [Nat.mod_one]
  rfl
 refine ⟨_,run_make w 97 31 i0 _ Tryz.underlying97 hi iV .i64 .i64 n n h0 (by omega) (by rw [iH]; omega) (by omega),(Ext.refl w).alloc _,by simp,fun lo hlo=>⟨by simp,hlo,fun i=>by simp [go_sem],fun b h=>h.elim,fun k hk=>?_,fun j k v u hj hk _ hv hu o ho=>?_⟩⟩
 · rw [p8] at hk;rw [u7];exact ⟨_,hc k hk,jg.nil _ _ _,fun o e=>by cases e⟩
 · rw [p8] at hj;rw [hc j hj] at hv;injection hv with hv
   rw [<- hv] at ho;cases ho
theorem jcu {q:Nat->Prop} {p p':Pl} {w w':World} {e:Ending} (h:p'=p) (hr:uf q p w e w'):uf q p' w e w':=by rw [h]; exact hr
theorem jcw {w0 w : World} {E D F G : Nat} (p q : Pl) (v u : Value) (hp : Fit p E D) (hq : Fit q F G) (hE : E <= 900) (hF : F <= 900) (hD : D + G <= 17592186044000)
 (h:PlV w0 (fun _=>True) p v) (k:PlV w0 (fun _=>True) q u) (hx:Ext w0 w) (heq:p.lv=q.lv) (h0:0 < p.lv)
 (ih:∀ a ∈ p.cs,∀ b ∈ q.cs,∀ x y,PlV w0 (fun _=>True) a x->PlV w0 (fun _=>True) b y->∀ W',Ext w0 W'->Calls Tryz.prog 40 #[x,y] W' (uf (fun i=>W'.heap.size<=i) (a.mul b) W')) :
 Calls Tryz.prog 40 #[v,u] w (uf (fun i=>w.heap.size<=i) (p.mul q) w):=by
 have Bg:=hid (Pl.K9 hp.can hq.can h0 heq);have HP:=hid hp;have HQ:=hid hq;have HH:=hid h;have HK:=hid k;have IH:=hid ih;have ay:=hid hx;have hpz:p.zp=false:=by unfold Pl.zp; rw [show decide (p.lv=0)=false by simp; omega]; rfl
 have hqz:q.zp=false:=by unfold Pl.zp; rw [show decide (q.lv=0)=false by simp; omega]; rfl
 obtain ⟨A0,n0,c0,A,c,rfl,-,dP,dC,pq⟩:=h.open_;obtain ⟨B0,m0,d0,B,d,rfl,-,yY,hk2,hqa⟩:=k.open_;have Ad:=hid pq;have HQA:=hid hqa;have Ff:p.cs.length<=901/\2<=p.cs.length:=by
  obtain ⟨l,n,d,cs⟩:=p;have h1:=hp.len h0;have h2:=(hp.can.kids h0).2.2.1;simp only [Pl.cs];omega
 have Ou:q.cs.length<=901/\2<=q.cs.length:=by
  have Dh:0 < q.lv:=by omega
  obtain ⟨l,n,d,cs⟩:=q;have h1:=hq.len Dh;have h2:=(hq.can.kids Dh).2.2.1;simp only [Pl.cs];omega
 obtain ⟨W,hW⟩:=n_m (((w.alloc (.cells #[.int .i64 p.lv,.bool p.neg,.slice A0 n0 c0,.slice A p.cs.length c] 33)).alloc (.cells #[.int .i64 q.lv,.bool q.neg,.slice B0 m0 d0,.slice B q.cs.length d] 33)).alloc (.cells #[.int .i64 0,.bool false,.slice none 0 0,.slice none 0 0] 33));have hcut:war w p q (.slice A0 n0 c0) (.slice A p.cs.length c) (.slice B0 m0 d0) (.slice B q.cs.length d) W:=by
  rw [<- hW];refine ⟨(((Ext.refl w).alloc _).alloc _).alloc _,by simp,(jb.new w p _ _ _).ext (((Ext.refl _).alloc _).alloc _) (by simp),?_,?_⟩
  · have h1:=jb.new (w.alloc (.cells #[.int .i64 p.lv,.bool p.neg,.slice A0 n0 c0,.slice A p.cs.length c] 33)) q (.slice B0 m0 d0) (.slice B q.cs.length d) 33;have h2:=h1.ext ((Ext.refl _).alloc (.cells #[.int .i64 0,.bool false,.slice none 0 0,.slice none 0 0] 33)) (by simp);simpa using h2
  · have h1:=jf.new ((w.alloc (.cells #[.int .i64 p.lv,.bool p.neg,.slice A0 n0 c0,.slice A p.cs.length c] 33)).alloc (.cells #[.int .i64 q.lv,.bool q.neg,.slice B0 m0 d0,.slice B q.cs.length d] 33)) 33;simpa using h1
 have HC:=hid hcut;have IP:=hid (jae p _ (HH.out.ext (hx.trans hcut.ext)));have FZ:Hid (∀ W',Ext W W'->Calls Tryz.prog 49 #[plV q (.slice B0 m0 d0) (.slice B q.cs.length d)] W' fun e w'=>e=.returned (.bool q.zp)/\Ext W' w'):=by
  have:∀ W',Ext W W'->Calls Tryz.prog 49 #[plV q (.slice B0 m0 d0) (.slice B q.cs.length d)] W' fun e w'=>e=.returned (.bool q.zp)/\Ext W' w':=fun W' iY=>jae q _ (HK.out.ext ((ay.out.trans HC.out.ext).trans iY))
  exact this
 rw [hpz] at IP;rw [hqz] at FZ;have dG:=hcut.size;obtain ⟨b0,b1,b2,b3⟩:=hcut.box;obtain ⟨e0,e1,e2,e3⟩:=hcut.box';have xZ:=hid heq;have aiS:¬ p.lv < q.lv:=by omega
 have lI:¬ q.lv < p.lv:=by omega
 have aiJ:(p.lv == 0)=false:=by simp; omega
 clear hp hq h k hx heq ih hpz hqz pq hqa hcut;unfold plV at IP FZ;unfold plV;go_enter Tryz.func40,Tryz.ntmps40;go_wp2_with fail;clear hW b0 b1 b2 b3 e0 e1 e2 e3;refine IP.out.mono ?_;rintro e w1 ⟨rfl,x1⟩;have bW:=x1.size;have X1:=hid x1;obtain ⟨e0,e1,e2,e3⟩:=HC.out.box'.ext x1 (by omega);clear x1 IP;go_wp2_with fail;clear e0 e1 e2 e3;refine (FZ.out _ X1.out).mono ?_;rintro e w2 ⟨rfl,x2⟩;have jG:=x2.size;have X2:=hid (X1.out.trans x2);obtain ⟨b0,b1,b2,b3⟩:=HC.out.box.ext X2.out (by omega);obtain ⟨e0,e1,e2,e3⟩:=HC.out.box'.ext X2.out (by omega);clear x2 FZ X1;have WR:IntKind.i64.wrap ((p.cs.length:Int)+(q.cs.length:Int))=(p.cs.length:Int)+(q.cs.length:Int):=by rw [rk]; omega
 have ah7:IntKind.i64.wrap ((p.cs.length:Int)+(q.cs.length:Int) - 1)=((p.cs.length+q.cs.length - 1:Nat):Int):=by rw [rk]; omega
 obtain ⟨V,dw,eQ,xG,ae⟩:=gbu ((p.cs.length+q.cs.length - 1:Nat):Int) (by omega) (by omega) w2;rw [sT] at dw ae;have aW:=hid ae;have XV:=hid (X2.out.trans eQ);have HMK:=hid dw;clear ae eQ;have Dw:=hid (gba q.cs B d (HQA.out.ext (ay.out.trans (HC.out.ext.trans XV.out))) (by omega));have ajG:=XV.out.size;obtain ⟨f0,f1,f2,f3⟩:=HC.out.box'.ext XV.out (by omega);go_upto_region 16 with fail;clear dw HMK b0 b1 b2 b3 e0 e1 e2 e3;go_wp2_with fail;clear f0 f1 f2 f3;refine Dw.out.mono ?_;rintro e w3 ⟨v3,rfl,yM,x3⟩;have DY:=x3.size;obtain ⟨GB,cb,rfl,-,-⟩:=yM.len;have Jf:=hid yM;have X3:=hid (XV.out.trans x3);have VE:=hid (gba p.cs A c (Ad.out.ext (ay.out.trans (HC.out.ext.trans X3.out))) (by omega));obtain ⟨b0,b1,b2,b3⟩:=HC.out.box.ext X3.out (by omega);have Vz:=hid (fun lo hlo=>(aW.out lo hlo).ext x3);clear yM x3 Dw aW;go_wp2_with fail;clear b0 b1 b2 b3;refine VE.out.mono ?_;rintro e w4 ⟨v4,rfl,GV,x4⟩;have uA:=x4.size;obtain ⟨GA,ca,rfl,-,-⟩:=GV.len;have Gi:=hid GV;have ade:=hid (yl.ext Jf.out x4);have X4:=hid (X3.out.trans x4);have Vy:=hid ((Vz.out w4.heap.size (by omega)).ext x4);clear GV x4 VE Jf Vz;obtain ⟨N,hN⟩:=n_m (p.cs.length+q.cs.length - 1);have ajV:N<=1801:=by omega
 rw [hN] at Vy ⊢;have Lt:=kaz p.cs p.cs.length;have xA:=kaz q.cs q.cs.length;have adL:Hid (∀ i ∈ prs p.cs p.cs.length,i < p.cs.length):=hid (fun i hi=>wcl hi);have adG:Hid (∀ i ∈ prs q.cs q.cs.length,i < q.cs.length):=hid (fun i hi=>wcl hi);have DU:=hid (fun k=>qce HP.out HQ.out h0 (by have:=xZ.out; omega) Ff.1 Ou.1 k);have qZ:=hid hN;clear hN;generalize prs p.cs p.cs.length=a at *;generalize prs q.cs q.cs.length=b at *;go_wp2_with fail
 go_loopw [87] (fun iv wr=>∃ x:Nat,x<=a.length/\iv=.int .i64 x/\Hid ((∃ Own,qx w4.heap.size wr w2.heap.size ((List.range N).map fun k=>zo p.cs q.cs (zq (a.take x) b) k) Own)/\Ext W wr/\w4.heap.size<=wr.heap.size/\∀ g,g ≠ w2.heap.size->g < w4.heap.size->wr.heap[g]?=w4.heap[g]?)) (fun iv _=>a.length - (intOf iv).toNat)
 case atStart=>exact ⟨0,pS _,rfl,⟨⟨_,by
   have h1:=Vy.out;rw [show List.replicate N ([]:List Pl)=(List.range N).map fun k=>zo p.cs q.cs (zq (a.take 0) b) k by
    rw [s9]
    simp [zq,zo,List.map_const']] at h1
   exact h1⟩,X4.out,pj _,fun _ _ _=>rfl⟩⟩
 case round =>
  obtain ⟨x,hx,rfl,⟨⟨Own,aT⟩,iR,oz,jR⟩⟩:=hrel;have VF:=hid aT;have Dl:=hid iR;have HKE:=hid jR;clear aT iR jR;obtain ⟨w5,rfl⟩:∃ w5,w5=wr:=⟨wr,rfl⟩
  by_cases af:x < a.length
  · obtain ⟨ga,ca',e,Tz,KI,Fq⟩:=xah.at_ Gi.out x af;injection e with e1 e2 e3
    subst e1 e3;have Tv:w5.cell? ⟨ga,x,none⟩=some (.int .i64 a[x]):=(pB (a:=⟨ga,x,none⟩) (HKE.out ga (by omega) KI)).trans Fq;have Tj:ga < w5.heap.size:=by omega
    have vP:a[x] < p.cs.length:=adL.out _ (pt af);have xO:Hid (zq (a.take (x+1)) b=zq (a.take x) b ++ b.map fun j=>(a[x],j)):=hid (by
     unfold zq;rw [pC af,S8]
     simp)
    clear Fq;generalize a[x]=i at *;go_wp2_with fail
    go_loopw [93] (fun iv wr=>∃ y:Nat,y<=b.length/\iv=.int .i64 y/\Hid ((∃ Own,qx w4.heap.size wr w2.heap.size ((List.range N).map fun k=>zo p.cs q.cs (zq (a.take x) b ++ (b.take y).map fun j=>(i,j)) k) Own)/\Ext W wr/\w4.heap.size<=wr.heap.size/\∀ g,g ≠ w2.heap.size->g < w4.heap.size->wr.heap[g]?=w4.heap[g]?)) (fun iv _=>b.length - (intOf iv).toNat)
    case atStart=>exact ⟨0,pS _,rfl,⟨⟨_,by rw [s9,SP,si]; exact VF.out⟩,Dl.out,oz,HKE.out⟩⟩
    case round =>
     obtain ⟨y,hy,rfl,⟨⟨Own2,aT⟩,iR,mM,jR⟩⟩:=hrel;have Dw:=hid aT;have Vg:=hid iR;have Nq:=hid jR;clear aT iR jR
     by_cases Cj:y < b.length
     · obtain ⟨gb,cb',e,CG,KH,Fq⟩:=xah.at_ (l:=b) ade.out y Cj;injection e with e1 e2 e3
       subst e1 e3;have Tu:wr.cell? ⟨gb,y,none⟩=some (.int .i64 b[y]):=(pB (a:=⟨gb,y,none⟩) (Nq.out gb (by omega) KH)).trans Fq;have Ia:gb < wr.heap.size:=by omega
       have zD:b[y] < q.cs.length:=adG.out _ (pt Cj);have Vp:Hid ((b.take (y+1)).map (fun j=>(i,j))=(b.take y).map (fun j=>(i,j)) ++ [(i,b[y])]):=hid (by
        rw [pC Cj,ux]
        rfl)
       clear Fq;generalize b[y]=j at *;go_upto_region 23 with fail
       go_cut [98] from 97 to 98 (fun s wx=>∃ bb,s=.bool bb/\Hid (Ext wr wx))
       case first =>
        go_region_with (fail)
        all_goals
         go_wp2_with fail
         go_meet
         exact ⟨_,rfl,hid ((Ext.refl wr).alloc _).drew⟩
       case rest =>
        obtain ⟨bb,rfl,Qm⟩:=hcut;have AO:Ext wr wc:=Qm.out;have Vh:=hid (Vg.out.trans AO);have Qq:=AO.size;have VV:Hid (∀ g,g ≠ w2.heap.size->g < w4.heap.size->wc.heap[g]?=w4.heap[g]?):=hid (fun g h1 h2=>(AO.below.block g (by omega)).trans (Nq.out g h1 h2));have ET:=Dw.out.ext AO;have Fh:i+j < N:=by have:=qZ.out; omega
        have SX:IntKind.i64.wrap ((i:Int)+(j:Int))=((i+j:Nat):Int):=by rw [rk]; omega
        obtain ⟨ls,sH⟩:=n_m (((List.range N).map fun k=>zo p.cs q.cs (zq (a.take x) b ++ (b.take y).map fun j=>(i,j)) k));have vJ:ls.length=N:=by rw [<- sH]; simp
        have Kt:∀ (k:Nat) (hk:k < ls.length),ls[k].length<=1000000:=by
         intro k hk;have h1:ls[k]=zo p.cs q.cs (zq (a.take x) b ++ (b.take y).map fun j=>(i,j)) k:=by
          simp only [<- sH,rK,tF]
         rw [h1];refine py (kbo _ _ _ _) ?_;rw [ra,ybi,px,pA,pA];have h2:min x a.length * b.length<=901 * 901:=Re (by omega) (by omega);omega
        have Gh:Hid (ls.set (i+j) ((ls[i+j]'(by omega)) ++ [(Pl.at_ p.cs i).mul (Pl.at_ q.cs j)])=(List.range N).map fun k=>zo p.cs q.cs (zq (a.take x) b ++ (b.take (y+1)).map fun j=>(i,j)) k):=hid (by
         rw [Vp.out,<- List.append_assoc];apply sR
         · simp [vJ]
         · intro k yY hk2;have h1:k < N:=by simpa using hk2
           rw [List.getElem_set];simp only [<- sH,rK,tF];rw [jce]
           by_cases hk:i+j=k
           · rw [if_pos hk,if_pos hk,hk]
           · rw [if_neg hk,if_neg hk])
        rw [sH] at ET;obtain ⟨PA,pc,ae,Z7,Z5,-⟩:=ET.push (by omega) (i+j) (by omega);obtain ⟨ln,jQ⟩:=n_m ((ls[i+j]'(by omega)).length);rw [jQ] at ae;obtain ⟨fE,P0,Jy,JA,P1,Jw,Jz,rfl,LC,Rz,SG⟩:=jd.ym Ad.out i vP;obtain ⟨fD,Q0,NW,NZ,Q1,NV,qc1,rfl,Lu,Ry,SE⟩:=jd.ym HQA.out j zD;have yP:Pl.at_ p.cs i=p.cs[i]:=by unfold Pl.at_; rw [pr,po vP]; rfl
        have yO:Pl.at_ q.cs j=q.cs[j]:=by unfold Pl.at_; rw [pr,po zD]; rfl
        have EJ:Ext w0 wc:=(ay.out.trans HC.out.ext).trans Vh.out;have tV:=hid (fun W' (bJ:Ext wc W')=>IH.out p.cs[i] (pt vP) q.cs[j] (pt zD) _ _ SG SE W' (EJ.trans bJ));have Ac:=hid ET;have aH:Hid (∀ W',Ext wc W'->(W'.cell? ⟨w.heap.size,3,none⟩=some (.slice (some fE) p.cs.length c)/\W'.cell? ⟨w.heap.size+1,3,none⟩=some (.slice (some fD) q.cs.length d)/\W'.cell? ⟨w2.heap.size,i+j,none⟩=some (.slice PA ln pc)/\zx W' (fE.add (i * 4)) p.cs[i] (.slice P0 Jy JA) (.slice P1 Jw Jz)/\zx W' (fD.add (j * 4)) q.cs[j] (.slice Q0 NW NZ) (.slice Q1 NV qc1))):=by
         refine hid ?_;intro W' bJ;have bF:=HC.out.box.ext (Vh.out.trans bJ) (by omega);have dE:=HC.out.box'.ext (Vh.out.trans bJ) (by omega);exact ⟨bF.2.2.2,dE.2.2.2,(bJ.cell (p:=⟨w2.heap.size,i+j,none⟩) (by show w2.heap.size < _; omega)).trans ae,Rz.ext (EJ.trans bJ) (by rw [ja]; exact LC),Ry.ext (EJ.trans bJ) (by rw [ja]; exact Lu)⟩
        have jF:Hid (∀ (v1:World) (D0 D1:Option Addr) (m0 e0 m1 e1:Nat),Ext wc v1->PlV v1 (fun g=>wc.heap.size<=g) (p.cs[i].mul q.cs[j]) (plV (p.cs[i].mul q.cs[j]) (.slice D0 m0 e0) (.slice D1 m1 e1))->∃ (SB:Option Addr) (sn sd:Nat) (w6:World),(Builtin.append_ #[31,31] 31 #[.slice PA ln pc,.slice (some ⟨v1.heap.size,0,none⟩) 1 1]).run Tryz.prog (v1.alloc (.cells #[.int .i64 (p.cs[i].mul q.cs[j]).lv,.bool (p.cs[i].mul q.cs[j]).neg,.slice D0 m0 e0,.slice D1 m1 e1] 33))=.ok (.slice SB sn sd) w6/\w6.frozen? ⟨w2.heap.size,i+j,none⟩=false/\w6.cell? ⟨w2.heap.size,i+j,none⟩=some (.slice PA ln pc)/\(∀ g,g ≠ w2.heap.size->g < w4.heap.size->w6.heap[g]?=wc.heap[g]?) /\
         ((∃ Own,qx w4.heap.size (w6.setCell ⟨w2.heap.size,i+j,none⟩ (.slice SB sn sd)) w2.heap.size ((List.range N).map fun k=>zo p.cs q.cs (zq (a.take x) b ++ (b.take (y+1)).map fun j=>(i,j)) k) Own)/\Ext W (w6.setCell ⟨w2.heap.size,i+j,none⟩ (.slice SB sn sd))/\w4.heap.size<=(w6.setCell ⟨w2.heap.size,i+j,none⟩ (.slice SB sn sd)).heap.size/\∀ g,g ≠ w2.heap.size->g < w4.heap.size->(w6.setCell ⟨w2.heap.size,i+j,none⟩ (.slice SB sn sd)).heap[g]?=w4.heap[g]?)):=by
         refine hid ?_;intro v1 D0 D1 m0 e0 m1 e1 bD jH;have bW:=bD.size;have pW:=Ac.out.ext bD;obtain ⟨PA',pc',lS,-,-,GY⟩:=pW.push (by omega) (i+j) (by omega);have fJ:=(bD.cell (p:=⟨w2.heap.size,i+j,none⟩) (by show w2.heap.size < _; omega)).trans ae;rw [jQ] at lS GY;rw [fJ] at lS;injection lS with lS
         injection lS with h1 h2 h3
         subst h1 h3;have Cm:=Kt (i+j) (by omega);have Ku:ln+1<=1000000000:=by rw [<- jQ]; omega
         obtain ⟨B6,d6,w6,MI,ak,k1,k2,k3,-,k5,-,-,k7,k8⟩:=GY (p.cs[i].mul q.cs[j]) D0 D1 m0 e0 m1 e1 (jH.mono fun g hg=>⟨fun ho=>by have:=(Ac.out.own g ho).2; omega,by omega⟩) Ku;refine ⟨_,_,_,w6,ak,k2 _,k3,fun g jT dR=>(Below.heap_setCell w6 _ _ g jT).symm.trans ((k8 g jT dR).trans (bD.below.block g (by omega))),⟨MI,?_⟩,k5 W (Vh.out.trans bD) (by omega),?_,fun g jT dR=>(k8 g jT dR).trans ((bD.below.block g (by omega)).trans (VV.out g jT dR))⟩
         · have h9:=Gh.out;rw [yP,yO] at h9;rw [<- h9];exact k1
         · have:(w6.setCell ⟨w2.heap.size,i+j,none⟩ (.slice (some ⟨B6,0,none⟩) (ln+1) d6)).heap.size=w6.heap.size:=by simp [World.setCell]
           omega
        have vW:Hid (∀ (v1:World) (az:Addr) (D0 D1:Option Addr) (m0 e0 m1 e1:Nat),Ext wc v1->zx v1 az Pl.zero (.slice none 0 0) (.slice none 0 0)->PlV v1 (fun g=>wc.heap.size<=g) (p.cs[i].mul q.cs[j]) (plV (p.cs[i].mul q.cs[j]) (.slice D0 m0 e0) (.slice D1 m1 e1))->∃ (B:Nat) (sd:Nat) (w6:World),(Builtin.append_ #[31,31] 31 #[.slice PA ln pc,.slice (some az) 1 1]).run Tryz.prog v1=.ok (.slice (some ⟨B,0,none⟩) (ln+1) sd) w6/\w6.frozen? ⟨w2.heap.size,i+j,none⟩=false/\w6.cell? ⟨w2.heap.size,i+j,none⟩=some (.slice PA ln pc)/\(∀ g,g ≠ w2.heap.size->g < w4.heap.size->w6.heap[g]?=wc.heap[g]?) /\
         (∀ i',(w6.setCell ⟨w2.heap.size,i+j,none⟩ (.slice (some ⟨B,0,none⟩) (ln+1) sd)).frozen? ⟨B,i',none⟩=false) /\
         (∃ u0 u1 u2 u3,(w6.setCell ⟨w2.heap.size,i+j,none⟩ (.slice (some ⟨B,0,none⟩) (ln+1) sd)).cell? ⟨B,ln * 4,none⟩=some u0/\(w6.setCell ⟨w2.heap.size,i+j,none⟩ (.slice (some ⟨B,0,none⟩) (ln+1) sd)).cell? ⟨B,ln * 4+1,none⟩=some u1/\(w6.setCell ⟨w2.heap.size,i+j,none⟩ (.slice (some ⟨B,0,none⟩) (ln+1) sd)).cell? ⟨B,ln * 4+2,none⟩=some u2/\(w6.setCell ⟨w2.heap.size,i+j,none⟩ (.slice (some ⟨B,0,none⟩) (ln+1) sd)).cell? ⟨B,ln * 4+3,none⟩=some u3) /\
         ∀ w8,w8=(((((w6.setCell ⟨w2.heap.size,i+j,none⟩ (.slice (some ⟨B,0,none⟩) (ln+1) sd)).setCell ⟨B,ln * 4,none⟩ (.int .i64 (p.cs[i].mul q.cs[j]).lv)).setCell ⟨B,ln * 4+1,none⟩ (.bool (p.cs[i].mul q.cs[j]).neg)).setCell ⟨B,ln * 4+2,none⟩ (.slice D0 m0 e0)).setCell ⟨B,ln * 4+3,none⟩ (.slice D1 m1 e1)) ->
           ((∃ Own,qx w4.heap.size w8 w2.heap.size ((List.range N).map fun k=>zo p.cs q.cs (zq (a.take x) b ++ (b.take (y+1)).map fun j=>(i,j)) k) Own)/\Ext W w8/\w4.heap.size<=w8.heap.size/\∀ g,g ≠ w2.heap.size->g < w4.heap.size->w8.heap[g]?=w4.heap[g]?)):=by
         refine hid ?_;intro v1 az D0 D1 m0 e0 m1 e1 bD hz jH;have bW:=bD.size;have pW:=Ac.out.ext bD;have fJ:=(bD.cell (p:=⟨w2.heap.size,i+j,none⟩) (by show w2.heap.size < _; omega)).trans ae;have Cm:=Kt (i+j) (by omega);have Ku:ln+1<=1000000000:=by rw [<- jQ]; omega
         obtain ⟨B6,d6,w6,MI,ak,k1,k2,k3,k4,k5,k6,k7⟩:=pW.qaK (by omega) (i+j) (by omega) fJ jQ az (p.cs[i].mul q.cs[j]) D0 D1 m0 e0 m1 e1 hz (jH.mono fun g hg=>⟨fun ho=>by have:=(Ac.out.own g ho).2; omega,by omega⟩) Ku;refine ⟨B6,d6,w6,ak,k1 _,k2,fun g jT dR=>(k3 g jT dR).trans (bD.below.block g (by omega)),k5,k6,fun w8 Oa=>?_⟩;obtain ⟨n1',n2',Qg,n4'⟩:=k7 w8 Oa;refine ⟨⟨MI,?_⟩,n2' W (Vh.out.trans bD) (by omega),by omega,fun g jT dR=>(n4' g jT dR).trans ((bD.below.block g (by omega)).trans (VV.out g jT dR))⟩;have h9:=Gh.out;rw [yP,yO] at h9;rw [<- h9];exact n1'
        have Gu:Hid (∀ W':World,(∀ g,g ≠ w2.heap.size->g < w4.heap.size->W'.heap[g]?=wc.heap[g]?)->(W'.cell? ⟨w.heap.size,3,none⟩=some (.slice (some fE) p.cs.length c)/\W'.cell? ⟨w.heap.size+1,3,none⟩=some (.slice (some fD) q.cs.length d)/\zx W' (fE.add (i * 4)) p.cs[i] (.slice P0 Jy JA) (.slice P1 Jw Jz)/\zx W' (fD.add (j * 4)) q.cs[j] (.slice Q0 NW NZ) (.slice Q1 NV qc1))):=by
         refine hid ?_;intro W' bJ;have Zy:=ay.out.size;have ahY:=HC.out.ext.size;obtain ⟨g1,g2,-,g4,g8⟩:=aH.out wc (Ext.refl wc);have kk:∀ (a:Addr),a.block ≠ w2.heap.size->a.block < w4.heap.size->W'.cell? a=wc.cell? a:=fun a h1 h2=>pB (bJ a.block h1 h2)
         have uZ:(fE.add (i * 4)).block=fE.block:=ja _ _;have hqb:(fD.add (j * 4)).block=fD.block:=ja _ _;obtain ⟨p0,p1,p2,p3⟩:=g4;obtain ⟨r0,r1,r2,r3⟩:=g8;refine ⟨(kk _ (by show w.heap.size ≠ _; omega) (by show w.heap.size < _; omega)).trans g1,(kk _ (by show w.heap.size+1 ≠ _; omega) (by show w.heap.size+1 < _; omega)).trans g2,⟨(kk _ (by omega) (by omega)).trans p0,(kk _ (by show (fE.add (i * 4)).block ≠ _; omega) (by show (fE.add (i * 4)).block < _; omega)).trans p1,(kk _ (by show (fE.add (i * 4)).block ≠ _; omega) (by show (fE.add (i * 4)).block < _; omega)).trans p2,(kk _ (by show (fE.add (i * 4)).block ≠ _; omega) (by show (fE.add (i * 4)).block < _; omega)).trans p3⟩,⟨(kk _ (by omega) (by omega)).trans r0,(kk _ (by show (fD.add (j * 4)).block ≠ _; omega) (by show (fD.add (j * 4)).block < _; omega)).trans r1,(kk _ (by show (fD.add (j * 4)).block ≠ _; omega) (by show (fD.add (j * 4)).block < _; omega)).trans r2,(kk _ (by show (fD.add (j * 4)).block ≠ _; omega) (by show (fD.add (j * 4)).block < _; omega)).trans r3⟩⟩
        clear AO Qm ET Rz SG Ry SE yP yO EJ Kt sH Vp Z7 Z5;cases bb
        · have VP:=hid (tV.out wc.drew ((Ext.refl wc).drew));unfold plV at VP;generalize JZ:p.cs[i].mul q.cs[j]=prd at *;obtain ⟨g1,g2,g3,⟨g4,g5,g6,g7⟩,⟨g8,g9,g10,g11⟩⟩:=aH.out wc.drew ((Ext.refl wc).drew);generalize Oh:p.cs[i]=pi at *;generalize ZX:q.cs[j]=qj at *;have hR1:(i:Int) < (p.cs.length:Int):=by omega
          have hR2:(j:Int) < (q.cs.length:Int):=by omega
          obtain ⟨r,hr⟩:=n_m (i+j);simp only [hr] at Fh SX aH jF g3;have qX:=hid hr;have hrI:(i:Int)+(j:Int)=(r:Int):=by omega
          have hrW:IntKind.i64.wrap (r:Int)=(r:Int):=by rw [rk]; omega
          clear hr ae Ac Gh jQ;have hR3:(r:Int) < (N:Int):=by omega
          have dH:=hid Cj;have yB:=hid CG;have PX:=hid mM;clear Oh ZX JZ Tv Tu e2 af hx oz Tz KI Tj Ia vP zD Qq vJ LC Lu mM CG KH Fh;have aY:Hid (∀ W',Ext wc W'->(W'.cell? ⟨w.heap.size,3,none⟩=some (.slice (some fE) p.cs.length c)/\W'.cell? ⟨w.heap.size+1,3,none⟩=some (.slice (some fD) q.cs.length d)/\(W'.cell? (fE.add (i * 4))=some (.int .i64 pi.lv)/\W'.cell? ⟨(fE.add (i * 4)).block,(fE.add (i * 4)).off+1,none⟩=some (.bool pi.neg)/\W'.cell? ⟨(fE.add (i * 4)).block,(fE.add (i * 4)).off+2,none⟩=some (.slice P0 Jy JA)/\W'.cell? ⟨(fE.add (i * 4)).block,(fE.add (i * 4)).off+3,none⟩=some (.slice P1 Jw Jz))/\(W'.cell? (fD.add (j * 4))=some (.int .i64 qj.lv)/\W'.cell? ⟨(fD.add (j * 4)).block,(fD.add (j * 4)).off+1,none⟩=some (.bool qj.neg)/\W'.cell? ⟨(fD.add (j * 4)).block,(fD.add (j * 4)).off+2,none⟩=some (.slice Q0 NW NZ)/\W'.cell? ⟨(fD.add (j * 4)).block,(fD.add (j * 4)).off+3,none⟩=some (.slice Q1 NV qc1)))):=hid (fun W' bJ=>by
           obtain ⟨g1,g2,-,g4,g8⟩:=aH.out W' bJ
           exact ⟨g1,g2,g4,g8⟩)
          have xR:Hid (∀ W',Ext wc W'->W'.cell? ⟨w2.heap.size,r,none⟩=some (.slice PA ln pc)):=hid (fun W' bJ=>(aH.out W' bJ).2.2.1);have Y0:=hid ((Ext.refl wc).drew);clear g1 g2 g3 g4 g5 g6 g7 g8 g9 g10 g11 aH;go_upto_region 26 with fail;refine wp_region_held_drew (S:=fun W'=>W'.cell? ⟨w.heap.size,3,none⟩=some (.slice (some fE) p.cs.length c)/\W'.cell? ⟨w.heap.size+1,3,none⟩=some (.slice (some fD) q.cs.length d)/\(W'.cell? (fE.add (i * 4))=some (.int .i64 pi.lv)/\W'.cell? ⟨(fE.add (i * 4)).block,(fE.add (i * 4)).off+1,none⟩=some (.bool pi.neg)/\W'.cell? ⟨(fE.add (i * 4)).block,(fE.add (i * 4)).off+2,none⟩=some (.slice P0 Jy JA)/\W'.cell? ⟨(fE.add (i * 4)).block,(fE.add (i * 4)).off+3,none⟩=some (.slice P1 Jw Jz))/\(W'.cell? (fD.add (j * 4))=some (.int .i64 qj.lv)/\W'.cell? ⟨(fD.add (j * 4)).block,(fD.add (j * 4)).off+1,none⟩=some (.bool qj.neg)/\W'.cell? ⟨(fD.add (j * 4)).block,(fD.add (j * 4)).off+2,none⟩=some (.slice Q0 NW NZ)/\W'.cell? ⟨(fD.add (j * 4)).block,(fD.add (j * 4)).off+3,none⟩=some (.slice Q1 NV qc1))) (by kernel_rfl) (aY.out _ Y0.out) (fun hHeld=>?_);refine tk 0 ?_;refine tk 1 ?_;refine tk 2 ?_;refine tk 3 ?_;refine tk 4 ?_;refine tk 5 ?_;refine tk 6 ?_;refine tk 7 ?_;refine tk 8 ?_;refine tk 10 ?_;refine tk 11 ?_;refine tk 12 ?_;refine tk 13 ?_;refine tk 14 ?_;refine tk 15 ?_;refine tk 16 ?_;refine tk 17 ?_;refine tk 18 ?_;refine tk 19 ?_;refine r_2 9 20 (fun K hK=>?oA) fun K hK=>?oB
          case' oA =>
           have dA:=xR.out _ Y0.out;go_simp;refine k_t hK (aY.out _ Y0.out) fun hHeld=>?_
           clear hK K;clear dA;refine r_1 20 fun K hK=>?_
           go_simp
           go_at_call 40
           refine VP.out.mono ?_;rintro e v1 ⟨z1,rfl,m1,x1⟩;have y1:Ext wc v1:=Ext.trans ((Ext.refl wc).drew) x1;obtain ⟨D0,FV,FX,D1,FW,rfl,-⟩:=id m1.open_;unfold plV;refine k_t hK (aY.out _ y1) fun hHeld=>?_
           clear hK K;refine r_1 21 fun K hK=>?_
           go_simp;have y2:=Ext.alloc y1 (.cells #[.int .i64 prd.lv,.bool prd.neg,.slice D0 FV FX,.slice D1 prd.cs.length FW] 33);refine k_t hK (aY.out _ y2) fun hHeld=>?_
           clear hK K
          case' oB =>
           go_simp
           go_at_call 40
           refine VP.out.mono ?_;rintro e v1 ⟨z1,rfl,m1,x1⟩;have y1:Ext wc v1:=Ext.trans ((Ext.refl wc).drew) x1;obtain ⟨D0,FV,FX,D1,FW,rfl,-⟩:=id m1.open_;unfold plV;refine k_t hK (aY.out _ y1) fun hHeld=>?_
           clear hK K;refine r_2 9 21 (fun K hK=>?oC) fun K hK=>?oD
           case' oC =>
            have dA:=xR.out _ y1;go_simp;refine k_t hK (aY.out _ y1) fun hHeld=>?_
            clear hK K;clear dA;refine r_1 21 fun K hK=>?_
            go_simp;have y2:=Ext.alloc y1 (.cells #[.int .i64 prd.lv,.bool prd.neg,.slice D0 FV FX,.slice D1 prd.cs.length FW] 33);refine k_t hK (aY.out _ y2) fun hHeld=>?_
            clear hK K
           case' oD =>
            go_simp;have y2:=Ext.alloc y1 (.cells #[.int .i64 prd.lv,.bool prd.neg,.slice D0 FV FX,.slice D1 prd.cs.length FW] 33);refine k_t hK (aY.out _ y2) fun hHeld=>?_
            clear hK K;refine r_1 9 fun K hK=>?_
            have dA:=xR.out _ y2;go_simp;refine k_t hK (aY.out _ y2) fun hHeld=>?_
            clear hK K;clear dA
          all_goals
           obtain ⟨SB,sn,sd,w6,ak,KO,hc6,vO,aS⟩:=jF.out v1 _ _ _ _ _ _ y1 m1;have bT:=hid aS;have I8:=hid (Gu.out w6 vO);have Vw:=hid (Gu.out (w6.setCell ⟨w2.heap.size,r,none⟩ (.slice SB sn sd)) (fun g h1 h2=>(Below.heap_setCell w6 _ _ g h1).trans (vO g h1 h2)));clear aS vO m1 x1 y1 y2 jF VP aY xR;refine r_1 22 fun K hK=>?_
           refine qai rfl (.tmp 134) (.tmp 146) 31 31 rfl _ _ _ _ (by simp [Act.eval,Act.put]) (by simp [Act.eval,Act.put]) ak ?_;refine k_t hK I8.out fun hHeld=>?_
           clear hK K ak I8;refine tk 23 ?_;refine r_1 24 fun K hK=>?_
           go_simp;refine k_t hK Vw.out fun hHeld=>?_
           clear hK K Vw;refine w_d ?_;clear hc6 KO;go_wp2_with fail
           go_roundw
           case rel=>exact ⟨y+1,by have:=dH.out; omega,by go_num,bT⟩
           case measure=>simp [intOf]; have:=dH.out; omega
        · unfold plV at tV;generalize JZ:p.cs[i].mul q.cs[j]=prd at *;generalize Oh:p.cs[i]=pi at *;generalize ZX:q.cs[j]=qj at *;have hR1:(i:Int) < (p.cs.length:Int):=by omega
          have hR2:(j:Int) < (q.cs.length:Int):=by omega
          obtain ⟨r,hr⟩:=n_m (i+j);simp only [hr] at Fh SX aH vW;have qX:=hid hr;have hrI:(i:Int)+(j:Int)=(r:Int):=by omega
          have hrW:IntKind.i64.wrap (r:Int)=(r:Int):=by rw [rk]; omega
          clear hr ae Ac Gh jQ jF;have hR3:(r:Int) < (N:Int):=by omega
          have aiU:(ln:Int) < ((ln+1:Nat):Int):=by omega
          have dH:=hid Cj;have yB:=hid CG;have PX:=hid mM;clear Oh ZX JZ Tv Tu e2 af hx oz Tz KI Tj Ia vP zD Qq vJ LC Lu mM CG KH Fh;have aY:Hid (∀ W',Ext wc W'->(W'.cell? ⟨w.heap.size,3,none⟩=some (.slice (some fE) p.cs.length c)/\W'.cell? ⟨w.heap.size+1,3,none⟩=some (.slice (some fD) q.cs.length d)/\(W'.cell? (fE.add (i * 4))=some (.int .i64 pi.lv)/\W'.cell? ⟨(fE.add (i * 4)).block,(fE.add (i * 4)).off+1,none⟩=some (.bool pi.neg)/\W'.cell? ⟨(fE.add (i * 4)).block,(fE.add (i * 4)).off+2,none⟩=some (.slice P0 Jy JA)/\W'.cell? ⟨(fE.add (i * 4)).block,(fE.add (i * 4)).off+3,none⟩=some (.slice P1 Jw Jz))/\(W'.cell? (fD.add (j * 4))=some (.int .i64 qj.lv)/\W'.cell? ⟨(fD.add (j * 4)).block,(fD.add (j * 4)).off+1,none⟩=some (.bool qj.neg)/\W'.cell? ⟨(fD.add (j * 4)).block,(fD.add (j * 4)).off+2,none⟩=some (.slice Q0 NW NZ)/\W'.cell? ⟨(fD.add (j * 4)).block,(fD.add (j * 4)).off+3,none⟩=some (.slice Q1 NV qc1)))):=hid (fun W' bJ=>by
           obtain ⟨g1,g2,-,g4,g8⟩:=aH.out W' bJ
           exact ⟨g1,g2,g4,g8⟩)
          have xR:Hid (∀ W',Ext wc W'->W'.cell? ⟨w2.heap.size,r,none⟩=some (.slice PA ln pc)):=hid (fun W' bJ=>(aH.out W' bJ).2.2.1);have Y0:=hid ((Ext.refl wc).drew);clear aH;go_upto_region 24 with fail;refine wp_region_held_drew (S:=fun W'=>W'.cell? ⟨w.heap.size,3,none⟩=some (.slice (some fE) p.cs.length c)/\W'.cell? ⟨w.heap.size+1,3,none⟩=some (.slice (some fD) q.cs.length d)/\(W'.cell? (fE.add (i * 4))=some (.int .i64 pi.lv)/\W'.cell? ⟨(fE.add (i * 4)).block,(fE.add (i * 4)).off+1,none⟩=some (.bool pi.neg)/\W'.cell? ⟨(fE.add (i * 4)).block,(fE.add (i * 4)).off+2,none⟩=some (.slice P0 Jy JA)/\W'.cell? ⟨(fE.add (i * 4)).block,(fE.add (i * 4)).off+3,none⟩=some (.slice P1 Jw Jz))/\(W'.cell? (fD.add (j * 4))=some (.int .i64 qj.lv)/\W'.cell? ⟨(fD.add (j * 4)).block,(fD.add (j * 4)).off+1,none⟩=some (.bool qj.neg)/\W'.cell? ⟨(fD.add (j * 4)).block,(fD.add (j * 4)).off+2,none⟩=some (.slice Q0 NW NZ)/\W'.cell? ⟨(fD.add (j * 4)).block,(fD.add (j * 4)).off+3,none⟩=some (.slice Q1 NV qc1))) (by kernel_rfl) (aY.out _ Y0.out) (fun hHeld=>?_);refine tk 0 ?_;refine tk 1 ?_;refine tk 2 ?_;refine tk 3 ?_;refine tk 4 ?_;refine tk 5 ?_;refine tk 6 ?_;refine tk 7 ?_;refine tk 8 ?_;refine tk 10 ?_;refine tk 11 ?_;refine tk 12 ?_;refine tk 13 ?_;refine tk 14 ?_;refine tk 15 ?_;refine tk 16 ?_;refine tk 17 ?_;refine tk 18 ?_;refine tk 19 ?_;refine wpAnyH_ready (rs:=[9,20,22]) (by kernel_rfl) (by simp) ?_;refine sy rfl (fun K hK=>?z1x9) (sy rfl (fun K hK=>?z1x20) (sy rfl (fun K hK=>?z1x22) (tW)))
          case' z1x9 =>
           have dA:=xR.out _ Y0.out;go_simp;refine k_t hK (aY.out _ Y0.out) fun hHeld=>?_
           clear hK K dA;refine tk 21 ?_;refine wpAnyH_ready (rs:=[20,22]) (by kernel_rfl) (by simp) ?_;refine sy rfl (fun K hK=>?z2x20) (sy rfl (fun K hK=>?z2x22) (tW))
           case' z2x20 =>
            go_simp
            go_at_call 40
            refine (tV.out _ Y0.out).mono ?_;rintro e v1 ⟨z1,rfl,m1,x1⟩;have y1:Ext wc v1:=Ext.trans Y0.out x1;obtain ⟨D0,FV,FX,D1,FW,rfl,-⟩:=id m1.open_;unfold plV;refine k_t hK (aY.out _ y1) fun hHeld=>?_
            clear hK K;refine wpAnyH_ready (rs:=[22]) (by kernel_rfl) (by simp) ?_;refine sy rfl (fun K hK=>?z3x22) (tW)
            case' z3x22 =>
             go_simp;have y2:=Ext.alloc y1 (.cells #[.int .i64 0,.bool false,.slice none 0 0,.slice none 0 0] 33);refine k_t hK (aY.out _ y2) fun hHeld=>?_
             clear hK K;have yE:=y2;have mE:=(m1.mono (fun g (hg:wc.heap.size<=g)=>hg)).ext ((Ext.refl v1).alloc (.cells #[.int .i64 0,.bool false,.slice none 0 0,.slice none 0 0] 33));have zE:zx (v1.alloc (.cells #[.int .i64 0,.bool false,.slice none 0 0,.slice none 0 0] 33)) ⟨v1.heap.size,0,none⟩ Pl.zero (.slice none 0 0) (.slice none 0 0):=by refine ⟨?_,?_,?_,?_⟩ <;> simp [go_sem,Pl.zero,Pl.lv,Pl.neg]
           case' z2x22 =>
            go_simp;have y2:=Ext.alloc Y0.out (.cells #[.int .i64 0,.bool false,.slice none 0 0,.slice none 0 0] 33);refine k_t hK (aY.out _ y2) fun hHeld=>?_
            clear hK K;refine wpAnyH_ready (rs:=[20]) (by kernel_rfl) (by simp) ?_;refine sy rfl (fun K hK=>?z4x20) (tW)
            case' z4x20 =>
             go_simp
             go_at_call 40
             refine (tV.out _ y2).mono ?_;rintro e v1 ⟨z1,rfl,m1,x1⟩;have y1:Ext wc v1:=Ext.trans y2 x1;obtain ⟨D0,FV,FX,D1,FW,rfl,-⟩:=id m1.open_;unfold plV;refine k_t hK (aY.out _ y1) fun hHeld=>?_
             clear hK K;have yE:=y1;have mE:PlV v1 (fun g=>wc.heap.size<=g) prd _:=m1.mono (fun g hg=>by simp at hg; have hd:wc.drew.heap.size=wc.heap.size:=rfl; omega);have PY:zx (wc.drew.alloc (.cells #[.int .i64 0,.bool false,.slice none 0 0,.slice none 0 0] 33)) ⟨wc.drew.heap.size,0,none⟩ Pl.zero (.slice none 0 0) (.slice none 0 0):=by refine ⟨?_,?_,?_,?_⟩ <;> simp [go_sem,Pl.zero,Pl.lv,Pl.neg]
             have zE:=PY.ext x1 (by simp)
          case' z1x20 =>
           go_simp
           go_at_call 40
           refine (tV.out _ Y0.out).mono ?_;rintro e v1 ⟨z1,rfl,m1,x1⟩;have y1:Ext wc v1:=Ext.trans Y0.out x1;obtain ⟨D0,FV,FX,D1,FW,rfl,-⟩:=id m1.open_;unfold plV;refine k_t hK (aY.out _ y1) fun hHeld=>?_
           clear hK K;refine wpAnyH_ready (rs:=[9,22]) (by kernel_rfl) (by simp) ?_;refine sy rfl (fun K hK=>?z5x9) (sy rfl (fun K hK=>?z5x22) (tW))
           case' z5x9 =>
            have dA:=xR.out _ y1;go_simp;refine k_t hK (aY.out _ y1) fun hHeld=>?_
            clear hK K dA;refine tk 21 ?_;refine wpAnyH_ready (rs:=[22]) (by kernel_rfl) (by simp) ?_;refine sy rfl (fun K hK=>?z6x22) (tW)
            case' z6x22 =>
             go_simp;have y2:=Ext.alloc y1 (.cells #[.int .i64 0,.bool false,.slice none 0 0,.slice none 0 0] 33);refine k_t hK (aY.out _ y2) fun hHeld=>?_
             clear hK K;have yE:=y2;have mE:=(m1.mono (fun g (hg:wc.heap.size<=g)=>hg)).ext ((Ext.refl v1).alloc (.cells #[.int .i64 0,.bool false,.slice none 0 0,.slice none 0 0] 33));have zE:zx (v1.alloc (.cells #[.int .i64 0,.bool false,.slice none 0 0,.slice none 0 0] 33)) ⟨v1.heap.size,0,none⟩ Pl.zero (.slice none 0 0) (.slice none 0 0):=by refine ⟨?_,?_,?_,?_⟩ <;> simp [go_sem,Pl.zero,Pl.lv,Pl.neg]
           case' z5x22 =>
            go_simp;have y2:=Ext.alloc y1 (.cells #[.int .i64 0,.bool false,.slice none 0 0,.slice none 0 0] 33);refine k_t hK (aY.out _ y2) fun hHeld=>?_
            clear hK K;refine wpAnyH_ready (rs:=[9]) (by kernel_rfl) (by simp) ?_;refine sy rfl (fun K hK=>?z7x9) (tW)
            case' z7x9 =>
             have dA:=xR.out _ y2;go_simp;refine k_t hK (aY.out _ y2) fun hHeld=>?_
             clear hK K dA;refine tk 21 ?_;have yE:=y2;have mE:=(m1.mono (fun g (hg:wc.heap.size<=g)=>hg)).ext ((Ext.refl v1).alloc (.cells #[.int .i64 0,.bool false,.slice none 0 0,.slice none 0 0] 33));have zE:zx (v1.alloc (.cells #[.int .i64 0,.bool false,.slice none 0 0,.slice none 0 0] 33)) ⟨v1.heap.size,0,none⟩ Pl.zero (.slice none 0 0) (.slice none 0 0):=by refine ⟨?_,?_,?_,?_⟩ <;> simp [go_sem,Pl.zero,Pl.lv,Pl.neg]
          case' z1x22 =>
           go_simp;have y2:=Ext.alloc Y0.out (.cells #[.int .i64 0,.bool false,.slice none 0 0,.slice none 0 0] 33);refine k_t hK (aY.out _ y2) fun hHeld=>?_
           clear hK K;refine wpAnyH_ready (rs:=[9,20]) (by kernel_rfl) (by simp) ?_;refine sy rfl (fun K hK=>?z8x9) (sy rfl (fun K hK=>?z8x20) (tW))
           case' z8x9 =>
            have dA:=xR.out _ y2;have ZR:=xR.out _ ((Ext.refl wc).alloc (.cells #[.int .i64 0,.bool false,.slice none 0 0,.slice none 0 0] 33));have ZQ:=xR.out _ (Ext.refl wc);have ZP:=xR.out _ ((Ext.refl wc).alloc (.cells #[.int .i64 0,.bool false,.slice none 0 0,.slice none 0 0] 33)).drew;go_simp;refine k_t hK (aY.out _ y2) fun hHeld=>?_
            clear hK K dA ZR ZQ ZP;refine tk 21 ?_;refine wpAnyH_ready (rs:=[20]) (by kernel_rfl) (by simp) ?_;refine sy rfl (fun K hK=>?z9x20) (tW)
            case' z9x20 =>
             go_simp
             go_at_call 40
             refine (tV.out _ y2).mono ?_;rintro e v1 ⟨z1,rfl,m1,x1⟩;have y1:Ext wc v1:=Ext.trans y2 x1;obtain ⟨D0,FV,FX,D1,FW,rfl,-⟩:=id m1.open_;unfold plV;refine k_t hK (aY.out _ y1) fun hHeld=>?_
             clear hK K;have yE:=y1;have mE:PlV v1 (fun g=>wc.heap.size<=g) prd _:=m1.mono (fun g hg=>by simp at hg; have hd:wc.drew.heap.size=wc.heap.size:=rfl; omega);have PY:zx (wc.drew.alloc (.cells #[.int .i64 0,.bool false,.slice none 0 0,.slice none 0 0] 33)) ⟨wc.drew.heap.size,0,none⟩ Pl.zero (.slice none 0 0) (.slice none 0 0):=by refine ⟨?_,?_,?_,?_⟩ <;> simp [go_sem,Pl.zero,Pl.lv,Pl.neg]
             have zE:=PY.ext x1 (by simp)
           case' z8x20 =>
            go_simp
            go_at_call 40
            refine (tV.out _ y2).mono ?_;rintro e v1 ⟨z1,rfl,m1,x1⟩;have y1:Ext wc v1:=Ext.trans y2 x1;obtain ⟨D0,FV,FX,D1,FW,rfl,-⟩:=id m1.open_;unfold plV;refine k_t hK (aY.out _ y1) fun hHeld=>?_
            clear hK K;refine wpAnyH_ready (rs:=[9]) (by kernel_rfl) (by simp) ?_;refine sy rfl (fun K hK=>?z10x9) (tW)
            case' z10x9 =>
             have dA:=xR.out _ y1;go_simp;refine k_t hK (aY.out _ y1) fun hHeld=>?_
             clear hK K dA;refine tk 21 ?_;have yE:=y1;have mE:PlV v1 (fun g=>wc.heap.size<=g) prd _:=m1.mono (fun g hg=>by simp at hg; have hd:wc.drew.heap.size=wc.heap.size:=rfl; omega);have PY:zx (wc.drew.alloc (.cells #[.int .i64 0,.bool false,.slice none 0 0,.slice none 0 0] 33)) ⟨wc.drew.heap.size,0,none⟩ Pl.zero (.slice none 0 0) (.slice none 0 0):=by refine ⟨?_,?_,?_,?_⟩ <;> simp [go_sem,Pl.zero,Pl.lv,Pl.neg]
             have zE:=PY.ext x1 (by simp)
          all_goals
           obtain ⟨B6,sd,w6,ak,KO,hc6,vO,KN,⟨u0,u1,u2,u3,c0,c1,c2,c3⟩,aS⟩:=vW.out _ _ _ _ _ _ _ _ yE zE mE;have bT:=hid (aS _ rfl);have I8:=hid (Gu.out w6 vO);have Vw:=hid (Gu.out (w6.setCell ⟨w2.heap.size,r,none⟩ (.slice (some ⟨B6,0,none⟩) (ln+1) sd)) (fun g h1 h2=>(Below.heap_setCell w6 _ _ g h1).trans (vO g h1 h2)));have HCB:Hid (_/\_/\_/\_/\_):=hid ⟨KN,c0,c1,c2,c3⟩;clear aS vO m1 x1 y1 y2 yE zE mE vW tV aY xR KN c0 c1 c2 c3;refine r_1 23 fun K hK=>?_
           refine qai rfl (.tmp 108) (.tmp 121) 31 31 rfl _ _ _ _ (by simp [Act.eval,Act.put]) (by simp [Act.eval,Act.put]) ak ?_;refine k_t hK I8.out fun hHeld=>?_
           clear hK K ak I8;refine tk 24 ?_;refine r_1 25 fun K hK=>?_
           go_simp;refine k_t hK Vw.out fun hHeld=>?_
           clear hK K Vw;refine w_d ?_;clear hc6 KO;obtain ⟨KN,c0,c1,c2,c3⟩:=HCB.out;go_wp2_with fail
           go_roundw
           case rel=>exact ⟨y+1,by have:=dH.out; omega,by go_num,bT⟩
           case measure=>simp [intOf]; have:=dH.out; omega
     · have Zp:y=b.length:=by omega
       have ac3:Hid (∃ Own,qx w4.heap.size wr w2.heap.size ((List.range N).map fun k=>zo p.cs q.cs (zq (a.take (x+1)) b) k) Own):=hid ⟨Own2,by
        have h1:=Dw.out;rw [Zp,pP,<- xO.out] at h1
        exact h1⟩
       clear Zp;go_wp2_with fail
       go_roundw
       case rel=>exact ⟨x+1,by omega,by go_num,⟨ac3.out,Vg.out,mM,Nq.out⟩⟩
       case measure=>simp [intOf]; omega
  · have EH:x=a.length:=by omega
    obtain ⟨ls,sH⟩:=n_m (((List.range N).map fun k=>zo p.cs q.cs (zq a b) k));have vJ:ls.length=N:=by rw [<- sH]; simp
    have Pz:Hid (qx w4.heap.size w5 w2.heap.size ls Own):=hid (by
     have h1:=VF.out;rw [EH,pP,sH] at h1
     exact h1)
    have VS:Hid (∀ k (hk:k < ls.length),(∀ r ∈ ls[k],r.Can/\r.ex (E+F))/\lnr ls[k] < B32 ^ (D+G)/\ls[k].length<=1000000):=hid (fun k hk=>by
     have h1:ls[k]=zo p.cs q.cs (zq a b) k:=by simp only [<- sH,rK,tF]
     rw [h1]; exact DU.out k)
    have YA:Hid (p.mul q=vaa p.lv (ls.map uy)):=hid (by
     have h1:=Bg.out;rw [qZ.out] at h1
     rw [h1,<- sH,wN]; rfl)
    have Vk:Hid (w2.heap.size < w5.heap.size):=hid (by omega);clear VF sH EH DU Bg;obtain ⟨V2,sG,Uy,ajJ,dI⟩:=uw (N:Int) (by omega) (by omega) w5;rw [sT] at sG dI;have Ja:=hid (dI (fun g=>w5.heap.size<=g));have Vl:=hid Uy;clear dI Uy;go_wp2_with fail;clear sG
    go_loopw [156] (fun iv wr=>∃ k:Nat,k<=N/\iv=.int .i64 k/\Hid ((∃ M:List Pl,M.length=N/\M.take k=(ls.map uy).take k/\xh wr (fun g=>w5.heap.size<=g) w5.heap.size M)/\Ext w5 wr)) (fun iv _=>N - (intOf iv).toNat)
    case atStart=>exact ⟨0,pS _,rfl,⟨⟨_,p8,by simp,Ja.out⟩,Vl.out⟩⟩
    case round =>
     obtain ⟨k,hk,rfl,⟨⟨M,Iz,hMt,ae⟩,tZ⟩⟩:=hrel;have Pi:=hid tZ;have aB:=hid ae;have YB:=hid hMt;have ZA:=tZ.size;have gV:w5.heap.size < wr.heap.size:=ae.1;clear tZ ae hMt Ja Vl
     by_cases Cm:k < N
     · obtain ⟨PV,Le,JY,-⟩:=Pz.out.row k (by omega);obtain ⟨PA,pc,rfl,pW,wR⟩:=JY.len;have aa7:wr.cell? ⟨w2.heap.size,k,none⟩=some (.slice PA ls[k].length pc):=(Pi.out.cell (p:=⟨w2.heap.size,k,none⟩) Vk.out).trans Le;obtain ⟨ha1,ha2,ha3⟩:=VS.out k (by omega);have HAD:=hid (xcb (E:=E+F) (D:=D+G) ls[k] PA pc (by omega) (by omega) ha1 ha2 ha3 pW wR (JY.at_.ext Pi.out));have dU:Hid ((M.set k (uy ls[k])).take (k+1)=(ls.map uy).take (k+1)):=hid (by
        have h1:=zae M (ls.map uy) k YB.out (by omega) (by rw [px]; omega);rw [rK] at h1
        exact h1)
       clear Le JY ha1 ha2 YB;generalize uy ls[k]=res at *;generalize ls[k].length=lk at *;have Hy:(k:Int) < (N:Int):=by omega
       go_wp2_with fail;clear aa7;refine HAD.out.mono ?_;rintro e w6 ⟨v6,rfl,p6,x6⟩;obtain ⟨C0,j0,f0,C1,f1,rfl,-⟩:=id p6.open_;have Xc:=aB.out.ext x6;obtain ⟨D0,n2,g0,D1,n3,g1,⟨r0,r1,r2,r3⟩,-⟩:=Xc.2.2 k (by omega);have bG:=Xc.2.1;have dV:=(Xc.xD k (by omega) res (p6.mono fun i hi=>⟨by omega,by omega⟩)).1;simp only at r0 r1 r2 r3;have dS:=hid dV;have X6:=hid (Pi.out.trans x6);unfold plV;clear Xc dV p6 x6 HAD aB;go_wp2_with fail
       go_roundw
       case rel=>exact ⟨k+1,by omega,by go_num,⟨_,by rw [pH]; exact Iz,dU.out,dS.out⟩,(((X6.out.setCell (pj _) _).setCell (pj _) _).setCell (pj _) _).setCell (pj _) _⟩
       case measure=>simp [intOf]; omega
     · have df:k=N:=by omega
       have IB:M=ls.map uy:=by
        have h:=YB.out;rw [df,show N=(ls.map uy).length by rw [px,vJ],pP,px,vJ,<- Iz,pP] at h;exact h
       have FO:=Dl.out.trans Pi.out;have JJ:=qbo p.lv (ls.map uy) (some ⟨w5.heap.size,0,none⟩) N (by have h1:=aB.out.fin (pj _); rw [IB] at h1; exact h1) (by rw [px]; omega) (by omega);rw [px,vJ] at JJ;generalize vaa p.lv (ls.map uy)=res at *;have Pj:=hid JJ;obtain ⟨b0,b1,b2,b3⟩:=HC.out.box.ext FO (by omega);have FY:=hid (HC.out.zero.ext FO (by omega));have nZ:=hid (HC.out.ext.trans FO);clear JJ FO IB aB YB;go_wp2_with fail;clear b0 b1 b2 b3;refine Pj.out.mono ?_;rintro e w6 ⟨v6,rfl,p6,x6⟩;obtain ⟨C0,j0,f0,C1,f1,rfl,-⟩:=id p6.open_;have bM:=FY.out.ext x6 (by omega);have hf:=qf (q:=fun g=>w5.heap.size<=g) (q':=fun i=>w.heap.size<=i) (nZ.out.trans x6) (by omega) bM p6 (fun b _ hb=>by have:=Vk.out; exact ⟨by omega,by omega⟩);have HF:=hid (jcu YA.out hf);obtain ⟨⟨z0,z1,z2,z3⟩,zf⟩:=bM;clear hf p6 x6 Pj FY nZ;unfold plV;go_wp2_with fail;exact bodyPost_ret (v:=plV res (.slice C0 j0 f0) (.slice C1 res.cs.length f1)) (by simp [results,Tryz.results40,go_sem,z0,z1,z2,z3,plV]) rfl HF.out
end Go.Proofs.YtcepajijiabkmaaGreat
