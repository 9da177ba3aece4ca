/- Layer 22: recpoly.mul where the levels are the same and not 0. -/
import Derived.Test.YtcepajijiabkmaaGreatMo20
import Derived.Test.YtcepajijiabkmaaGreatMo21
set_option linter.all false
set_option maxRecDepth 100000
set_option maxHeartbeats 8000000
namespace Go.Proofs.YtcepajijiabkmaaGreat
open Lib (hid)
open Go.RowKit
theorem zc5:(Tryz.prog.info? 31).map (fun i=>(i.zero,i.size,i.bytes))=some (some (.slice none 0 0),1,24):=by kernel_rfl
theorem kby (n:Int) (h0:0<=n) (h1:n<=1099511627776) (w:World) :
 ∃ w',(Instr.makeSlice 97 (.int .i64 n) (.int .i64 n)).run Tryz.prog w=.ok (.slice (some ⟨w.heap.size,0,none⟩) n.toNat n.toNat) w'/\Ext w w'/\w'.heap.size=w.heap.size+1/\∀ lo,w.heap.size < lo->gy lo w' w.heap.size (List.replicate n.toNat []) (fun _=>False):=by
 obtain ⟨i0,hi,iV,iJ,iI⟩:=info_parts zc5;have hc:∀ i,i < n.toNat->(w.alloc (.cells (madeCells (Value.slice none 0 0).cells (n.toNat * i0.size)) 31)).cell? ⟨w.heap.size,i,none⟩=some (.slice none 0 0):=by
  intro i hi;rw [cell_of_row _ _ i _ _ (0,0) (heap_alloc_new w _)];rw [iJ];unfold madeCells;rw [SF,Sc,if_pos (by omega)];show some ((#[Value.slice none 0 0]:Array Value)[i % 1]!)=_;rw [Nat.mod_one]
  rfl
 refine ⟨_,run_make w 97 31 i0 _ Tryz.underlying97 hi iV .i64 .i64 n n h0 (by omega) (by rw [iI]; omega) (by omega),(Ext.refl w).alloc _,by simp,fun lo hlo=>⟨by simp,hlo,fun i=>by simp [go_sem],fun b h=>h.elim,fun k hk=>?_,fun j k v u hj hk _ hv hu o ho=>?_⟩⟩
 · rw [ra] at hk;rw [we];exact ⟨_,hc k hk,xg.nil _ _ _,fun o e=>by cases e⟩
 · rw [ra] at hj;rw [hc j hj] at hv;injection hv with hv
   rw [<- hv] at ho;cases ho
theorem zc0 {q:Nat->Prop} {p p':Pl} {w w':World} {e:Ending} (h:p'=p) (hr:uf q p w e w'):uf q p' w e w':=by rw [h]; exact hr
theorem kc3 {w0 w : World} {E D F G : Nat} (p q : Pl) (v u : Value) (hp : Fit p E D) (hq : Fit q F G) (hE : E <= 900) (hF : F <= 900) (hD : D + G <= 17592186044000)
 (h:PlV w0 (fun _=>True) p v) (k:PlV w0 (fun _=>True) q u) (hx:Ext w0 w) (heq:p.lv=q.lv) (h0:0 < p.lv)
 (ih:∀ a ∈ p.cs,∀ b ∈ q.cs,∀ x y,PlV w0 (fun _=>True) a x->PlV w0 (fun _=>True) b y->∀ W',Ext w0 W'->Calls Tryz.prog 40 #[x,y] W' (uf (fun i=>W'.heap.size<=i) (a.mul b) W')) :
 Calls Tryz.prog 40 #[v,u] w (uf (fun i=>w.heap.size<=i) (p.mul q) w):=by
 have Bc:=hid (Pl.K9 hp.can hq.can h0 heq);have HP:=hid hp;have HQ:=hid hq;have HH:=hid h;have HK:=hid k;have IH:=hid ih;have ay:=hid hx;have hpz:p.zp=false:=by unfold Pl.zp; rw [show decide (p.lv=0)=false by simp; omega]; rfl
 have hqz:q.zp=false:=by unfold Pl.zp; rw [show decide (q.lv=0)=false by simp; omega]; rfl
 obtain ⟨A0,n0,c0,A,c,rfl,-,fC,dK,pz⟩:=h.open_;obtain ⟨B0,m0,d0,B,d,rfl,-,yQ,hk2,hqa⟩:=k.open_;have zX:=hid pz;have HQA:=hid hqa;have Fq:p.cs.length<=901/\2<=p.cs.length:=by
  obtain ⟨l,n,d,cs⟩:=p;have h1:=hp.len h0;have h2:=(hp.can.kids h0).2.2.1;simp only [Pl.cs];omega
 have Oz:q.cs.length<=901/\2<=q.cs.length:=by
  have Df:0 < q.lv:=by omega
  obtain ⟨l,n,d,cs⟩:=q;have h1:=hq.len Df;have h2:=(hq.can.kids Df).2.2.1;simp only [Pl.cs];omega
 obtain ⟨W,hW⟩:=n_m (((w.alloc (.cells #[.int .i64 p.lv,.bool p.neg,.slice A0 n0 c0,.slice A p.cs.length c] 33)).alloc (.cells #[.int .i64 q.lv,.bool q.neg,.slice B0 m0 d0,.slice B q.cs.length d] 33)).alloc (.cells #[.int .i64 0,.bool false,.slice none 0 0,.slice none 0 0] 33));have hcut:xat w p q (.slice A0 n0 c0) (.slice A p.cs.length c) (.slice B0 m0 d0) (.slice B q.cs.length d) W:=by
  rw [<- hW];refine ⟨(((Ext.refl w).alloc _).alloc _).alloc _,by simp,(jb.new w p _ _ _).ext (((Ext.refl _).alloc _).alloc _) (by simp),?_,?_⟩
  · have h1:=jb.new (w.alloc (.cells #[.int .i64 p.lv,.bool p.neg,.slice A0 n0 c0,.slice A p.cs.length c] 33)) q (.slice B0 m0 d0) (.slice B q.cs.length d) 33;have h2:=h1.ext ((Ext.refl _).alloc (.cells #[.int .i64 0,.bool false,.slice none 0 0,.slice none 0 0] 33)) (by simp);simpa using h2
  · have h1:=jf.new ((w.alloc (.cells #[.int .i64 p.lv,.bool p.neg,.slice A0 n0 c0,.slice A p.cs.length c] 33)).alloc (.cells #[.int .i64 q.lv,.bool q.neg,.slice B0 m0 d0,.slice B q.cs.length d] 33)) 33;simpa using h1
 have HC:=hid hcut;have I8:=hid (xaf p _ (HH.out.ext (hx.trans hcut.ext)));have F9:Hid (∀ W',Ext W W'->Calls Tryz.prog 49 #[plV q (.slice B0 m0 d0) (.slice B q.cs.length d)] W' fun e w'=>e=.returned (.bool q.zp)/\Ext W' w'):=by
  have:∀ W',Ext W W'->Calls Tryz.prog 49 #[plV q (.slice B0 m0 d0) (.slice B q.cs.length d)] W' fun e w'=>e=.returned (.bool q.zp)/\Ext W' w':=fun W' iY=>xaf q _ (HK.out.ext ((ay.out.trans HC.out.ext).trans iY))
  exact this
 rw [hpz] at I8;rw [hqz] at F9;have dG:=hcut.size;obtain ⟨b0,b1,b2,b3⟩:=hcut.box;obtain ⟨e0,e1,e2,e3⟩:=hcut.box';have tZ:=hid heq;have ai1:¬ p.lv < q.lv:=by omega
 have lJ:¬ q.lv < p.lv:=by omega
 have aiR:(p.lv == 0)=false:=by simp; omega
 clear hp hq h k hx heq ih hpz hqz pz hqa hcut;unfold plV at I8 F9;unfold plV;go_enter Tryz.func40,Tryz.ntmps40;go_wp2_with fail;clear hW b0 b1 b2 b3 e0 e1 e2 e3;refine I8.out.mono ?_;rintro e w1 ⟨rfl,x1⟩;have bW:=x1.size;have X1:=hid x1;obtain ⟨e0,e1,e2,e3⟩:=HC.out.box'.ext x1 (by omega);clear x1 I8;go_wp2_with fail;clear e0 e1 e2 e3;refine (F9.out _ X1.out).mono ?_;rintro e w2 ⟨rfl,x2⟩;have jF:=x2.size;have X2:=hid (X1.out.trans x2);obtain ⟨b0,b1,b2,b3⟩:=HC.out.box.ext X2.out (by omega);obtain ⟨e0,e1,e2,e3⟩:=HC.out.box'.ext X2.out (by omega);clear x2 F9 X1;have Og:IntKind.i64.wrap ((p.cs.length:Int)+(q.cs.length:Int))=(p.cs.length:Int)+(q.cs.length:Int):=by rw [rj]; omega
 have aie:IntKind.i64.wrap ((p.cs.length:Int)+(q.cs.length:Int) - 1)=((p.cs.length+q.cs.length - 1:Nat):Int):=by rw [rj]; omega
 obtain ⟨V,dA,eQ,xB,ae⟩:=kby ((p.cs.length+q.cs.length - 1:Nat):Int) (by omega) (by omega) w2;rw [sX] at dA ae;have aQ:=hid ae;have XV:=hid (X2.out.trans eQ);have HMK:=hid dA;clear ae eQ;have Dx:=hid (zbd q.cs B d (HQA.out.ext (ay.out.trans (HC.out.ext.trans XV.out))) (by omega));have ajO:=XV.out.size;obtain ⟨f0,f1,f2,f3⟩:=HC.out.box'.ext XV.out (by omega);go_upto_region 16 with fail;clear dA HMK b0 b1 b2 b3 e0 e1 e2 e3;go_wp2_with fail;clear f0 f1 f2 f3;refine Dx.out.mono ?_;rintro e w3 ⟨v3,rfl,yK,x3⟩;have Eb:=x3.size;obtain ⟨GB,cb,rfl,-,-⟩:=yK.len;have Jm:=hid yK;have X3:=hid (XV.out.trans x3);have VF:=hid (zbd p.cs A c (zX.out.ext (ay.out.trans (HC.out.ext.trans X3.out))) (by omega));obtain ⟨b0,b1,b2,b3⟩:=HC.out.box.ext X3.out (by omega);have VA:=hid (fun lo hlo=>(aQ.out lo hlo).ext x3);clear yK x3 Dx aQ;go_wp2_with fail;clear b0 b1 b2 b3;refine VF.out.mono ?_;rintro e w4 ⟨v4,rfl,He,x4⟩;have AL:=x4.size;obtain ⟨GA,ca,rfl,-,-⟩:=He.len;have Gp:=hid He;have adg:=hid (jl.ext Jm.out x4);have X4:=hid (X3.out.trans x4);have Vz:=hid ((VA.out w4.heap.size (by omega)).ext x4);clear He x4 VF Jm VA;obtain ⟨N,hN⟩:=n_m (p.cs.length+q.cs.length - 1);have aj3:N<=1801:=by omega
 rw [hN] at Vz ⊢;have LJ:=qa1 p.cs p.cs.length;have wY:=qa1 q.cs q.cs.length;have adQ:Hid (∀ i ∈ prs p.cs p.cs.length,i < p.cs.length):=hid (fun i hi=>wcq hi);have adK:Hid (∀ i ∈ prs q.cs q.cs.length,i < q.cs.length):=hid (fun i hi=>wcq hi);have DX:=hid (fun k=>uci HP.out HQ.out h0 (by have:=tZ.out; omega) Fq.1 Oz.1 k);have qY:=hid hN;clear hN;generalize prs p.cs p.cs.length=a at *;generalize prs q.cs q.cs.length=b at *;go_wp2_with fail
 go_loopw [87] (fun iv wr=>∃ x:Nat,x<=a.length/\iv=.int .i64 x/\Hid ((∃ Own,gy w4.heap.size wr w2.heap.size ((List.range N).map fun k=>jo p.cs q.cs (yt (a.take x) b) k) Own)/\Ext W wr/\w4.heap.size<=wr.heap.size/\∀ g,g ≠ w2.heap.size->g < w4.heap.size->wr.heap[g]?=w4.heap[g]?)) (fun iv _=>a.length - (intOf iv).toNat)
 case atStart=>exact ⟨0,pZ _,rfl,⟨⟨_,by
   have h1:=Vz.out;rw [show List.replicate N ([]:List Pl)=(List.range N).map fun k=>jo p.cs q.cs (yt (a.take 0) b) k by
    rw [td]
    simp [yt,jo,List.map_const']] at h1
   exact h1⟩,X4.out,pj _,fun _ _ _=>rfl⟩⟩
 case round =>
  obtain ⟨x,hx,rfl,⟨⟨Own,aU⟩,iR,oH,jO⟩⟩:=hrel;have VG:=hid aU;have Dk:=hid iR;have HKE:=hid jO;clear aU iR jO;obtain ⟨w5,rfl⟩:∃ w5,w5=wr:=⟨wr,rfl⟩
  by_cases af:x < a.length
  · obtain ⟨ga,ca',e,Tz,KR,FD⟩:=kai.at_ Gp.out x af;injection e with e1 e2 e3
    subst e1 e3;have Tv:w5.cell? ⟨ga,x,none⟩=some (.int .i64 a[x]):=(pB (a:=⟨ga,x,none⟩) (HKE.out ga (by omega) KR)).trans FD;have Tj:ga < w5.heap.size:=by omega
    have vN:a[x] < p.cs.length:=adQ.out _ (pt af);have xM:Hid (yt (a.take (x+1)) b=yt (a.take x) b ++ b.map fun j=>(a[x],j)):=hid (by
     unfold yt;rw [pC af,Th]
     simp)
    clear FD;generalize a[x]=i at *;go_wp2_with fail
    go_loopw [93] (fun iv wr=>∃ y:Nat,y<=b.length/\iv=.int .i64 y/\Hid ((∃ Own,gy w4.heap.size wr w2.heap.size ((List.range N).map fun k=>jo p.cs q.cs (yt (a.take x) b ++ (b.take y).map fun j=>(i,j)) k) Own)/\Ext W wr/\w4.heap.size<=wr.heap.size/\∀ g,g ≠ w2.heap.size->g < w4.heap.size->wr.heap[g]?=w4.heap[g]?)) (fun iv _=>b.length - (intOf iv).toNat)
    case atStart=>exact ⟨0,pZ _,rfl,⟨⟨_,by rw [td,Ss,sq]; exact VG.out⟩,Dk.out,oH,HKE.out⟩⟩
    case round =>
     obtain ⟨y,hy,rfl,⟨⟨Own2,aU⟩,iR,mP,jO⟩⟩:=hrel;have Dx:=hid aU;have Vh:=hid iR;have Nw:=hid jO;clear aU iR jO
     by_cases Cj:y < b.length
     · obtain ⟨gb,cb',e,CG,KQ,FD⟩:=kai.at_ (l:=b) adg.out y Cj;injection e with e1 e2 e3
       subst e1 e3;have Tu:wr.cell? ⟨gb,y,none⟩=some (.int .i64 b[y]):=(pB (a:=⟨gb,y,none⟩) (Nw.out gb (by omega) KQ)).trans FD;have Ij:gb < wr.heap.size:=by omega
       have yZ:b[y] < q.cs.length:=adK.out _ (pt Cj);have Vr:Hid ((b.take (y+1)).map (fun j=>(i,j))=(b.take y).map (fun j=>(i,j)) ++ [(i,b[y])]):=hid (by
        rw [pC Cj,uc]
        rfl)
       clear FD;generalize b[y]=j at *;go_upto_region 23 with fail
       go_cut [98] from 97 to 98 (fun s wx=>∃ bb,s=.bool bb/\Hid (Ext wr wx))
       case first =>
        go_region_with (fail)
        all_goals
         go_wp2_with fail
         go_meet
         exact ⟨_,rfl,hid ((Ext.refl wr).alloc _).drew⟩
       case rest =>
        obtain ⟨bb,rfl,Qn⟩:=hcut;have AA:Ext wr wc:=Qn.out;have Vj:=hid (Vh.out.trans AA);have Qr:=AA.size;have VV:Hid (∀ g,g ≠ w2.heap.size->g < w4.heap.size->wc.heap[g]?=w4.heap[g]?):=hid (fun g h1 h2=>(AA.below.block g (by omega)).trans (Nw.out g h1 h2));have EY:=Dx.out.ext AA;have Fz:i+j < N:=by have:=qY.out; omega
        have SX:IntKind.i64.wrap ((i:Int)+(j:Int))=((i+j:Nat):Int):=by rw [rj]; omega
        obtain ⟨ls,sJ⟩:=n_m (((List.range N).map fun k=>jo p.cs q.cs (yt (a.take x) b ++ (b.take y).map fun j=>(i,j)) k));have vG:ls.length=N:=by rw [<- sJ]; simp
        have KC:∀ (k:Nat) (hk:k < ls.length),ls[k].length<=1000000:=by
         intro k hk;have h1:ls[k]=jo p.cs q.cs (yt (a.take x) b ++ (b.take y).map fun j=>(i,j)) k:=by
          simp only [<- sJ,rN,tI]
         rw [h1];refine py (kbr _ _ _ _) ?_;rw [rh,xbl,pw,pA,pA];have h2:min x a.length * b.length<=901 * 901:=RB (by omega) (by omega);omega
        have Gn:Hid (ls.set (i+j) ((ls[i+j]'(by omega)) ++ [(Pl.at_ p.cs i).mul (Pl.at_ q.cs j)])=(List.range N).map fun k=>jo p.cs q.cs (yt (a.take x) b ++ (b.take (y+1)).map fun j=>(i,j)) k):=hid (by
         rw [Vr.out,<- SZ];apply sT
         · simp [vG]
         · intro k yQ hk2;have h1:k < N:=by simpa using hk2
           rw [List.getElem_set];simp only [<- sJ,rN,tI];rw [gci]
           by_cases hk:i+j=k
           · rw [if_pos hk,if_pos hk,hk]
           · rw [if_neg hk,if_neg hk])
        rw [sJ] at EY;obtain ⟨PA,pc,ae,aad,aac,-⟩:=EY.push (by omega) (i+j) (by omega);obtain ⟨ln,jM⟩:=n_m ((ls[i+j]'(by omega)).length);rw [jM] at ae;obtain ⟨fJ,P0,JE,JG,P1,JD,JF,rfl,LM,RD,SG⟩:=jd.ym zX.out i vN;obtain ⟨fH,Q0,Oa,Ob,Q1,N8,qc1,rfl,LK,Rz,SE⟩:=jd.ym HQA.out j yZ;have Kq:Pl.at_ p.cs i=p.cs[i]:=by unfold Pl.at_; rw [po,pr vN]; rfl
        have J8:Pl.at_ q.cs j=q.cs[j]:=by unfold Pl.at_; rw [po,pr yZ]; rfl
        have EO:Ext w0 wc:=(ay.out.trans HC.out.ext).trans Vj.out;have tX:=hid (fun W' (bJ:Ext wc W')=>IH.out p.cs[i] (pt vN) q.cs[j] (pt yZ) _ _ SG SE W' (EO.trans bJ));have zW:=hid EY;have aH:Hid (∀ W',Ext wc W'->(W'.cell? ⟨w.heap.size,3,none⟩=some (.slice (some fJ) p.cs.length c)/\W'.cell? ⟨w.heap.size+1,3,none⟩=some (.slice (some fH) q.cs.length d)/\W'.cell? ⟨w2.heap.size,i+j,none⟩=some (.slice PA ln pc)/\uy W' (fJ.add (i * 4)) p.cs[i] (.slice P0 JE JG) (.slice P1 JD JF)/\uy W' (fH.add (j * 4)) q.cs[j] (.slice Q0 Oa Ob) (.slice Q1 N8 qc1))):=by
         refine hid ?_;intro W' bJ;have bF:=HC.out.box.ext (Vj.out.trans bJ) (by omega);have dE:=HC.out.box'.ext (Vj.out.trans bJ) (by omega);exact ⟨bF.2.2.2,dE.2.2.2,(bJ.cell (p:=⟨w2.heap.size,i+j,none⟩) (by show w2.heap.size < _; omega)).trans ae,RD.ext (EO.trans bJ) (by rw [ja]; exact LM),Rz.ext (EO.trans bJ) (by rw [ja]; exact LK)⟩
        have jE:Hid (∀ (v1:World) (D0 D1:Option Addr) (m0 e0 m1 e1:Nat),Ext wc v1->PlV v1 (fun g=>wc.heap.size<=g) (p.cs[i].mul q.cs[j]) (plV (p.cs[i].mul q.cs[j]) (.slice D0 m0 e0) (.slice D1 m1 e1))->∃ (SB:Option Addr) (sn sd:Nat) (w6:World),(Builtin.append_ #[31,31] 31 #[.slice PA ln pc,.slice (some ⟨v1.heap.size,0,none⟩) 1 1]).run Tryz.prog (v1.alloc (.cells #[.int .i64 (p.cs[i].mul q.cs[j]).lv,.bool (p.cs[i].mul q.cs[j]).neg,.slice D0 m0 e0,.slice D1 m1 e1] 33))=.ok (.slice SB sn sd) w6/\w6.frozen? ⟨w2.heap.size,i+j,none⟩=false/\w6.cell? ⟨w2.heap.size,i+j,none⟩=some (.slice PA ln pc)/\(∀ g,g ≠ w2.heap.size->g < w4.heap.size->w6.heap[g]?=wc.heap[g]?) /\
         ((∃ Own,gy w4.heap.size (w6.setCell ⟨w2.heap.size,i+j,none⟩ (.slice SB sn sd)) w2.heap.size ((List.range N).map fun k=>jo p.cs q.cs (yt (a.take x) b ++ (b.take (y+1)).map fun j=>(i,j)) k) Own)/\Ext W (w6.setCell ⟨w2.heap.size,i+j,none⟩ (.slice SB sn sd))/\w4.heap.size<=(w6.setCell ⟨w2.heap.size,i+j,none⟩ (.slice SB sn sd)).heap.size/\∀ g,g ≠ w2.heap.size->g < w4.heap.size->(w6.setCell ⟨w2.heap.size,i+j,none⟩ (.slice SB sn sd)).heap[g]?=w4.heap[g]?)):=by
         refine hid ?_;intro v1 D0 D1 m0 e0 m1 e1 bD kE;have bW:=bD.size;have pX:=zW.out.ext bD;obtain ⟨PA',pc',lT,-,-,Hl⟩:=pX.push (by omega) (i+j) (by omega);have eX:=(bD.cell (p:=⟨w2.heap.size,i+j,none⟩) (by show w2.heap.size < _; omega)).trans ae;rw [jM] at lT Hl;rw [eX] at lT;injection lT with lT
         injection lT with h1 h2 h3
         subst h1 h3;have Cm:=KC (i+j) (by omega);have KD:ln+1<=1000000000:=by rw [<- jM]; omega
         obtain ⟨B6,d6,w6,MO,ak,k1,k2,k3,-,k5,-,-,k7,k8⟩:=Hl (p.cs[i].mul q.cs[j]) D0 D1 m0 e0 m1 e1 (kE.mono fun g hg=>⟨fun ho=>by have:=(zW.out.own g ho).2; omega,by omega⟩) KD;refine ⟨_,_,_,w6,ak,k2 _,k3,fun g jQ dR=>(Below.heap_setCell w6 _ _ g jQ).symm.trans ((k8 g jQ dR).trans (bD.below.block g (by omega))),⟨MO,?_⟩,k5 W (Vj.out.trans bD) (by omega),?_,fun g jQ dR=>(k8 g jQ dR).trans ((bD.below.block g (by omega)).trans (VV.out g jQ dR))⟩
         · have h9:=Gn.out;rw [Kq,J8] at h9;rw [<- h9];exact k1
         · have:(w6.setCell ⟨w2.heap.size,i+j,none⟩ (.slice (some ⟨B6,0,none⟩) (ln+1) d6)).heap.size=w6.heap.size:=by simp [World.setCell]
           omega
        have vU:Hid (∀ (v1:World) (az:Addr) (D0 D1:Option Addr) (m0 e0 m1 e1:Nat),Ext wc v1->uy v1 az Pl.zero (.slice none 0 0) (.slice none 0 0)->PlV v1 (fun g=>wc.heap.size<=g) (p.cs[i].mul q.cs[j]) (plV (p.cs[i].mul q.cs[j]) (.slice D0 m0 e0) (.slice D1 m1 e1))->∃ (B:Nat) (sd:Nat) (w6:World),(Builtin.append_ #[31,31] 31 #[.slice PA ln pc,.slice (some az) 1 1]).run Tryz.prog v1=.ok (.slice (some ⟨B,0,none⟩) (ln+1) sd) w6/\w6.frozen? ⟨w2.heap.size,i+j,none⟩=false/\w6.cell? ⟨w2.heap.size,i+j,none⟩=some (.slice PA ln pc)/\(∀ g,g ≠ w2.heap.size->g < w4.heap.size->w6.heap[g]?=wc.heap[g]?) /\
         (∀ i',(w6.setCell ⟨w2.heap.size,i+j,none⟩ (.slice (some ⟨B,0,none⟩) (ln+1) sd)).frozen? ⟨B,i',none⟩=false) /\
         (∃ u0 u1 u2 u3,(w6.setCell ⟨w2.heap.size,i+j,none⟩ (.slice (some ⟨B,0,none⟩) (ln+1) sd)).cell? ⟨B,ln * 4,none⟩=some u0/\(w6.setCell ⟨w2.heap.size,i+j,none⟩ (.slice (some ⟨B,0,none⟩) (ln+1) sd)).cell? ⟨B,ln * 4+1,none⟩=some u1/\(w6.setCell ⟨w2.heap.size,i+j,none⟩ (.slice (some ⟨B,0,none⟩) (ln+1) sd)).cell? ⟨B,ln * 4+2,none⟩=some u2/\(w6.setCell ⟨w2.heap.size,i+j,none⟩ (.slice (some ⟨B,0,none⟩) (ln+1) sd)).cell? ⟨B,ln * 4+3,none⟩=some u3) /\
         ∀ w8,w8=(((((w6.setCell ⟨w2.heap.size,i+j,none⟩ (.slice (some ⟨B,0,none⟩) (ln+1) sd)).setCell ⟨B,ln * 4,none⟩ (.int .i64 (p.cs[i].mul q.cs[j]).lv)).setCell ⟨B,ln * 4+1,none⟩ (.bool (p.cs[i].mul q.cs[j]).neg)).setCell ⟨B,ln * 4+2,none⟩ (.slice D0 m0 e0)).setCell ⟨B,ln * 4+3,none⟩ (.slice D1 m1 e1)) ->
           ((∃ Own,gy w4.heap.size w8 w2.heap.size ((List.range N).map fun k=>jo p.cs q.cs (yt (a.take x) b ++ (b.take (y+1)).map fun j=>(i,j)) k) Own)/\Ext W w8/\w4.heap.size<=w8.heap.size/\∀ g,g ≠ w2.heap.size->g < w4.heap.size->w8.heap[g]?=w4.heap[g]?)):=by
         refine hid ?_;intro v1 az D0 D1 m0 e0 m1 e1 bD hz kE;have bW:=bD.size;have pX:=zW.out.ext bD;have eX:=(bD.cell (p:=⟨w2.heap.size,i+j,none⟩) (by show w2.heap.size < _; omega)).trans ae;have Cm:=KC (i+j) (by omega);have KD:ln+1<=1000000000:=by rw [<- jM]; omega
         obtain ⟨B6,d6,w6,MO,ak,k1,k2,k3,k4,k5,k6,k7⟩:=pX.qaL (by omega) (i+j) (by omega) eX jM az (p.cs[i].mul q.cs[j]) D0 D1 m0 e0 m1 e1 hz (kE.mono fun g hg=>⟨fun ho=>by have:=(zW.out.own g ho).2; omega,by omega⟩) KD;refine ⟨B6,d6,w6,ak,k1 _,k2,fun g jQ dR=>(k3 g jQ dR).trans (bD.below.block g (by omega)),k5,k6,fun w8 Oh=>?_⟩;obtain ⟨n1',n2',Qh,n4'⟩:=k7 w8 Oh;refine ⟨⟨MO,?_⟩,n2' W (Vj.out.trans bD) (by omega),by omega,fun g jQ dR=>(n4' g jQ dR).trans ((bD.below.block g (by omega)).trans (VV.out g jQ dR))⟩;have h9:=Gn.out;rw [Kq,J8] at h9;rw [<- h9];exact n1'
        have GG:Hid (∀ W':World,(∀ g,g ≠ w2.heap.size->g < w4.heap.size->W'.heap[g]?=wc.heap[g]?)->(W'.cell? ⟨w.heap.size,3,none⟩=some (.slice (some fJ) p.cs.length c)/\W'.cell? ⟨w.heap.size+1,3,none⟩=some (.slice (some fH) q.cs.length d)/\uy W' (fJ.add (i * 4)) p.cs[i] (.slice P0 JE JG) (.slice P1 JD JF)/\uy W' (fH.add (j * 4)) q.cs[j] (.slice Q0 Oa Ob) (.slice Q1 N8 qc1))):=by
         refine hid ?_;intro W' bJ;have ZE:=ay.out.size;have ah5:=HC.out.ext.size;obtain ⟨g1,g2,-,g4,g8⟩:=aH.out wc (Ext.refl wc);have kk:∀ (a:Addr),a.block ≠ w2.heap.size->a.block < w4.heap.size->W'.cell? a=wc.cell? a:=fun a h1 h2=>pB (bJ a.block h1 h2)
         have uY:(fJ.add (i * 4)).block=fJ.block:=ja _ _;have hqb:(fH.add (j * 4)).block=fH.block:=ja _ _;obtain ⟨p0,p1,p2,p3⟩:=g4;obtain ⟨r0,r1,r2,r3⟩:=g8;refine ⟨(kk _ (by show w.heap.size ≠ _; omega) (by show w.heap.size < _; omega)).trans g1,(kk _ (by show w.heap.size+1 ≠ _; omega) (by show w.heap.size+1 < _; omega)).trans g2,⟨(kk _ (by omega) (by omega)).trans p0,(kk _ (by show (fJ.add (i * 4)).block ≠ _; omega) (by show (fJ.add (i * 4)).block < _; omega)).trans p1,(kk _ (by show (fJ.add (i * 4)).block ≠ _; omega) (by show (fJ.add (i * 4)).block < _; omega)).trans p2,(kk _ (by show (fJ.add (i * 4)).block ≠ _; omega) (by show (fJ.add (i * 4)).block < _; omega)).trans p3⟩,⟨(kk _ (by omega) (by omega)).trans r0,(kk _ (by show (fH.add (j * 4)).block ≠ _; omega) (by show (fH.add (j * 4)).block < _; omega)).trans r1,(kk _ (by show (fH.add (j * 4)).block ≠ _; omega) (by show (fH.add (j * 4)).block < _; omega)).trans r2,(kk _ (by show (fH.add (j * 4)).block ≠ _; omega) (by show (fH.add (j * 4)).block < _; omega)).trans r3⟩⟩
        clear AA Qn EY RD SG Rz SE Kq J8 EO KC sJ Vr aad aac;cases bb
        · have VP:=hid (tX.out wc.drew ((Ext.refl wc).drew));unfold plV at VP;generalize J9:p.cs[i].mul q.cs[j]=prd at *;obtain ⟨g1,g2,g3,⟨g4,g5,g6,g7⟩,⟨g8,g9,g10,g11⟩⟩:=aH.out wc.drew ((Ext.refl wc).drew);generalize Oo:p.cs[i]=pi at *;generalize Z7:q.cs[j]=qj at *;have hR1:(i:Int) < (p.cs.length:Int):=by omega
          have hR2:(j:Int) < (q.cs.length:Int):=by omega
          obtain ⟨r,hr⟩:=n_m (i+j);simp only [hr] at Fz SX aH jE g3;have qW:=hid hr;have hrI:(i:Int)+(j:Int)=(r:Int):=by omega
          have hrW:IntKind.i64.wrap (r:Int)=(r:Int):=by rw [rj]; omega
          clear hr ae zW Gn jM;have hR3:(r:Int) < (N:Int):=by omega
          have dH:=hid Cj;have xW:=hid CG;have PY:=hid mP;clear Oo Z7 J9 Tv Tu e2 af hx oH Tz KR Tj Ij vN yZ Qr vG LM LK mP CG KQ Fz;have bC:Hid (∀ W',Ext wc W'->(W'.cell? ⟨w.heap.size,3,none⟩=some (.slice (some fJ) p.cs.length c)/\W'.cell? ⟨w.heap.size+1,3,none⟩=some (.slice (some fH) q.cs.length d)/\(W'.cell? (fJ.add (i * 4))=some (.int .i64 pi.lv)/\W'.cell? ⟨(fJ.add (i * 4)).block,(fJ.add (i * 4)).off+1,none⟩=some (.bool pi.neg)/\W'.cell? ⟨(fJ.add (i * 4)).block,(fJ.add (i * 4)).off+2,none⟩=some (.slice P0 JE JG)/\W'.cell? ⟨(fJ.add (i * 4)).block,(fJ.add (i * 4)).off+3,none⟩=some (.slice P1 JD JF))/\(W'.cell? (fH.add (j * 4))=some (.int .i64 qj.lv)/\W'.cell? ⟨(fH.add (j * 4)).block,(fH.add (j * 4)).off+1,none⟩=some (.bool qj.neg)/\W'.cell? ⟨(fH.add (j * 4)).block,(fH.add (j * 4)).off+2,none⟩=some (.slice Q0 Oa Ob)/\W'.cell? ⟨(fH.add (j * 4)).block,(fH.add (j * 4)).off+3,none⟩=some (.slice Q1 N8 qc1)))):=hid (fun W' bJ=>by
           obtain ⟨g1,g2,-,g4,g8⟩:=aH.out W' bJ
           exact ⟨g1,g2,g4,g8⟩)
          have xO:Hid (∀ W',Ext wc W'->W'.cell? ⟨w2.heap.size,r,none⟩=some (.slice PA ln pc)):=hid (fun W' bJ=>(aH.out W' bJ).2.2.1);have Y0:=hid ((Ext.refl wc).drew);clear g1 g2 g3 g4 g5 g6 g7 g8 g9 g10 g11 aH;go_upto_region 26 with fail;refine wp_region_held_drew (S:=fun W'=>W'.cell? ⟨w.heap.size,3,none⟩=some (.slice (some fJ) p.cs.length c)/\W'.cell? ⟨w.heap.size+1,3,none⟩=some (.slice (some fH) q.cs.length d)/\(W'.cell? (fJ.add (i * 4))=some (.int .i64 pi.lv)/\W'.cell? ⟨(fJ.add (i * 4)).block,(fJ.add (i * 4)).off+1,none⟩=some (.bool pi.neg)/\W'.cell? ⟨(fJ.add (i * 4)).block,(fJ.add (i * 4)).off+2,none⟩=some (.slice P0 JE JG)/\W'.cell? ⟨(fJ.add (i * 4)).block,(fJ.add (i * 4)).off+3,none⟩=some (.slice P1 JD JF))/\(W'.cell? (fH.add (j * 4))=some (.int .i64 qj.lv)/\W'.cell? ⟨(fH.add (j * 4)).block,(fH.add (j * 4)).off+1,none⟩=some (.bool qj.neg)/\W'.cell? ⟨(fH.add (j * 4)).block,(fH.add (j * 4)).off+2,none⟩=some (.slice Q0 Oa Ob)/\W'.cell? ⟨(fH.add (j * 4)).block,(fH.add (j * 4)).off+3,none⟩=some (.slice Q1 N8 qc1))) (by kernel_rfl) (bC.out _ Y0.out) (fun hHeld=>?_);refine tk 0 ?_;refine tk 1 ?_;refine tk 2 ?_;refine tk 3 ?_;refine tk 4 ?_;refine tk 5 ?_;refine tk 6 ?_;refine tk 7 ?_;refine tk 8 ?_;refine tk 10 ?_;refine tk 11 ?_;refine tk 12 ?_;refine tk 13 ?_;refine tk 14 ?_;refine tk 15 ?_;refine tk 16 ?_;refine tk 17 ?_;refine tk 18 ?_;refine tk 19 ?_;refine r_2 9 20 (fun K hK=>?oA) fun K hK=>?oB
          case' oA =>
           have dB:=xO.out _ Y0.out;go_simp;refine k_t hK (bC.out _ Y0.out) fun hHeld=>?_
           clear hK K;clear dB;refine r_1 20 fun K hK=>?_
           go_simp
           go_at_call 40
           refine VP.out.mono ?_;rintro e v1 ⟨z1,rfl,m1,x1⟩;have y1:Ext wc v1:=Ext.trans ((Ext.refl wc).drew) x1;obtain ⟨D0,F5,F7,D1,F6,rfl,-⟩:=id m1.open_;unfold plV;refine k_t hK (bC.out _ y1) fun hHeld=>?_
           clear hK K;refine r_1 21 fun K hK=>?_
           go_simp;have y2:=Ext.alloc y1 (.cells #[.int .i64 prd.lv,.bool prd.neg,.slice D0 F5 F7,.slice D1 prd.cs.length F6] 33);refine k_t hK (bC.out _ y2) fun hHeld=>?_
           clear hK K
          case' oB =>
           go_simp
           go_at_call 40
           refine VP.out.mono ?_;rintro e v1 ⟨z1,rfl,m1,x1⟩;have y1:Ext wc v1:=Ext.trans ((Ext.refl wc).drew) x1;obtain ⟨D0,F5,F7,D1,F6,rfl,-⟩:=id m1.open_;unfold plV;refine k_t hK (bC.out _ y1) fun hHeld=>?_
           clear hK K;refine r_2 9 21 (fun K hK=>?oC) fun K hK=>?oD
           case' oC =>
            have dB:=xO.out _ y1;go_simp;refine k_t hK (bC.out _ y1) fun hHeld=>?_
            clear hK K;clear dB;refine r_1 21 fun K hK=>?_
            go_simp;have y2:=Ext.alloc y1 (.cells #[.int .i64 prd.lv,.bool prd.neg,.slice D0 F5 F7,.slice D1 prd.cs.length F6] 33);refine k_t hK (bC.out _ y2) fun hHeld=>?_
            clear hK K
           case' oD =>
            go_simp;have y2:=Ext.alloc y1 (.cells #[.int .i64 prd.lv,.bool prd.neg,.slice D0 F5 F7,.slice D1 prd.cs.length F6] 33);refine k_t hK (bC.out _ y2) fun hHeld=>?_
            clear hK K;refine r_1 9 fun K hK=>?_
            have dB:=xO.out _ y2;go_simp;refine k_t hK (bC.out _ y2) fun hHeld=>?_
            clear hK K;clear dB
          all_goals
           obtain ⟨SB,sn,sd,w6,ak,KW,hc6,vM,aT⟩:=jE.out v1 _ _ _ _ _ _ y1 m1;have bT:=hid aT;have Jf:=hid (GG.out w6 vM);have Vx:=hid (GG.out (w6.setCell ⟨w2.heap.size,r,none⟩ (.slice SB sn sd)) (fun g h1 h2=>(Below.heap_setCell w6 _ _ g h1).trans (vM g h1 h2)));clear aT vM m1 x1 y1 y2 jE VP bC xO;refine r_1 22 fun K hK=>?_
           refine zaf rfl (.tmp 134) (.tmp 146) 31 31 rfl _ _ _ _ (by simp [Act.eval,Act.put]) (by simp [Act.eval,Act.put]) ak ?_;refine k_t hK Jf.out fun hHeld=>?_
           clear hK K ak Jf;refine tk 23 ?_;refine r_1 24 fun K hK=>?_
           go_simp;refine k_t hK Vx.out fun hHeld=>?_
           clear hK K Vx;refine w_d ?_;clear hc6 KW;go_wp2_with fail
           go_roundw
           case rel=>exact ⟨y+1,by have:=dH.out; omega,by go_num,bT⟩
           case measure=>simp [intOf]; have:=dH.out; omega
        · unfold plV at tX;generalize J9:p.cs[i].mul q.cs[j]=prd at *;generalize Oo:p.cs[i]=pi at *;generalize Z7:q.cs[j]=qj at *;have hR1:(i:Int) < (p.cs.length:Int):=by omega
          have hR2:(j:Int) < (q.cs.length:Int):=by omega
          obtain ⟨r,hr⟩:=n_m (i+j);simp only [hr] at Fz SX aH vU;have qW:=hid hr;have hrI:(i:Int)+(j:Int)=(r:Int):=by omega
          have hrW:IntKind.i64.wrap (r:Int)=(r:Int):=by rw [rj]; omega
          clear hr ae zW Gn jM jE;have hR3:(r:Int) < (N:Int):=by omega
          have ai3:(ln:Int) < ((ln+1:Nat):Int):=by omega
          have dH:=hid Cj;have xW:=hid CG;have PY:=hid mP;clear Oo Z7 J9 Tv Tu e2 af hx oH Tz KR Tj Ij vN yZ Qr vG LM LK mP CG KQ Fz;have bC:Hid (∀ W',Ext wc W'->(W'.cell? ⟨w.heap.size,3,none⟩=some (.slice (some fJ) p.cs.length c)/\W'.cell? ⟨w.heap.size+1,3,none⟩=some (.slice (some fH) q.cs.length d)/\(W'.cell? (fJ.add (i * 4))=some (.int .i64 pi.lv)/\W'.cell? ⟨(fJ.add (i * 4)).block,(fJ.add (i * 4)).off+1,none⟩=some (.bool pi.neg)/\W'.cell? ⟨(fJ.add (i * 4)).block,(fJ.add (i * 4)).off+2,none⟩=some (.slice P0 JE JG)/\W'.cell? ⟨(fJ.add (i * 4)).block,(fJ.add (i * 4)).off+3,none⟩=some (.slice P1 JD JF))/\(W'.cell? (fH.add (j * 4))=some (.int .i64 qj.lv)/\W'.cell? ⟨(fH.add (j * 4)).block,(fH.add (j * 4)).off+1,none⟩=some (.bool qj.neg)/\W'.cell? ⟨(fH.add (j * 4)).block,(fH.add (j * 4)).off+2,none⟩=some (.slice Q0 Oa Ob)/\W'.cell? ⟨(fH.add (j * 4)).block,(fH.add (j * 4)).off+3,none⟩=some (.slice Q1 N8 qc1)))):=hid (fun W' bJ=>by
           obtain ⟨g1,g2,-,g4,g8⟩:=aH.out W' bJ
           exact ⟨g1,g2,g4,g8⟩)
          have xO:Hid (∀ W',Ext wc W'->W'.cell? ⟨w2.heap.size,r,none⟩=some (.slice PA ln pc)):=hid (fun W' bJ=>(aH.out W' bJ).2.2.1);have Y0:=hid ((Ext.refl wc).drew);clear aH;go_upto_region 24 with fail;refine wp_region_held_drew (S:=fun W'=>W'.cell? ⟨w.heap.size,3,none⟩=some (.slice (some fJ) p.cs.length c)/\W'.cell? ⟨w.heap.size+1,3,none⟩=some (.slice (some fH) q.cs.length d)/\(W'.cell? (fJ.add (i * 4))=some (.int .i64 pi.lv)/\W'.cell? ⟨(fJ.add (i * 4)).block,(fJ.add (i * 4)).off+1,none⟩=some (.bool pi.neg)/\W'.cell? ⟨(fJ.add (i * 4)).block,(fJ.add (i * 4)).off+2,none⟩=some (.slice P0 JE JG)/\W'.cell? ⟨(fJ.add (i * 4)).block,(fJ.add (i * 4)).off+3,none⟩=some (.slice P1 JD JF))/\(W'.cell? (fH.add (j * 4))=some (.int .i64 qj.lv)/\W'.cell? ⟨(fH.add (j * 4)).block,(fH.add (j * 4)).off+1,none⟩=some (.bool qj.neg)/\W'.cell? ⟨(fH.add (j * 4)).block,(fH.add (j * 4)).off+2,none⟩=some (.slice Q0 Oa Ob)/\W'.cell? ⟨(fH.add (j * 4)).block,(fH.add (j * 4)).off+3,none⟩=some (.slice Q1 N8 qc1))) (by kernel_rfl) (bC.out _ Y0.out) (fun hHeld=>?_);refine tk 0 ?_;refine tk 1 ?_;refine tk 2 ?_;refine tk 3 ?_;refine tk 4 ?_;refine tk 5 ?_;refine tk 6 ?_;refine tk 7 ?_;refine tk 8 ?_;refine tk 10 ?_;refine tk 11 ?_;refine tk 12 ?_;refine tk 13 ?_;refine tk 14 ?_;refine tk 15 ?_;refine tk 16 ?_;refine tk 17 ?_;refine tk 18 ?_;refine tk 19 ?_;refine wpAnyH_ready (rs:=[9,20,22]) (by kernel_rfl) (by simp) ?_;refine sC rfl (fun K hK=>?z1x9) (sC rfl (fun K hK=>?z1x20) (sC rfl (fun K hK=>?z1x22) (ue)))
          case' z1x9 =>
           have dB:=xO.out _ Y0.out;go_simp;refine k_t hK (bC.out _ Y0.out) fun hHeld=>?_
           clear hK K dB;refine tk 21 ?_;refine wpAnyH_ready (rs:=[20,22]) (by kernel_rfl) (by simp) ?_;refine sC rfl (fun K hK=>?z2x20) (sC rfl (fun K hK=>?z2x22) (ue))
           case' z2x20 =>
            go_simp
            go_at_call 40
            refine (tX.out _ Y0.out).mono ?_;rintro e v1 ⟨z1,rfl,m1,x1⟩;have y1:Ext wc v1:=Ext.trans Y0.out x1;obtain ⟨D0,F5,F7,D1,F6,rfl,-⟩:=id m1.open_;unfold plV;refine k_t hK (bC.out _ y1) fun hHeld=>?_
            clear hK K;refine wpAnyH_ready (rs:=[22]) (by kernel_rfl) (by simp) ?_;refine sC rfl (fun K hK=>?z3x22) (ue)
            case' z3x22 =>
             go_simp;have y2:=Ext.alloc y1 (.cells #[.int .i64 0,.bool false,.slice none 0 0,.slice none 0 0] 33);refine k_t hK (bC.out _ y2) fun hHeld=>?_
             clear hK K;have yE:=y2;have mE:=(m1.mono (fun g (hg:wc.heap.size<=g)=>hg)).ext ((Ext.refl v1).alloc (.cells #[.int .i64 0,.bool false,.slice none 0 0,.slice none 0 0] 33));have zE:uy (v1.alloc (.cells #[.int .i64 0,.bool false,.slice none 0 0,.slice none 0 0] 33)) ⟨v1.heap.size,0,none⟩ Pl.zero (.slice none 0 0) (.slice none 0 0):=by refine ⟨?_,?_,?_,?_⟩ <;> simp [go_sem,Pl.zero,Pl.lv,Pl.neg]
           case' z2x22 =>
            go_simp;have y2:=Ext.alloc Y0.out (.cells #[.int .i64 0,.bool false,.slice none 0 0,.slice none 0 0] 33);refine k_t hK (bC.out _ y2) fun hHeld=>?_
            clear hK K;refine wpAnyH_ready (rs:=[20]) (by kernel_rfl) (by simp) ?_;refine sC rfl (fun K hK=>?z4x20) (ue)
            case' z4x20 =>
             go_simp
             go_at_call 40
             refine (tX.out _ y2).mono ?_;rintro e v1 ⟨z1,rfl,m1,x1⟩;have y1:Ext wc v1:=Ext.trans y2 x1;obtain ⟨D0,F5,F7,D1,F6,rfl,-⟩:=id m1.open_;unfold plV;refine k_t hK (bC.out _ y1) fun hHeld=>?_
             clear hK K;have yE:=y1;have mE:PlV v1 (fun g=>wc.heap.size<=g) prd _:=m1.mono (fun g hg=>by simp at hg; have hd:wc.drew.heap.size=wc.heap.size:=rfl; omega);have PZ:uy (wc.drew.alloc (.cells #[.int .i64 0,.bool false,.slice none 0 0,.slice none 0 0] 33)) ⟨wc.drew.heap.size,0,none⟩ Pl.zero (.slice none 0 0) (.slice none 0 0):=by refine ⟨?_,?_,?_,?_⟩ <;> simp [go_sem,Pl.zero,Pl.lv,Pl.neg]
             have zE:=PZ.ext x1 (by simp)
          case' z1x20 =>
           go_simp
           go_at_call 40
           refine (tX.out _ Y0.out).mono ?_;rintro e v1 ⟨z1,rfl,m1,x1⟩;have y1:Ext wc v1:=Ext.trans Y0.out x1;obtain ⟨D0,F5,F7,D1,F6,rfl,-⟩:=id m1.open_;unfold plV;refine k_t hK (bC.out _ y1) fun hHeld=>?_
           clear hK K;refine wpAnyH_ready (rs:=[9,22]) (by kernel_rfl) (by simp) ?_;refine sC rfl (fun K hK=>?z5x9) (sC rfl (fun K hK=>?z5x22) (ue))
           case' z5x9 =>
            have dB:=xO.out _ y1;go_simp;refine k_t hK (bC.out _ y1) fun hHeld=>?_
            clear hK K dB;refine tk 21 ?_;refine wpAnyH_ready (rs:=[22]) (by kernel_rfl) (by simp) ?_;refine sC rfl (fun K hK=>?z6x22) (ue)
            case' z6x22 =>
             go_simp;have y2:=Ext.alloc y1 (.cells #[.int .i64 0,.bool false,.slice none 0 0,.slice none 0 0] 33);refine k_t hK (bC.out _ y2) fun hHeld=>?_
             clear hK K;have yE:=y2;have mE:=(m1.mono (fun g (hg:wc.heap.size<=g)=>hg)).ext ((Ext.refl v1).alloc (.cells #[.int .i64 0,.bool false,.slice none 0 0,.slice none 0 0] 33));have zE:uy (v1.alloc (.cells #[.int .i64 0,.bool false,.slice none 0 0,.slice none 0 0] 33)) ⟨v1.heap.size,0,none⟩ Pl.zero (.slice none 0 0) (.slice none 0 0):=by refine ⟨?_,?_,?_,?_⟩ <;> simp [go_sem,Pl.zero,Pl.lv,Pl.neg]
           case' z5x22 =>
            go_simp;have y2:=Ext.alloc y1 (.cells #[.int .i64 0,.bool false,.slice none 0 0,.slice none 0 0] 33);refine k_t hK (bC.out _ y2) fun hHeld=>?_
            clear hK K;refine wpAnyH_ready (rs:=[9]) (by kernel_rfl) (by simp) ?_;refine sC rfl (fun K hK=>?z7x9) (ue)
            case' z7x9 =>
             have dB:=xO.out _ y2;go_simp;refine k_t hK (bC.out _ y2) fun hHeld=>?_
             clear hK K dB;refine tk 21 ?_;have yE:=y2;have mE:=(m1.mono (fun g (hg:wc.heap.size<=g)=>hg)).ext ((Ext.refl v1).alloc (.cells #[.int .i64 0,.bool false,.slice none 0 0,.slice none 0 0] 33));have zE:uy (v1.alloc (.cells #[.int .i64 0,.bool false,.slice none 0 0,.slice none 0 0] 33)) ⟨v1.heap.size,0,none⟩ Pl.zero (.slice none 0 0) (.slice none 0 0):=by refine ⟨?_,?_,?_,?_⟩ <;> simp [go_sem,Pl.zero,Pl.lv,Pl.neg]
          case' z1x22 =>
           go_simp;have y2:=Ext.alloc Y0.out (.cells #[.int .i64 0,.bool false,.slice none 0 0,.slice none 0 0] 33);refine k_t hK (bC.out _ y2) fun hHeld=>?_
           clear hK K;refine wpAnyH_ready (rs:=[9,20]) (by kernel_rfl) (by simp) ?_;refine sC rfl (fun K hK=>?z8x9) (sC rfl (fun K hK=>?z8x20) (ue))
           case' z8x9 =>
            have dB:=xO.out _ y2;have ZX:=xO.out _ ((Ext.refl wc).alloc (.cells #[.int .i64 0,.bool false,.slice none 0 0,.slice none 0 0] 33));have ZW:=xO.out _ (Ext.refl wc);have ZV:=xO.out _ ((Ext.refl wc).alloc (.cells #[.int .i64 0,.bool false,.slice none 0 0,.slice none 0 0] 33)).drew;go_simp;refine k_t hK (bC.out _ y2) fun hHeld=>?_
            clear hK K dB ZX ZW ZV;refine tk 21 ?_;refine wpAnyH_ready (rs:=[20]) (by kernel_rfl) (by simp) ?_;refine sC rfl (fun K hK=>?z9x20) (ue)
            case' z9x20 =>
             go_simp
             go_at_call 40
             refine (tX.out _ y2).mono ?_;rintro e v1 ⟨z1,rfl,m1,x1⟩;have y1:Ext wc v1:=Ext.trans y2 x1;obtain ⟨D0,F5,F7,D1,F6,rfl,-⟩:=id m1.open_;unfold plV;refine k_t hK (bC.out _ y1) fun hHeld=>?_
             clear hK K;have yE:=y1;have mE:PlV v1 (fun g=>wc.heap.size<=g) prd _:=m1.mono (fun g hg=>by simp at hg; have hd:wc.drew.heap.size=wc.heap.size:=rfl; omega);have PZ:uy (wc.drew.alloc (.cells #[.int .i64 0,.bool false,.slice none 0 0,.slice none 0 0] 33)) ⟨wc.drew.heap.size,0,none⟩ Pl.zero (.slice none 0 0) (.slice none 0 0):=by refine ⟨?_,?_,?_,?_⟩ <;> simp [go_sem,Pl.zero,Pl.lv,Pl.neg]
             have zE:=PZ.ext x1 (by simp)
           case' z8x20 =>
            go_simp
            go_at_call 40
            refine (tX.out _ y2).mono ?_;rintro e v1 ⟨z1,rfl,m1,x1⟩;have y1:Ext wc v1:=Ext.trans y2 x1;obtain ⟨D0,F5,F7,D1,F6,rfl,-⟩:=id m1.open_;unfold plV;refine k_t hK (bC.out _ y1) fun hHeld=>?_
            clear hK K;refine wpAnyH_ready (rs:=[9]) (by kernel_rfl) (by simp) ?_;refine sC rfl (fun K hK=>?z10x9) (ue)
            case' z10x9 =>
             have dB:=xO.out _ y1;go_simp;refine k_t hK (bC.out _ y1) fun hHeld=>?_
             clear hK K dB;refine tk 21 ?_;have yE:=y1;have mE:PlV v1 (fun g=>wc.heap.size<=g) prd _:=m1.mono (fun g hg=>by simp at hg; have hd:wc.drew.heap.size=wc.heap.size:=rfl; omega);have PZ:uy (wc.drew.alloc (.cells #[.int .i64 0,.bool false,.slice none 0 0,.slice none 0 0] 33)) ⟨wc.drew.heap.size,0,none⟩ Pl.zero (.slice none 0 0) (.slice none 0 0):=by refine ⟨?_,?_,?_,?_⟩ <;> simp [go_sem,Pl.zero,Pl.lv,Pl.neg]
             have zE:=PZ.ext x1 (by simp)
          all_goals
           obtain ⟨B6,sd,w6,ak,KW,hc6,vM,KU,⟨u0,u1,u2,u3,c0,c1,c2,c3⟩,aT⟩:=vU.out _ _ _ _ _ _ _ _ yE zE mE;have bT:=hid (aT _ rfl);have Jf:=hid (GG.out w6 vM);have Vx:=hid (GG.out (w6.setCell ⟨w2.heap.size,r,none⟩ (.slice (some ⟨B6,0,none⟩) (ln+1) sd)) (fun g h1 h2=>(Below.heap_setCell w6 _ _ g h1).trans (vM g h1 h2)));have HCB:Hid (_/\_/\_/\_/\_):=hid ⟨KU,c0,c1,c2,c3⟩;clear aT vM m1 x1 y1 y2 yE zE mE vU tX bC xO KU c0 c1 c2 c3;refine r_1 23 fun K hK=>?_
           refine zaf rfl (.tmp 108) (.tmp 121) 31 31 rfl _ _ _ _ (by simp [Act.eval,Act.put]) (by simp [Act.eval,Act.put]) ak ?_;refine k_t hK Jf.out fun hHeld=>?_
           clear hK K ak Jf;refine tk 24 ?_;refine r_1 25 fun K hK=>?_
           go_simp;refine k_t hK Vx.out fun hHeld=>?_
           clear hK K Vx;refine w_d ?_;clear hc6 KW;obtain ⟨KU,c0,c1,c2,c3⟩:=HCB.out;go_wp2_with fail
           go_roundw
           case rel=>exact ⟨y+1,by have:=dH.out; omega,by go_num,bT⟩
           case measure=>simp [intOf]; have:=dH.out; omega
     · have Zv:y=b.length:=by omega
       have ac5:Hid (∃ Own,gy w4.heap.size wr w2.heap.size ((List.range N).map fun k=>jo p.cs q.cs (yt (a.take (x+1)) b) k) Own):=hid ⟨Own2,by
        have h1:=Dx.out;rw [Zv,pQ,<- xM.out] at h1
        exact h1⟩
       clear Zv;go_wp2_with fail
       go_roundw
       case rel=>exact ⟨x+1,by omega,by go_num,⟨ac5.out,Vh.out,mP,Nw.out⟩⟩
       case measure=>simp [intOf]; omega
  · have EN:x=a.length:=by omega
    obtain ⟨ls,sJ⟩:=n_m (((List.range N).map fun k=>jo p.cs q.cs (yt a b) k));have vG:ls.length=N:=by rw [<- sJ]; simp
    have YB:Hid (gy w4.heap.size w5 w2.heap.size ls Own):=hid (by
     have h1:=VG.out;rw [EN,pQ,sJ] at h1
     exact h1)
    have VS:Hid (∀ k (hk:k < ls.length),(∀ r ∈ ls[k],r.Can/\r.ex (E+F))/\lnr ls[k] < B32 ^ (D+G)/\ls[k].length<=1000000):=hid (fun k hk=>by
     have h1:ls[k]=jo p.cs q.cs (yt a b) k:=by simp only [<- sJ,rN,tI]
     rw [h1]; exact DX.out k)
    have YE:Hid (p.mul q=vab p.lv (ls.map zaa)):=hid (by
     have h1:=Bc.out;rw [qY.out] at h1
     rw [h1,<- sJ,Pa]; rfl)
    have Vm:Hid (w2.heap.size < w5.heap.size):=hid (by omega);clear VG sJ EN DX Bc;obtain ⟨V2,sH,Uy,ajR,dI⟩:=xy (N:Int) (by omega) (by omega) w5;rw [sX] at sH dI;have Jh:=hid (dI (fun g=>w5.heap.size<=g));have Vo:=hid Uy;clear dI Uy;go_wp2_with fail;clear sH
    go_loopw [156] (fun iv wr=>∃ k:Nat,k<=N/\iv=.int .i64 k/\Hid ((∃ M:List Pl,M.length=N/\M.take k=(ls.map zaa).take k/\jh wr (fun g=>w5.heap.size<=g) w5.heap.size M)/\Ext w5 wr)) (fun iv _=>N - (intOf iv).toNat)
    case atStart=>exact ⟨0,pZ _,rfl,⟨⟨_,ra,by simp,Jh.out⟩,Vo.out⟩⟩
    case round =>
     obtain ⟨k,hk,rfl,⟨⟨M,II,hMt,ae⟩,yC⟩⟩:=hrel;have Yq:=hid yC;have aB:=hid ae;have YF:=hid hMt;have ZG:=yC.size;have gZ:w5.heap.size < wr.heap.size:=ae.1;clear yC ae hMt Jh Vo
     by_cases Cm:k < N
     · obtain ⟨PV,Lr,BM,-⟩:=YB.out.row k (by omega);obtain ⟨PA,pc,rfl,pX,wP⟩:=BM.len;have aba:wr.cell? ⟨w2.heap.size,k,none⟩=some (.slice PA ls[k].length pc):=(Yq.out.cell (p:=⟨w2.heap.size,k,none⟩) Vm.out).trans Lr;obtain ⟨ha1,ha2,ha3⟩:=VS.out k (by omega);have HAD:=hid (ucf (E:=E+F) (D:=D+G) ls[k] PA pc (by omega) (by omega) ha1 ha2 ha3 pX wP (BM.at_.ext Yq.out));have dU:Hid ((M.set k (zaa ls[k])).take (k+1)=(ls.map zaa).take (k+1)):=hid (by
        have h1:=uae M (ls.map zaa) k YF.out (by omega) (by rw [pw]; omega);rw [rN] at h1
        exact h1)
       clear Lr BM ha1 ha2 YF;generalize zaa ls[k]=res at *;generalize ls[k].length=lk at *;have Ib:(k:Int) < (N:Int):=by omega
       go_wp2_with fail;clear aba;refine HAD.out.mono ?_;rintro e w6 ⟨v6,rfl,p6,x6⟩;obtain ⟨C0,j0,f0,C1,f1,rfl,-⟩:=id p6.open_;have Xc:=aB.out.ext x6;obtain ⟨D0,n2,g0,D1,n3,g1,⟨r0,r1,r2,r3⟩,-⟩:=Xc.2.2 k (by omega);have bG:=Xc.2.1;have dV:=(Xc.xD k (by omega) res (p6.mono fun i hi=>⟨by omega,by omega⟩)).1;simp only at r0 r1 r2 r3;have dS:=hid dV;have X6:=hid (Yq.out.trans x6);unfold plV;clear Xc dV p6 x6 HAD aB;go_wp2_with fail
       go_roundw
       case rel=>exact ⟨k+1,by omega,by go_num,⟨_,by rw [pL]; exact II,dU.out,dS.out⟩,(((X6.out.setCell (pj _) _).setCell (pj _) _).setCell (pj _) _).setCell (pj _) _⟩
       case measure=>simp [intOf]; omega
     · have dh:k=N:=by omega
       have IK:M=ls.map zaa:=by
        have h:=YF.out;rw [dh,show N=(ls.map zaa).length by rw [pw,vG],pQ,pw,vG,<- II,pQ] at h;exact h
       have FV:=Dk.out.trans Yq.out;have JR:=qbr p.lv (ls.map zaa) (some ⟨w5.heap.size,0,none⟩) N (by have h1:=aB.out.fin (pj _); rw [IK] at h1; exact h1) (by rw [pw]; omega) (by omega);rw [pw,vG] at JR;generalize vab p.lv (ls.map zaa)=res at *;have Pn:=hid JR;obtain ⟨b0,b1,b2,b3⟩:=HC.out.box.ext FV (by omega);have F8:=hid (HC.out.zero.ext FV (by omega));have oh:=hid (HC.out.ext.trans FV);clear JR FV IK aB YF;go_wp2_with fail;clear b0 b1 b2 b3;refine Pn.out.mono ?_;rintro e w6 ⟨v6,rfl,p6,x6⟩;obtain ⟨C0,j0,f0,C1,f1,rfl,-⟩:=id p6.open_;have bM:=F8.out.ext x6 (by omega);have hf:=qf (q:=fun g=>w5.heap.size<=g) (q':=fun i=>w.heap.size<=i) (oh.out.trans x6) (by omega) bM p6 (fun b _ hb=>by have:=Vm.out; exact ⟨by omega,by omega⟩);have HF:=hid (zc0 YE.out hf);obtain ⟨⟨z0,z1,z2,z3⟩,zf⟩:=bM;clear hf p6 x6 Pn F8 oh;unfold plV;go_wp2_with fail;exact bodyPost_ret (v:=plV res (.slice C0 j0 f0) (.slice C1 res.cs.length f1)) (by simp [results,TO,go_sem,z0,z1,z2,z3,plV]) rfl HF.out
end Go.Proofs.YtcepajijiabkmaaGreat
