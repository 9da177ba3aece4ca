/- Layer 1 (natural): what each function returns, of digit lists. -/
import Derived.Test.YtcepajijiabkmaaGreatMo0
set_option linter.all false
set_option maxRecDepth 100000
set_option maxHeartbeats 8000000
namespace Go.Proofs.YtcepajijiabkmaaGreat
open Lib (hid)
open Go.RowKit
theorem wbe (A:Option Addr) (c n:Nat) (ds:List Nat) (w:World) (hd:uj w A ds) (hl:ds.length=n) (hn:n<=c) (hc:c<=9223372036854775807) :
 Calls Tryz.prog 84 #[.slice A n c] w fun e w'=>e=.returned (.slice A (xad ds n) c)/\w=w':=by
 have HD:=hid hd; clear hd;have HN:=hid hl; clear hl;go_enter Tryz.func84,Tryz.ntmps84
 go_wp2
 go_loop [3] (fun i=>∃ k:Nat,k<=n/\i=.int .i64 k/\xad ds k=xad ds n) (fun i=>(intOf i).toNat)
 case atStart=>exact ⟨n,pj _,rfl,rfl⟩
 case round =>
  obtain ⟨k,hk,rfl,ht⟩:=hrel;have HT:=hid ht; clear ht;rcases k with _ | k
  · go_wp2
    go_ret;exact ⟨by rw [<- HT.out]; rfl,rfl⟩
  · have hkl:k < ds.length:=by have:=HN.out; omega
    obtain ⟨ad,rfl,hb,aj,af⟩:=HD.out.at_ k hkl
    by_cases h0:ds[k]'hkl=0
    · rw [h0] at aj
      go_wp2
      go_round
      case rel=>exact ⟨k,by omega,rfl,by rw [<- HT.out,xad,if_pos]; rw [po,pr hkl]; exact h0⟩
      case measure=>simp [intOf]
    · go_wp2
      go_ret;exact ⟨by rw [<- HT.out,xad,if_neg]; rfl; rw [po,pr hkl]; exact h0,rfl⟩
theorem uw (v:Value) (ds:List Nat) (w:World) (h:jc w v ds) :
 Calls Tryz.prog 84 #[v] w fun e w'=>∃ v',e=.returned v'/\jc w v' (dg (val ds))/\w=w':=by
 obtain ⟨A,c,rfl,h1,h2,h3⟩:=h;refine (wbe A c ds.length ds w h3 rfl h1 h2).mono ?_;rintro e w' ⟨rfl,rfl⟩;refine ⟨_,rfl,⟨A,c,?_,?_,h2,?_⟩,rfl⟩
 · rw [vai h3.1]
 · rw [vai h3.1]; exact py (zaq _ _) h1
 · rw [gbm h3.1]; exact h3.take _
theorem wa6 (B:Nat) (v:Value) (ds:List Nat) (w:World) (h:jc w v ds) (hf:wab B v) :
 Calls Tryz.prog 84 #[v] w fun e w'=>∃ v',e=.returned v'/\jc w v' (dg (val ds))/\wab B v'/\w=w':=by
 obtain ⟨A,c,rfl,h1,h2,h3⟩:=h;refine (wbe A c ds.length ds w h3 rfl h1 h2).mono ?_;rintro e w' ⟨rfl,rfl⟩;refine ⟨_,rfl,⟨A,c,?_,?_,h2,?_⟩,?_,rfl⟩
 · rw [vai h3.1]
 · rw [vai h3.1]; exact py (zaq _ _) h1
 · rw [gbm h3.1]; exact h3.take _
 · rcases A with _ | ad
   · exact wab.nil _ _ _
   · exact wab.mk _ _ _ _ (hf ad _ _ rfl)
theorem ga4 (v:Value) (ds:List Nat) (w:World) (h:jc w v ds) :
 Calls Tryz.prog 91 #[v] w fun e w'=>e=.returned (.bool (val ds == 0))/\w=w':=by
 obtain ⟨A,c,rfl,h1,h2,h3⟩:=h;have ht:=zaq ds ds.length;have hz:(xad ds ds.length == 0)=(val ds == 0):=by
  rw [<- vai h3.1,RM,beq_iff_eq,beq_iff_eq];exact ⟨ja2,fun e=>by rw [e,zo]; rfl⟩
 have H3:=hid h3; clear h3;have HZ:=hid hz; clear hz;go_enter Tryz.func91,Tryz.ntmps91;go_wp2_with fail;refine (wbe A c ds.length ds _ H3.out rfl h1 h2).mono ?_;rintro e w' ⟨rfl,rfl⟩
 go_wp2
 go_ret;refine ⟨?_,rfl⟩;have:=HZ.out;rw [RM,beq_iff_eq,beq_iff_eq] at this;show Ending.returned (Value.bool _)=_
 congr 2
 rw [RM,beq_iff_eq,beq_iff_eq,<- this];omega
theorem jac (v:Value) (ds:List Nat) (w:World) (h:jc w v ds) (hs:ds.length<=35184372088832) :
 Calls Tryz.prog 57 #[v] w (yat (val ds) w):=by
 have ht:(dg (val ds)).length<=ds.length:=zi h.kr;go_enter Tryz.func57,Tryz.ntmps57;go_wp2_with fail;refine (uw v ds _ h).mono ?_;rintro e w' ⟨v',rfl,hv,rfl⟩;obtain ⟨A,c,rfl,h1,h2,h3⟩:=hv;have dA:=fun W=>qab ((dg (val ds)).length:Nat) (by omega) (by omega) W
 have H3:=hid h3;have HD:=hid (kan (val ds));clear h3;generalize hE:dg (val ds)=E at *;have HE:=hid hE;clear hE;go_wp2_with (with_reducible refine wpList_copy_splice rfl (.tmp 9) (.tmp 10) _ _ rfl 84 SR vbf _ _ _ _ _ _ rfl rfl w.heap.size 0 (yu (List.replicate E.length 0)) 84 ?_ (yu E) ?_ ?_ ?_ ?_ w.heap.size w ?_ ?_ ?_)
 · exact heap_alloc_new _ _
 · rw [xab]; simp
 · intro hp;rw [xab] at hp;obtain ⟨ad,e,hb,hc⟩:=H3.out.2 hp;refine ⟨ad,e,fun j x hx=>?_⟩;have hj:j < E.length:=by
    rcases tM j E.length with hj | hj
    · exact hj
    · rw [sE (by rw [xab]; exact hj)] at hx; cases hx
   rw [ja3 E j hj] at hx;rw [World.cell?_alloc_lt _ _ _ (by rw [ja]; exact hb),hc j hj,hx]
 · rw [xab,xab]; simp
 · exact zbw E
 · exact (Below.refl _ _).alloc (pj _) _
 · exact pj _
 · intro w' ae hb;have oZ:splice (yu (List.replicate E.length 0)) 0 (yu E)=yu E:=by
    simp [splice,yu]
   rw [oZ] at ae;have HR:Hid (Row w' w.heap.size E):=ae;have HB:Hid (Ext w w'):=hb;clear ae hb oZ
   go_wp2
   go_ret;refine ⟨_,rfl,?_,HB.out⟩;rw [HE.out];exact HR.out.qaD HD.out _ (pj _) (by omega)
theorem uay (n:Nat) (w:World) (hn:n < 18446744073709551616) :
 Calls Tryz.prog 33 #[.int .u64 n] w (yat n w):=by
 go_enter Tryz.func33,Tryz.ntmps33;go_wp2_with fail;have hr:Row (w.alloc (Obj.cells #[Value.int IntKind.u32 (↑n % 4294967296),Value.int IntKind.u32 (↑n / 4294967296)] 84)) w.heap.size [n % 4294967296,n / 4294967296]:=by
  have:=Row.new w [n % 4294967296,n / 4294967296];simpa [yu] using this
 have hd:ug [n % 4294967296,n / 4294967296]:=ug.cons (tg _ (by decide)) (ug.cons (by rw [yh]; omega) ug.nil);refine (jac _ _ _ (hr.qaD hd 2 (pj _) (by omega)) (by simp)).mono ?_;rintro e w' ⟨v,rfl,hv,hx⟩;have aJ:val [n % 4294967296,n / 4294967296]=n:=by simp [val,yh]; omega
 rw [aJ] at hv;have HV:=hid hv;have HX:=hid hx;clear hv hx aJ hr
 go_wp2
 go_ret;exact ⟨_,rfl,HV.out,((Ext.refl w).alloc _).trans HX.out⟩
theorem jar (u v:Value) (ds es:List Nat) (w:World) (h:jc w u ds) (k:jc w v es) :
 Calls Tryz.prog 105 #[u,v] w fun e w'=>e=.returned (.int .i64 (uh (val ds) (val es)))/\∃ n,w'=w.drewN n:=by
 go_enter Tryz.func105,Tryz.ntmps105;go_wp2_with fail;refine (uw u ds _ h).mono ?_;rintro e w' ⟨u',rfl,hu,rfl⟩;go_wp2_with fail;refine (uw v es _ k).mono ?_;rintro e w' ⟨v',rfl,hv,rfl⟩;obtain ⟨A,c,rfl,h1,h2,h3⟩:=hu;obtain ⟨A',c',rfl,jR,mD,kZ⟩:=hv;generalize hM:val ds=M at *;generalize hN:val es=N at *;have H3:=hid h3;have nC:=hid kZ;have HM:=hid hM;have HN:=hid hN;clear h3 kZ hM hN h k;rcases pax (dg M).length (dg N).length with af | heq | Ii
 · go_wp2
   go_ret;exact ⟨by rw [HM.out,HN.out,jah (by have:=vas af; omega)]; rfl,0,rfl⟩
 · generalize hL:(dg N).length=L at *;rw [heq] at h1 ⊢;have HL:=hid hL;have tZ:=hid heq;clear heq hL;have HMd:=hid (kan M);have HNd:=hid (kan N)
   go_wp2
   go_loopw [5] (fun i wr=>∃ k n:Nat,k<=L/\i=.int .i64 ((k:Int) - 1)/\Hid ((dg M).drop k=(dg N).drop k)/\wr=w.drewN n) (fun i _=>(intOf i+1).toNat)
   case atStart=>exact ⟨L,0,pj _,rfl,hid (by rw [ub (by have:=tZ.out; omega),ub (by have:=HL.out; omega)]),rfl⟩
   case round =>
    obtain ⟨k,n,hk,rfl,HK,rfl⟩:=hrel;rcases k with _ | k
    · go_wp2
      go_ret;refine ⟨?_,_,rfl⟩;have hMN:M=N:=by
       have:=HK.out;rw [PJ,PJ] at this;rw [<- jg M,this,jg]
      rw [HM.out,HN.out,uaa (by rw [hMN])]
      rfl
    · have KG:k < (dg M).length:=by have:=tZ.out; omega
      have Ib:k < (dg N).length:=by have:=HL.out; omega
      obtain ⟨ad,rfl,hb,aj,af⟩:=H3.out.at_ k KG;obtain ⟨ad',rfl,eP,iF,fV⟩:=nC.out.at_ k Ib;obtain ⟨x,hx⟩:∃ x,x=(dg M)[k]:=⟨_,rfl⟩;obtain ⟨y,hy⟩:∃ y,y=(dg N)[k]:=⟨_,rfl⟩;rw [<- hx] at aj af;rw [<- hy] at iF fV;have HX:=hid hx;have HY:=hid hy;clear hx hy;have qP:(0:Int)<=k:=by omega
      rcases pax x y with JJ | JJ | JJ
      · go_wp2
        go_quiet (fail)
        go_wp2
        go_ret;refine ⟨?_,_,pas _ _ _⟩;have:=wbb k HMd.out KG Ib (tZ.out.trans HL.out.symm) HK.out (by rw [<- HX.out,<- HY.out]; exact JJ);rw [jg,jg] at this;rw [HM.out,HN.out,jah (by omega)]
        rfl
      · subst JJ
        go_wp2
        go_quiet (fail)
        go_wp2
        go_quiet (fail)
        go_wp2
        go_roundw
        case rel=>exact ⟨k,_,by omega,by go_num,hid (by rw [sh KG,sh Ib,HK.out,<- HX.out,<- HY.out]),rfl⟩
        case measure=>simp [intOf]
      · go_wp2
        go_quiet (fail)
        go_wp2
        go_quiet (fail)
        go_wp2
        go_ret;refine ⟨?_,_,by rw [pas,pas]⟩;have:=wbb k HNd.out Ib KG (HL.out.trans tZ.out.symm) HK.out.symm (by rw [<- HX.out,<- HY.out]; exact JJ);rw [jg,jg] at this;rw [HM.out,HN.out,kar (by omega)]
        rfl
 · go_wp2
   go_ret;exact ⟨by rw [HM.out,HN.out,kar (by have:=vas Ii; omega)]; rfl,0,rfl⟩
theorem jbw (z a b c x y P s:Nat) (h:z+P * c=a+b) (hs:s=x+y+c):z+P * (s % B32)+P * B32 * (s / B32)=(a+P * x)+(b+P * y):=by
 have e:P * (s % B32)+P * B32 * (s / B32)=P * s:=by rw [r9,<- rk,tw]
 have e2:P * s=P * x+P * y+P * c:=by rw [hs,rk,rk]
 omega
theorem vbn (x y c : Int) (p : Addr) (w : World) (hc : w.cell? p = some (.int .u32 c)) (hf : w.frozen? p = false)
 (x0:0<=x) (x1:x < 4294967296) (y0:0<=y) (y1:y < 4294967296) (c0:0<=c) (c1:c<=1) :
 Calls Tryz.prog 124 #[.int .u32 x,.int .u32 y,.pointer (some p)] w fun e w' =>
  e=.returned (.int .u32 ((x+y+c) % 4294967296))/\w.setCell p (.int .u32 ((x+y+c) / 4294967296))=w':=by
 go_enter Tryz.func124,Tryz.ntmps124;go_wp2_with (go_at_call 125; refine (add32 _ _ _ _ (by omega) (by omega) (by omega) (by omega) (by omega) (by omega)).mono ?_; rintro e w' ⟨rfl,rfl⟩)
 go_ret;exact ⟨rfl,rfl⟩
theorem yaa (zs:List Nat) (k d:Nat) (hk:k < zs.length):(zs.set k d).take (k+1)=zs.take k ++ [d]:=by
 rw [pay,Sk (pj k),SP hk]
 rfl
theorem ya6 (zs:List Nat) (k:Nat) (hk:k < zs.length):zs.take (k+1)=zs.take k ++ [zs[k]]:=by
 rw [pay,pr hk]; rfl
def Cell (w:World) (g:Nat) (x:Int):Prop:=w.heap[g]?=some (.cells #[.int .u32 x] 84 (0,0))
theorem Cell.cell {w:World} {g:Nat} {x:Int} (h:Cell w g x):w.cell? ⟨g,0,none⟩=some (.int .u32 x):=by
 rw [cell_of_row w g 0 _ _ (0,0) h]; rfl
theorem Cell.frozen {w:World} {g:Nat} {x:Int} (h:Cell w g x):w.frozen? ⟨g,0,none⟩=false:=by
 unfold Cell at h;simp [World.frozen?,h]
theorem Cell.xD {w:World} {g:Nat} {x:Int} (h:Cell w g x) (y:Int):Cell (w.setCell ⟨g,0,none⟩ (.int .u32 y)) g y:=by
 unfold Cell at h ⊢;simp [World.setCell,RO,h]
theorem Cell.far {w:World} {g:Nat} {x:Int} (h:Cell w g x) {p:Addr} (hp:g ≠ p.block) (u:Value):Cell (w.setCell p u) g x:=(Below.heap_setCell w p u g hp).trans h
theorem Cell.new (w:World) (x:Int):Cell (w.alloc (.cells #[.int .u32 x] 84)) w.heap.size x:=heap_alloc_new w _
theorem Cell.lt {w:World} {g:Nat} {x:Int} (h:Cell w g x):g < w.heap.size:=by
 rcases tM g w.heap.size with af | oL
 · exact af
 · unfold Cell at h; rw [Array.getElem?_eq_none oL] at h; cases h
theorem Cell.alloc {w:World} {g:Nat} {x:Int} (h:Cell w g x) (o:Obj):Cell (w.alloc o) g x:=(Below.heap_alloc w o g h.lt).trans h
def wax (w0:World) (gc gz:Nat) (E F:List Nat) (k:Nat) (wr:World):Prop:=
 ∃ (zs:List Nat) (cy:Nat),Cell wr gc (cy:Int)/\Row wr gz zs/\zs.length=E.length+1/\ug zs/\cy<=1/\val (zs.take k)+B32 ^ k * cy=val (E.take k)+val (F.take k)/\Ext w0 wr
theorem wax.step {w0 wr : World} {gc gz : Nat} {E F : List Nat} {k x y cy : Nat} {zs : List Nat} (hc : Cell wr gc (cy : Int)) (hr : Row wr gz zs) (hl : zs.length = E.length + 1) (hd : ug zs)
 (he:val (zs.take k)+B32 ^ k * cy=val (E.take k)+val (F.take k)) (hx:Ext w0 wr) (au:gc ≠ gz) (h0:w0.heap.size<=gc) (Df:w0.heap.size<=gz)
 (hk:k < E.length) (x1:x < 4294967296) (y1:y < 4294967296) (c1:cy<=1) (ZA:val (E.take (k+1))=val (E.take k)+B32 ^ k * x) (Zw:val (F.take (k+1))=val (F.take k)+B32 ^ k * y) :
 wax w0 gc gz E F (k+1) ((wr.setCell ⟨gc,0,none⟩ (.int .u32 (((x:Int)+y+cy) / 4294967296))).setCell ⟨gz,k,none⟩ (.int .u32 (((x:Int)+y+cy) % 4294967296))):=by
 have e1:(((x:Int)+y+cy) / 4294967296)=(((x+y+cy) / B32:Nat):Int):=by rw [yh]; omega
 have e2:(((x:Int)+y+cy) % 4294967296)=(((x+y+cy) % B32:Nat):Int):=by rw [yh]; omega
 rw [e1,e2];have hlen:k < zs.length:=by omega
 refine ⟨zs.set k ((x+y+cy) % B32),(x+y+cy) / B32,(hc.xD _).far (by simpa using au) _,(hr.far (by simpa using Ne.symm au) _).xD _ _,by rw [pL,hl],hd.set _ _ (tg _ yj),
  by rw [yh]; omega,?_,(hx.setCell (by simpa using h0) _).setCell (by simpa using Df) _⟩
 rw [yaa zs k _ hlen,uaf,pA,so (by omega),ZA,Zw,si];exact jbw _ _ _ _ _ _ _ _ he rfl
theorem xh {E:List Nat} {k x:Nat} (hk:Hid (E[k]?=some x)):val (E.take (k+1))=val (E.take k)+B32 ^ k * x:=by
 obtain ⟨h,e⟩:=wk.1 hk.out;rw [ya6 E k h,uaf,pA,so (by omega),e]
theorem jat {E:List Nat} {k:Nat} (hk:E.length<=k):val (E.take (k+1))=val (E.take k)+B32 ^ k * 0:=by
 rw [p8 hk,p8 (by omega)]; simp
def kdi (w:World) (m L:Nat) (s0 s1:Value) (wx:World):Prop:=
 ∃ A c A' c' E F,s0=.slice A E.length c/\s1=.slice A' F.length c'/\F.length<=E.length/\E.length<=c/\c<=9223372036854775807/\F.length<=c'/\c'<=9223372036854775807 /\
   uj w A E/\uj w A' F/\val E+val F=m/\E.length<=L/\wx=w
theorem qbb (u v:Value) (ds es:List Nat) (w:World) (h:jc w u ds) (k:jc w v es) (hs:ds.length+es.length<=35184372088000) :
 Calls Tryz.prog 106 #[u,v] w (yat (val ds+val es) w):=by
 have sJ:(dg (val ds)).length<=ds.length:=zi h.kr;have aay:(dg (val es)).length<=es.length:=zi k.kr;go_enter Tryz.func106,Tryz.ntmps106;go_wp2_with fail;refine (uw u ds _ h).mono ?_;rintro e w' ⟨u',rfl,hu,rfl⟩;go_wp2_with fail;refine (uw v es _ k).mono ?_;rintro e w' ⟨v',rfl,hv,rfl⟩;obtain ⟨A,c,rfl,h1,h2,h3⟩:=hu;obtain ⟨A',c',rfl,jR,mD,kZ⟩:=hv;have H3:=hid h3;have nC:=hid kZ;clear h3 kZ h k
 go_upto_if 19 with (fail)
 go_cut [0,1] (fun s0 s1 wx=>kdi w (val ds+val es) (ds.length+es.length) s0 s1 wx)
 case first =>
  by_cases af:(dg (val ds)).length < (dg (val es)).length
  · go_wp2
    go_meet
    exact ⟨_,_,_,_,_,_,rfl,rfl,by omega,jR,mD,h1,h2,nC.out,H3.out,by rw [jg,jg]; omega,by omega,rfl⟩
  · go_wp2
    go_meet
    exact ⟨_,_,_,_,_,_,rfl,rfl,by omega,h1,h2,jR,mD,H3.out,nC.out,by rw [jg,jg],by omega,rfl⟩
 case rest =>
  obtain ⟨A,c,A',c',E,F,rfl,rfl,O0,g1,g2,g3,g4,g5,g6,g7,g8,rfl⟩:=hcut;have G5:=hid g5;have G6:=hid g6;have G7:=hid g7;clear g5 g6 g7 H3 nC h1 h2 jR mD sJ aay;have dA:=fun W=>qab ((E.length:Int)+1) (by omega) (by omega) W
  go_wp2_with fail
  have hinv:wax wc wc.heap.size (wc.heap.size+1) E F 0 ((wc.alloc (Obj.cells #[Value.int IntKind.u32 0] 84)).alloc (Obj.cells (yu (List.replicate (E.length+1) 0)).toArray 84)):=
   ⟨List.replicate (E.length+1) 0,0,(Cell.new wc 0).alloc _,by have:=Row.new (wc.alloc (Obj.cells #[Value.int IntKind.u32 0] 84)) (List.replicate (E.length+1) 0); simpa using this,by simp,ug.replicate _,by omega,by simp,((Ext.refl _).alloc _).alloc _⟩
  have cZ:=hid hinv;clear hinv
  go_loopw [29] (fun i wr=>∃ k:Nat,k<=F.length/\i=.int .i64 k/\Hid (wax wc wc.heap.size (wc.heap.size+1) E F k wr)) (fun i _=>F.length - (intOf i).toNat)
  case atStart=>exact ⟨0,by omega,rfl,cZ⟩
  case round =>
   obtain ⟨k,hk,rfl,HI⟩:=hrel
   by_cases af:k < F.length
   · obtain ⟨zs,cy,nK,ae,eF,fA,bY,hsum,aA⟩:=HI.out;obtain ⟨ad,x,rfl,hb,aj,hx1,HX⟩:=(G5.out.ext aA).xS k (by omega);obtain ⟨ad',y,rfl,eP,iF,DZ,HY⟩:=(G6.out.ext aA).xS k af;have kV:=nK.cell;have eu:=nK.frozen;obtain ⟨z,GK,EK,_⟩:=ae.xS k (by omega);have HS:=hid (wax.step nK ae eF fA hsum aA (by omega) (by omega) (by omega) (by omega) hx1 DZ bY (xh HX) (xh HY));clear HI nK ae eF fA hsum aA;go_wp2_with fail;refine (vbn _ _ _ _ _ kV eu (by omega) (by omega) (by omega) (by omega) (by omega) (by omega)).mono ?_;rintro e w' ⟨rfl,rfl⟩;go_wp2_with fail
     go_roundw
     case rel=>exact ⟨k+1,by omega,by go_num,HS⟩
     case measure=>simp [intOf]; omega
   · obtain rfl:k=F.length:=by omega
     go_wp2_with fail
     go_loopw [10] (fun i wr=>∃ k:Nat,F.length<=k/\k<=E.length/\i=.int .i64 k/\Hid (wax wc wc.heap.size (wc.heap.size+1) E F k wr)) (fun i _=>E.length - (intOf i).toNat)
     case atStart=>exact ⟨F.length,pj _,O0,rfl,HI⟩
     case round =>
      clear HI;obtain ⟨k,qP,hk,rfl,HI⟩:=hrel;obtain ⟨zs,cy,nK,ae,eF,fA,bY,hsum,aA⟩:=HI.out
      by_cases lJ:k < E.length
      · obtain ⟨ad,x,rfl,hb,aj,hx1,HX⟩:=(G5.out.ext aA).xS k (by omega);have kV:=nK.cell;have eu:=nK.frozen;obtain ⟨z,GK,EK,_⟩:=ae.xS k (by omega);have HS:=hid (wax.step (y:=0) nK ae eF fA hsum aA (by omega) (by omega) (by omega) (by omega) hx1 (by omega) bY (xh HX) (jat qP));rw [paH,paD] at HS;clear HI nK ae eF fA hsum aA;go_wp2_with fail;refine (vbn _ 0 _ _ _ kV eu (by omega) (by omega) (by omega) (by omega) (by omega) (by omega)).mono ?_;rw [paD];rintro e w' ⟨rfl,rfl⟩;go_wp2_with fail
        go_roundw
        case rel=>exact ⟨k+1,by omega,by omega,by go_num,HS⟩
        case measure=>simp [intOf]; omega
      · obtain rfl:k=E.length:=by omega
        have kV:=nK.cell;obtain ⟨z,GK,EK,_⟩:=ae.xS E.length (by omega);have lT:=ae.xD E.length cy;have Iw:=aA.setCell (p:=⟨wc.heap.size+1,E.length,none⟩) (by simp) (.int .u32 (cy:Int));have FK:=fA.set E.length cy (by rw [yh]; omega);have aJ:val (zs.set E.length cy)=val ds+val es:=by
         have e1:=yaa zs E.length cy (by omega);rw [p8 (by rw [pL]; omega)] at e1;rw [e1,uaf,pA,so (by omega),hsum,p8 (pj _),p8 O0];exact G7.out
        have hlen:(zs.set E.length cy).length=E.length+1:=by rw [pL,eF]
        have HN:Hid (jc (wr.setCell ⟨wc.heap.size+1,E.length,none⟩ (.int .u32 (cy:Int))) (.slice (some ⟨wc.heap.size+1,0,none⟩) (E.length+1) (E.length+1)) (zs.set E.length cy)):=by
         have:=lT.qaD FK (E.length+1) (by omega) (by omega);rw [hlen] at this;exact this
        have HV:=hid aJ;have HX:=hid Iw;clear HI nK ae eF fA hsum aA lT Iw FK aJ hlen;go_wp2_with fail;refine (uw _ _ _ HN.out).mono ?_;rintro e w' ⟨v',rfl,hv,rfl⟩;have uJ:=hid hv;clear hv;go_wp2_with fail;go_ret;refine ⟨v',rfl,?_,HX.out⟩;rw [<- HV.out];exact uJ.out
theorem xbj (x y c : Int) (p : Addr) (w : World) (hc : w.cell? p = some (.int .u32 c)) (hf : w.frozen? p = false)
 (x0:0<=x) (x1:x < 4294967296) (y0:0<=y) (y1:y < 4294967296) (c0:0<=c) (c1:c<=1) :
 Calls Tryz.prog 126 #[.int .u32 x,.int .u32 y,.pointer (some p)] w fun e w' =>
  e=.returned (.int .u32 ((x - y - c) % 4294967296))/\w.setCell p (.int .u32 (bor x y c))=w':=by
 go_enter Tryz.func126,Tryz.ntmps126;go_wp2_with (go_at_call 127; refine (ucg _ _ _ _ (by omega) (by omega) (by omega) (by omega) (by omega) (by omega)).mono ?_; rintro e w' ⟨rfl,rfl⟩)
 go_ret;exact ⟨rfl,rfl⟩
theorem wc6 (z a b c x y P d c':Nat) (h:z+b=a+P * c) (hd:d+y+c=x+B32 * c'):(z+P * d)+(b+P * y)=(a+P * x)+P * B32 * c'+2 * (P * c) - 2 * (P * c):=by
 have e:P * d+P * y+P * c=P * x+P * B32 * c':=by rw [<- rk,<- rk,hd,rk,r9]
 omega
def vax (w0:World) (gc gz:Nat) (E F:List Nat) (k:Nat) (wr:World):Prop:=
 ∃ (zs:List Nat) (cy:Nat),Cell wr gc (cy:Int)/\Row wr gz zs/\zs.length=E.length/\ug zs/\cy<=1/\val (zs.take k)+val (F.take k)=val (E.take k)+B32 ^ k * cy/\Ext w0 wr
theorem vax.step {w0 wr : World} {gc gz : Nat} {E F : List Nat} {k x y cy : Nat} {zs : List Nat} (hc : Cell wr gc (cy : Int)) (hr : Row wr gz zs) (hl : zs.length = E.length) (hd : ug zs)
 (he:val (zs.take k)+val (F.take k)=val (E.take k)+B32 ^ k * cy) (hx:Ext w0 wr) (au:gc ≠ gz) (h0:w0.heap.size<=gc) (Df:w0.heap.size<=gz)
 (hk:k < E.length) (x1:x < 4294967296) (y1:y < 4294967296) (c1:cy<=1) (ZA:val (E.take (k+1))=val (E.take k)+B32 ^ k * x) (Zw:val (F.take (k+1))=val (F.take k)+B32 ^ k * y) :
 vax w0 gc gz E F (k+1) ((wr.setCell ⟨gc,0,none⟩ (.int .u32 (bor x y cy))).setCell ⟨gz,k,none⟩ (.int .u32 (((x:Int) - y - cy) % 4294967296))):=by
 obtain ⟨d,eH⟩:=sM (show 0<=((x:Int) - y - cy) % 4294967296 by omega);obtain ⟨c',lD⟩:=sM (wa2 x y cy).1;have dP:=(wa2 x y cy).2;rw [lD] at dP;have Lm:d+y+cy=x+B32 * c':=by
  rw [yh];unfold bor at lD
  split at lD <;> omega
 rw [eH,lD];have hlen:k < zs.length:=by omega
 refine ⟨zs.set k d,c',(hc.xD _).far (by simpa using au) _,(hr.far (by simpa using Ne.symm au) _).xD _ _,by rw [pL,hl],hd.set _ _ (by rw [yh]; omega),
  by omega,?_,(hx.setCell (by simpa using h0) _).setCell (by simpa using Df) _⟩
 rw [yaa zs k _ hlen,uaf,pA,so (by omega),ZA,Zw,si];have:=wc6 _ _ _ _ _ _ _ _ _ he Lm;omega
def wde (n:Nat) (w:World) (e:Ending) (w':World):Prop:=∃ v,e=.returned (.tuple #[v,.bool true])/\jc w' v (dg n)/\wab w.heap.size v/\Ext w w'
theorem zbo (u v:Value) (ds es:List Nat) (w:World) (h:jc w u ds) (k:jc w v es) (hs:ds.length<=35184372088000) (oL:val es<=val ds) :
 Calls Tryz.prog 107 #[u,v] w (wde (val ds - val es) w):=by
 have sJ:(dg (val ds)).length<=ds.length:=zi h.kr;have O0:(dg (val es)).length<=(dg (val ds)).length:=wu oL;go_enter Tryz.func107,Tryz.ntmps107;go_wp2_with fail;refine (uw u ds _ h).mono ?_;rintro e w' ⟨u',rfl,hu,rfl⟩;go_wp2_with fail;refine (uw v es _ k).mono ?_;rintro e w' ⟨v',rfl,hv,rfl⟩;go_wp2_with fail;refine (jar _ _ _ _ _ hu hv).mono ?_;rw [jg,jg];have TW:0<=uh (val ds) (val es):=by unfold uh; split <;> (try split) <;> omega
 have afv:=(xal (val ds) (val es)).2;generalize uh (val ds) (val es)=cm at *;rintro e wc ⟨rfl,n,hw⟩;have iR:Ext w wc:=by rw [hw]; exact (Ext.refl w).drewN n
 clear hw;obtain ⟨A,c,rfl,h1,h2,h3⟩:=hu;obtain ⟨A',c',rfl,jR,mD,kZ⟩:=hv;have G5:=hid (h3.ext iR);have G6:=hid (kZ.ext iR);have Dk:=hid iR;clear h3 kZ iR h k;generalize hE:dg (val ds)=E at *;generalize hF:dg (val es)=F at *;have HE:=hid hE;have HF:=hid hF;clear hE hF;have dA:=fun W=>qab (E.length:Int) (by omega) (by omega) W
 go_wp2_with fail
 have hinv:vax wc wc.heap.size (wc.heap.size+1) E F 0 ((wc.alloc (Obj.cells #[Value.int IntKind.u32 0] 84)).alloc (Obj.cells (yu (List.replicate E.length 0)).toArray 84)):=
  ⟨List.replicate E.length 0,0,(Cell.new wc 0).alloc _,by have:=Row.new (wc.alloc (Obj.cells #[Value.int IntKind.u32 0] 84)) (List.replicate E.length 0); simpa using this,by simp,ug.replicate _,by omega,by simp,((Ext.refl _).alloc _).alloc _⟩
 have cZ:=hid hinv;clear hinv
 go_loopw [26] (fun i wr=>∃ k:Nat,k<=F.length/\i=.int .i64 k/\Hid (vax wc wc.heap.size (wc.heap.size+1) E F k wr)) (fun i _=>F.length - (intOf i).toNat)
 case atStart=>exact ⟨0,by omega,rfl,cZ⟩
 case round =>
  obtain ⟨k,hk,rfl,HI⟩:=hrel
  by_cases af:k < F.length
  · obtain ⟨zs,cy,nK,ae,eF,fA,bY,hsum,aA⟩:=HI.out;obtain ⟨ad,x,rfl,hb,aj,hx1,HX⟩:=(G5.out.ext aA).xS k (by omega);obtain ⟨ad',y,rfl,eP,iF,DZ,HY⟩:=(G6.out.ext aA).xS k af;have kV:=nK.cell;have eu:=nK.frozen;obtain ⟨z,GK,EK,_⟩:=ae.xS k (by omega);have HS:=hid (vax.step nK ae eF fA hsum aA (by omega) (by omega) (by omega) (by omega) hx1 DZ bY (xh HX) (xh HY));clear HI nK ae eF fA hsum aA;go_wp2_with fail;refine (xbj _ _ _ _ _ kV eu (by omega) (by omega) (by omega) (by omega) (by omega) (by omega)).mono ?_;rintro e w' ⟨rfl,rfl⟩;go_wp2_with fail
    go_roundw
    case rel=>exact ⟨k+1,by omega,by go_num,HS⟩
    case measure=>simp [intOf]; omega
  · obtain rfl:k=F.length:=by omega
    go_wp2_with fail
    go_loopw [11] (fun i wr=>∃ k:Nat,F.length<=k/\k<=E.length/\i=.int .i64 k/\Hid (vax wc wc.heap.size (wc.heap.size+1) E F k wr)) (fun i _=>E.length - (intOf i).toNat)
    case atStart=>exact ⟨F.length,pj _,O0,rfl,HI⟩
    case round =>
     clear HI;obtain ⟨k,qP,hk,rfl,HI⟩:=hrel;obtain ⟨zs,cy,nK,ae,eF,fA,bY,hsum,aA⟩:=HI.out
     by_cases lJ:k < E.length
     · obtain ⟨ad,x,rfl,hb,aj,hx1,HX⟩:=(G5.out.ext aA).xS k (by omega);have kV:=nK.cell;have eu:=nK.frozen;obtain ⟨z,GK,EK,_⟩:=ae.xS k (by omega);have HS:=hid (vax.step (y:=0) nK ae eF fA hsum aA (by omega) (by omega) (by omega) (by omega) hx1 (by omega) bY (xh HX) (jat qP));rw [paH,Int.sub_zero] at HS;clear HI nK ae eF fA hsum aA;go_wp2_with fail;refine (xbj _ 0 _ _ _ kV eu (by omega) (by omega) (by omega) (by omega) (by omega) (by omega)).mono ?_;rw [Int.sub_zero];rintro e w' ⟨rfl,rfl⟩;go_wp2_with fail
       go_roundw
       case rel=>exact ⟨k+1,by omega,by omega,by go_num,HS⟩
       case measure=>simp [intOf]; omega
     · obtain rfl:k=E.length:=by omega
       have aJ:val zs=val ds - val es:=by
        have hb:=wz fA;rw [p8 (by omega),p8 O0,p8 (pj _),<- HE.out,<- HF.out,jg,jg] at hsum;rw [eF,<- HE.out] at hb;have aa9:cy=0:=by
         rcases tU cy with e | e
         · exact e
         · obtain rfl:cy=1:=by omega
           rw [ur] at hsum;omega
        rw [aa9] at hsum;omega
       have HN:Hid (jc wr (.slice (some ⟨wc.heap.size+1,0,none⟩) E.length E.length) zs):=by
        have:=ae.qaD fA E.length (by omega) (by omega);rw [eF] at this;exact this
       have HV:=hid aJ;have HX:=hid aA;clear HI nK ae eF fA hsum aA aJ;go_wp2_with fail;refine (wa6 w.heap.size _ _ _ HN.out (wab.mk _ _ _ _ (by have:=Dk.out.size; simp; omega))).mono ?_;rintro e w' ⟨v',rfl,hv,bG,rfl⟩;have uJ:=hid hv;have qZ:=hid bG;clear hv bG;go_wp2_with fail
       go_ret2
       refine ⟨v',rfl,?_,qZ.out,Dk.out.trans HX.out⟩;rw [<- HV.out];exact uJ.out
end Go.Proofs.YtcepajijiabkmaaGreat
