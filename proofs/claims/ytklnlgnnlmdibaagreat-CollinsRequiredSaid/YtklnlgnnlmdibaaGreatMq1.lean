/- Layer 1 (natural): what each function returns, of digit lists. -/
import Derived.Test.YtklnlgnnlmdibaaGreatMq0
set_option linter.unusedSimpArgs false
set_option linter.unusedVariables false
set_option maxRecDepth 100000
set_option maxHeartbeats 8000000
namespace Go.Proofs.YtklnlgnnlmdibaaGreat
open Lib (hid)
open Go.RowKit
theorem xa9 (A:Option Addr) (c n:Nat) (ds:List Nat) (w:World) (hd:zk w A ds) (hl:ds.length=n) (hn:n<=c) (hc:c<=9223372036854775807) :
 Calls Tryz.prog 106 #[.slice A n c] w fun e w'=>e=.returned (.slice A (qac ds n) c)/\w=w':=by
 have HD:=hid hd; clear hd;have HN:=hid hl; clear hl;go_enter Tryz.func106,Tryz.ntmps106
 go_wp2
 go_loop [3] (fun i=>∃ k:Nat,k<=n/\i=.int .i64 k/\qac ds k=qac ds n) (fun i=>(intOf i).toNat)
 case atStart=>exact ⟨n,Nat.le_refl _,rfl,rfl⟩
 case round =>
  obtain ⟨k,hk,rfl,ht⟩:=hrel;have HT:=hid ht; clear ht;rcases k with _ | k
  · go_wp2
    go_ret;exact ⟨by rw [<- HT.out]; rfl,rfl⟩
  · have hkl:k < ds.length:=by have:=HN.out; omega
    obtain ⟨ad,rfl,hb,aj,af⟩:=HD.out.at_ k hkl
    by_cases h0:ds[k]'hkl=0
    · rw [h0] at aj
      go_wp2
      go_round
      case rel=>exact ⟨k,by omega,rfl,by rw [<- HT.out,qac,if_pos]; rw [List.getD_eq_getElem?_getD,List.getElem?_eq_getElem hkl]; exact h0⟩
      case measure=>simp [intOf]
    · go_wp2
      go_ret;exact ⟨by rw [<- HT.out,qac,if_neg]; rfl; rw [List.getD_eq_getElem?_getD,List.getElem?_eq_getElem hkl]; exact h0,rfl⟩
theorem yw (v:Value) (ds:List Nat) (w:World) (h:jd w v ds) :
 Calls Tryz.prog 106 #[v] w fun e w'=>∃ v',e=.returned v'/\jd w v' (dg (val ds))/\w=w':=by
 obtain ⟨A,c,rfl,h1,h2,h3⟩:=h;refine (xa9 A c ds.length ds w h3 rfl h1 h2).mono ?_;rintro e w' ⟨rfl,rfl⟩;refine ⟨_,rfl,⟨A,c,?_,?_,h2,?_⟩,rfl⟩
 · rw [uag h3.1]
 · rw [uag h3.1]; exact Nat.le_trans (gam _ _) h1
 · rw [gbe h3.1]; exact h3.take _
theorem ya2 (B:Nat) (v:Value) (ds:List Nat) (w:World) (h:jd w v ds) (hf:waa B v) :
 Calls Tryz.prog 106 #[v] w fun e w'=>∃ v',e=.returned v'/\jd w v' (dg (val ds))/\waa B v'/\w=w':=by
 obtain ⟨A,c,rfl,h1,h2,h3⟩:=h;refine (xa9 A c ds.length ds w h3 rfl h1 h2).mono ?_;rintro e w' ⟨rfl,rfl⟩;refine ⟨_,rfl,⟨A,c,?_,?_,h2,?_⟩,?_,rfl⟩
 · rw [uag h3.1]
 · rw [uag h3.1]; exact Nat.le_trans (gam _ _) h1
 · rw [gbe h3.1]; exact h3.take _
 · rcases A with _ | ad
   · exact waa.nil _ _ _
   · exact waa.mk _ _ _ _ (hf ad _ _ rfl)
theorem kaz (v:Value) (ds:List Nat) (w:World) (h:jd w v ds) :
 Calls Tryz.prog 108 #[v] w fun e w'=>e=.returned (.bool (val ds == 0))/\w=w':=by
 obtain ⟨A,c,rfl,h1,h2,h3⟩:=h;have ht:=gam ds ds.length;have hz:(qac ds ds.length == 0)=(val ds == 0):=by
  rw [<- uag h3.1,Bool.eq_iff_iff,beq_iff_eq,beq_iff_eq];exact ⟨zax,fun e=>by rw [e,jm]; rfl⟩
 have H3:=hid h3; clear h3;have HZ:=hid hz; clear hz;go_enter Tryz.func108,Tryz.ntmps108;go_wp2_with fail;refine (xa9 A c ds.length ds _ H3.out rfl h1 h2).mono ?_;rintro e w' ⟨rfl,rfl⟩
 go_wp2
 go_ret;refine ⟨?_,rfl⟩;have:=HZ.out;rw [Bool.eq_iff_iff,beq_iff_eq,beq_iff_eq] at this;show Ending.returned (Value.bool _)=_
 congr 2
 rw [Bool.eq_iff_iff,beq_iff_eq,beq_iff_eq,<- this];omega
theorem vab (v:Value) (ds:List Nat) (w:World) (h:jd w v ds) (hs:ds.length<=35184372088832) :
 Calls Tryz.prog 85 #[v] w (qap (val ds) w):=by
 have ht:(dg (val ds)).length<=ds.length:=jh h.digs;go_enter Tryz.func85,Tryz.ntmps85;go_wp2_with fail;refine (yw v ds _ h).mono ?_;rintro e w' ⟨v',rfl,hv,rfl⟩;obtain ⟨A,c,rfl,h1,h2,h3⟩:=hv;have cu:=fun W=>xaa ((dg (val ds)).length:Nat) (by omega) (by omega) W
 have H3:=hid h3;have HD:=hid (gak (val ds));clear h3;generalize hE:dg (val ds)=E at *;have HE:=hid hE;clear hE;go_wp2_with (with_reducible refine wpList_copy_splice rfl (.tmp 9) (.tmp 10) _ _ rfl 90 Tryz.underlying31 ga9 _ _ _ _ _ _ rfl rfl w.heap.size 0 (yt (List.replicate E.length 0)) 90 ?_ (yt E) ?_ ?_ ?_ ?_ w.heap.size w ?_ ?_ ?_)
 · exact heap_alloc_new _ _
 · rw [yaa]; simp
 · intro hp;rw [yaa] at hp;obtain ⟨ad,e,hb,hc⟩:=H3.out.2 hp;refine ⟨ad,e,fun j x hx=>?_⟩;have hj:j < E.length:=by
    rcases Nat.lt_or_ge j E.length with hj | hj
    · exact hj
    · rw [List.getElem?_eq_none (by rw [yaa]; exact hj)] at hx; cases hx
   rw [zay E j hj] at hx;rw [World.cell?_alloc_lt _ _ _ (by rw [ja]; exact hb),hc j hj,hx]
 · rw [yaa,yaa]; simp
 · exact kbm E
 · exact (Below.refl _ _).alloc (Nat.le_refl _) _
 · exact Nat.le_refl _
 · intro w' ae hb;have rC:splice (yt (List.replicate E.length 0)) 0 (yt E)=yt E:=by
    simp [splice,yt]
   rw [rC] at ae;have HR:Hid (Row w' w.heap.size E):=ae;have HB:Hid (Ext w w'):=hb;clear ae hb rC
   go_wp2
   go_ret;refine ⟨_,rfl,?_,HB.out⟩;rw [HE.out];exact HR.out.natV HD.out _ (Nat.le_refl _) (by omega)
theorem jau (n:Nat) (w:World) (hn:n < 18446744073709551616) :
 Calls Tryz.prog 58 #[.int .u64 n] w (qap n w):=by
 go_enter Tryz.func58,Tryz.ntmps58;go_wp2_with fail;have hr:Row (w.alloc (Obj.cells #[Value.int IntKind.u32 (↑n % 4294967296),Value.int IntKind.u32 (↑n / 4294967296)] 90)) w.heap.size [n % 4294967296,n / 4294967296]:=by
  have:=Row.new w [n % 4294967296,n / 4294967296];simpa [yt] using this
 have hd:jg [n % 4294967296,n / 4294967296]:=jg.cons (Nat.mod_lt _ (by decide)) (jg.cons (by rw [zh]; omega) jg.nil);refine (vab _ _ _ (hr.natV hd 2 (Nat.le_refl _) (by omega)) (by simp)).mono ?_;rintro e w' ⟨v,rfl,hv,hx⟩;have aJ:val [n % 4294967296,n / 4294967296]=n:=by simp [val,zh]; omega
 rw [aJ] at hv;have HV:=hid hv;have HX:=hid hx;clear hv hx aJ hr
 go_wp2
 go_ret;exact ⟨_,rfl,HV.out,((Ext.refl w).alloc _).trans HX.out⟩
theorem gan (u v:Value) (ds es:List Nat) (w:World) (h:jd w u ds) (k:jd w v es) :
 Calls Tryz.prog 122 #[u,v] w fun e w'=>e=.returned (.int .i64 (qi (val ds) (val es)))/\∃ n,w'=w.drewN n:=by
 go_enter Tryz.func122,Tryz.ntmps122;go_wp2_with fail;refine (yw u ds _ h).mono ?_;rintro e w' ⟨u',rfl,hu,rfl⟩;go_wp2_with fail;refine (yw v es _ k).mono ?_;rintro e w' ⟨v',rfl,hv,rfl⟩;obtain ⟨A,c,rfl,h1,h2,h3⟩:=hu;obtain ⟨A',c',rfl,jO,mD,kW⟩:=hv;generalize hM:val ds=M at *;generalize hN:val es=N at *;have H3:=hid h3;have nM:=hid kW;have HM:=hid hM;have HN:=hid hN;clear h3 kW hM hN h k;rcases Nat.lt_trichotomy (dg M).length (dg N).length with af | heq | II
 · go_wp2
   go_ret;exact ⟨by rw [HM.out,HN.out,qaf (by have:=wao af; omega)]; rfl,0,rfl⟩
 · generalize hL:(dg N).length=L at *;rw [heq] at h1 ⊢;have HL:=hid hL;have yL:=hid heq;clear heq hL;have HMd:=hid (gak M);have HNd:=hid (gak N)
   go_wp2
   go_loopw [5] (fun i wr=>∃ k n:Nat,k<=L/\i=.int .i64 ((k:Int) - 1)/\Hid ((dg M).drop k=(dg N).drop k)/\wr=w.drewN n) (fun i _=>(intOf i+1).toNat)
   case atStart=>exact ⟨L,0,Nat.le_refl _,rfl,hid (by rw [List.drop_eq_nil_of_le (by have:=yL.out; omega),List.drop_eq_nil_of_le (by have:=HL.out; omega)]),rfl⟩
   case round =>
    obtain ⟨k,n,hk,rfl,HK,rfl⟩:=hrel;rcases k with _ | k
    · go_wp2
      go_ret;refine ⟨?_,_,rfl⟩;have hMN:M=N:=by
       have:=HK.out;rw [List.drop_zero,List.drop_zero] at this;rw [<- xg M,this,xg]
      rw [HM.out,HN.out,uz (by rw [hMN])]
      rfl
    · have KR:k < (dg M).length:=by have:=yL.out; omega
      have IB:k < (dg N).length:=by have:=HL.out; omega
      obtain ⟨ad,rfl,hb,aj,af⟩:=H3.out.at_ k KR;obtain ⟨ad',rfl,dL,iC,bQ⟩:=nM.out.at_ k IB;obtain ⟨x,hx⟩:∃ x,x=(dg M)[k]:=⟨_,rfl⟩;obtain ⟨y,hy⟩:∃ y,y=(dg N)[k]:=⟨_,rfl⟩;rw [<- hx] at aj af;rw [<- hy] at iC bQ;have HX:=hid hx;have HY:=hid hy;clear hx hy;have xH:(0:Int)<=k:=by omega
      rcases Nat.lt_trichotomy x y with QG | QG | QG
      · go_wp2
        go_quiet (fail)
        go_wp2
        go_ret;refine ⟨?_,_,World.drewN_drewN _ _ _⟩;have:=qa6 k HMd.out KR IB (yL.out.trans HL.out.symm) HK.out (by rw [<- HX.out,<- HY.out]; exact QG);rw [xg,xg] at this;rw [HM.out,HN.out,qaf (by omega)]
        rfl
      · subst QG
        go_wp2
        go_quiet (fail)
        go_wp2
        go_quiet (fail)
        go_wp2
        go_roundw
        case rel=>exact ⟨k,_,by omega,by go_num,hid (by rw [List.drop_eq_getElem_cons KR,List.drop_eq_getElem_cons IB,HK.out,<- HX.out,<- HY.out]),rfl⟩
        case measure=>simp [intOf]
      · go_wp2
        go_quiet (fail)
        go_wp2
        go_quiet (fail)
        go_wp2
        go_ret;refine ⟨?_,_,by rw [World.drewN_drewN,World.drewN_drewN]⟩;have:=qa6 k HNd.out IB KR (HL.out.trans yL.out.symm) HK.out.symm (by rw [<- HX.out,<- HY.out]; exact QG);rw [xg,xg] at this;rw [HM.out,HN.out,wan (by omega)]
        rfl
 · go_wp2
   go_ret;exact ⟨by rw [HM.out,HN.out,wan (by have:=wao II; omega)]; rfl,0,rfl⟩
theorem wbm (z a b c x y P s:Nat) (h:z+P * c=a+b) (hs:s=x+y+c):z+P * (s % B32)+P * B32 * (s / B32)=(a+P * x)+(b+P * y):=by
 have e:P * (s % B32)+P * B32 * (s / B32)=P * s:=by rw [Nat.mul_assoc,<- Nat.mul_add,Nat.mod_add_div]
 have e2:P * s=P * x+P * y+P * c:=by rw [hs,Nat.mul_add,Nat.mul_add]
 omega
theorem jbf (x y c : Int) (p : Addr) (w : World) (hc : w.cell? p = some (.int .u32 c)) (hf : w.frozen? p = false)
 (x0:0<=x) (x1:x < 4294967296) (y0:0<=y) (y1:y < 4294967296) (c0:0<=c) (c1:c<=1) :
 Calls Tryz.prog 141 #[.int .u32 x,.int .u32 y,.pointer (some p)] w fun e w' =>
  e=.returned (.int .u32 ((x+y+c) % 4294967296))/\w.setCell p (.int .u32 ((x+y+c) / 4294967296))=w':=by
 go_enter Tryz.func141,Tryz.ntmps141;go_wp2_with (go_at_call 142; refine (add32 _ _ _ _ (by omega) (by omega) (by omega) (by omega) (by omega) (by omega)).mono ?_; rintro e w' ⟨rfl,rfl⟩)
 go_ret;exact ⟨rfl,rfl⟩
theorem gy (zs:List Nat) (k d:Nat) (hk:k < zs.length):(zs.set k d).take (k+1)=zs.take k ++ [d]:=by
 rw [List.take_add_one,List.take_set_of_le (Nat.le_refl k),List.getElem?_set_self hk]
 rfl
theorem ya1 (zs:List Nat) (k:Nat) (hk:k < zs.length):zs.take (k+1)=zs.take k ++ [zs[k]]:=by
 rw [List.take_add_one,List.getElem?_eq_getElem hk]; rfl
def Cell (w:World) (g:Nat) (x:Int):Prop:=w.heap[g]?=some (.cells #[.int .u32 x] 90 (0,0))
theorem Cell.cell {w:World} {g:Nat} {x:Int} (h:Cell w g x):w.cell? ⟨g,0,none⟩=some (.int .u32 x):=by
 rw [cell_of_row w g 0 _ _ (0,0) h]; rfl
theorem Cell.frozen {w:World} {g:Nat} {x:Int} (h:Cell w g x):w.frozen? ⟨g,0,none⟩=false:=by
 unfold Cell at h;simp [World.frozen?,h]
theorem Cell.set_ {w:World} {g:Nat} {x:Int} (h:Cell w g x) (y:Int):Cell (w.setCell ⟨g,0,none⟩ (.int .u32 y)) g y:=by
 unfold Cell at h ⊢;simp [World.setCell,Array.getElem?_modify,h]
theorem Cell.far {w:World} {g:Nat} {x:Int} (h:Cell w g x) {p:Addr} (hp:g ≠ p.block) (u:Value):Cell (w.setCell p u) g x:=(Below.heap_setCell w p u g hp).trans h
theorem Cell.new (w:World) (x:Int):Cell (w.alloc (.cells #[.int .u32 x] 90)) w.heap.size x:=heap_alloc_new w _
theorem Cell.lt {w:World} {g:Nat} {x:Int} (h:Cell w g x):g < w.heap.size:=by
 rcases Nat.lt_or_ge g w.heap.size with af | oN
 · exact af
 · unfold Cell at h; rw [Array.getElem?_eq_none oN] at h; cases h
theorem Cell.alloc {w:World} {g:Nat} {x:Int} (h:Cell w g x) (o:Obj):Cell (w.alloc o) g x:=(Below.heap_alloc w o g h.lt).trans h
def gat (w0:World) (gc gz:Nat) (E F:List Nat) (k:Nat) (wr:World):Prop:=
 ∃ (zs:List Nat) (cy:Nat),Cell wr gc (cy:Int)/\Row wr gz zs/\zs.length=E.length+1/\jg zs/\cy<=1/\val (zs.take k)+B32 ^ k * cy=val (E.take k)+val (F.take k)/\Ext w0 wr
theorem gat.step {w0 wr : World} {gc gz : Nat} {E F : List Nat} {k x y cy : Nat} {zs : List Nat} (hc : Cell wr gc (cy : Int)) (hr : Row wr gz zs) (hl : zs.length = E.length + 1) (hd : jg zs)
 (he:val (zs.take k)+B32 ^ k * cy=val (E.take k)+val (F.take k)) (hx:Ext w0 wr) (ak:gc ≠ gz) (h0:w0.heap.size<=gc) (DF:w0.heap.size<=gz)
 (hk:k < E.length) (x1:x < 4294967296) (y1:y < 4294967296) (c1:cy<=1) (hxE:val (E.take (k+1))=val (E.take k)+B32 ^ k * x) (hyF:val (F.take (k+1))=val (F.take k)+B32 ^ k * y) :
 gat w0 gc gz E F (k+1) ((wr.setCell ⟨gc,0,none⟩ (.int .u32 (((x:Int)+y+cy) / 4294967296))).setCell ⟨gz,k,none⟩ (.int .u32 (((x:Int)+y+cy) % 4294967296))):=by
 have e1:(((x:Int)+y+cy) / 4294967296)=(((x+y+cy) / B32:Nat):Int):=by rw [zh]; omega
 have e2:(((x:Int)+y+cy) % 4294967296)=(((x+y+cy) % B32:Nat):Int):=by rw [zh]; omega
 rw [e1,e2];have hlen:k < zs.length:=by omega
 refine ⟨zs.set k ((x+y+cy) % B32),(x+y+cy) / B32,(hc.set_ _).far (by simpa using ak) _,(hr.far (by simpa using Ne.symm ak) _).set_ _ _,by rw [List.length_set,hl],hd.set _ _ (Nat.mod_lt _ yj),
  by rw [zh]; omega,?_,(hx.setCell (by simpa using h0) _).setCell (by simpa using DF) _⟩
 rw [gy zs k _ hlen,kae,List.length_take,Nat.min_eq_left (by omega),hxE,hyF,Nat.pow_succ];exact wbm _ _ _ _ _ _ _ _ he rfl
theorem yh {E:List Nat} {k x:Nat} (hk:Hid (E[k]?=some x)):val (E.take (k+1))=val (E.take k)+B32 ^ k * x:=by
 obtain ⟨h,e⟩:=List.getElem?_eq_some_iff.1 hk.out;rw [ya1 E k h,kae,List.length_take,Nat.min_eq_left (by omega),e]
theorem vap {E:List Nat} {k:Nat} (hk:E.length<=k):val (E.take (k+1))=val (E.take k)+B32 ^ k * 0:=by
 rw [List.take_of_length_le hk,List.take_of_length_le (by omega)]; simp
def jc0 (w:World) (m L:Nat) (s0 s1:Value) (wx:World):Prop:=
 ∃ A c A' c' E F,s0=.slice A E.length c/\s1=.slice A' F.length c'/\F.length<=E.length/\E.length<=c/\c<=9223372036854775807/\F.length<=c'/\c'<=9223372036854775807 /\
   zk w A E/\zk w A' F/\val E+val F=m/\E.length<=L/\wx=w
theorem ua5 (u v:Value) (ds es:List Nat) (w:World) (h:jd w u ds) (k:jd w v es) (hs:ds.length+es.length<=35184372088000) :
 Calls Tryz.prog 127 #[u,v] w (qap (val ds+val es) w):=by
 have sS:(dg (val ds)).length<=ds.length:=jh h.digs;have abj:(dg (val es)).length<=es.length:=jh k.digs;go_enter Tryz.func127,Tryz.ntmps127;go_wp2_with fail;refine (yw u ds _ h).mono ?_;rintro e w' ⟨u',rfl,hu,rfl⟩;go_wp2_with fail;refine (yw v es _ k).mono ?_;rintro e w' ⟨v',rfl,hv,rfl⟩;obtain ⟨A,c,rfl,h1,h2,h3⟩:=hu;obtain ⟨A',c',rfl,jO,mD,kW⟩:=hv;have H3:=hid h3;have nM:=hid kW;clear h3 kW h k
 go_upto_if 19 with (fail)
 go_cut [0,1] (fun s0 s1 wx=>jc0 w (val ds+val es) (ds.length+es.length) s0 s1 wx)
 case first =>
  by_cases af:(dg (val ds)).length < (dg (val es)).length
  · go_wp2
    go_meet
    exact ⟨_,_,_,_,_,_,rfl,rfl,by omega,jO,mD,h1,h2,nM.out,H3.out,by rw [xg,xg]; omega,by omega,rfl⟩
  · go_wp2
    go_meet
    exact ⟨_,_,_,_,_,_,rfl,rfl,by omega,h1,h2,jO,mD,H3.out,nM.out,by rw [xg,xg],by omega,rfl⟩
 case rest =>
  obtain ⟨A,c,A',c',E,F,rfl,rfl,Pv,g1,g2,g3,g4,g5,g6,g7,g8,rfl⟩:=hcut;have G5:=hid g5;have G6:=hid g6;have G7:=hid g7;clear g5 g6 g7 H3 nM h1 h2 jO mD sS abj;have cu:=fun W=>xaa ((E.length:Int)+1) (by omega) (by omega) W
  go_wp2_with fail
  have hinv:gat wc wc.heap.size (wc.heap.size+1) E F 0 ((wc.alloc (Obj.cells #[Value.int IntKind.u32 0] 90)).alloc (Obj.cells (yt (List.replicate (E.length+1) 0)).toArray 90)):=
   ⟨List.replicate (E.length+1) 0,0,(Cell.new wc 0).alloc _,by have:=Row.new (wc.alloc (Obj.cells #[Value.int IntKind.u32 0] 90)) (List.replicate (E.length+1) 0); simpa using this,by simp,jg.replicate _,by omega,by simp,((Ext.refl _).alloc _).alloc _⟩
  have df:=hid hinv;clear hinv
  go_loopw [29] (fun i wr=>∃ k:Nat,k<=F.length/\i=.int .i64 k/\Hid (gat wc wc.heap.size (wc.heap.size+1) E F k wr)) (fun i _=>F.length - (intOf i).toNat)
  case atStart=>exact ⟨0,by omega,rfl,df⟩
  case round =>
   obtain ⟨k,hk,rfl,HI⟩:=hrel
   by_cases af:k < F.length
   · obtain ⟨zs,cy,nR,ae,eu,fA,dh,hsum,ay⟩:=HI.out;obtain ⟨ad,x,rfl,hb,aj,hx1,HX⟩:=(G5.out.ext ay).get_ k (by omega);obtain ⟨ad',y,rfl,dL,iC,Ej,HY⟩:=(G6.out.ext ay).get_ k af;have kR:=nR.cell;have dZ:=nR.frozen;obtain ⟨z,Hr,ES,_⟩:=ae.get_ k (by omega);have HS:=hid (gat.step nR ae eu fA hsum ay (by omega) (by omega) (by omega) (by omega) hx1 Ej dh (yh HX) (yh HY));clear HI nR ae eu fA hsum ay;go_wp2_with fail;refine (jbf _ _ _ _ _ kR dZ (by omega) (by omega) (by omega) (by omega) (by omega) (by omega)).mono ?_;rintro e w' ⟨rfl,rfl⟩;go_wp2_with fail
     go_roundw
     case rel=>exact ⟨k+1,by omega,by go_num,HS⟩
     case measure=>simp [intOf]; omega
   · obtain rfl:k=F.length:=by omega
     go_wp2_with fail
     go_loopw [10] (fun i wr=>∃ k:Nat,F.length<=k/\k<=E.length/\i=.int .i64 k/\Hid (gat wc wc.heap.size (wc.heap.size+1) E F k wr)) (fun i _=>E.length - (intOf i).toNat)
     case atStart=>exact ⟨F.length,Nat.le_refl _,Pv,rfl,HI⟩
     case round =>
      clear HI;obtain ⟨k,xH,hk,rfl,HI⟩:=hrel;obtain ⟨zs,cy,nR,ae,eu,fA,dh,hsum,ay⟩:=HI.out
      by_cases lI:k < E.length
      · obtain ⟨ad,x,rfl,hb,aj,hx1,HX⟩:=(G5.out.ext ay).get_ k (by omega);have kR:=nR.cell;have dZ:=nR.frozen;obtain ⟨z,Hr,ES,_⟩:=ae.get_ k (by omega);have HS:=hid (gat.step (y:=0) nR ae eu fA hsum ay (by omega) (by omega) (by omega) (by omega) hx1 (by omega) dh (yh HX) (vap xH));rw [Int.natCast_zero,Int.add_zero] at HS;clear HI nR ae eu fA hsum ay;go_wp2_with fail;refine (jbf _ 0 _ _ _ kR dZ (by omega) (by omega) (by omega) (by omega) (by omega) (by omega)).mono ?_;rw [Int.add_zero];rintro e w' ⟨rfl,rfl⟩;go_wp2_with fail
        go_roundw
        case rel=>exact ⟨k+1,by omega,by omega,by go_num,HS⟩
        case measure=>simp [intOf]; omega
      · obtain rfl:k=E.length:=by omega
        have kR:=nR.cell;obtain ⟨z,Hr,ES,_⟩:=ae.get_ E.length (by omega);have lS:=ae.set_ E.length cy;have I5:=ay.setCell (p:=⟨wc.heap.size+1,E.length,none⟩) (by simp) (.int .u32 (cy:Int));have LJ:=fA.set E.length cy (by rw [zh]; omega);have aJ:val (zs.set E.length cy)=val ds+val es:=by
         have e1:=gy zs E.length cy (by omega);rw [List.take_of_length_le (by rw [List.length_set]; omega)] at e1;rw [e1,kae,List.length_take,Nat.min_eq_left (by omega),hsum,List.take_of_length_le (Nat.le_refl _),List.take_of_length_le Pv];exact G7.out
        have hlen:(zs.set E.length cy).length=E.length+1:=by rw [List.length_set,eu]
        have HN:Hid (jd (wr.setCell ⟨wc.heap.size+1,E.length,none⟩ (.int .u32 (cy:Int))) (.slice (some ⟨wc.heap.size+1,0,none⟩) (E.length+1) (E.length+1)) (zs.set E.length cy)):=by
         have:=lS.natV LJ (E.length+1) (by omega) (by omega);rw [hlen] at this;exact this
        have HV:=hid aJ;have HX:=hid I5;clear HI nR ae eu fA hsum ay lS I5 LJ aJ hlen;go_wp2_with fail;refine (yw _ _ _ HN.out).mono ?_;rintro e w' ⟨v',rfl,hv,rfl⟩;have uP:=hid hv;clear hv;go_wp2_with fail;go_ret;refine ⟨v',rfl,?_,HX.out⟩;rw [<- HV.out];exact uP.out
theorem ubb (x y c : Int) (p : Addr) (w : World) (hc : w.cell? p = some (.int .u32 c)) (hf : w.frozen? p = false)
 (x0:0<=x) (x1:x < 4294967296) (y0:0<=y) (y1:y < 4294967296) (c0:0<=c) (c1:c<=1) :
 Calls Tryz.prog 143 #[.int .u32 x,.int .u32 y,.pointer (some p)] w fun e w' =>
  e=.returned (.int .u32 ((x - y - c) % 4294967296))/\w.setCell p (.int .u32 (bor x y c))=w':=by
 go_enter Tryz.func143,Tryz.ntmps143;go_wp2_with (go_at_call 144; refine (ub1 _ _ _ _ (by omega) (by omega) (by omega) (by omega) (by omega) (by omega)).mono ?_; rintro e w' ⟨rfl,rfl⟩)
 go_ret;exact ⟨rfl,rfl⟩
theorem jco (z a b c x y P d c':Nat) (h:z+b=a+P * c) (hd:d+y+c=x+B32 * c'):(z+P * d)+(b+P * y)=(a+P * x)+P * B32 * c'+2 * (P * c) - 2 * (P * c):=by
 have e:P * d+P * y+P * c=P * x+P * B32 * c':=by rw [<- Nat.mul_add,<- Nat.mul_add,hd,Nat.mul_add,Nat.mul_assoc]
 omega
def kat (w0:World) (gc gz:Nat) (E F:List Nat) (k:Nat) (wr:World):Prop:=
 ∃ (zs:List Nat) (cy:Nat),Cell wr gc (cy:Int)/\Row wr gz zs/\zs.length=E.length/\jg zs/\cy<=1/\val (zs.take k)+val (F.take k)=val (E.take k)+B32 ^ k * cy/\Ext w0 wr
theorem kat.step {w0 wr : World} {gc gz : Nat} {E F : List Nat} {k x y cy : Nat} {zs : List Nat} (hc : Cell wr gc (cy : Int)) (hr : Row wr gz zs) (hl : zs.length = E.length) (hd : jg zs)
 (he:val (zs.take k)+val (F.take k)=val (E.take k)+B32 ^ k * cy) (hx:Ext w0 wr) (ak:gc ≠ gz) (h0:w0.heap.size<=gc) (DF:w0.heap.size<=gz)
 (hk:k < E.length) (x1:x < 4294967296) (y1:y < 4294967296) (c1:cy<=1) (hxE:val (E.take (k+1))=val (E.take k)+B32 ^ k * x) (hyF:val (F.take (k+1))=val (F.take k)+B32 ^ k * y) :
 kat w0 gc gz E F (k+1) ((wr.setCell ⟨gc,0,none⟩ (.int .u32 (bor x y cy))).setCell ⟨gz,k,none⟩ (.int .u32 (((x:Int) - y - cy) % 4294967296))):=by
 obtain ⟨d,eG⟩:=Int.eq_ofNat_of_zero_le (show 0<=((x:Int) - y - cy) % 4294967296 by omega);obtain ⟨c',lw⟩:=Int.eq_ofNat_of_zero_le (kax x y cy).1;have eX:=(kax x y cy).2;rw [lw] at eX;have LH:d+y+cy=x+B32 * c':=by
  rw [zh];unfold bor at lw
  split at lw <;> omega
 rw [eG,lw];have hlen:k < zs.length:=by omega
 refine ⟨zs.set k d,c',(hc.set_ _).far (by simpa using ak) _,(hr.far (by simpa using Ne.symm ak) _).set_ _ _,by rw [List.length_set,hl],hd.set _ _ (by rw [zh]; omega),
  by omega,?_,(hx.setCell (by simpa using h0) _).setCell (by simpa using DF) _⟩
 rw [gy zs k _ hlen,kae,List.length_take,Nat.min_eq_left (by omega),hxE,hyF,Nat.pow_succ];have:=jco _ _ _ _ _ _ _ _ _ he LH;omega
def qcw (n:Nat) (w:World) (e:Ending) (w':World):Prop:=∃ v,e=.returned (.tuple #[v,.bool true])/\jd w' v (dg n)/\waa w.heap.size v/\Ext w w'
theorem zbg (u v:Value) (ds es:List Nat) (w:World) (h:jd w u ds) (k:jd w v es) (hs:ds.length<=35184372088000) (oN:val es<=val ds) :
 Calls Tryz.prog 128 #[u,v] w (qcw (val ds - val es) w):=by
 have sS:(dg (val ds)).length<=ds.length:=jh h.digs;have Pv:(dg (val es)).length<=(dg (val ds)).length:=yu oN;go_enter Tryz.func128,Tryz.ntmps128;go_wp2_with fail;refine (yw u ds _ h).mono ?_;rintro e w' ⟨u',rfl,hu,rfl⟩;go_wp2_with fail;refine (yw v es _ k).mono ?_;rintro e w' ⟨v',rfl,hv,rfl⟩;go_wp2_with fail;refine (gan _ _ _ _ _ hu hv).mono ?_;rw [xg,xg];have akB:0<=qi (val ds) (val es):=by unfold qi; split <;> (try split) <;> omega
 have agp:=(wak (val ds) (val es)).2;generalize qi (val ds) (val es)=cm at *;rintro e wc ⟨rfl,n,hw⟩;have iQ:Ext w wc:=by rw [hw]; exact (Ext.refl w).drewN n
 clear hw;obtain ⟨A,c,rfl,h1,h2,h3⟩:=hu;obtain ⟨A',c',rfl,jO,mD,kW⟩:=hv;have G5:=hid (h3.ext iQ);have G6:=hid (kW.ext iQ);have yD:=hid iQ;clear h3 kW iQ h k;generalize hE:dg (val ds)=E at *;generalize hF:dg (val es)=F at *;have HE:=hid hE;have HF:=hid hF;clear hE hF;have cu:=fun W=>xaa (E.length:Int) (by omega) (by omega) W
 go_wp2_with fail
 have hinv:kat wc wc.heap.size (wc.heap.size+1) E F 0 ((wc.alloc (Obj.cells #[Value.int IntKind.u32 0] 90)).alloc (Obj.cells (yt (List.replicate E.length 0)).toArray 90)):=
  ⟨List.replicate E.length 0,0,(Cell.new wc 0).alloc _,by have:=Row.new (wc.alloc (Obj.cells #[Value.int IntKind.u32 0] 90)) (List.replicate E.length 0); simpa using this,by simp,jg.replicate _,by omega,by simp,((Ext.refl _).alloc _).alloc _⟩
 have df:=hid hinv;clear hinv
 go_loopw [26] (fun i wr=>∃ k:Nat,k<=F.length/\i=.int .i64 k/\Hid (kat wc wc.heap.size (wc.heap.size+1) E F k wr)) (fun i _=>F.length - (intOf i).toNat)
 case atStart=>exact ⟨0,by omega,rfl,df⟩
 case round =>
  obtain ⟨k,hk,rfl,HI⟩:=hrel
  by_cases af:k < F.length
  · obtain ⟨zs,cy,nR,ae,eu,fA,dh,hsum,ay⟩:=HI.out;obtain ⟨ad,x,rfl,hb,aj,hx1,HX⟩:=(G5.out.ext ay).get_ k (by omega);obtain ⟨ad',y,rfl,dL,iC,Ej,HY⟩:=(G6.out.ext ay).get_ k af;have kR:=nR.cell;have dZ:=nR.frozen;obtain ⟨z,Hr,ES,_⟩:=ae.get_ k (by omega);have HS:=hid (kat.step nR ae eu fA hsum ay (by omega) (by omega) (by omega) (by omega) hx1 Ej dh (yh HX) (yh HY));clear HI nR ae eu fA hsum ay;go_wp2_with fail;refine (ubb _ _ _ _ _ kR dZ (by omega) (by omega) (by omega) (by omega) (by omega) (by omega)).mono ?_;rintro e w' ⟨rfl,rfl⟩;go_wp2_with fail
    go_roundw
    case rel=>exact ⟨k+1,by omega,by go_num,HS⟩
    case measure=>simp [intOf]; omega
  · obtain rfl:k=F.length:=by omega
    go_wp2_with fail
    go_loopw [11] (fun i wr=>∃ k:Nat,F.length<=k/\k<=E.length/\i=.int .i64 k/\Hid (kat wc wc.heap.size (wc.heap.size+1) E F k wr)) (fun i _=>E.length - (intOf i).toNat)
    case atStart=>exact ⟨F.length,Nat.le_refl _,Pv,rfl,HI⟩
    case round =>
     clear HI;obtain ⟨k,xH,hk,rfl,HI⟩:=hrel;obtain ⟨zs,cy,nR,ae,eu,fA,dh,hsum,ay⟩:=HI.out
     by_cases lI:k < E.length
     · obtain ⟨ad,x,rfl,hb,aj,hx1,HX⟩:=(G5.out.ext ay).get_ k (by omega);have kR:=nR.cell;have dZ:=nR.frozen;obtain ⟨z,Hr,ES,_⟩:=ae.get_ k (by omega);have HS:=hid (kat.step (y:=0) nR ae eu fA hsum ay (by omega) (by omega) (by omega) (by omega) hx1 (by omega) dh (yh HX) (vap xH));rw [Int.natCast_zero,Int.sub_zero] at HS;clear HI nR ae eu fA hsum ay;go_wp2_with fail;refine (ubb _ 0 _ _ _ kR dZ (by omega) (by omega) (by omega) (by omega) (by omega) (by omega)).mono ?_;rw [Int.sub_zero];rintro e w' ⟨rfl,rfl⟩;go_wp2_with fail
       go_roundw
       case rel=>exact ⟨k+1,by omega,by omega,by go_num,HS⟩
       case measure=>simp [intOf]; omega
     · obtain rfl:k=E.length:=by omega
       have aJ:val zs=val ds - val es:=by
        have hb:=jy fA;rw [List.take_of_length_le (by omega),List.take_of_length_le Pv,List.take_of_length_le (Nat.le_refl _),<- HE.out,<- HF.out,xg,xg] at hsum;rw [eu,<- HE.out] at hb;have abS:cy=0:=by
         rcases Nat.eq_zero_or_pos cy with e | e
         · exact e
         · obtain rfl:cy=1:=by omega
           rw [Nat.mul_one] at hsum;omega
        rw [abS] at hsum;omega
       have HN:Hid (jd wr (.slice (some ⟨wc.heap.size+1,0,none⟩) E.length E.length) zs):=by
        have:=ae.natV fA E.length (by omega) (by omega);rw [eu] at this;exact this
       have HV:=hid aJ;have HX:=hid ay;clear HI nR ae eu fA hsum ay aJ;go_wp2_with fail;refine (ya2 w.heap.size _ _ _ HN.out (waa.mk _ _ _ _ (by have:=yD.out.size; simp; omega))).mono ?_;rintro e w' ⟨v',rfl,hv,bF,rfl⟩;have uP:=hid hv;have o7:=hid bF;clear hv bF;go_wp2_with fail
       go_ret2
       refine ⟨v',rfl,?_,o7.out,yD.out.trans HX.out⟩;rw [<- HV.out];exact uP.out
end Go.Proofs.YtklnlgnnlmdibaaGreat
