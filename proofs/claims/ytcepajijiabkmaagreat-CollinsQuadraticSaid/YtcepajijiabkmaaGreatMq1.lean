/- Layer 1 (natural): what each function returns, of digit lists. -/
import Derived.Test.YtcepajijiabkmaaGreatMq0
set_option linter.unusedSimpArgs false
set_option linter.unusedVariables false
set_option maxRecDepth 100000
set_option maxHeartbeats 8000000
namespace Go.Proofs.YtcepajijiabkmaaGreat
open Lib (hid)
open Go.RowKit
theorem gba (A:Option Addr) (c n:Nat) (ds:List Nat) (w:World) (hd:yj w A ds) (hl:ds.length=n) (hn:n<=c) (hc:c<=9223372036854775807) :
 Calls Tryz.prog 84 #[.slice A n c] w fun e w'=>e=.returned (.slice A (gab ds n) c)/\w=w':=by
 have HD:=hid hd; clear hd;have HN:=hid hl; clear hl;go_enter Tryz.func84,Tryz.ntmps84
 go_wp2
 go_loop [3] (fun i=>∃ k:Nat,k<=n/\i=.int .i64 k/\gab ds k=gab ds n) (fun i=>(intOf i).toNat)
 case atStart=>exact ⟨n,Nat.le_refl _,rfl,rfl⟩
 case round =>
  obtain ⟨k,hk,rfl,ht⟩:=hrel;have HT:=hid ht; clear ht;rcases k with _ | k
  · go_wp2
    go_ret;exact ⟨by rw [<- HT.out]; rfl,rfl⟩
  · have hkl:k < ds.length:=by have:=HN.out; omega
    obtain ⟨ad,rfl,hb,ai,af⟩:=HD.out.at_ k hkl
    by_cases h0:ds[k]'hkl=0
    · rw [h0] at ai
      go_wp2
      go_round
      case rel=>exact ⟨k,by omega,rfl,by rw [<- HT.out,gab,if_pos]; rw [List.getD_eq_getElem?_getD,List.getElem?_eq_getElem hkl]; exact h0⟩
      case measure=>simp [intOf]
    · go_wp2
      go_ret;exact ⟨by rw [<- HT.out,gab,if_neg]; rfl; rw [List.getD_eq_getElem?_getD,List.getElem?_eq_getElem hkl]; exact h0,rfl⟩
theorem qw (v:Value) (ds:List Nat) (w:World) (h:jb w v ds) :
 Calls Tryz.prog 84 #[v] w fun e w'=>∃ v',e=.returned v'/\jb w v' (dg (val ds))/\w=w':=by
 obtain ⟨A,c,rfl,h1,h2,h3⟩:=h;refine (gba A c ds.length ds w h3 rfl h1 h2).mono ?_;rintro e w' ⟨rfl,rfl⟩;refine ⟨_,rfl,⟨A,c,?_,?_,h2,?_⟩,rfl⟩
 · rw [gaf h3.1]
 · rw [gaf h3.1]; exact Nat.le_trans (zan _ _) h1
 · rw [qbh h3.1]; exact h3.take _
theorem wa3 (B:Nat) (v:Value) (ds:List Nat) (w:World) (h:jb w v ds) (hf:waa B v) :
 Calls Tryz.prog 84 #[v] w fun e w'=>∃ v',e=.returned v'/\jb w v' (dg (val ds))/\waa B v'/\w=w':=by
 obtain ⟨A,c,rfl,h1,h2,h3⟩:=h;refine (gba A c ds.length ds w h3 rfl h1 h2).mono ?_;rintro e w' ⟨rfl,rfl⟩;refine ⟨_,rfl,⟨A,c,?_,?_,h2,?_⟩,?_,rfl⟩
 · rw [gaf h3.1]
 · rw [gaf h3.1]; exact Nat.le_trans (zan _ _) h1
 · rw [qbh h3.1]; exact h3.take _
 · rcases A with _ | ad
   · exact waa.nil _ _ _
   · exact waa.mk _ _ _ _ (hf ad _ _ rfl)
theorem xa1 (v:Value) (ds:List Nat) (w:World) (h:jb w v ds) :
 Calls Tryz.prog 91 #[v] w fun e w'=>e=.returned (.bool (val ds == 0))/\w=w':=by
 obtain ⟨A,c,rfl,h1,h2,h3⟩:=h;have ht:=zan ds ds.length;have hz:(gab ds ds.length == 0)=(val ds == 0):=by
  rw [<- gaf h3.1,Bool.eq_iff_iff,beq_iff_eq,beq_iff_eq];exact ⟨vay,fun e=>by rw [e,xn]; rfl⟩
 have H3:=hid h3; clear h3;have HZ:=hid hz; clear hz;go_enter Tryz.func91,Tryz.ntmps91;go_wp2_with fail;refine (gba A c ds.length ds _ H3.out rfl h1 h2).mono ?_;rintro e w' ⟨rfl,rfl⟩
 go_wp2
 go_ret;refine ⟨?_,rfl⟩;have:=HZ.out;rw [Bool.eq_iff_iff,beq_iff_eq,beq_iff_eq] at this;show Ending.returned (Value.bool _)=_
 congr 2
 rw [Bool.eq_iff_iff,beq_iff_eq,beq_iff_eq,<- this];omega
theorem jab (v:Value) (ds:List Nat) (w:World) (h:jb w v ds) (hs:ds.length<=35184372088832) :
 Calls Tryz.prog 57 #[v] w (vap (val ds) w):=by
 have ht:(dg (val ds)).length<=ds.length:=uh h.digs;go_enter Tryz.func57,Tryz.ntmps57;go_wp2_with fail;refine (qw v ds _ h).mono ?_;rintro e w' ⟨v',rfl,hv,rfl⟩;obtain ⟨A,c,rfl,h1,h2,h3⟩:=hv;have dB:=fun W=>qaa ((dg (val ds)).length:Nat) (by omega) (by omega) W
 have H3:=hid h3;have HD:=hid (zal (val ds));clear h3;generalize hE:dg (val ds)=E at *;have HE:=hid hE;clear hE;go_wp2_with (with_reducible refine wpList_copy_splice rfl (.tmp 9) (.tmp 10) _ _ rfl 84 Tryz.underlying28 qbb _ _ _ _ _ _ rfl rfl w.heap.size 0 (zt (List.replicate E.length 0)) 84 ?_ (zt E) ?_ ?_ ?_ ?_ w.heap.size w ?_ ?_ ?_)
 · exact heap_alloc_new _ _
 · rw [xaa]; simp
 · intro hp;rw [xaa] at hp;obtain ⟨ad,e,hb,hc⟩:=H3.out.2 hp;refine ⟨ad,e,fun j x hx=>?_⟩;have hj:j < E.length:=by
    rcases Nat.lt_or_ge j E.length with hj | hj
    · exact hj
    · rw [List.getElem?_eq_none (by rw [xaa]; exact hj)] at hx; cases hx
   rw [vaz E j hj] at hx;rw [World.cell?_alloc_lt _ _ _ (by rw [ja]; exact hb),hc j hj,hx]
 · rw [xaa,xaa]; simp
 · exact vbp E
 · exact (Below.refl _ _).alloc (Nat.le_refl _) _
 · exact Nat.le_refl _
 · intro w' ae hb;have mD:splice (zt (List.replicate E.length 0)) 0 (zt E)=zt E:=by
    simp [splice,zt]
   rw [mD] at ae;have HR:Hid (Row w' w.heap.size E):=ae;have HB:Hid (Ext w w'):=hb;clear ae hb mD
   go_wp2
   go_ret;refine ⟨_,rfl,?_,HB.out⟩;rw [HE.out];exact HR.out.natV HD.out _ (Nat.le_refl _) (by omega)
theorem jav (n:Nat) (w:World) (hn:n < 18446744073709551616) :
 Calls Tryz.prog 33 #[.int .u64 n] w (vap n w):=by
 go_enter Tryz.func33,Tryz.ntmps33;go_wp2_with fail;have hr:Row (w.alloc (Obj.cells #[Value.int IntKind.u32 (↑n % 4294967296),Value.int IntKind.u32 (↑n / 4294967296)] 84)) w.heap.size [n % 4294967296,n / 4294967296]:=by
  have:=Row.new w [n % 4294967296,n / 4294967296];simpa [zt] using this
 have hd:vg [n % 4294967296,n / 4294967296]:=vg.cons (Nat.mod_lt _ (by decide)) (vg.cons (by rw [ug]; omega) vg.nil);refine (jab _ _ _ (hr.natV hd 2 (Nat.le_refl _) (by omega)) (by simp)).mono ?_;rintro e w' ⟨v,rfl,hv,hx⟩;have aH:val [n % 4294967296,n / 4294967296]=n:=by simp [val,ug]; omega
 rw [aH] at hv;have HV:=hid hv;have HX:=hid hx;clear hv hx aH hr
 go_wp2
 go_ret;exact ⟨_,rfl,HV.out,((Ext.refl w).alloc _).trans HX.out⟩
theorem xao (u v:Value) (ds es:List Nat) (w:World) (h:jb w u ds) (k:jb w v es) :
 Calls Tryz.prog 105 #[u,v] w fun e w'=>e=.returned (.int .i64 (xh (val ds) (val es)))/\∃ n,w'=w.drewN n:=by
 go_enter Tryz.func105,Tryz.ntmps105;go_wp2_with fail;refine (qw u ds _ h).mono ?_;rintro e w' ⟨u',rfl,hu,rfl⟩;go_wp2_with fail;refine (qw v es _ k).mono ?_;rintro e w' ⟨v',rfl,hv,rfl⟩;obtain ⟨A,c,rfl,h1,h2,h3⟩:=hu;obtain ⟨A',c',rfl,iI,kC,jG⟩:=hv;generalize hM:val ds=M at *;generalize hN:val es=N at *;have H3:=hid h3;have kS:=hid jG;have HM:=hid hM;have HN:=hid hN;clear h3 jG hM hN h k;rcases Nat.lt_trichotomy (dg M).length (dg N).length with af | heq | Lm
 · go_wp2
   go_ret;exact ⟨by rw [HM.out,HN.out,uae (by have:=jap af; omega)]; rfl,0,rfl⟩
 · generalize hL:(dg N).length=L at *;rw [heq] at h1 ⊢;have HL:=hid hL;have vZ:=hid heq;clear heq hL;have HMd:=hid (zal M);have HNd:=hid (zal N)
   go_wp2
   go_loopw [5] (fun i wr=>∃ k n:Nat,k<=L/\i=.int .i64 ((k:Int) - 1)/\Hid ((dg M).drop k=(dg N).drop k)/\wr=w.drewN n) (fun i _=>(intOf i+1).toNat)
   case atStart=>exact ⟨L,0,Nat.le_refl _,rfl,hid (by rw [List.drop_eq_nil_of_le (by have:=vZ.out; omega),List.drop_eq_nil_of_le (by have:=HL.out; omega)]),rfl⟩
   case round =>
    obtain ⟨k,n,hk,rfl,HK,rfl⟩:=hrel;rcases k with _ | k
    · go_wp2
      go_ret;refine ⟨?_,_,rfl⟩;have hMN:M=N:=by
       have:=HK.out;rw [List.drop_zero,List.drop_zero] at this;rw [<- qg M,this,qg]
      rw [HM.out,HN.out,uz (by rw [hMN])]
      rfl
    · have Uf:k < (dg M).length:=by have:=vZ.out; omega
      have Ph:k < (dg N).length:=by have:=HL.out; omega
      obtain ⟨ad,rfl,hb,ai,af⟩:=H3.out.at_ k Uf;obtain ⟨ad',rfl,dX,eQ,fF⟩:=kS.out.at_ k Ph;obtain ⟨x,hx⟩:∃ x,x=(dg M)[k]:=⟨_,rfl⟩;obtain ⟨y,hy⟩:∃ y,y=(dg N)[k]:=⟨_,rfl⟩;rw [<- hx] at ai af;rw [<- hy] at eQ fF;have HX:=hid hx;have HY:=hid hy;clear hx hy;have oJ:(0:Int)<=k:=by omega
      rcases Nat.lt_trichotomy x y with Hl | Hl | Hl
      · go_wp2
        go_quiet (fail)
        go_wp2
        go_ret;refine ⟨?_,_,World.drewN_drewN _ _ _⟩;have:=wa7 k HMd.out Uf Ph (vZ.out.trans HL.out.symm) HK.out (by rw [<- HX.out,<- HY.out]; exact Hl);rw [qg,qg] at this;rw [HM.out,HN.out,uae (by omega)]
        rfl
      · subst Hl
        go_wp2
        go_quiet (fail)
        go_wp2
        go_quiet (fail)
        go_wp2
        go_roundw
        case rel=>exact ⟨k,_,by omega,by go_num,hid (by rw [List.drop_eq_getElem_cons Uf,List.drop_eq_getElem_cons Ph,HK.out,<- HX.out,<- HY.out]),rfl⟩
        case measure=>simp [intOf]
      · go_wp2
        go_quiet (fail)
        go_wp2
        go_quiet (fail)
        go_wp2
        go_ret;refine ⟨?_,_,by rw [World.drewN_drewN,World.drewN_drewN]⟩;have:=wa7 k HNd.out Ph Uf (HL.out.trans vZ.out.symm) HK.out.symm (by rw [<- HX.out,<- HY.out]; exact Hl);rw [qg,qg] at this;rw [HM.out,HN.out,qao (by omega)]
        rfl
 · go_wp2
   go_ret;exact ⟨by rw [HM.out,HN.out,qao (by have:=jap Lm; omega)]; rfl,0,rfl⟩
theorem zbq (z a b c x y P s:Nat) (h:z+P * c=a+b) (hs:s=x+y+c):z+P * (s % B32)+P * B32 * (s / B32)=(a+P * x)+(b+P * y):=by
 have e:P * (s % B32)+P * B32 * (s / B32)=P * s:=by rw [Nat.mul_assoc,<- Nat.mul_add,Nat.mod_add_div]
 have e2:P * s=P * x+P * y+P * c:=by rw [hs,Nat.mul_add,Nat.mul_add]
 omega
theorem zbi (x y c : Int) (p : Addr) (w : World) (hc : w.cell? p = some (.int .u32 c)) (hf : w.frozen? p = false)
 (x0:0<=x) (x1:x < 4294967296) (y0:0<=y) (y1:y < 4294967296) (c0:0<=c) (c1:c<=1) :
 Calls Tryz.prog 124 #[.int .u32 x,.int .u32 y,.pointer (some p)] w fun e w' =>
  e=.returned (.int .u32 ((x+y+c) % 4294967296))/\w.setCell p (.int .u32 ((x+y+c) / 4294967296))=w':=by
 go_enter Tryz.func124,Tryz.ntmps124;go_wp2_with (go_at_call 125; refine (add32 _ _ _ _ (by omega) (by omega) (by omega) (by omega) (by omega) (by omega)).mono ?_; rintro e w' ⟨rfl,rfl⟩)
 go_ret;exact ⟨rfl,rfl⟩
theorem qy (zs:List Nat) (k d:Nat) (hk:k < zs.length):(zs.set k d).take (k+1)=zs.take k ++ [d]:=by
 rw [List.take_add_one,List.take_set_of_le (Nat.le_refl k),List.getElem?_set_self hk]
 rfl
theorem za3 (zs:List Nat) (k:Nat) (hk:k < zs.length):zs.take (k+1)=zs.take k ++ [zs[k]]:=by
 rw [List.take_add_one,List.getElem?_eq_getElem hk]; rfl
def Cell (w:World) (g:Nat) (x:Int):Prop:=w.heap[g]?=some (.cells #[.int .u32 x] 84 (0,0))
theorem Cell.cell {w:World} {g:Nat} {x:Int} (h:Cell w g x):w.cell? ⟨g,0,none⟩=some (.int .u32 x):=by
 rw [cell_of_row w g 0 _ _ (0,0) h]; rfl
theorem Cell.frozen {w:World} {g:Nat} {x:Int} (h:Cell w g x):w.frozen? ⟨g,0,none⟩=false:=by
 unfold Cell at h;simp [World.frozen?,h]
theorem Cell.set_ {w:World} {g:Nat} {x:Int} (h:Cell w g x) (y:Int):Cell (w.setCell ⟨g,0,none⟩ (.int .u32 y)) g y:=by
 unfold Cell at h ⊢;simp [World.setCell,Array.getElem?_modify,h]
theorem Cell.far {w:World} {g:Nat} {x:Int} (h:Cell w g x) {p:Addr} (hp:g ≠ p.block) (u:Value):Cell (w.setCell p u) g x:=(Below.heap_setCell w p u g hp).trans h
theorem Cell.new (w:World) (x:Int):Cell (w.alloc (.cells #[.int .u32 x] 84)) w.heap.size x:=heap_alloc_new w _
theorem Cell.lt {w:World} {g:Nat} {x:Int} (h:Cell w g x):g < w.heap.size:=by
 rcases Nat.lt_or_ge g w.heap.size with af | lS
 · exact af
 · unfold Cell at h; rw [Array.getElem?_eq_none lS] at h; cases h
theorem Cell.alloc {w:World} {g:Nat} {x:Int} (h:Cell w g x) (o:Obj):Cell (w.alloc o) g x:=(Below.heap_alloc w o g h.lt).trans h
def vau (w0:World) (gc gz:Nat) (E F:List Nat) (k:Nat) (wr:World):Prop:=
 ∃ (zs:List Nat) (cy:Nat),Cell wr gc (cy:Int)/\Row wr gz zs/\zs.length=E.length+1/\vg zs/\cy<=1/\val (zs.take k)+B32 ^ k * cy=val (E.take k)+val (F.take k)/\Ext w0 wr
theorem vau.step {w0 wr : World} {gc gz : Nat} {E F : List Nat} {k x y cy : Nat} {zs : List Nat} (hc : Cell wr gc (cy : Int)) (hr : Row wr gz zs) (hl : zs.length = E.length + 1) (hd : vg zs)
 (he:val (zs.take k)+B32 ^ k * cy=val (E.take k)+val (F.take k)) (hx:Ext w0 wr) (au:gc ≠ gz) (h0:w0.heap.size<=gc) (Be:w0.heap.size<=gz)
 (hk:k < E.length) (x1:x < 4294967296) (y1:y < 4294967296) (c1:cy<=1) (VO:val (E.take (k+1))=val (E.take k)+B32 ^ k * x) (VL:val (F.take (k+1))=val (F.take k)+B32 ^ k * y) :
 vau w0 gc gz E F (k+1) ((wr.setCell ⟨gc,0,none⟩ (.int .u32 (((x:Int)+y+cy) / 4294967296))).setCell ⟨gz,k,none⟩ (.int .u32 (((x:Int)+y+cy) % 4294967296))):=by
 have e1:(((x:Int)+y+cy) / 4294967296)=(((x+y+cy) / B32:Nat):Int):=by rw [ug]; omega
 have e2:(((x:Int)+y+cy) % 4294967296)=(((x+y+cy) % B32:Nat):Int):=by rw [ug]; omega
 rw [e1,e2];have hlen:k < zs.length:=by omega
 refine ⟨zs.set k ((x+y+cy) % B32),(x+y+cy) / B32,(hc.set_ _).far (by simpa using au) _,(hr.far (by simpa using Ne.symm au) _).set_ _ _,by rw [List.length_set,hl],hd.set _ _ (Nat.mod_lt _ ui),
  by rw [ug]; omega,?_,(hx.setCell (by simpa using h0) _).setCell (by simpa using Be) _⟩
 rw [qy zs k _ hlen,gad,List.length_take,Nat.min_eq_left (by omega),VO,VL,Nat.pow_succ];exact zbq _ _ _ _ _ _ _ _ he rfl
theorem zh {E:List Nat} {k x:Nat} (hk:Hid (E[k]?=some x)):val (E.take (k+1))=val (E.take k)+B32 ^ k * x:=by
 obtain ⟨h,e⟩:=List.getElem?_eq_some_iff.1 hk.out;rw [za3 E k h,gad,List.length_take,Nat.min_eq_left (by omega),e]
theorem zaq {E:List Nat} {k:Nat} (hk:E.length<=k):val (E.take (k+1))=val (E.take k)+B32 ^ k * 0:=by
 rw [List.take_of_length_le hk,List.take_of_length_le (by omega)]; simp
def uc7 (w:World) (m L:Nat) (s0 s1:Value) (wx:World):Prop:=
 ∃ A c A' c' E F,s0=.slice A E.length c/\s1=.slice A' F.length c'/\F.length<=E.length/\E.length<=c/\c<=9223372036854775807/\F.length<=c'/\c'<=9223372036854775807 /\
   yj w A E/\yj w A' F/\val E+val F=m/\E.length<=L/\wx=w
theorem xa7 (u v:Value) (ds es:List Nat) (w:World) (h:jb w u ds) (k:jb w v es) (hs:ds.length+es.length<=35184372088000) :
 Calls Tryz.prog 106 #[u,v] w (vap (val ds+val es) w):=by
 have qE:(dg (val ds)).length<=ds.length:=uh h.digs;have Xf:(dg (val es)).length<=es.length:=uh k.digs;go_enter Tryz.func106,Tryz.ntmps106;go_wp2_with fail;refine (qw u ds _ h).mono ?_;rintro e w' ⟨u',rfl,hu,rfl⟩;go_wp2_with fail;refine (qw v es _ k).mono ?_;rintro e w' ⟨v',rfl,hv,rfl⟩;obtain ⟨A,c,rfl,h1,h2,h3⟩:=hu;obtain ⟨A',c',rfl,iI,kC,jG⟩:=hv;have H3:=hid h3;have kS:=hid jG;clear h3 jG h k
 go_upto_if 19 with (fail)
 go_cut [0,1] (fun s0 s1 wx=>uc7 w (val ds+val es) (ds.length+es.length) s0 s1 wx)
 case first =>
  by_cases af:(dg (val ds)).length < (dg (val es)).length
  · go_wp2
    go_meet
    exact ⟨_,_,_,_,_,_,rfl,rfl,by omega,iI,kC,h1,h2,kS.out,H3.out,by rw [qg,qg]; omega,by omega,rfl⟩
  · go_wp2
    go_meet
    exact ⟨_,_,_,_,_,_,rfl,rfl,by omega,h1,h2,iI,kC,H3.out,kS.out,by rw [qg,qg],by omega,rfl⟩
 case rest =>
  obtain ⟨A,c,A',c',E,F,rfl,rfl,LQ,g1,g2,g3,g4,g5,g6,g7,g8,rfl⟩:=hcut;have G5:=hid g5;have G6:=hid g6;have G7:=hid g7;clear g5 g6 g7 H3 kS h1 h2 iI kC qE Xf;have dB:=fun W=>qaa ((E.length:Int)+1) (by omega) (by omega) W
  go_wp2_with fail
  have hinv:vau wc wc.heap.size (wc.heap.size+1) E F 0 ((wc.alloc (Obj.cells #[Value.int IntKind.u32 0] 84)).alloc (Obj.cells (zt (List.replicate (E.length+1) 0)).toArray 84)):=
   ⟨List.replicate (E.length+1) 0,0,(Cell.new wc 0).alloc _,by have:=Row.new (wc.alloc (Obj.cells #[Value.int IntKind.u32 0] 84)) (List.replicate (E.length+1) 0); simpa using this,by simp,vg.replicate _,by omega,by simp,((Ext.refl _).alloc _).alloc _⟩
  have bI:=hid hinv;clear hinv
  go_loopw [29] (fun i wr=>∃ k:Nat,k<=F.length/\i=.int .i64 k/\Hid (vau wc wc.heap.size (wc.heap.size+1) E F k wr)) (fun i _=>F.length - (intOf i).toNat)
  case atStart=>exact ⟨0,by omega,rfl,bI⟩
  case round =>
   obtain ⟨k,hk,rfl,HI⟩:=hrel
   by_cases af:k < F.length
   · obtain ⟨zs,cy,kY,ae,dR,dM,bZ,hsum,aA⟩:=HI.out;obtain ⟨ad,x,rfl,hb,ai,hx1,HX⟩:=(G5.out.ext aA).get_ k (by omega);obtain ⟨ad',y,rfl,dX,eQ,BP,HY⟩:=(G6.out.ext aA).get_ k af;have jO:=kY.cell;have dE:=kY.frozen;obtain ⟨z,EF,Nl,_⟩:=ae.get_ k (by omega);have HS:=hid (vau.step kY ae dR dM hsum aA (by omega) (by omega) (by omega) (by omega) hx1 BP bZ (zh HX) (zh HY));clear HI kY ae dR dM hsum aA;go_wp2_with fail;refine (zbi _ _ _ _ _ jO dE (by omega) (by omega) (by omega) (by omega) (by omega) (by omega)).mono ?_;rintro e w' ⟨rfl,rfl⟩;go_wp2_with fail
     go_roundw
     case rel=>exact ⟨k+1,by omega,by go_num,HS⟩
     case measure=>simp [intOf]; omega
   · obtain rfl:k=F.length:=by omega
     go_wp2_with fail
     go_loopw [10] (fun i wr=>∃ k:Nat,F.length<=k/\k<=E.length/\i=.int .i64 k/\Hid (vau wc wc.heap.size (wc.heap.size+1) E F k wr)) (fun i _=>E.length - (intOf i).toNat)
     case atStart=>exact ⟨F.length,Nat.le_refl _,LQ,rfl,HI⟩
     case round =>
      clear HI;obtain ⟨k,oJ,hk,rfl,HI⟩:=hrel;obtain ⟨zs,cy,kY,ae,dR,dM,bZ,hsum,aA⟩:=HI.out
      by_cases mO:k < E.length
      · obtain ⟨ad,x,rfl,hb,ai,hx1,HX⟩:=(G5.out.ext aA).get_ k (by omega);have jO:=kY.cell;have dE:=kY.frozen;obtain ⟨z,EF,Nl,_⟩:=ae.get_ k (by omega);have HS:=hid (vau.step (y:=0) kY ae dR dM hsum aA (by omega) (by omega) (by omega) (by omega) hx1 (by omega) bZ (zh HX) (zaq oJ));rw [Int.natCast_zero,Int.add_zero] at HS;clear HI kY ae dR dM hsum aA;go_wp2_with fail;refine (zbi _ 0 _ _ _ jO dE (by omega) (by omega) (by omega) (by omega) (by omega) (by omega)).mono ?_;rw [Int.add_zero];rintro e w' ⟨rfl,rfl⟩;go_wp2_with fail
        go_roundw
        case rel=>exact ⟨k+1,by omega,by omega,by go_num,HS⟩
        case measure=>simp [intOf]; omega
      · obtain rfl:k=E.length:=by omega
        have jO:=kY.cell;obtain ⟨z,EF,Nl,_⟩:=ae.get_ E.length (by omega);have jU:=ae.set_ E.length cy;have FD:=aA.setCell (p:=⟨wc.heap.size+1,E.length,none⟩) (by simp) (.int .u32 (cy:Int));have DK:=dM.set E.length cy (by rw [ug]; omega);have aH:val (zs.set E.length cy)=val ds+val es:=by
         have e1:=qy zs E.length cy (by omega);rw [List.take_of_length_le (by rw [List.length_set]; omega)] at e1;rw [e1,gad,List.length_take,Nat.min_eq_left (by omega),hsum,List.take_of_length_le (Nat.le_refl _),List.take_of_length_le LQ];exact G7.out
        have hlen:(zs.set E.length cy).length=E.length+1:=by rw [List.length_set,dR]
        have HN:Hid (jb (wr.setCell ⟨wc.heap.size+1,E.length,none⟩ (.int .u32 (cy:Int))) (.slice (some ⟨wc.heap.size+1,0,none⟩) (E.length+1) (E.length+1)) (zs.set E.length cy)):=by
         have:=jU.natV DK (E.length+1) (by omega) (by omega);rw [hlen] at this;exact this
        have HV:=hid aH;have HX:=hid FD;clear HI kY ae dR dM hsum aA jU FD DK aH hlen;go_wp2_with fail;refine (qw _ _ _ HN.out).mono ?_;rintro e w' ⟨v',rfl,hv,rfl⟩;have rH:=hid hv;clear hv;go_wp2_with fail;go_ret;refine ⟨v',rfl,?_,HX.out⟩;rw [<- HV.out];exact rH.out
theorem ube (x y c : Int) (p : Addr) (w : World) (hc : w.cell? p = some (.int .u32 c)) (hf : w.frozen? p = false)
 (x0:0<=x) (x1:x < 4294967296) (y0:0<=y) (y1:y < 4294967296) (c0:0<=c) (c1:c<=1) :
 Calls Tryz.prog 126 #[.int .u32 x,.int .u32 y,.pointer (some p)] w fun e w' =>
  e=.returned (.int .u32 ((x - y - c) % 4294967296))/\w.setCell p (.int .u32 (bor x y c))=w':=by
 go_enter Tryz.func126,Tryz.ntmps126;go_wp2_with (go_at_call 127; refine (jb9 _ _ _ _ (by omega) (by omega) (by omega) (by omega) (by omega) (by omega)).mono ?_; rintro e w' ⟨rfl,rfl⟩)
 go_ret;exact ⟨rfl,rfl⟩
theorem zcw (z a b c x y P d c':Nat) (h:z+b=a+P * c) (hd:d+y+c=x+B32 * c'):(z+P * d)+(b+P * y)=(a+P * x)+P * B32 * c'+2 * (P * c) - 2 * (P * c):=by
 have e:P * d+P * y+P * c=P * x+P * B32 * c':=by rw [<- Nat.mul_add,<- Nat.mul_add,hd,Nat.mul_add,Nat.mul_assoc]
 omega
def xau (w0:World) (gc gz:Nat) (E F:List Nat) (k:Nat) (wr:World):Prop:=
 ∃ (zs:List Nat) (cy:Nat),Cell wr gc (cy:Int)/\Row wr gz zs/\zs.length=E.length/\vg zs/\cy<=1/\val (zs.take k)+val (F.take k)=val (E.take k)+B32 ^ k * cy/\Ext w0 wr
theorem xau.step {w0 wr : World} {gc gz : Nat} {E F : List Nat} {k x y cy : Nat} {zs : List Nat} (hc : Cell wr gc (cy : Int)) (hr : Row wr gz zs) (hl : zs.length = E.length) (hd : vg zs)
 (he:val (zs.take k)+val (F.take k)=val (E.take k)+B32 ^ k * cy) (hx:Ext w0 wr) (au:gc ≠ gz) (h0:w0.heap.size<=gc) (Be:w0.heap.size<=gz)
 (hk:k < E.length) (x1:x < 4294967296) (y1:y < 4294967296) (c1:cy<=1) (VO:val (E.take (k+1))=val (E.take k)+B32 ^ k * x) (VL:val (F.take (k+1))=val (F.take k)+B32 ^ k * y) :
 xau w0 gc gz E F (k+1) ((wr.setCell ⟨gc,0,none⟩ (.int .u32 (bor x y cy))).setCell ⟨gz,k,none⟩ (.int .u32 (((x:Int) - y - cy) % 4294967296))):=by
 obtain ⟨d,dO⟩:=Int.eq_ofNat_of_zero_le (show 0<=((x:Int) - y - cy) % 4294967296 by omega);obtain ⟨c',jH⟩:=Int.eq_ofNat_of_zero_le (xaz x y cy).1;have dw:=(xaz x y cy).2;rw [jH] at dw;have I8:d+y+cy=x+B32 * c':=by
  rw [ug];unfold bor at jH
  split at jH <;> omega
 rw [dO,jH];have hlen:k < zs.length:=by omega
 refine ⟨zs.set k d,c',(hc.set_ _).far (by simpa using au) _,(hr.far (by simpa using Ne.symm au) _).set_ _ _,by rw [List.length_set,hl],hd.set _ _ (by rw [ug]; omega),
  by omega,?_,(hx.setCell (by simpa using h0) _).setCell (by simpa using Be) _⟩
 rw [qy zs k _ hlen,gad,List.length_take,Nat.min_eq_left (by omega),VO,VL,Nat.pow_succ];have:=zcw _ _ _ _ _ _ _ _ _ he I8;omega
def wc3 (n:Nat) (w:World) (e:Ending) (w':World):Prop:=∃ v,e=.returned (.tuple #[v,.bool true])/\jb w' v (dg n)/\waa w.heap.size v/\Ext w w'
theorem jbi (u v:Value) (ds es:List Nat) (w:World) (h:jb w u ds) (k:jb w v es) (hs:ds.length<=35184372088000) (lS:val es<=val ds) :
 Calls Tryz.prog 107 #[u,v] w (wc3 (val ds - val es) w):=by
 have qE:(dg (val ds)).length<=ds.length:=uh h.digs;have LQ:(dg (val es)).length<=(dg (val ds)).length:=ku lS;go_enter Tryz.func107,Tryz.ntmps107;go_wp2_with fail;refine (qw u ds _ h).mono ?_;rintro e w' ⟨u',rfl,hu,rfl⟩;go_wp2_with fail;refine (qw v es _ k).mono ?_;rintro e w' ⟨v',rfl,hv,rfl⟩;go_wp2_with fail;refine (xao _ _ _ _ _ hu hv).mono ?_;rw [qg,qg];have Qg:0<=xh (val ds) (val es):=by unfold xh; split <;> (try split) <;> omega
 have ab5:=(yaj (val ds) (val es)).2;generalize xh (val ds) (val es)=cm at *;rintro e wc ⟨rfl,n,hw⟩;have mr:Ext w wc:=by rw [hw]; exact (Ext.refl w).drewN n
 clear hw;obtain ⟨A,c,rfl,h1,h2,h3⟩:=hu;obtain ⟨A',c',rfl,iI,kC,jG⟩:=hv;have G5:=hid (h3.ext mr);have G6:=hid (jG.ext mr);have vN:=hid mr;clear h3 jG mr h k;generalize hE:dg (val ds)=E at *;generalize hF:dg (val es)=F at *;have HE:=hid hE;have HF:=hid hF;clear hE hF;have dB:=fun W=>qaa (E.length:Int) (by omega) (by omega) W
 go_wp2_with fail
 have hinv:xau wc wc.heap.size (wc.heap.size+1) E F 0 ((wc.alloc (Obj.cells #[Value.int IntKind.u32 0] 84)).alloc (Obj.cells (zt (List.replicate E.length 0)).toArray 84)):=
  ⟨List.replicate E.length 0,0,(Cell.new wc 0).alloc _,by have:=Row.new (wc.alloc (Obj.cells #[Value.int IntKind.u32 0] 84)) (List.replicate E.length 0); simpa using this,by simp,vg.replicate _,by omega,by simp,((Ext.refl _).alloc _).alloc _⟩
 have bI:=hid hinv;clear hinv
 go_loopw [26] (fun i wr=>∃ k:Nat,k<=F.length/\i=.int .i64 k/\Hid (xau wc wc.heap.size (wc.heap.size+1) E F k wr)) (fun i _=>F.length - (intOf i).toNat)
 case atStart=>exact ⟨0,by omega,rfl,bI⟩
 case round =>
  obtain ⟨k,hk,rfl,HI⟩:=hrel
  by_cases af:k < F.length
  · obtain ⟨zs,cy,kY,ae,dR,dM,bZ,hsum,aA⟩:=HI.out;obtain ⟨ad,x,rfl,hb,ai,hx1,HX⟩:=(G5.out.ext aA).get_ k (by omega);obtain ⟨ad',y,rfl,dX,eQ,BP,HY⟩:=(G6.out.ext aA).get_ k af;have jO:=kY.cell;have dE:=kY.frozen;obtain ⟨z,EF,Nl,_⟩:=ae.get_ k (by omega);have HS:=hid (xau.step kY ae dR dM hsum aA (by omega) (by omega) (by omega) (by omega) hx1 BP bZ (zh HX) (zh HY));clear HI kY ae dR dM hsum aA;go_wp2_with fail;refine (ube _ _ _ _ _ jO dE (by omega) (by omega) (by omega) (by omega) (by omega) (by omega)).mono ?_;rintro e w' ⟨rfl,rfl⟩;go_wp2_with fail
    go_roundw
    case rel=>exact ⟨k+1,by omega,by go_num,HS⟩
    case measure=>simp [intOf]; omega
  · obtain rfl:k=F.length:=by omega
    go_wp2_with fail
    go_loopw [11] (fun i wr=>∃ k:Nat,F.length<=k/\k<=E.length/\i=.int .i64 k/\Hid (xau wc wc.heap.size (wc.heap.size+1) E F k wr)) (fun i _=>E.length - (intOf i).toNat)
    case atStart=>exact ⟨F.length,Nat.le_refl _,LQ,rfl,HI⟩
    case round =>
     clear HI;obtain ⟨k,oJ,hk,rfl,HI⟩:=hrel;obtain ⟨zs,cy,kY,ae,dR,dM,bZ,hsum,aA⟩:=HI.out
     by_cases mO:k < E.length
     · obtain ⟨ad,x,rfl,hb,ai,hx1,HX⟩:=(G5.out.ext aA).get_ k (by omega);have jO:=kY.cell;have dE:=kY.frozen;obtain ⟨z,EF,Nl,_⟩:=ae.get_ k (by omega);have HS:=hid (xau.step (y:=0) kY ae dR dM hsum aA (by omega) (by omega) (by omega) (by omega) hx1 (by omega) bZ (zh HX) (zaq oJ));rw [Int.natCast_zero,Int.sub_zero] at HS;clear HI kY ae dR dM hsum aA;go_wp2_with fail;refine (ube _ 0 _ _ _ jO dE (by omega) (by omega) (by omega) (by omega) (by omega) (by omega)).mono ?_;rw [Int.sub_zero];rintro e w' ⟨rfl,rfl⟩;go_wp2_with fail
       go_roundw
       case rel=>exact ⟨k+1,by omega,by omega,by go_num,HS⟩
       case measure=>simp [intOf]; omega
     · obtain rfl:k=E.length:=by omega
       have aH:val zs=val ds - val es:=by
        have hb:=zy dM;rw [List.take_of_length_le (by omega),List.take_of_length_le LQ,List.take_of_length_le (Nat.le_refl _),<- HE.out,<- HF.out,qg,qg] at hsum;rw [dR,<- HE.out] at hb;have Yb:cy=0:=by
         rcases Nat.eq_zero_or_pos cy with e | e
         · exact e
         · obtain rfl:cy=1:=by omega
           rw [Nat.mul_one] at hsum;omega
        rw [Yb] at hsum;omega
       have HN:Hid (jb wr (.slice (some ⟨wc.heap.size+1,0,none⟩) E.length E.length) zs):=by
        have:=ae.natV dM E.length (by omega) (by omega);rw [dR] at this;exact this
       have HV:=hid aH;have HX:=hid aA;clear HI kY ae dR dM hsum aA aH;go_wp2_with fail;refine (wa3 w.heap.size _ _ _ HN.out (waa.mk _ _ _ _ (by have:=vN.out.size; simp; omega))).mono ?_;rintro e w' ⟨v',rfl,hv,bu,rfl⟩;have rH:=hid hv;have oP:=hid bu;clear hv bu;go_wp2_with fail
       go_ret2
       refine ⟨v',rfl,?_,oP.out,vN.out.trans HX.out⟩;rw [<- HV.out];exact rH.out
end Go.Proofs.YtcepajijiabkmaaGreat
