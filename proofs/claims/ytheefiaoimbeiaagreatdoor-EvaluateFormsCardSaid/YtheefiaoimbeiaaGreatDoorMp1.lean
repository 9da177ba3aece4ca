/- Layer 1 (natural): what each function returns, of digit lists. -/
import Derived.Test.YtheefiaoimbeiaaGreatDoorMp0
set_option linter.unusedSimpArgs false
set_option linter.unusedVariables false
set_option maxRecDepth 100000
set_option maxHeartbeats 8000000
namespace Go.Proofs.YtheefiaoimbeiaaGreatDoor
open Lib (hid)
open Go.RowKit
theorem veo (A:Option Addr) (c n:Nat) (ds:List Nat) (w:World) (hd:ydm w A ds) (hl:ds.length=n) (hn:n<=c) (hc:c<=9223372036854775807) :
 Calls Tryz.prog 114 #[.slice A n c] w fun e w'=>e=.returned (.slice A (kdw ds n) c)/\w=w':=by
 have HD:=hid hd; clear hd;have HN:=hid hl; clear hl;go_enter Tryz.func114,Tryz.ntmps114
 go_wp2
 go_loop [3] (fun i=>∃ k:Nat,k<=n/\i=.int .i64 k/\kdw ds k=kdw ds n) (fun i=>(intOf i).toNat)
 case atStart=>exact ⟨n,pf _,rfl,rfl⟩
 case round =>
  obtain ⟨k,hk,rfl,ht⟩:=hrel;have HT:=hid ht; clear ht;rcases k with _ | k
  · go_wp2
    go_ret;exact ⟨by rw [<- HT.out]; rfl,rfl⟩
  · have hkl:k < ds.length:=by have:=HN.out; omega
    obtain ⟨ad,rfl,hb,abZ,hlt⟩:=HD.out.at_ k hkl
    by_cases h0:ds[k]'hkl=0
    · rw [h0] at abZ
      go_wp2
      go_round
      case rel=>exact ⟨k,by omega,rfl,by rw [<- HT.out,kdw,if_pos]; rw [pB,pq hkl]; exact h0⟩
      case measure=>simp [intOf]
    · go_wp2
      go_ret;exact ⟨by rw [<- HT.out,kdw,if_neg]; rfl; rw [pB,pq hkl]; exact h0,rfl⟩
theorem vdr (v:Value) (ds:List Nat) (w:World) (h:zb1 w v ds) :
 Calls Tryz.prog 114 #[v] w fun e w'=>∃ v',e=.returned v'/\zb1 w v' (dg (val ds))/\w=w':=by
 obtain ⟨A,c,rfl,h1,h2,h3⟩:=h;refine (veo A c ds.length ds w h3 rfl h1 h2).mono ?_;rintro e w' ⟨rfl,rfl⟩;refine ⟨_,rfl,⟨A,c,?_,?_,h2,?_⟩,rfl⟩
 · rw [vd1 h3.1]
 · rw [vd1 h3.1]; exact po (ud7 _ _) h1
 · rw [ket h3.1]; exact h3.take _
theorem kej (B:Nat) (v:Value) (ds:List Nat) (w:World) (h:zb1 w v ds) (hf:zdo B v) :
 Calls Tryz.prog 114 #[v] w fun e w'=>∃ v',e=.returned v'/\zb1 w v' (dg (val ds))/\zdo B v'/\w=w':=by
 obtain ⟨A,c,rfl,h1,h2,h3⟩:=h;refine (veo A c ds.length ds w h3 rfl h1 h2).mono ?_;rintro e w' ⟨rfl,rfl⟩;refine ⟨_,rfl,⟨A,c,?_,?_,h2,?_⟩,?_,rfl⟩
 · rw [vd1 h3.1]
 · rw [vd1 h3.1]; exact po (ud7 _ _) h1
 · rw [ket h3.1]; exact h3.take _
 · rcases A with _ | ad
   · exact zdo.nil _ _ _
   · exact zdo.mk _ _ _ _ (hf ad _ _ rfl)
theorem ud0 (v:Value) (ds:List Nat) (w:World) (h:zb1 w v ds) :
 Calls Tryz.prog 112 #[v] w fun e w'=>e=.returned (.bool (val ds == 0))/\w=w':=by
 obtain ⟨A,c,rfl,h1,h2,h3⟩:=h;have ht:=ud7 ds ds.length;have hz:(kdw ds ds.length == 0)=(val ds == 0):=by
  rw [<- vd1 h3.1,sX,beq_iff_eq,beq_iff_eq];exact ⟨zeg,fun e=>by rw [e,jdn]; rfl⟩
 have H3:=hid h3; clear h3;have HZ:=hid hz; clear hz;go_enter Tryz.func112,Tryz.ntmps112;go_wp2_with fail;refine (veo A c ds.length ds _ H3.out rfl h1 h2).mono ?_;rintro e w' ⟨rfl,rfl⟩
 go_wp2
 go_ret;refine ⟨?_,rfl⟩;have:=HZ.out;rw [sX,beq_iff_eq,beq_iff_eq] at this;show Ending.returned (Value.bool _)=_
 congr 2
 rw [sX,beq_iff_eq,beq_iff_eq,<- this];omega
theorem vdv (v:Value) (ds:List Nat) (w:World) (h:zb1 w v ds) (hs:ds.length<=35184372088832) :
 Calls Tryz.prog 111 #[v] w (jea (val ds) w):=by
 have ht:(dg (val ds)).length<=ds.length:=xdk h.xi;go_enter Tryz.func111,Tryz.ntmps111;go_wp2_with fail;refine (vdr v ds _ h).mono ?_;rintro e w' ⟨v',rfl,hv,rfl⟩;obtain ⟨A,c,rfl,h1,h2,h3⟩:=hv;have hmk:=fun W=>xdu ((dg (val ds)).length:Nat) (by omega) (by omega) W
 have H3:=hid h3;have HD:=hid (yd6 (val ds));clear h3;generalize hE:dg (val ds)=E at *;have HE:=hid hE;clear hE;go_wp2_with (with_reducible refine wpList_copy_splice rfl (.tmp 9) (.tmp 10) _ _ rfl 108 uz zep _ _ _ _ _ _ rfl rfl w.heap.size 0 (jdq (List.replicate E.length 0)) 108 ?_ (jdq E) ?_ ?_ ?_ ?_ w.heap.size w ?_ ?_ ?_)
 · exact heap_alloc_new _ _
 · rw [ydu]; simp
 · intro hp;rw [ydu] at hp;obtain ⟨ad,e,hb,hc⟩:=H3.out.2 hp;refine ⟨ad,e,fun j x hx=>?_⟩;have hj:j < E.length:=by
    rcases rz j E.length with hj | hj
    · exact hj
    · rw [sA (by rw [ydu]; exact hj)] at hx; cases hx
   rw [keg E j hj] at hx;rw [World.cell?_alloc_lt _ _ _ (by rw [zc1]; exact hb),hc j hj,hx]
 · rw [ydu,ydu]; simp
 · exact ze1 E
 · exact (Below.refl _ _).alloc (pf _) _
 · exact pf _
 · intro w' aaC hb;have hsp:splice (jdq (List.replicate E.length 0)) 0 (jdq E)=jdq E:=by
    simp [splice,jdq]
   rw [hsp] at aaC;have HR:Hid (Row w' w.heap.size E):=aaC;have HB:Hid (Ext w w'):=hb;clear aaC hb hsp
   go_wp2
   go_ret;refine ⟨_,rfl,?_,HB.out⟩;rw [HE.out];exact HR.out.zA HD.out _ (pf _) (by omega)
theorem gd9 (n:Nat) (w:World) (hn:n < 18446744073709551616) :
 Calls Tryz.prog 77 #[.int .u64 n] w (jea n w):=by
 go_enter Tryz.func77,Tryz.ntmps77;go_wp2_with fail;have hr:Row (w.alloc (Obj.cells #[Value.int IntKind.u32 (↑n % 4294967296),Value.int IntKind.u32 (↑n / 4294967296)] 108)) w.heap.size [n % 4294967296,n / 4294967296]:=by
  have:=Row.new w [n % 4294967296,n / 4294967296];simpa [jdq] using this
 have hd:kdk [n % 4294967296,n / 4294967296]:=kdk.cons (rN _ (by decide)) (kdk.cons (by rw [vdk]; omega) kdk.nil);refine (vdv _ _ _ (hr.zA hd 2 (pf _) (by omega)) (by simp)).mono ?_;rintro e w' ⟨v,rfl,hv,hx⟩;have ab2:val [n % 4294967296,n / 4294967296]=n:=by simp [val,vdk]; omega
 rw [ab2] at hv;have HV:=hid hv;have HX:=hid hx;clear hv hx ab2 hr
 go_wp2
 go_ret;exact ⟨_,rfl,HV.out,((Ext.refl w).alloc _).trans HX.out⟩
theorem gd8 (u v:Value) (ds es:List Nat) (w:World) (h:zb1 w u ds) (k:zb1 w v es) :
 Calls Tryz.prog 82 #[u,v] w fun e w'=>e=.returned (.int .i64 (xdq (val ds) (val es)))/\∃ n,w'=w.drewN n:=by
 go_enter Tryz.func82,Tryz.ntmps82;go_wp2_with fail;refine (vdr u ds _ h).mono ?_;rintro e w' ⟨u',rfl,hu,rfl⟩;go_wp2_with fail;refine (vdr v es _ k).mono ?_;rintro e w' ⟨v',rfl,hv,rfl⟩;obtain ⟨A,c,rfl,h1,h2,h3⟩:=hu;obtain ⟨A',c',rfl,h1',h2',h3'⟩:=hv;generalize hM:val ds=M at *;generalize hN:val es=N at *;have H3:=hid h3;have H3':=hid h3';have HM:=hid hM;have HN:=hid hN;clear h3 h3' hM hN h k;rcases Nat.lt_trichotomy (dg M).length (dg N).length with hlt | heq | hgt
 · go_wp2
   go_ret;exact ⟨by rw [HM.out,HN.out,zd2 (by have:=wd9 hlt; omega)]; rfl,0,rfl⟩
 · generalize hL:(dg N).length=L at *;rw [heq] at h1 ⊢;have HL:=hid hL;have HEQ:=hid heq;clear heq hL;have HMd:=hid (yd6 M);have HNd:=hid (yd6 N)
   go_wp2
   go_loopw [5] (fun i wr=>∃ k n:Nat,k<=L/\i=.int .i64 ((k:Int) - 1)/\Hid ((dg M).drop k=(dg N).drop k)/\wr=w.drewN n) (fun i _=>(intOf i+1).toNat)
   case atStart=>exact ⟨L,0,pf _,rfl,hid (by rw [ux (by have:=HEQ.out; omega),ux (by have:=HL.out; omega)]),rfl⟩
   case round =>
    obtain ⟨k,n,hk,rfl,HK,rfl⟩:=hrel;rcases k with _ | k
    · go_wp2
      go_ret;refine ⟨?_,_,rfl⟩;have hMN:M=N:=by
       have:=HK.out;rw [rU,rU] at this;rw [<- zdk M,this,zdk]
      rw [HM.out,HN.out,yeg (by rw [hMN])]
      rfl
    · have hkM:k < (dg M).length:=by have:=HEQ.out; omega
      have hkN:k < (dg N).length:=by have:=HL.out; omega
      obtain ⟨ad,rfl,hb,abZ,hlt⟩:=H3.out.at_ k hkM;obtain ⟨ad',rfl,hb',aej,aoN⟩:=H3'.out.at_ k hkN;obtain ⟨x,hx⟩:∃ x,x=(dg M)[k]:=⟨_,rfl⟩;obtain ⟨y,hy⟩:∃ y,y=(dg N)[k]:=⟨_,rfl⟩;rw [<- hx] at abZ hlt;rw [<- hy] at aej aoN;have HX:=hid hx;have HY:=hid hy;clear hx hy;have hk0:(0:Int)<=k:=by omega
      rcases Nat.lt_trichotomy x y with hxy | hxy | hxy
      · go_wp2
        go_quiet (fail)
        go_wp2
        go_ret;refine ⟨?_,_,World.drewN_drewN _ _ _⟩;have:=kem k HMd.out hkM hkN (HEQ.out.trans HL.out.symm) HK.out (by rw [<- HX.out,<- HY.out]; exact hxy);rw [zdk,zdk] at this;rw [HM.out,HN.out,zd2 (by omega)]
        rfl
      · subst hxy
        go_wp2
        go_quiet (fail)
        go_wp2
        go_quiet (fail)
        go_wp2
        go_roundw
        case rel=>exact ⟨k,_,by omega,by go_num,hid (by rw [pY hkM,pY hkN,HK.out,<- HX.out,<- HY.out]),rfl⟩
        case measure=>simp [intOf]
      · go_wp2
        go_quiet (fail)
        go_wp2
        go_quiet (fail)
        go_wp2
        go_ret;refine ⟨?_,_,by rw [World.drewN_drewN,World.drewN_drewN]⟩;have:=kem k HNd.out hkN hkM (HL.out.trans HEQ.out.symm) HK.out.symm (by rw [<- HX.out,<- HY.out]; exact hxy);rw [zdk,zdk] at this;rw [HM.out,HN.out,wd8 (by omega)]
        rfl
 · go_wp2
   go_ret;exact ⟨by rw [HM.out,HN.out,wd8 (by have:=wd9 hgt; omega)]; rfl,0,rfl⟩
theorem qe2 (z a b c x y P s:Nat) (h:z+P * c=a+b) (hs:s=x+y+c):z+P * (s % B32)+P * B32 * (s / B32)=(a+P * x)+(b+P * y):=by
 have e:P * (s % B32)+P * B32 * (s / B32)=P * s:=by rw [pS,<- pD,rT]
 have e2:P * s=P * x+P * y+P * c:=by rw [hs,pD,pD]
 omega
theorem yeu (x y c : Int) (p : Addr) (w : World) (hc : w.cell? p = some (.int .u32 c)) (hf : w.frozen? p = false)
 (x0:0<=x) (x1:x < 4294967296) (y0:0<=y) (y1:y < 4294967296) (c0:0<=c) (c1:c<=1) :
 Calls Tryz.prog 140 #[.int .u32 x,.int .u32 y,.pointer (some p)] w fun e w' =>
  e=.returned (.int .u32 ((x+y+c) % 4294967296))/\w.setCell p (.int .u32 ((x+y+c) / 4294967296))=w':=by
 go_enter Tryz.func140,Tryz.ntmps140;go_wp2_with (go_at_call 141; refine (add32 _ _ _ _ (by omega) (by omega) (by omega) (by omega) (by omega) (by omega)).mono ?_; rintro e w' ⟨rfl,rfl⟩)
 go_ret;exact ⟨rfl,rfl⟩
theorem kdt (zs:List Nat) (k d:Nat) (hk:k < zs.length):(zs.set k d).take (k+1)=zs.take k ++ [d]:=by
 rw [List.take_add_one,tU (pf k),List.getElem?_set_self hk]
 rfl
theorem wei (zs:List Nat) (k:Nat) (hk:k < zs.length):zs.take (k+1)=zs.take k ++ [zs[k]]:=by
 rw [List.take_add_one,pq hk]; rfl
def Cell (w:World) (g:Nat) (x:Int):Prop:=w.heap[g]?=some (.cells #[.int .u32 x] 108 (0,0))
theorem Cell.cell {w:World} {g:Nat} {x:Int} (h:Cell w g x):w.cell? ⟨g,0,none⟩=some (.int .u32 x):=by
 rw [cell_of_row w g 0 _ _ (0,0) h]; rfl
theorem Cell.frozen {w:World} {g:Nat} {x:Int} (h:Cell w g x):w.frozen? ⟨g,0,none⟩=false:=by
 unfold Cell at h;simp [World.frozen?,h]
theorem Cell.qG {w:World} {g:Nat} {x:Int} (h:Cell w g x) (y:Int):Cell (w.setCell ⟨g,0,none⟩ (.int .u32 y)) g y:=by
 unfold Cell at h ⊢;simp [World.setCell,sN,h]
theorem Cell.yj {w:World} {g:Nat} {x:Int} (h:Cell w g x) {p:Addr} (hp:g ≠ p.block) (u:Value):Cell (w.setCell p u) g x:=(Below.heap_setCell w p u g hp).trans h
theorem Cell.new (w:World) (x:Int):Cell (w.alloc (.cells #[.int .u32 x] 108)) w.heap.size x:=heap_alloc_new w _
theorem Cell.lt {w:World} {g:Nat} {x:Int} (h:Cell w g x):g < w.heap.size:=by
 rcases rz g w.heap.size with hlt | hge
 · exact hlt
 · unfold Cell at h; rw [sY hge] at h; cases h
theorem Cell.alloc {w:World} {g:Nat} {x:Int} (h:Cell w g x) (o:Obj):Cell (w.alloc o) g x:=(Below.heap_alloc w o g h.lt).trans h
def ued (w0:World) (gc gz:Nat) (E F:List Nat) (k:Nat) (wr:World):Prop:=
 ∃ (zs:List Nat) (cy:Nat),Cell wr gc (cy:Int)/\Row wr gz zs/\zs.length=E.length+1/\kdk zs/\cy<=1/\val (zs.take k)+B32 ^ k * cy=val (E.take k)+val (F.take k)/\Ext w0 wr
theorem ued.step {w0 wr : World} {gc gz : Nat} {E F : List Nat} {k x y cy : Nat} {zs : List Nat} (hc : Cell wr gc (cy : Int)) (hr : Row wr gz zs) (hl : zs.length = E.length + 1) (hd : kdk zs)
 (he:val (zs.take k)+B32 ^ k * cy=val (E.take k)+val (F.take k)) (hx:Ext w0 wr) (hne:gc ≠ gz) (h0:w0.heap.size<=gc) (h0':w0.heap.size<=gz)
 (hk:k < E.length) (x1:x < 4294967296) (y1:y < 4294967296) (c1:cy<=1) (hxE:val (E.take (k+1))=val (E.take k)+B32 ^ k * x) (hyF:val (F.take (k+1))=val (F.take k)+B32 ^ k * y) :
 ued w0 gc gz E F (k+1) ((wr.setCell ⟨gc,0,none⟩ (.int .u32 (((x:Int)+y+cy) / 4294967296))).setCell ⟨gz,k,none⟩ (.int .u32 (((x:Int)+y+cy) % 4294967296))):=by
 have e1:(((x:Int)+y+cy) / 4294967296)=(((x+y+cy) / B32:Nat):Int):=by rw [vdk]; omega
 have e2:(((x:Int)+y+cy) % 4294967296)=(((x+y+cy) % B32:Nat):Int):=by rw [vdk]; omega
 rw [e1,e2];have hlen:k < zs.length:=by omega
 refine ⟨zs.set k ((x+y+cy) % B32),(x+y+cy) / B32,(hc.qG _).yj (by simpa using hne) _,(hr.yj (by simpa using Ne.symm hne) _).qG _ _,by rw [pN,hl],hd.set _ _ (rN _ kdm),
  by rw [vdk]; omega,?_,(hx.setCell (by simpa using h0) _).setCell (by simpa using h0') _⟩
 rw [kdt zs k _ hlen,xdy,px,rh (by omega),hxE,hyF,pP];exact qe2 _ _ _ _ _ _ _ _ he rfl
theorem udk {E:List Nat} {k x:Nat} (hk:Hid (E[k]?=some x)):val (E.take (k+1))=val (E.take k)+B32 ^ k * x:=by
 obtain ⟨h,e⟩:=ti.1 hk.out;rw [wei E k h,xdy,px,rh (by omega),e]
theorem uea {E:List Nat} {k:Nat} (hk:E.length<=k):val (E.take (k+1))=val (E.take k)+B32 ^ k * 0:=by
 rw [pA hk,pA (by omega)]; simp
def xgq (w:World) (m L:Nat) (s0 s1:Value) (wx:World):Prop:=
 ∃ A c A' c' E F,s0=.slice A E.length c/\s1=.slice A' F.length c'/\F.length<=E.length/\E.length<=c/\c<=9223372036854775807/\F.length<=c'/\c'<=9223372036854775807 /\
   ydm w A E/\ydm w A' F/\val E+val F=m/\E.length<=L/\wx=w
theorem yem (u v:Value) (ds es:List Nat) (w:World) (h:zb1 w u ds) (k:zb1 w v es) (hs:ds.length+es.length<=35184372088000) :
 Calls Tryz.prog 117 #[u,v] w (jea (val ds+val es) w):=by
 have hls:(dg (val ds)).length<=ds.length:=xdk h.xi;have avu:(dg (val es)).length<=es.length:=xdk k.xi;go_enter Tryz.func117,Tryz.ntmps117;go_wp2_with fail;refine (vdr u ds _ h).mono ?_;rintro e w' ⟨u',rfl,hu,rfl⟩;go_wp2_with fail;refine (vdr v es _ k).mono ?_;rintro e w' ⟨v',rfl,hv,rfl⟩;obtain ⟨A,c,rfl,h1,h2,h3⟩:=hu;obtain ⟨A',c',rfl,h1',h2',h3'⟩:=hv;have H3:=hid h3;have H3':=hid h3';clear h3 h3' h k
 go_upto_if 19 with (fail)
 go_cut [0,1] (fun s0 s1 wx=>xgq w (val ds+val es) (ds.length+es.length) s0 s1 wx)
 case first =>
  by_cases hlt:(dg (val ds)).length < (dg (val es)).length
  · go_wp2
    go_meet
    exact ⟨_,_,_,_,_,_,rfl,rfl,by omega,h1',h2',h1,h2,H3'.out,H3.out,by rw [zdk,zdk]; omega,by omega,rfl⟩
  · go_wp2
    go_meet
    exact ⟨_,_,_,_,_,_,rfl,rfl,by omega,h1,h2,h1',h2',H3.out,H3'.out,by rw [zdk,zdk],by omega,rfl⟩
 case rest =>
  obtain ⟨A,c,A',c',E,F,rfl,rfl,hFE,g1,g2,g3,g4,g5,g6,g7,g8,rfl⟩:=hcut;have G5:=hid g5;have G6:=hid g6;have G7:=hid g7;clear g5 g6 g7 H3 H3' h1 h2 h1' h2' hls avu;have hmk:=fun W=>xdu ((E.length:Int)+1) (by omega) (by omega) W
  go_wp2_with fail
  have hinv:ued wc wc.heap.size (wc.heap.size+1) E F 0 ((wc.alloc (Obj.cells #[Value.int IntKind.u32 0] 108)).alloc (Obj.cells (jdq (List.replicate (E.length+1) 0)).toArray 108)):=
   ⟨List.replicate (E.length+1) 0,0,(Cell.new wc 0).alloc _,by have:=Row.new (wc.alloc (Obj.cells #[Value.int IntKind.u32 0] 108)) (List.replicate (E.length+1) 0); simpa using this,by simp,kdk.replicate _,by omega,by simp,((Ext.refl _).alloc _).alloc _⟩
  have ace:=hid hinv;clear hinv
  go_loopw [29] (fun i wr=>∃ k:Nat,k<=F.length/\i=.int .i64 k/\Hid (ued wc wc.heap.size (wc.heap.size+1) E F k wr)) (fun i _=>F.length - (intOf i).toNat)
  case atStart=>exact ⟨0,by omega,rfl,ace⟩
  case round =>
   obtain ⟨k,hk,rfl,HI⟩:=hrel
   by_cases hlt:k < F.length
   · obtain ⟨zs,cy,hcy,aaC,hzl,hzd,hc1,hsum,ab1⟩:=HI.out;obtain ⟨ad,x,rfl,hb,abZ,hx1,HX⟩:=(G5.out.ext ab1).qt k (by omega);obtain ⟨ad',y,rfl,hb',aej,hy1,HY⟩:=(G6.out.ext ab1).qt k hlt;have hcc:=hcy.cell;have hcf:=hcy.frozen;obtain ⟨z,hzc,hzf,_⟩:=aaC.qt k (by omega);have HS:=hid (ued.step hcy aaC hzl hzd hsum ab1 (by omega) (by omega) (by omega) (by omega) hx1 hy1 hc1 (udk HX) (udk HY));clear HI hcy aaC hzl hzd hsum ab1;go_wp2_with fail;refine (yeu _ _ _ _ _ hcc hcf (by omega) (by omega) (by omega) (by omega) (by omega) (by omega)).mono ?_;rintro e w' ⟨rfl,rfl⟩;go_wp2_with fail
     go_roundw
     case rel=>exact ⟨k+1,by omega,by go_num,HS⟩
     case measure=>simp [intOf]; omega
   · obtain rfl:k=F.length:=by omega
     go_wp2_with fail
     go_loopw [10] (fun i wr=>∃ k:Nat,F.length<=k/\k<=E.length/\i=.int .i64 k/\Hid (ued wc wc.heap.size (wc.heap.size+1) E F k wr)) (fun i _=>E.length - (intOf i).toNat)
     case atStart=>exact ⟨F.length,pf _,hFE,rfl,HI⟩
     case round =>
      clear HI;obtain ⟨k,hk0,hk,rfl,HI⟩:=hrel;obtain ⟨zs,cy,hcy,aaC,hzl,hzd,hc1,hsum,ab1⟩:=HI.out
      by_cases ahz:k < E.length
      · obtain ⟨ad,x,rfl,hb,abZ,hx1,HX⟩:=(G5.out.ext ab1).qt k (by omega);have hcc:=hcy.cell;have hcf:=hcy.frozen;obtain ⟨z,hzc,hzf,_⟩:=aaC.qt k (by omega);have HS:=hid (ued.step (y:=0) hcy aaC hzl hzd hsum ab1 (by omega) (by omega) (by omega) (by omega) hx1 (by omega) hc1 (udk HX) (uea hk0));rw [Int.natCast_zero,Int.add_zero] at HS;clear HI hcy aaC hzl hzd hsum ab1;go_wp2_with fail;refine (yeu _ 0 _ _ _ hcc hcf (by omega) (by omega) (by omega) (by omega) (by omega) (by omega)).mono ?_;rw [Int.add_zero];rintro e w' ⟨rfl,rfl⟩;go_wp2_with fail
        go_roundw
        case rel=>exact ⟨k+1,by omega,by omega,by go_num,HS⟩
        case measure=>simp [intOf]; omega
      · obtain rfl:k=E.length:=by omega
        have hcc:=hcy.cell;obtain ⟨z,hzc,hzf,_⟩:=aaC.qt E.length (by omega);have aga:=aaC.qG E.length cy;have anY:=ab1.setCell (p:=⟨wc.heap.size+1,E.length,none⟩) (by simp) (.int .u32 (cy:Int));have hd':=hzd.set E.length cy (by rw [vdk]; omega);have ab2:val (zs.set E.length cy)=val ds+val es:=by
         have e1:=kdt zs E.length cy (by omega);rw [pA (by rw [pN]; omega)] at e1;rw [e1,xdy,px,rh (by omega),hsum,pA (pf _),pA hFE];exact G7.out
        have hlen:(zs.set E.length cy).length=E.length+1:=by rw [pN,hzl]
        have HN:Hid (zb1 (wr.setCell ⟨wc.heap.size+1,E.length,none⟩ (.int .u32 (cy:Int))) (.slice (some ⟨wc.heap.size+1,0,none⟩) (E.length+1) (E.length+1)) (zs.set E.length cy)):=by
         have:=aga.zA hd' (E.length+1) (by omega) (by omega);rw [hlen] at this;exact this
        have HV:=hid ab2;have HX:=hid anY;clear HI hcy aaC hzl hzd hsum ab1 aga anY hd' ab2 hlen;go_wp2_with fail;refine (vdr _ _ _ HN.out).mono ?_;rintro e w' ⟨v',rfl,hv,rfl⟩;have HV2:=hid hv;clear hv;go_wp2_with fail;go_ret;refine ⟨v',rfl,?_,HX.out⟩;rw [<- HV.out];exact HV2.out
theorem jer (x y c : Int) (p : Addr) (w : World) (hc : w.cell? p = some (.int .u32 c)) (hf : w.frozen? p = false)
 (x0:0<=x) (x1:x < 4294967296) (y0:0<=y) (y1:y < 4294967296) (c0:0<=c) (c1:c<=1) :
 Calls Tryz.prog 142 #[.int .u32 x,.int .u32 y,.pointer (some p)] w fun e w' =>
  e=.returned (.int .u32 ((x - y - c) % 4294967296))/\w.setCell p (.int .u32 (bor x y c))=w':=by
 go_enter Tryz.func142,Tryz.ntmps142;go_wp2_with (go_at_call 143; refine (zfg _ _ _ _ (by omega) (by omega) (by omega) (by omega) (by omega) (by omega)).mono ?_; rintro e w' ⟨rfl,rfl⟩)
 go_ret;exact ⟨rfl,rfl⟩
theorem qf5 (z a b c x y P d c':Nat) (h:z+b=a+P * c) (hd:d+y+c=x+B32 * c'):(z+P * d)+(b+P * y)=(a+P * x)+P * B32 * c'+2 * (P * c) - 2 * (P * c):=by
 have e:P * d+P * y+P * c=P * x+P * B32 * c':=by rw [<- pD,<- pD,hd,pD,pS]
 omega
def jed (w0:World) (gc gz:Nat) (E F:List Nat) (k:Nat) (wr:World):Prop:=
 ∃ (zs:List Nat) (cy:Nat),Cell wr gc (cy:Int)/\Row wr gz zs/\zs.length=E.length/\kdk zs/\cy<=1/\val (zs.take k)+val (F.take k)=val (E.take k)+B32 ^ k * cy/\Ext w0 wr
theorem jed.step {w0 wr : World} {gc gz : Nat} {E F : List Nat} {k x y cy : Nat} {zs : List Nat} (hc : Cell wr gc (cy : Int)) (hr : Row wr gz zs) (hl : zs.length = E.length) (hd : kdk zs)
 (he:val (zs.take k)+val (F.take k)=val (E.take k)+B32 ^ k * cy) (hx:Ext w0 wr) (hne:gc ≠ gz) (h0:w0.heap.size<=gc) (h0':w0.heap.size<=gz)
 (hk:k < E.length) (x1:x < 4294967296) (y1:y < 4294967296) (c1:cy<=1) (hxE:val (E.take (k+1))=val (E.take k)+B32 ^ k * x) (hyF:val (F.take (k+1))=val (F.take k)+B32 ^ k * y) :
 jed w0 gc gz E F (k+1) ((wr.setCell ⟨gc,0,none⟩ (.int .u32 (bor x y cy))).setCell ⟨gz,k,none⟩ (.int .u32 (((x:Int) - y - cy) % 4294967296))):=by
 obtain ⟨d,hd1⟩:=ry (show 0<=((x:Int) - y - cy) % 4294967296 by omega);obtain ⟨c',hc'⟩:=ry (xeg x y cy).1;have hc2:=(xeg x y cy).2;rw [hc'] at hc2;have hdc:d+y+cy=x+B32 * c':=by
  rw [vdk];unfold bor at hc'
  split at hc' <;> omega
 rw [hd1,hc'];have hlen:k < zs.length:=by omega
 refine ⟨zs.set k d,c',(hc.qG _).yj (by simpa using hne) _,(hr.yj (by simpa using Ne.symm hne) _).qG _ _,by rw [pN,hl],hd.set _ _ (by rw [vdk]; omega),
  by omega,?_,(hx.setCell (by simpa using h0) _).setCell (by simpa using h0') _⟩
 rw [kdt zs k _ hlen,xdy,px,rh (by omega),hxE,hyF,pP];have:=qf5 _ _ _ _ _ _ _ _ _ he hdc;omega
def kgi (n:Nat) (w:World) (e:Ending) (w':World):Prop:=∃ v,e=.returned (.tuple #[v,.bool true])/\zb1 w' v (dg n)/\zdo w.heap.size v/\Ext w w'
theorem ueu (u v:Value) (ds es:List Nat) (w:World) (h:zb1 w u ds) (k:zb1 w v es) (hs:ds.length<=35184372088000) (hge:val es<=val ds) :
 Calls Tryz.prog 118 #[u,v] w (kgi (val ds - val es) w):=by
 have hls:(dg (val ds)).length<=ds.length:=xdk h.xi;have hFE:(dg (val es)).length<=(dg (val ds)).length:=ydq hge;go_enter Tryz.func118,Tryz.ntmps118;go_wp2_with fail;refine (vdr u ds _ h).mono ?_;rintro e w' ⟨u',rfl,hu,rfl⟩;go_wp2_with fail;refine (vdr v es _ k).mono ?_;rintro e w' ⟨v',rfl,hv,rfl⟩;go_wp2_with fail;refine (gd8 _ _ _ _ _ hu hv).mono ?_;rw [zdk,zdk];have aBq:0<=xdq (val ds) (val es):=by unfold xdq; split <;> (try split) <;> omega
 have ayp:=(xd6 (val ds) (val es)).2;generalize xdq (val ds) (val es)=cm at *;rintro e wc ⟨rfl,n,hw⟩;have hxw:Ext w wc:=by rw [hw]; exact (Ext.refl w).drewN n
 clear hw;obtain ⟨A,c,rfl,h1,h2,h3⟩:=hu;obtain ⟨A',c',rfl,h1',h2',h3'⟩:=hv;have G5:=hid (h3.ext hxw);have G6:=hid (h3'.ext hxw);have HXW:=hid hxw;clear h3 h3' hxw h k;generalize hE:dg (val ds)=E at *;generalize hF:dg (val es)=F at *;have HE:=hid hE;have HF:=hid hF;clear hE hF;have hmk:=fun W=>xdu (E.length:Int) (by omega) (by omega) W
 go_wp2_with fail
 have hinv:jed wc wc.heap.size (wc.heap.size+1) E F 0 ((wc.alloc (Obj.cells #[Value.int IntKind.u32 0] 108)).alloc (Obj.cells (jdq (List.replicate E.length 0)).toArray 108)):=
  ⟨List.replicate E.length 0,0,(Cell.new wc 0).alloc _,by have:=Row.new (wc.alloc (Obj.cells #[Value.int IntKind.u32 0] 108)) (List.replicate E.length 0); simpa using this,by simp,kdk.replicate _,by omega,by simp,((Ext.refl _).alloc _).alloc _⟩
 have ace:=hid hinv;clear hinv
 go_loopw [26] (fun i wr=>∃ k:Nat,k<=F.length/\i=.int .i64 k/\Hid (jed wc wc.heap.size (wc.heap.size+1) E F k wr)) (fun i _=>F.length - (intOf i).toNat)
 case atStart=>exact ⟨0,by omega,rfl,ace⟩
 case round =>
  obtain ⟨k,hk,rfl,HI⟩:=hrel
  by_cases hlt:k < F.length
  · obtain ⟨zs,cy,hcy,aaC,hzl,hzd,hc1,hsum,ab1⟩:=HI.out;obtain ⟨ad,x,rfl,hb,abZ,hx1,HX⟩:=(G5.out.ext ab1).qt k (by omega);obtain ⟨ad',y,rfl,hb',aej,hy1,HY⟩:=(G6.out.ext ab1).qt k hlt;have hcc:=hcy.cell;have hcf:=hcy.frozen;obtain ⟨z,hzc,hzf,_⟩:=aaC.qt k (by omega);have HS:=hid (jed.step hcy aaC hzl hzd hsum ab1 (by omega) (by omega) (by omega) (by omega) hx1 hy1 hc1 (udk HX) (udk HY));clear HI hcy aaC hzl hzd hsum ab1;go_wp2_with fail;refine (jer _ _ _ _ _ hcc hcf (by omega) (by omega) (by omega) (by omega) (by omega) (by omega)).mono ?_;rintro e w' ⟨rfl,rfl⟩;go_wp2_with fail
    go_roundw
    case rel=>exact ⟨k+1,by omega,by go_num,HS⟩
    case measure=>simp [intOf]; omega
  · obtain rfl:k=F.length:=by omega
    go_wp2_with fail
    go_loopw [11] (fun i wr=>∃ k:Nat,F.length<=k/\k<=E.length/\i=.int .i64 k/\Hid (jed wc wc.heap.size (wc.heap.size+1) E F k wr)) (fun i _=>E.length - (intOf i).toNat)
    case atStart=>exact ⟨F.length,pf _,hFE,rfl,HI⟩
    case round =>
     clear HI;obtain ⟨k,hk0,hk,rfl,HI⟩:=hrel;obtain ⟨zs,cy,hcy,aaC,hzl,hzd,hc1,hsum,ab1⟩:=HI.out
     by_cases ahz:k < E.length
     · obtain ⟨ad,x,rfl,hb,abZ,hx1,HX⟩:=(G5.out.ext ab1).qt k (by omega);have hcc:=hcy.cell;have hcf:=hcy.frozen;obtain ⟨z,hzc,hzf,_⟩:=aaC.qt k (by omega);have HS:=hid (jed.step (y:=0) hcy aaC hzl hzd hsum ab1 (by omega) (by omega) (by omega) (by omega) hx1 (by omega) hc1 (udk HX) (uea hk0));rw [Int.natCast_zero,Int.sub_zero] at HS;clear HI hcy aaC hzl hzd hsum ab1;go_wp2_with fail;refine (jer _ 0 _ _ _ hcc hcf (by omega) (by omega) (by omega) (by omega) (by omega) (by omega)).mono ?_;rw [Int.sub_zero];rintro e w' ⟨rfl,rfl⟩;go_wp2_with fail
       go_roundw
       case rel=>exact ⟨k+1,by omega,by omega,by go_num,HS⟩
       case measure=>simp [intOf]; omega
     · obtain rfl:k=E.length:=by omega
       have ab2:val zs=val ds - val es:=by
        have hb:=qdu hzd;rw [pA (by omega),pA hFE,pA (pf _),<- HE.out,<- HF.out,zdk,zdk] at hsum;rw [hzl,<- HE.out] at hb;have avY:cy=0:=by
         rcases rO cy with e | e
         · exact e
         · obtain rfl:cy=1:=by omega
           rw [th] at hsum;omega
        rw [avY] at hsum;omega
       have HN:Hid (zb1 wr (.slice (some ⟨wc.heap.size+1,0,none⟩) E.length E.length) zs):=by
        have:=aaC.zA hzd E.length (by omega) (by omega);rw [hzl] at this;exact this
       have HV:=hid ab2;have HX:=hid ab1;clear HI hcy aaC hzl hzd hsum ab1 ab2;go_wp2_with fail;refine (kej w.heap.size _ _ _ HN.out (zdo.mk _ _ _ _ (by have:=HXW.out.size; simp; omega))).mono ?_;rintro e w' ⟨v',rfl,hv,hfr,rfl⟩;have HV2:=hid hv;have HFR:=hid hfr;clear hv hfr;go_wp2_with fail
       go_ret2
       refine ⟨v',rfl,?_,HFR.out,HXW.out.trans HX.out⟩;rw [<- HV.out];exact HV2.out
end Go.Proofs.YtheefiaoimbeiaaGreatDoor
