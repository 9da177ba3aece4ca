/- Layer 1 (natural): what each function returns, of digit lists. -/
import Derived.Test.YtklnlgnnlmdibaaGreatMr0
set_option linter.unusedSimpArgs false
set_option linter.unusedVariables false
set_option maxRecDepth 100000
set_option maxHeartbeats 8000000
namespace Go.Proofs.YtklnlgnnlmdibaaGreat
open Go.RowKit
theorem xa2 (A:Option Addr) (c n:Nat) (ds:List Nat) (w:World) (hd:qi w A ds) (hl:ds.length=n) (hn:n<=c) (hc:c<=9223372036854775807) :
 Calls Tryz.prog 106 #[.slice A n c] w fun e w'=>e=.returned (.slice A (vaa ds n) c)/\w=w':=by
 have HD:=Lib.hid hd; clear hd;have HN:=Lib.hid hl; clear hl;go_enter Tryz.func106,Tryz.ntmps106
 go_wp2
 go_loop [3] (fun i=>∃ k:Nat,k<=n/\i=.int .i64 k/\vaa ds k=vaa ds n) (fun i=>(intOf i).toNat)
 case atStart=>exact ⟨n,Nat.le_refl _,rfl,rfl⟩
 case round =>
  obtain ⟨k,hk,rfl,ht⟩:=hrel;have HT:=Lib.hid ht; clear ht;rcases k with _ | k
  · go_wp2
    go_ret;exact ⟨by rw [<- HT.out]; rfl,rfl⟩
  · have hkl:k < ds.length:=by have:=HN.out; omega
    obtain ⟨ad,rfl,hb,hcell,hlt⟩:=HD.out.at_ k hkl
    by_cases h0:ds[k]'hkl=0
    · rw [h0] at hcell
      go_wp2
      go_round
      case rel=>exact ⟨k,by omega,rfl,by rw [<- HT.out,vaa,if_pos]; rw [List.getD_eq_getElem?_getD,List.getElem?_eq_getElem hkl]; exact h0⟩
      case measure=>simp [intOf]
    · go_wp2
      go_ret;exact ⟨by rw [<- HT.out,vaa,if_neg]; rfl; rw [List.getD_eq_getElem?_getD,List.getElem?_eq_getElem hkl]; exact h0,rfl⟩
theorem jr (v:Value) (ds:List Nat) (w:World) (h:jc w v ds) :
 Calls Tryz.prog 106 #[v] w fun e w'=>∃ v',e=.returned v'/\jc w v' (dg (val ds))/\w=w':=by
 obtain ⟨A,c,rfl,h1,h2,h3⟩:=h;refine (xa2 A c ds.length ds w h3 rfl h1 h2).mono ?_;rintro e w' ⟨rfl,rfl⟩;refine ⟨_,rfl,⟨A,c,?_,?_,h2,?_⟩,rfl⟩
 · rw [uad h3.1]
 · rw [uad h3.1]; exact Nat.le_trans (yaj _ _) h1
 · rw [ka7 h3.1]; exact h3.take _
theorem kaw (B:Nat) (v:Value) (ds:List Nat) (w:World) (h:jc w v ds) (hf:yz B v) :
 Calls Tryz.prog 106 #[v] w fun e w'=>∃ v',e=.returned v'/\jc w v' (dg (val ds))/\yz B v'/\w=w':=by
 obtain ⟨A,c,rfl,h1,h2,h3⟩:=h;refine (xa2 A c ds.length ds w h3 rfl h1 h2).mono ?_;rintro e w' ⟨rfl,rfl⟩;refine ⟨_,rfl,⟨A,c,?_,?_,h2,?_⟩,?_,rfl⟩
 · rw [uad h3.1]
 · rw [uad h3.1]; exact Nat.le_trans (yaj _ _) h1
 · rw [ka7 h3.1]; exact h3.take _
 · rcases A with _ | ad
   · exact yz.nil _ _ _
   · exact yz.mk _ _ _ _ (hf ad _ _ rfl)
theorem xau (v:Value) (ds:List Nat) (w:World) (h:jc w v ds) :
 Calls Tryz.prog 108 #[v] w fun e w'=>e=.returned (.bool (val ds == 0))/\w=w':=by
 obtain ⟨A,c,rfl,h1,h2,h3⟩:=h;have ht:=yaj ds ds.length;have hz:(vaa ds ds.length == 0)=(val ds == 0):=by
  rw [<- uad h3.1,Bool.eq_iff_iff,beq_iff_eq,beq_iff_eq];exact ⟨zas,fun e=>by rw [e,uk]; rfl⟩
 have H3:=Lib.hid h3; clear h3;have HZ:=Lib.hid hz; clear hz;go_enter Tryz.func108,Tryz.ntmps108;go_wp2_with fail;refine (xa2 A c ds.length ds _ H3.out rfl h1 h2).mono ?_;rintro e w' ⟨rfl,rfl⟩
 go_wp2
 go_ret;refine ⟨?_,rfl⟩;have:=HZ.out;rw [Bool.eq_iff_iff,beq_iff_eq,beq_iff_eq] at this;show Ending.returned (Value.bool _)=_
 congr 2
 rw [Bool.eq_iff_iff,beq_iff_eq,beq_iff_eq,<- this];omega
theorem zaa (v:Value) (ds:List Nat) (w:World) (h:jc w v ds) (hs:ds.length<=35184372088832) :
 Calls Tryz.prog 85 #[v] w (gal (val ds) w):=by
 have ht:(dg (val ds)).length<=ds.length:=ug h.digs;go_enter Tryz.func85,Tryz.ntmps85;go_wp2_with fail;refine (jr v ds _ h).mono ?_;rintro e w' ⟨v',rfl,hv,rfl⟩;obtain ⟨A,c,rfl,h1,h2,h3⟩:=hv;have hmk:=fun W=>zy ((dg (val ds)).length:Nat) (by omega) (by omega) W
 have H3:=Lib.hid h3;have HD:=Lib.hid (yah (val ds));clear h3;generalize hE:dg (val ds)=E at *;have HE:=Lib.hid hE;clear hE;go_wp2_with (with_reducible refine wpList_copy_splice rfl (.tmp 9) (.tmp 10) _ _ rfl 90 Tryz.underlying31 za3 _ _ _ _ _ _ rfl rfl w.heap.size 0 (qo (List.replicate E.length 0)) 90 ?_ (qo E) ?_ ?_ ?_ ?_ w.heap.size w ?_ ?_ ?_)
 · exact heap_alloc_new _ _
 · rw [qx]; simp
 · intro hp;rw [qx] at hp;obtain ⟨ad,e,hb,hc⟩:=H3.out.2 hp;refine ⟨ad,e,fun j x hx=>?_⟩;have hj:j < E.length:=by
    rcases Nat.lt_or_ge j E.length with hj | hj
    · exact hj
    · rw [List.getElem?_eq_none (by rw [qx]; exact hj)] at hx; cases hx
   rw [zat E j hj] at hx;rw [World.cell?_alloc_lt _ _ _ (by rw [ja]; exact hb),hc j hj,hx]
 · rw [qx,qx]; simp
 · exact ube E
 · exact (Below.refl _ _).alloc (Nat.le_refl _) _
 · exact Nat.le_refl _
 · intro w' hrow hb;have hsp:splice (qo (List.replicate E.length 0)) 0 (qo E)=qo E:=by
    simp [splice,qo]
   rw [hsp] at hrow;have HR:Hid (Row w' w.heap.size E):=hrow;have HB:Hid (Ext w w'):=hb;clear hrow hb hsp
   go_wp2
   go_ret;refine ⟨_,rfl,?_,HB.out⟩;rw [HE.out];exact HR.out.natV HD.out _ (Nat.le_refl _) (by omega)
theorem wap (n:Nat) (w:World) (hn:n < 18446744073709551616) :
 Calls Tryz.prog 58 #[.int .u64 n] w (gal n w):=by
 go_enter Tryz.func58,Tryz.ntmps58;go_wp2_with fail;have hr:Row (w.alloc (Obj.cells #[Value.int IntKind.u32 (↑n % 4294967296),Value.int IntKind.u32 (↑n / 4294967296)] 90)) w.heap.size [n % 4294967296,n / 4294967296]:=by
  have:=Row.new w [n % 4294967296,n / 4294967296];simpa [qo] using this
 have hd:qg [n % 4294967296,n / 4294967296]:=qg.cons (Nat.mod_lt _ (by decide)) (qg.cons (by rw [jg]; omega) qg.nil);refine (zaa _ _ _ (hr.natV hd 2 (Nat.le_refl _) (by omega)) (by simp)).mono ?_;rintro e w' ⟨v,rfl,hv,hx⟩;have hval:val [n % 4294967296,n / 4294967296]=n:=by simp [val,jg]; omega
 rw [hval] at hv;have HV:=Lib.hid hv;have HX:=Lib.hid hx;clear hv hx hval hr
 go_wp2
 go_ret;exact ⟨_,rfl,HV.out,((Ext.refl w).alloc _).trans HX.out⟩
theorem xak (u v:Value) (ds es:List Nat) (w:World) (h:jc w u ds) (k:jc w v es) :
 Calls Tryz.prog 122 #[u,v] w fun e w'=>e=.returned (.int .i64 (zh (val ds) (val es)))/\∃ n,w'=w.drewN n:=by
 go_enter Tryz.func122,Tryz.ntmps122;go_wp2_with fail;refine (jr u ds _ h).mono ?_;rintro e w' ⟨u',rfl,hu,rfl⟩;go_wp2_with fail;refine (jr v es _ k).mono ?_;rintro e w' ⟨v',rfl,hv,rfl⟩;obtain ⟨A,c,rfl,h1,h2,h3⟩:=hu;obtain ⟨A',c',rfl,h1',h2',h3'⟩:=hv;generalize hM:val ds=M at *;generalize hN:val es=N at *;have H3:=Lib.hid h3;have H3':=Lib.hid h3';have HM:=Lib.hid hM;have HN:=Lib.hid hN;clear h3 h3' hM hN h k;rcases Nat.lt_trichotomy (dg M).length (dg N).length with hlt | heq | hgt
 · go_wp2
   go_ret;exact ⟨by rw [HM.out,HN.out,wac (by have:=jal hlt; omega)]; rfl,0,rfl⟩
 · generalize hL:(dg N).length=L at *;rw [heq] at h1 ⊢;have HL:=Lib.hid hL;have HEQ:=Lib.hid heq;clear heq hL;have HMd:=Lib.hid (yah M);have HNd:=Lib.hid (yah N)
   go_wp2
   go_loopw [5] (fun i wr=>∃ k n:Nat,k<=L/\i=.int .i64 ((k:Int) - 1)/\Hid ((dg M).drop k=(dg N).drop k)/\wr=w.drewN n) (fun i _=>(intOf i+1).toNat)
   case atStart=>exact ⟨L,0,Nat.le_refl _,rfl,Lib.hid (by rw [List.drop_eq_nil_of_le (by have:=HEQ.out; omega),List.drop_eq_nil_of_le (by have:=HL.out; omega)]),rfl⟩
   case round =>
    obtain ⟨k,n,hk,rfl,HK,rfl⟩:=hrel;rcases k with _ | k
    · go_wp2
      go_ret;refine ⟨?_,_,rfl⟩;have hMN:M=N:=by
       have:=HK.out;rw [List.drop_zero,List.drop_zero] at this;rw [<- zg M,this,zg]
      rw [HM.out,HN.out,ww (by rw [hMN])]
      rfl
    · have hkM:k < (dg M).length:=by have:=HEQ.out; omega
      have hkN:k < (dg N).length:=by have:=HL.out; omega
      obtain ⟨ad,rfl,hb,hcell,hlt⟩:=H3.out.at_ k hkM;obtain ⟨ad',rfl,hb',hcell',hlt'⟩:=H3'.out.at_ k hkN;obtain ⟨x,hx⟩:∃ x,x=(dg M)[k]:=⟨_,rfl⟩;obtain ⟨y,hy⟩:∃ y,y=(dg N)[k]:=⟨_,rfl⟩;rw [<- hx] at hcell hlt;rw [<- hy] at hcell' hlt';have HX:=Lib.hid hx;have HY:=Lib.hid hy;clear hx hy;have hk0:(0:Int)<=k:=by omega
      rcases Nat.lt_trichotomy x y with hxy | hxy | hxy
      · go_wp2
        go_quiet (fail)
        go_wp2
        go_ret;refine ⟨?_,_,World.drewN_drewN _ _ _⟩;have:=qaz k HMd.out hkM hkN (HEQ.out.trans HL.out.symm) HK.out (by rw [<- HX.out,<- HY.out]; exact hxy);rw [zg,zg] at this;rw [HM.out,HN.out,wac (by omega)]
        rfl
      · subst hxy
        go_wp2
        go_quiet (fail)
        go_wp2
        go_quiet (fail)
        go_wp2
        go_roundw
        case rel=>exact ⟨k,_,by omega,by go_num,Lib.hid (by rw [List.drop_eq_getElem_cons hkM,List.drop_eq_getElem_cons hkN,HK.out,<- HX.out,<- HY.out]),rfl⟩
        case measure=>simp [intOf]
      · go_wp2
        go_quiet (fail)
        go_wp2
        go_quiet (fail)
        go_wp2
        go_ret;refine ⟨?_,_,by rw [World.drewN_drewN,World.drewN_drewN]⟩;have:=qaz k HNd.out hkN hkM (HL.out.trans HEQ.out.symm) HK.out.symm (by rw [<- HX.out,<- HY.out]; exact hxy);rw [zg,zg] at this;rw [HM.out,HN.out,qak (by omega)]
        rfl
 · go_wp2
   go_ret;exact ⟨by rw [HM.out,HN.out,qak (by have:=jal hgt; omega)]; rfl,0,rfl⟩
/- Layer 1 (natural): sums and differences. -/
set_option maxRecDepth 100000
set_option maxHeartbeats 8000000
theorem ybf (z a b c x y P s:Nat) (h:z+P * c=a+b) (hs:s=x+y+c):z+P * (s % B32)+P * B32 * (s / B32)=(a+P * x)+(b+P * y):=by
 have e:P * (s % B32)+P * B32 * (s / B32)=P * s:=by rw [Nat.mul_assoc,<- Nat.mul_add,Nat.mod_add_div]
 have e2:P * s=P * x+P * y+P * c:=by rw [hs,Nat.mul_add,Nat.mul_add]
 omega
theorem ya8 (x y c : Int) (p : Addr) (w : World) (hc : w.cell? p = some (.int .u32 c)) (hf : w.frozen? p = false)
 (x0:0<=x) (x1:x < 4294967296) (y0:0<=y) (y1:y < 4294967296) (c0:0<=c) (c1:c<=1) :
 Calls Tryz.prog 141 #[.int .u32 x,.int .u32 y,.pointer (some p)] w fun e w' =>
  e=.returned (.int .u32 ((x+y+c) % 4294967296))/\w.setCell p (.int .u32 ((x+y+c) / 4294967296))=w':=by
 go_enter Tryz.func141,Tryz.ntmps141;go_wp2_with (go_at_call 142; refine (add32 _ _ _ _ (by omega) (by omega) (by omega) (by omega) (by omega) (by omega)).mono ?_; rintro e w' ⟨rfl,rfl⟩)
 go_ret;exact ⟨rfl,rfl⟩
theorem qw (zs:List Nat) (k d:Nat) (hk:k < zs.length):(zs.set k d).take (k+1)=zs.take k ++ [d]:=by
 rw [List.take_add_one,List.take_set_of_le (Nat.le_refl k),List.getElem?_set_self hk]
 rfl
theorem uav (zs:List Nat) (k:Nat) (hk:k < zs.length):zs.take (k+1)=zs.take k ++ [zs[k]]:=by
 rw [List.take_add_one,List.getElem?_eq_getElem hk]; rfl
def Cell (w:World) (g:Nat) (x:Int):Prop:=w.heap[g]?=some (.cells #[.int .u32 x] 90 (0,0))
theorem Cell.cell {w:World} {g:Nat} {x:Int} (h:Cell w g x):w.cell? ⟨g,0,none⟩=some (.int .u32 x):=by
 rw [cell_of_row w g 0 _ _ (0,0) h]; rfl
theorem Cell.frozen {w:World} {g:Nat} {x:Int} (h:Cell w g x):w.frozen? ⟨g,0,none⟩=false:=by
 unfold Cell at h;simp [World.frozen?,h]
theorem Cell.set_ {w:World} {g:Nat} {x:Int} (h:Cell w g x) (y:Int):Cell (w.setCell ⟨g,0,none⟩ (.int .u32 y)) g y:=by
 unfold Cell at h ⊢;simp [World.setCell,Array.getElem?_modify,h]
theorem Cell.far {w:World} {g:Nat} {x:Int} (h:Cell w g x) {p:Addr} (hp:g ≠ p.block) (u:Value):Cell (w.setCell p u) g x:=(Below.heap_setCell w p u g hp).trans h
theorem Cell.new (w:World) (x:Int):Cell (w.alloc (.cells #[.int .u32 x] 90)) w.heap.size x:=heap_alloc_new w _
theorem Cell.lt {w:World} {g:Nat} {x:Int} (h:Cell w g x):g < w.heap.size:=by
 rcases Nat.lt_or_ge g w.heap.size with hlt | hge
 · exact hlt
 · unfold Cell at h; rw [Array.getElem?_eq_none hge] at h; cases h
theorem Cell.alloc {w:World} {g:Nat} {x:Int} (h:Cell w g x) (o:Obj):Cell (w.alloc o) g x:=(Below.heap_alloc w o g h.lt).trans h
def qap (w0:World) (gc gz:Nat) (E F:List Nat) (k:Nat) (wr:World):Prop:=
 ∃ (zs:List Nat) (cy:Nat),Cell wr gc (cy:Int)/\Row wr gz zs/\zs.length=E.length+1/\qg zs/\cy<=1/\val (zs.take k)+B32 ^ k * cy=val (E.take k)+val (F.take k)/\Ext w0 wr
theorem qap.step {w0 wr : World} {gc gz : Nat} {E F : List Nat} {k x y cy : Nat} {zs : List Nat} (hc : Cell wr gc (cy : Int)) (hr : Row wr gz zs) (hl : zs.length = E.length + 1) (hd : qg zs)
 (he:val (zs.take k)+B32 ^ k * cy=val (E.take k)+val (F.take k)) (hx:Ext w0 wr) (hne:gc ≠ gz) (h0:w0.heap.size<=gc) (h0':w0.heap.size<=gz)
 (hk:k < E.length) (x1:x < 4294967296) (y1:y < 4294967296) (c1:cy<=1) (hxE:val (E.take (k+1))=val (E.take k)+B32 ^ k * x) (hyF:val (F.take (k+1))=val (F.take k)+B32 ^ k * y) :
 qap w0 gc gz E F (k+1) ((wr.setCell ⟨gc,0,none⟩ (.int .u32 (((x:Int)+y+cy) / 4294967296))).setCell ⟨gz,k,none⟩ (.int .u32 (((x:Int)+y+cy) % 4294967296))):=by
 have e1:(((x:Int)+y+cy) / 4294967296)=(((x+y+cy) / B32:Nat):Int):=by rw [jg]; omega
 have e2:(((x:Int)+y+cy) % 4294967296)=(((x+y+cy) % B32:Nat):Int):=by rw [jg]; omega
 rw [e1,e2];have hlen:k < zs.length:=by omega
 refine ⟨zs.set k ((x+y+cy) % B32),(x+y+cy) / B32,(hc.set_ _).far (by simpa using hne) _,(hr.far (by simpa using Ne.symm hne) _).set_ _ _,by rw [List.length_set,hl],hd.set _ _ (Nat.mod_lt _ zi),
  by rw [jg]; omega,?_,(hx.setCell (by simpa using h0) _).setCell (by simpa using h0') _⟩
 rw [qw zs k _ hlen,xac,List.length_take,Nat.min_eq_left (by omega),hxE,hyF,Nat.pow_succ];exact ybf _ _ _ _ _ _ _ _ he rfl
theorem vg {E:List Nat} {k x:Nat} (hk:Hid (E[k]?=some x)):val (E.take (k+1))=val (E.take k)+B32 ^ k * x:=by
 obtain ⟨h,e⟩:=List.getElem?_eq_some_iff.1 hk.out;rw [uav E k h,xac,List.length_take,Nat.min_eq_left (by omega),e]
theorem yam {E:List Nat} {k:Nat} (hk:E.length<=k):val (E.take (k+1))=val (E.take k)+B32 ^ k * 0:=by
 rw [List.take_of_length_le hk,List.take_of_length_le (by omega)]; simp
def vcn (w:World) (m L:Nat) (s0 s1:Value) (wx:World):Prop:=
 ∃ A c A' c' E F,s0=.slice A E.length c/\s1=.slice A' F.length c'/\F.length<=E.length/\E.length<=c/\c<=9223372036854775807/\F.length<=c'/\c'<=9223372036854775807 /\
   qi w A E/\qi w A' F/\val E+val F=m/\E.length<=L/\wx=w
theorem kay (u v:Value) (ds es:List Nat) (w:World) (h:jc w u ds) (k:jc w v es) (hs:ds.length+es.length<=35184372088000) :
 Calls Tryz.prog 127 #[u,v] w (gal (val ds+val es) w):=by
 have hls:(dg (val ds)).length<=ds.length:=ug h.digs;have hls':(dg (val es)).length<=es.length:=ug k.digs;go_enter Tryz.func127,Tryz.ntmps127;go_wp2_with fail;refine (jr u ds _ h).mono ?_;rintro e w' ⟨u',rfl,hu,rfl⟩;go_wp2_with fail;refine (jr v es _ k).mono ?_;rintro e w' ⟨v',rfl,hv,rfl⟩;obtain ⟨A,c,rfl,h1,h2,h3⟩:=hu;obtain ⟨A',c',rfl,h1',h2',h3'⟩:=hv;have H3:=Lib.hid h3;have H3':=Lib.hid h3';clear h3 h3' h k
 go_upto_if 19 with (fail)
 go_cut [0,1] (fun s0 s1 wx=>vcn w (val ds+val es) (ds.length+es.length) s0 s1 wx)
 case first =>
  by_cases hlt:(dg (val ds)).length < (dg (val es)).length
  · go_wp2
    go_meet
    exact ⟨_,_,_,_,_,_,rfl,rfl,by omega,h1',h2',h1,h2,H3'.out,H3.out,by rw [zg,zg]; omega,by omega,rfl⟩
  · go_wp2
    go_meet
    exact ⟨_,_,_,_,_,_,rfl,rfl,by omega,h1,h2,h1',h2',H3.out,H3'.out,by rw [zg,zg],by omega,rfl⟩
 case rest =>
  obtain ⟨A,c,A',c',E,F,rfl,rfl,hFE,g1,g2,g3,g4,g5,g6,g7,g8,rfl⟩:=hcut;have G5:=Lib.hid g5;have G6:=Lib.hid g6;have G7:=Lib.hid g7;clear g5 g6 g7 H3 H3' h1 h2 h1' h2' hls hls';have hmk:=fun W=>zy ((E.length:Int)+1) (by omega) (by omega) W
  go_wp2_with fail
  have hinv:qap wc wc.heap.size (wc.heap.size+1) E F 0 ((wc.alloc (Obj.cells #[Value.int IntKind.u32 0] 90)).alloc (Obj.cells (qo (List.replicate (E.length+1) 0)).toArray 90)):=
   ⟨List.replicate (E.length+1) 0,0,(Cell.new wc 0).alloc _,by have:=Row.new (wc.alloc (Obj.cells #[Value.int IntKind.u32 0] 90)) (List.replicate (E.length+1) 0); simpa using this,by simp,qg.replicate _,by omega,by simp,((Ext.refl _).alloc _).alloc _⟩
  have HINV:=Lib.hid hinv;clear hinv
  go_loopw [29] (fun i wr=>∃ k:Nat,k<=F.length/\i=.int .i64 k/\Hid (qap wc wc.heap.size (wc.heap.size+1) E F k wr)) (fun i _=>F.length - (intOf i).toNat)
  case atStart=>exact ⟨0,by omega,rfl,HINV⟩
  case round =>
   obtain ⟨k,hk,rfl,HI⟩:=hrel
   by_cases hlt:k < F.length
   · obtain ⟨zs,cy,hcy,hrow,hzl,hzd,hc1,hsum,hext⟩:=HI.out;obtain ⟨ad,x,rfl,hb,hcell,hx1,HX⟩:=(G5.out.ext hext).get_ k (by omega);obtain ⟨ad',y,rfl,hb',hcell',hy1,HY⟩:=(G6.out.ext hext).get_ k hlt;have hcc:=hcy.cell;have hcf:=hcy.frozen;obtain ⟨z,hzc,hzf,_⟩:=hrow.get_ k (by omega);have HS:=Lib.hid (qap.step hcy hrow hzl hzd hsum hext (by omega) (by omega) (by omega) (by omega) hx1 hy1 hc1 (vg HX) (vg HY));clear HI hcy hrow hzl hzd hsum hext;go_wp2_with fail;refine (ya8 _ _ _ _ _ hcc hcf (by omega) (by omega) (by omega) (by omega) (by omega) (by omega)).mono ?_;rintro e w' ⟨rfl,rfl⟩;go_wp2_with fail
     go_roundw
     case rel=>exact ⟨k+1,by omega,by go_num,HS⟩
     case measure=>simp [intOf]; omega
   · obtain rfl:k=F.length:=by omega
     go_wp2_with fail
     go_loopw [10] (fun i wr=>∃ k:Nat,F.length<=k/\k<=E.length/\i=.int .i64 k/\Hid (qap wc wc.heap.size (wc.heap.size+1) E F k wr)) (fun i _=>E.length - (intOf i).toNat)
     case atStart=>exact ⟨F.length,Nat.le_refl _,hFE,rfl,HI⟩
     case round =>
      clear HI;obtain ⟨k,hk0,hk,rfl,HI⟩:=hrel;obtain ⟨zs,cy,hcy,hrow,hzl,hzd,hc1,hsum,hext⟩:=HI.out
      by_cases hlt2:k < E.length
      · obtain ⟨ad,x,rfl,hb,hcell,hx1,HX⟩:=(G5.out.ext hext).get_ k (by omega);have hcc:=hcy.cell;have hcf:=hcy.frozen;obtain ⟨z,hzc,hzf,_⟩:=hrow.get_ k (by omega);have HS:=Lib.hid (qap.step (y:=0) hcy hrow hzl hzd hsum hext (by omega) (by omega) (by omega) (by omega) hx1 (by omega) hc1 (vg HX) (yam hk0));rw [Int.natCast_zero,Int.add_zero] at HS;clear HI hcy hrow hzl hzd hsum hext;go_wp2_with fail;refine (ya8 _ 0 _ _ _ hcc hcf (by omega) (by omega) (by omega) (by omega) (by omega) (by omega)).mono ?_;rw [Int.add_zero];rintro e w' ⟨rfl,rfl⟩;go_wp2_with fail
        go_roundw
        case rel=>exact ⟨k+1,by omega,by omega,by go_num,HS⟩
        case measure=>simp [intOf]; omega
      · obtain rfl:k=E.length:=by omega
        have hcc:=hcy.cell;obtain ⟨z,hzc,hzf,_⟩:=hrow.get_ E.length (by omega);have hrow':=hrow.set_ E.length cy;have hext':=hext.setCell (p:=⟨wc.heap.size+1,E.length,none⟩) (by simp) (.int .u32 (cy:Int));have hd':=hzd.set E.length cy (by rw [jg]; omega);have hval:val (zs.set E.length cy)=val ds+val es:=by
         have e1:=qw zs E.length cy (by omega);rw [List.take_of_length_le (by rw [List.length_set]; omega)] at e1;rw [e1,xac,List.length_take,Nat.min_eq_left (by omega),hsum,List.take_of_length_le (Nat.le_refl _),List.take_of_length_le hFE];exact G7.out
        have hlen:(zs.set E.length cy).length=E.length+1:=by rw [List.length_set,hzl]
        have HN:Hid (jc (wr.setCell ⟨wc.heap.size+1,E.length,none⟩ (.int .u32 (cy:Int))) (.slice (some ⟨wc.heap.size+1,0,none⟩) (E.length+1) (E.length+1)) (zs.set E.length cy)):=by
         have:=hrow'.natV hd' (E.length+1) (by omega) (by omega);rw [hlen] at this;exact this
        have HV:=Lib.hid hval;have HX:=Lib.hid hext';clear HI hcy hrow hzl hzd hsum hext hrow' hext' hd' hval hlen;go_wp2_with fail;refine (jr _ _ _ HN.out).mono ?_;rintro e w' ⟨v',rfl,hv,rfl⟩;have HV2:=Lib.hid hv;clear hv;go_wp2_with fail;go_ret;refine ⟨v',rfl,?_,HX.out⟩;rw [<- HV.out];exact HV2.out
/- Layer 1 (natural): differences. -/
set_option maxRecDepth 100000
set_option maxHeartbeats 8000000
theorem ga4 (x y c : Int) (p : Addr) (w : World) (hc : w.cell? p = some (.int .u32 c)) (hf : w.frozen? p = false)
 (x0:0<=x) (x1:x < 4294967296) (y0:0<=y) (y1:y < 4294967296) (c0:0<=c) (c1:c<=1) :
 Calls Tryz.prog 143 #[.int .u32 x,.int .u32 y,.pointer (some p)] w fun e w' =>
  e=.returned (.int .u32 ((x - y - c) % 4294967296))/\w.setCell p (.int .u32 (bor x y c))=w':=by
 go_enter Tryz.func143,Tryz.ntmps143;go_wp2_with (go_at_call 144; refine (qbt _ _ _ _ (by omega) (by omega) (by omega) (by omega) (by omega) (by omega)).mono ?_; rintro e w' ⟨rfl,rfl⟩)
 go_ret;exact ⟨rfl,rfl⟩
theorem zcd (z a b c x y P d c':Nat) (h:z+b=a+P * c) (hd:d+y+c=x+B32 * c'):(z+P * d)+(b+P * y)=(a+P * x)+P * B32 * c'+2 * (P * c) - 2 * (P * c):=by
 have e:P * d+P * y+P * c=P * x+P * B32 * c':=by rw [<- Nat.mul_add,<- Nat.mul_add,hd,Nat.mul_add,Nat.mul_assoc]
 omega
def gao (w0:World) (gc gz:Nat) (E F:List Nat) (k:Nat) (wr:World):Prop:=
 ∃ (zs:List Nat) (cy:Nat),Cell wr gc (cy:Int)/\Row wr gz zs/\zs.length=E.length/\qg zs/\cy<=1/\val (zs.take k)+val (F.take k)=val (E.take k)+B32 ^ k * cy/\Ext w0 wr
theorem gao.step {w0 wr : World} {gc gz : Nat} {E F : List Nat} {k x y cy : Nat} {zs : List Nat} (hc : Cell wr gc (cy : Int)) (hr : Row wr gz zs) (hl : zs.length = E.length) (hd : qg zs)
 (he:val (zs.take k)+val (F.take k)=val (E.take k)+B32 ^ k * cy) (hx:Ext w0 wr) (hne:gc ≠ gz) (h0:w0.heap.size<=gc) (h0':w0.heap.size<=gz)
 (hk:k < E.length) (x1:x < 4294967296) (y1:y < 4294967296) (c1:cy<=1) (hxE:val (E.take (k+1))=val (E.take k)+B32 ^ k * x) (hyF:val (F.take (k+1))=val (F.take k)+B32 ^ k * y) :
 gao w0 gc gz E F (k+1) ((wr.setCell ⟨gc,0,none⟩ (.int .u32 (bor x y cy))).setCell ⟨gz,k,none⟩ (.int .u32 (((x:Int) - y - cy) % 4294967296))):=by
 obtain ⟨d,hd1⟩:=Int.eq_ofNat_of_zero_le (show 0<=((x:Int) - y - cy) % 4294967296 by omega);obtain ⟨c',hc'⟩:=Int.eq_ofNat_of_zero_le (kas x y cy).1;have hc2:=(kas x y cy).2;rw [hc'] at hc2;have hdc:d+y+cy=x+B32 * c':=by
  rw [jg];unfold bor at hc'
  split at hc' <;> omega
 rw [hd1,hc'];have hlen:k < zs.length:=by omega
 refine ⟨zs.set k d,c',(hc.set_ _).far (by simpa using hne) _,(hr.far (by simpa using Ne.symm hne) _).set_ _ _,by rw [List.length_set,hl],hd.set _ _ (by rw [jg]; omega),
  by omega,?_,(hx.setCell (by simpa using h0) _).setCell (by simpa using h0') _⟩
 rw [qw zs k _ hlen,xac,List.length_take,Nat.min_eq_left (by omega),hxE,hyF,Nat.pow_succ];have:=zcd _ _ _ _ _ _ _ _ _ he hdc;omega
def zck (n:Nat) (w:World) (e:Ending) (w':World):Prop:=∃ v,e=.returned (.tuple #[v,.bool true])/\jc w' v (dg n)/\yz w.heap.size v/\Ext w w'
theorem ga8 (u v:Value) (ds es:List Nat) (w:World) (h:jc w u ds) (k:jc w v es) (hs:ds.length<=35184372088000) (hge:val es<=val ds) :
 Calls Tryz.prog 128 #[u,v] w (zck (val ds - val es) w):=by
 have hls:(dg (val ds)).length<=ds.length:=ug h.digs;have hFE:(dg (val es)).length<=(dg (val ds)).length:=gp hge;go_enter Tryz.func128,Tryz.ntmps128;go_wp2_with fail;refine (jr u ds _ h).mono ?_;rintro e w' ⟨u',rfl,hu,rfl⟩;go_wp2_with fail;refine (jr v es _ k).mono ?_;rintro e w' ⟨v',rfl,hv,rfl⟩;go_wp2_with fail;refine (xak _ _ _ _ _ hu hv).mono ?_;rw [zg,zg];have hcmp:0<=zh (val ds) (val es):=by unfold zh; split <;> (try split) <;> omega
 have hcmp1:=(xah (val ds) (val es)).2;generalize zh (val ds) (val es)=cm at *;rintro e wc ⟨rfl,n,hw⟩;have hxw:Ext w wc:=by rw [hw]; exact (Ext.refl w).drewN n
 clear hw;obtain ⟨A,c,rfl,h1,h2,h3⟩:=hu;obtain ⟨A',c',rfl,h1',h2',h3'⟩:=hv;have G5:=Lib.hid (h3.ext hxw);have G6:=Lib.hid (h3'.ext hxw);have HXW:=Lib.hid hxw;clear h3 h3' hxw h k;generalize hE:dg (val ds)=E at *;generalize hF:dg (val es)=F at *;have HE:=Lib.hid hE;have HF:=Lib.hid hF;clear hE hF;have hmk:=fun W=>zy (E.length:Int) (by omega) (by omega) W
 go_wp2_with fail
 have hinv:gao wc wc.heap.size (wc.heap.size+1) E F 0 ((wc.alloc (Obj.cells #[Value.int IntKind.u32 0] 90)).alloc (Obj.cells (qo (List.replicate E.length 0)).toArray 90)):=
  ⟨List.replicate E.length 0,0,(Cell.new wc 0).alloc _,by have:=Row.new (wc.alloc (Obj.cells #[Value.int IntKind.u32 0] 90)) (List.replicate E.length 0); simpa using this,by simp,qg.replicate _,by omega,by simp,((Ext.refl _).alloc _).alloc _⟩
 have HINV:=Lib.hid hinv;clear hinv
 go_loopw [26] (fun i wr=>∃ k:Nat,k<=F.length/\i=.int .i64 k/\Hid (gao wc wc.heap.size (wc.heap.size+1) E F k wr)) (fun i _=>F.length - (intOf i).toNat)
 case atStart=>exact ⟨0,by omega,rfl,HINV⟩
 case round =>
  obtain ⟨k,hk,rfl,HI⟩:=hrel
  by_cases hlt:k < F.length
  · obtain ⟨zs,cy,hcy,hrow,hzl,hzd,hc1,hsum,hext⟩:=HI.out;obtain ⟨ad,x,rfl,hb,hcell,hx1,HX⟩:=(G5.out.ext hext).get_ k (by omega);obtain ⟨ad',y,rfl,hb',hcell',hy1,HY⟩:=(G6.out.ext hext).get_ k hlt;have hcc:=hcy.cell;have hcf:=hcy.frozen;obtain ⟨z,hzc,hzf,_⟩:=hrow.get_ k (by omega);have HS:=Lib.hid (gao.step hcy hrow hzl hzd hsum hext (by omega) (by omega) (by omega) (by omega) hx1 hy1 hc1 (vg HX) (vg HY));clear HI hcy hrow hzl hzd hsum hext;go_wp2_with fail;refine (ga4 _ _ _ _ _ hcc hcf (by omega) (by omega) (by omega) (by omega) (by omega) (by omega)).mono ?_;rintro e w' ⟨rfl,rfl⟩;go_wp2_with fail
    go_roundw
    case rel=>exact ⟨k+1,by omega,by go_num,HS⟩
    case measure=>simp [intOf]; omega
  · obtain rfl:k=F.length:=by omega
    go_wp2_with fail
    go_loopw [11] (fun i wr=>∃ k:Nat,F.length<=k/\k<=E.length/\i=.int .i64 k/\Hid (gao wc wc.heap.size (wc.heap.size+1) E F k wr)) (fun i _=>E.length - (intOf i).toNat)
    case atStart=>exact ⟨F.length,Nat.le_refl _,hFE,rfl,HI⟩
    case round =>
     clear HI;obtain ⟨k,hk0,hk,rfl,HI⟩:=hrel;obtain ⟨zs,cy,hcy,hrow,hzl,hzd,hc1,hsum,hext⟩:=HI.out
     by_cases hlt2:k < E.length
     · obtain ⟨ad,x,rfl,hb,hcell,hx1,HX⟩:=(G5.out.ext hext).get_ k (by omega);have hcc:=hcy.cell;have hcf:=hcy.frozen;obtain ⟨z,hzc,hzf,_⟩:=hrow.get_ k (by omega);have HS:=Lib.hid (gao.step (y:=0) hcy hrow hzl hzd hsum hext (by omega) (by omega) (by omega) (by omega) hx1 (by omega) hc1 (vg HX) (yam hk0));rw [Int.natCast_zero,Int.sub_zero] at HS;clear HI hcy hrow hzl hzd hsum hext;go_wp2_with fail;refine (ga4 _ 0 _ _ _ hcc hcf (by omega) (by omega) (by omega) (by omega) (by omega) (by omega)).mono ?_;rw [Int.sub_zero];rintro e w' ⟨rfl,rfl⟩;go_wp2_with fail
       go_roundw
       case rel=>exact ⟨k+1,by omega,by omega,by go_num,HS⟩
       case measure=>simp [intOf]; omega
     · obtain rfl:k=E.length:=by omega
       have hval:val zs=val ds - val es:=by
        have hb:=wu hzd;rw [List.take_of_length_le (by omega),List.take_of_length_le hFE,List.take_of_length_le (Nat.le_refl _),<- HE.out,<- HF.out,zg,zg] at hsum;rw [hzl,<- HE.out] at hb;have hcy0:cy=0:=by
         rcases Nat.eq_zero_or_pos cy with e | e
         · exact e
         · obtain rfl:cy=1:=by omega
           rw [Nat.mul_one] at hsum;omega
        rw [hcy0] at hsum;omega
       have HN:Hid (jc wr (.slice (some ⟨wc.heap.size+1,0,none⟩) E.length E.length) zs):=by
        have:=hrow.natV hzd E.length (by omega) (by omega);rw [hzl] at this;exact this
       have HV:=Lib.hid hval;have HX:=Lib.hid hext;clear HI hcy hrow hzl hzd hsum hext hval;go_wp2_with fail;refine (kaw w.heap.size _ _ _ HN.out (yz.mk _ _ _ _ (by have:=HXW.out.size; simp; omega))).mono ?_;rintro e w' ⟨v',rfl,hv,hfr,rfl⟩;have HV2:=Lib.hid hv;have HFR:=Lib.hid hfr;clear hv hfr;go_wp2_with fail
       go_ret2
       refine ⟨v',rfl,?_,HFR.out,HXW.out.trans HX.out⟩;rw [<- HV.out];exact HV2.out
end Go.Proofs.YtklnlgnnlmdibaaGreat
