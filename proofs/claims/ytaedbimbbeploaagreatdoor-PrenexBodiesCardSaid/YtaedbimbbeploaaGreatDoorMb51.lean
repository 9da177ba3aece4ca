/- Terms that are nil: formula.Free of an atom whose right side is nil. -/
import Derived.Test.YtaedbimbbeploaaGreatDoorMb25
import Derived.Test.YtaedbimbbeploaaGreatDoorMb47
import Derived.Test.YtaedbimbbeploaaGreatDoorMb36
import Derived.Test.YtaedbimbbeploaaGreatDoorMb32
import Derived.Test.YtaedbimbbeploaaGreatDoorBodyF
import Derived.Test.YtaedbimbbeploaaGreatDoorVPx
import Derived.Test.YtaedbimbbeploaaGreatDoorMb38
import Derived.Test.YtaedbimbbeploaaGreatDoorMb42
import Derived.Lib.MinMax
import Derived.Test.YtaedbimbbeploaaGreatDoorMb50
import Derived.Test.YtaedbimbbeploaaGreatDoorMb49
set_option linter.unusedSimpArgs false
set_option linter.unusedVariables false

set_option maxRecDepth 100000
set_option maxHeartbeats 8000000
namespace Go.Proofs.YtaedbimbbeploaaGreatDoor
open Go.RowKit
attribute [local go_sem] yac uz uac wab jac qac zac jw wz xac vac yaf ul kac kw
theorem wac {P:Program} {T:TypeId} {z:Value} (h:wa2 P T=true) (hz:(P.info? T).map (·.zero)=some (some z)) (xT:TypeId) (w:World) :
 (Instr.typeAssert .nilIface xT T true).run P w=.ok (.tuple #[z,.bool false]) w:=by
 obtain ⟨j,hj,hz'⟩:=Option.map_eq_some_iff.1 hz;unfold wa2 at h
 split at h
 · rename_i fs hu;simp [Instr.typeAssert,run_underlying hu,zeroValue,typeInfo,hj,hz']
 · cases h
theorem kcx (xT:TypeId) (w:World):(Instr.typeAssert .nilIface xT 120 true).run Tryz.prog w=.ok (.tuple #[.agg #[.bool false,.slice none 0 0],.bool false]) w:=
 wac (by kernel_rfl) (by kernel_rfl) xT w
theorem zct (xT:TypeId) (w:World):(Instr.typeAssert .nilIface xT 91 true).run Tryz.prog w=.ok (.tuple #[.agg #[.string ByteArray.empty],.bool false]) w:=
 wac (by kernel_rfl) (by kernel_rfl) xT w
theorem gcx (xT:TypeId) (w:World):(Instr.typeAssert .nilIface xT 126 true).run Tryz.prog w=.ok (.tuple #[.agg #[.nilIface,.nilIface],.bool false]) w:=
 wac (by kernel_rfl) (by kernel_rfl) xT w
theorem qcx (xT:TypeId) (w:World):(Instr.typeAssert .nilIface xT 127 true).run Tryz.prog w=.ok (.tuple #[.agg #[.nilIface,.nilIface],.bool false]) w:=
 wac (by kernel_rfl) (by kernel_rfl) xT w
theorem ucx (xT:TypeId) (w:World):(Instr.typeAssert .nilIface xT 128 true).run Tryz.prog w=.ok (.tuple #[.agg #[.nilIface,.nilIface],.bool false]) w:=
 wac (by kernel_rfl) (by kernel_rfl) xT w
theorem vcx (xT:TypeId) (w:World):(Instr.typeAssert .nilIface xT 122 true).run Tryz.prog w=.ok (.tuple #[.agg #[.nilIface],.bool false]) w:=
 wac (by kernel_rfl) (by kernel_rfl) xT w
theorem jcx (xT:TypeId) (w:World):(Instr.typeAssert .nilIface xT 124 true).run Tryz.prog w=.ok (.tuple #[.agg #[.nilIface,.int .i64 0],.bool false]) w:=
 wac (by kernel_rfl) (by kernel_rfl) xT w
attribute [local go_sem] kcx zct gcx qcx ucx vcx jcx
theorem gbk {w:World}:Calls Tryz.prog 181 #[.nilIface] w fun e w'=>e=.returned (.slice none 0 0)/\w'=w:=by
 go_enter Tryz.func181,Tryz.ntmps181;go_wp2_with fail;go_ret;exact ⟨rfl,rfl⟩
theorem ucs {K:Nat} {caps:Array Value} (W:World):Calls Tryz.prog 133 #[.nilIface,.func (.func K) #[] caps] W fun e W'=>(∃ v,e=.returned v)/\Ext W W':=by
 go_enter Tryz.func133,Tryz.ntmps133;go_wp2_with fail;refine gbk.mono ?_;rintro e w1 ⟨rfl,rfl⟩;go_wp2_with fail;refine wp_loop_rounds 1 ?_;rw [rounds_succ];go_wp2_with fail
 go_end0
 exact ⟨⟨_,rfl⟩,(Ext.refl W).alloc _⟩
section
variable {α:Type} {K:Nat} {caps:Array Value} {Ma:Nat} {J:Nat->World->(Nat->Prop)->α->Prop} {step:(ByteArray->Int)->ByteArray->α->α} {w0:World} {L:Nat}
theorem xbu (x:Value) (w:World):Calls Tryz.prog 134 #[.iface 93 x] w fun e w'=>e=.returned (.slice none 0 0)/\w'=w:=by
 go_enter Tryz.func134,Tryz.ntmps134;go_wp2_with fail;go_ret;exact ⟨rfl,rfl⟩
theorem wby (V:gar K caps Ma J step) {l:Tm} {x:Value} (hx:TmV w0 L l x) (b:Nat) (W:World) (own:Nat->Prop) (a:ByteArray->Int) (acc:α) (hJ:J (b+l.sz) W own acc) (hA:vab W Ma a) :
 Calls Tryz.prog 76 #[.iface 93 (.agg #[x,.int .i64 0,.nilIface]),.map (some Ma),.func (.func K) #[] caps] W (xap Ma b J a own W (l.fold (step a) acc)):=by
 have HV:=Lib.hid V;have HJ:=Lib.hid hJ;have HA:=Lib.hid hA;clear V hJ hA;have HX:=Lib.hid hx;obtain ⟨T,x,rfl⟩:=hx.iface;clear hx;go_enter Tryz.func76,Tryz.ntmps76;go_wp2_with fail;have hlt:=HV.out.lt _ _ _ _ HJ.out;have HLT:=Lib.hid hlt;clear hlt;refine (kbc (HV.out.visits a) _ l _ (Nat.lt_succ_self _) HX.out b _ own acc ⟨HV.out.ext _ _ _ _ _ HJ.out ((Ext.refl W).alloc _),HA.out.ext ((Ext.refl W).alloc _)⟩).mono ?_;rintro e w1 ⟨⟨v1,rfl⟩,own1,⟨hJ1,hA1⟩,hk1⟩;have c2:w1.cell? ⟨W.heap.size,2,none⟩=some .nilIface:=by
  rw [hk1.cell (p:=⟨W.heap.size,2,none⟩) (by simp) (fun ho=>by have:=HLT.out _ ho; simp at this)];simp [go_sem]
 have HJ1:=Lib.hid hJ1;have HA1:=Lib.hid hA1;have HK1:=Lib.hid (xe.trans (xe.of_ext ((Ext.refl W).alloc _)) hk1);clear hJ1 hA1 hk1;go_wp2_with fail;clear c2;refine (ucs _).mono ?_;rintro e w2 ⟨⟨v2,rfl⟩,x2⟩;have HJ2:=Lib.hid (HV.out.ext _ _ _ _ _ HJ1.out x2);have HA2:=Lib.hid (HA1.out.ext x2);have HK2:=Lib.hid (HK1.out.trans (xe.of_ext x2));clear x2 HJ1 HA1 HK1;go_wp2_with fail;refine (xbu _ _).mono ?_;rintro e w3 ⟨rfl,rfl⟩;have HX3:=Lib.hid ((Ext.refl w2).alloc (.cells #[.bool false,.string ByteArray.empty,.nilIface] 95));go_wp2_with fail;refine wp_loop_rounds 1 ?_;rw [rounds_succ];go_wp2_with fail
 go_end0
 exact ⟨⟨_,rfl⟩,own1,HV.out.ext _ _ _ _ _ HJ2.out HX3.out,HA2.out.ext HX3.out,(HK2.out.trans (xe.of_ext HX3.out)).plus Ma⟩
end
theorem ub3 {w0 w:World} {L:Nat} (t:Tm) {x:Value} (h:TmV w0 L t x) (hl:t.sz<=1099511627776):Calls Tryz.prog 29 #[.iface 93 (.agg #[x,.int .i64 0,.nilIface])] w (yax (t.fold (yj (fun _=>0)) []) w):=by
 have hmm:=@run_makeMap Tryz.prog;go_enter Tryz.func29,Tryz.ntmps29;go_wp2_with fail;obtain ⟨W,hW⟩:∃ W,((((w.alloc (Obj.cells #[.slice none 0 0] 39)).alloc (Obj.map #[] 0)).alloc (Obj.map #[] 0)).alloc (Obj.cells #[.map (some (w.heap.size+1))] 105)).alloc (Obj.cells #[.map (some (w.heap.size+1+1))] 106)=W:=⟨_,rfl⟩;rw [hW];have hsz:W.heap.size=w.heap.size+5:=by rw [<- hW]; simp
 have hx:Ext w W:=by rw [<- hW]; exact (((((Ext.refl w).alloc _).alloc _).alloc _).alloc _).alloc _
 have hd:zao (w.heap.size+5) (w.heap.size+1) (w.heap.size+1+1) (w.heap.size+1+1+1) (w.heap.size+1+1+1+1) w.heap.size:=by
  constructor <;> omega
 have m1:zq W (w.heap.size+1) []:=by
  rw [<- hW];have:=zq.made (w.alloc (Obj.cells #[.slice none 0 0] 39));rw [World.size_alloc] at this;exact ((this.alloc _).alloc _).alloc _
 have m2:zq W (w.heap.size+1+1) []:=by
  rw [<- hW];have:=zq.made ((w.alloc (Obj.cells #[.slice none 0 0] 39)).alloc (Obj.map #[] 0));rw [World.size_alloc,World.size_alloc] at this;exact (this.alloc _).alloc _
 have hJ:uap (w.heap.size+5) (w.heap.size+1) (w.heap.size+1+1) (w.heap.size+1+1+1) (w.heap.size+1+1+1+1) w.heap.size t.sz (0+t.sz) W (fun i=>i=w.heap.size\/i=w.heap.size+1+1\/(Value.slice none 0 0).ownBlock=some i) []:=by
  refine ⟨.slice none 0 0,[],?_,?_,?_,m2,fun s=>by simp [qaa,has],ug.nil _ _,by simp,rfl,by omega⟩
  · rw [<- hW]; simp [go_sem]
  · rw [<- hW]; simp [go_sem]
  · rw [<- hW,Below.heap_alloc _ _ _ (by simp; omega),Below.heap_alloc _ _ _ (by simp; omega),Below.heap_alloc _ _ _ (by simp; omega),Below.heap_alloc _ _ _ (by simp)];exact heap_alloc_new w _
 refine (wby (jba hd hl) h 0 W _ (fun _=>0) [] hJ ⟨[],m1,fun s=>by simp [qaa]⟩).mono ?_;rintro e w1 ⟨⟨v1,rfl⟩,own',hJ',hA',hk'⟩;have hx1:Ext w w1:=hk'.ext hx (fun i hi=>by
  rcases hi with (hi | hi | hi) | hi
  · omega
  · omega
  · simp [Value.ownBlock] at hi
  · omega)
 obtain ⟨v2,ls,c1,c2,c3,c4,c5,c6,c7,c8,c9⟩:=hJ';have cl:=cell_of_one c3;have HR:Hid (ug w1 w.heap.size v2 (t.fold (yj (fun _=>0)) [])):=by
  have:ug w1 w.heap.size v2 (t.fold (yj (fun _=>0)) []):=by
   have h6:=c6;unfold ug World.ownsRow at h6 ⊢;refine ⟨h6.1,?_⟩;rcases h6.2 with h | ⟨g,cap,cur,h1,h2,h3⟩
   · exact .inl h
   · exact .inr ⟨g,cap,cur,h1,by omega,h3⟩
  exact this
 have HX1:=Lib.hid hx1;clear hW hx m1 m2 hJ hA' hk' hd c1 c2 c3 c4 c5 c6 c8 hx1;go_wp2_with fail;go_ret;exact ⟨_,rfl,HR.out,HX1.out⟩
end Go.Proofs.YtaedbimbbeploaaGreatDoor

/- Layer 38: prenex.Poly: the polynomial of a term with these names, or the error. -/
set_option maxRecDepth 100000
set_option maxHeartbeats 8000000
namespace Go.Proofs.YtaedbimbbeploaaGreatDoor
open Go.RowKit
def Tm.names1 (t:Tm):List ByteArray:=t.fold (yj (fun _=>0)) []
def wak (t:Tm) (nms:List ByteArray):Int:=if jy nms=false then 1 else if t.names1.any (fun s=>qab nms nms.length s == 0) then 7 else 0
def ycp (t:Tm) (nms:List ByteArray) (w:World) (e:Ending) (w':World):Prop:=∃ pv,e=.returned (.tuple #[pv,.int .i64 (wak t nms)])/\PlV w' (fun b=>w.heap.size<=b) (if wak t nms=0 then xh (qab nms nms.length) t else Pl.zero) pv/\Ext w w'
theorem ub9 {w:World} {L:Nat} (hL:L<=1000000000000) (t:Tm) {v nv:Value} {nms:List ByteArray} (h:TmV w L t v) (hs:SlR (fun _ (s:ByteArray) x=>x=.string s) w nv nms) (hwt:t.wt<=400) (hsz:t.sz<=1099511627776) (hfl:t.names1.length<=1099511627776):Calls Tryz.prog 21 #[v,nv] w (ycp t nms w):=by
 have HS:=Lib.hid hs;have HT:=Lib.hid h;obtain ⟨T,x,rfl⟩:=h.iface;obtain ⟨NA,cn,rfl,hn1,hn2,-⟩:=hs;clear h;obtain ⟨W,hW⟩:∃ W,w.alloc (.cells #[.int .i64 0,.bool false,.slice none 0 0,.slice none 0 0] 42)=W:=⟨_,rfl⟩;have HWX:Hid (Ext w W):=Lib.hid (by rw [<- hW]; exact (Ext.refl w).alloc _);have hWs:W.heap.size=w.heap.size+1:=by rw [<- hW]; simp
 have HZ:Hid (ve W w.heap.size):=Lib.hid (by rw [<- hW]; exact ve.new w _);have HDF:=Lib.hid (vaz (SlR.ext HS.out (fun _ _ h=>h) HWX.out));have hmm:=@run_makeMap Tryz.prog;go_enter Tryz.func21,Tryz.ntmps21;go_wp2_with fail;clear hW;refine HDF.out.mono ?_;rintro e w1 ⟨rfl,x1⟩;have hs1:=x1.size;have X1:=Lib.hid (HWX.out.trans x1);have HZ1:=Lib.hid (HZ.out.ext x1 (by omega));clear x1 HDF HZ
 by_cases hn:jy nms=true
 case neg =>
  have hn':jy nms=false:=by simpa using hn
  have HE:Hid (wak t nms=1):=Lib.hid (by unfold wak; rw [if_pos hn']);rw [hn'];have hf:=jf (p:=Pl.zero) (q:=fun _=>False) (q':=fun b=>w.heap.size<=b) X1.out (Nat.le_refl _) HZ1.out (Pl.zero_v _ _ none 0 (by omega)) (fun b _ h=>h.elim);obtain ⟨pv,ep,hpv,hx2⟩:=hf;injection ep with ep
  subst ep;have HF:=Lib.hid hpv;have HX2:=Lib.hid hx2;obtain ⟨⟨z0,z1,z2,z3⟩,zf⟩:=HZ1.out;clear hn hn' hpv hx2;go_wp2_with fail;exact bodyPost_ret (v:=.tuple #[plV Pl.zero (.slice none 0 0) (.slice none 0 0),.int .i64 1]) (by simp [results,Tryz.results21,go_sem,z0,z1,z2,z3,plV,Pl.zero,Pl.lv,Pl.neg]) rfl ⟨_,by rw [HE.out],by rw [HE.out]; exact HF.out,HX2.out⟩
 rw [hn];have HN:=Lib.hid hn;obtain ⟨W3,hW3⟩:∃ W3,(w1.alloc (.map #[] 0)).alloc (.cells #[.slice none 0 0,.slice none 0 0,.map (some w1.heap.size),.map none] 108)=W3:=⟨_,rfl⟩;have hx3:Ext w1 W3:=by rw [<- hW3]; exact ((Ext.refl w1).alloc _).alloc _
 have hs3:W3.heap.size=w1.heap.size+1+1:=by rw [<- hW3]; simp
 have hc3:W3.cell? ⟨w1.heap.size+1,2,none⟩=some (.map (some w1.heap.size)):=by rw [<- hW3]; simp [go_sem]
 have hm3:vab W3 w1.heap.size (qab nms 0):=by
  refine ⟨[],?_,fun s=>rfl⟩;rw [<- hW3];exact (zq.made w1).alloc _
 have HG0:Hid (Ext w1 W3/\va2 W3 (w1.heap.size+1) w1.heap.size (qab nms 0)):=Lib.hid ⟨hx3,hc3,by omega,hm3⟩;clear hn hx3 hc3 hm3;go_wp2_with fail;clear hW3 hmm
 go_loopw [20] (fun iv wr=>∃ k:Nat,k<=nms.length/\iv=.int .i64 k/\Hid (Ext w1 wr/\va2 wr (w1.heap.size+1) w1.heap.size (qab nms k))) (fun iv _=>nms.length - (intOf iv).toNat)
 case atStart=>exact ⟨0,Nat.zero_le _,rfl,HG0⟩
 case round =>
  obtain ⟨k,hk,rfl,⟨hxr,hb⟩⟩:=hrel;have HXR:=Lib.hid hxr;have HB:=Lib.hid hb
  by_cases hlt:k < nms.length
  · obtain ⟨ad,y,rfl,hc,hy⟩:=SlR.get_ (SlR.ext HS.out (fun _ _ h=>h) (X1.out.trans hxr)) k hlt;subst hy;obtain ⟨c2,hgl,hm⟩:=hb;obtain ⟨wa,hra,ba,oa⟩:=hm.put nms[k] ((k:Int)+1);have hkw:IntKind.i64.wrap ((k:Int)+1)=(k:Int)+1:=by rw [IntKind.wrap_i64]; omega
    have hml:=hm.lt;have hxs:=hxr.size;have HNEXT:Hid (Ext w1 wa/\va2 wa (w1.heap.size+1) w1.heap.size (qab nms (k+1))):=Lib.hid ⟨Below.grown hxr.below oa.g hxs (fun b e=>by injection e with e; omega),(World.cell?_of_block (a:=⟨w1.heap.size+1,2,none⟩) (oa.block hgl (show w1.heap.size+1 ≠ w1.heap.size by omega))).trans c2,Nat.lt_of_lt_of_le hgl oa.size,by rw [za1 nms k hlt]; exact ba⟩;clear ba oa hm hml hxr;generalize nms[k]=s at *;go_wp2_with fail;clear hra c2 hc
    go_roundw
    case rel=>exact ⟨k+1,by omega,by go_num,HNEXT⟩
    case measure=>simp [intOf]; omega
  · have hke:k=nms.length:=by omega
    rw [hke] at HB;have HFR:=Lib.hid (ub3 (w:=wr) t (TmV.ext (X1.out.trans hxr) HT.out) hsz);have hws:=hxr.size;obtain ⟨w4,rfl⟩:∃ w4,w4=wr:=⟨wr,rfl⟩;clear hb hxr HG0 hke;go_wp2_with fail;refine HFR.out.mono ?_;rintro e w5 ⟨s5,rfl,hr5,x5⟩;have HR5:=Lib.hid hr5.slr;obtain ⟨FA,fc,rfl⟩:=hr5.slr.len;have X5:=Lib.hid (HXR.out.trans x5);have HB5:=Lib.hid (HB.out.ext x5);clear hr5 x5 HFR;obtain ⟨fl,hfle⟩:∃ fl,t.fold (yj fun _=>0) []=fl:=⟨_,rfl⟩;have HFL:Hid (t.names1=fl):=Lib.hid hfle;rw [show t.names1=fl from hfle] at hfl;rw [hfle] at HR5;rw [hfle];clear hfle;go_wp2_with fail
    go_loopw [38] (fun iv wr=>∃ k:Nat,k<=fl.length/\iv=.int .i64 k/\Hid (Ext w5 wr/\(fl.take k).any (fun s=>qab nms nms.length s == 0)=false)) (fun iv _=>fl.length - (intOf iv).toNat)
    case atStart=>exact ⟨0,Nat.zero_le _,rfl,⟨Ext.refl _,by simp⟩⟩
    case round =>
     obtain ⟨j,hj,rfl,⟨hxj,hno⟩⟩:=hrel;have HXJ:=Lib.hid hxj;have HNO:=Lib.hid hno
     by_cases hlj:j < fl.length
     · obtain ⟨ad,y,rfl,hc,hy⟩:=SlR.get_ (SlR.ext HR5.out (fun _ _ h=>h) hxj) j hlj;subst hy;have c2:=(HB5.out.ext hxj).1;have hlook:=(HB5.out.ext hxj).2.2.look fl[j];have HTK:Hid ((fl.take (j+1)).any (fun s=>qab nms nms.length s == 0)=((fl.take j).any (fun s=>qab nms nms.length s == 0) || qab nms nms.length fl[j] == 0)):=Lib.hid (by rw [List.take_succ_eq_append_getElem hlj,List.any_append]; simp);have HIT:Hid ((qab nms nms.length fl[j] == 0)=true->fl.any (fun s=>qab nms nms.length s == 0)=true):=Lib.hid (fun h=>List.any_eq_true.2 ⟨fl[j],List.getElem_mem hlj,h⟩);clear hxj hno;generalize qab nms nms.length fl[j]=lv at *;generalize fl[j]=s at *
       by_cases h0:lv=0
       · have hd:(lv == 0)=true:=by simpa using h0
         have HE:Hid (wak t nms=7):=Lib.hid (by unfold wak; rw [HN.out,if_neg (by simp),HFL.out,if_pos (HIT.out hd)]);have hsw:=HXJ.out.size;have hs5:=X5.out.size;have hz6:=HZ1.out.ext (X5.out.trans HXJ.out) (by omega);have hf:=jf (p:=Pl.zero) (q:=fun _=>False) (q':=fun b=>w.heap.size<=b) (X1.out.trans (X5.out.trans HXJ.out)) (Nat.le_refl _) hz6 (Pl.zero_v _ _ none 0 (by omega)) (fun b _ h=>h.elim);obtain ⟨pv,ep,hpv,hx2⟩:=hf;injection ep with ep
         subst ep;have HF:=Lib.hid hpv;have HX2:=Lib.hid hx2;obtain ⟨⟨z0,z1,z2,z3⟩,zf⟩:=hz6;clear hpv hx2 h0;go_wp2_with fail;exact bodyPost_ret (v:=.tuple #[plV Pl.zero (.slice none 0 0) (.slice none 0 0),.int .i64 7]) (by simp [results,Tryz.results21,go_sem,z0,z1,z2,z3,plV,Pl.zero,Pl.lv,Pl.neg]) rfl ⟨_,by rw [HE.out],by rw [HE.out]; exact HF.out,HX2.out⟩
       · have hd:(lv == 0)=false:=by simpa using h0
         have HNX:Hid ((fl.take (j+1)).any (fun s=>qab nms nms.length s == 0)=false):=Lib.hid (by rw [HTK.out,HNO.out,hd]; rfl);clear h0 HIT HTK;go_wp2_with fail;clear hlook c2 hc
         go_roundw
         case rel=>exact ⟨j+1,by omega,by go_num,⟨HXJ.out,HNX.out⟩⟩
         case measure=>simp [intOf]; omega
     · have HE:Hid (wak t nms=0):=Lib.hid (by
        unfold wak;rw [HN.out,if_neg (by simp),HFL.out];rw [show j=fl.length by omega,List.take_length] at hno
        rw [hno]; rfl)
       have hsw:=HXJ.out.size;have hs5:=X5.out.size;have HPO:=Lib.hid (vcc (w0:=w) hL t (.iface T x) wr (X1.out.trans (X5.out.trans HXJ.out)) HT.out (HB5.out.ext HXJ.out) hwt);have hz6:=Lib.hid (HZ1.out.ext (X5.out.trans HXJ.out) (by omega));have HXW:=Lib.hid (X1.out.trans (X5.out.trans HXJ.out));clear hxj hno;obtain ⟨P,hP⟩:∃ P,xh (qab nms nms.length) t=P:=⟨_,rfl⟩;have HPP:=Lib.hid hP;rw [hP] at HPO;clear hP;go_wp2_with fail;refine HPO.out.mono ?_;rintro e w6 ⟨v6,rfl,p6,x6⟩;obtain ⟨C0,j0,f0,C1,f1,rfl,-⟩:=id p6.open_;have hz7:=hz6.out.ext x6 (by omega);have hf:=jf (q':=fun b=>w.heap.size<=b) (HXW.out.trans x6) (Nat.le_refl _) hz7 p6 (fun b _ hb=>⟨by omega,by omega⟩);obtain ⟨pv,ep,hpv,hx2⟩:=hf;injection ep with ep
       subst ep;have HF:=Lib.hid hpv;have HX2:=Lib.hid hx2;obtain ⟨⟨z0,z1,z2,z3⟩,zf⟩:=hz7;clear hpv hx2 p6 x6;unfold plV;go_wp2_with fail;exact bodyPost_ret (v:=.tuple #[plV P (.slice C0 j0 f0) (.slice C1 P.cs.length f1),.int .i64 0]) (by simp [results,Tryz.results21,go_sem,z0,z1,z2,z3,plV]) rfl ⟨_,by rw [HE.out],by rw [HE.out,if_pos rfl,HPP.out]; exact HF.out,HX2.out⟩
end Go.Proofs.YtaedbimbbeploaaGreatDoor

/- Layer 38: prenex.Body. -/
set_option maxRecDepth 100000
set_option maxHeartbeats 8000000
namespace Go.Proofs.YtaedbimbbeploaaGreatDoor
open Go.RowKit
def vat (nms:List ByteArray) (m:Mx):Prop:=jy nms=true/\m.lvl<=(nms.length:Int)
def jbj (L:Nat) (nms:List ByteArray) (m:Mx) (w:World) (e:Ending) (w':World):Prop:=
 (vat nms m/\∃ v,e=.returned (.tuple #[v,.int .i64 0])/\FmV w' L (m.bodyF nms) v/\Ext w w')\/(¬ vat nms m/\e=.returned (.tuple #[.nilIface,.int .i64 9])/\Ext w w')
theorem yb9 {L:Nat} (hL:5<=L) {w:World} {q:Nat->Prop} {nms:List ByteArray} {m:Mx} {v nv:Value} (hbig:m.sz<=1000000) (hsm:m.small) (h:MxV w q m v) (hs:SlR (fun _ (s:ByteArray) x=>x=.string s) w nv nms):Calls Tryz.prog 35 #[v,nv] w (jbj L nms m w):=by
 have HT:=Lib.hid h;have HS:=Lib.hid hs;obtain ⟨A0,n0,c0,A,n1,c1,K,c,rfl,-⟩:=h.open_;obtain ⟨NA,cn,rfl,hn1,hn2,-⟩:=hs;clear h;obtain ⟨W,hW⟩:∃ W,w.alloc (.cells #[.int .i64 m.kind,.int .i64 m.rel,.int .i64 m.p.lv,.bool m.p.neg,.slice A0 n0 c0,.slice A n1 c1,.slice K m.ks.length c] 45)=W:=⟨_,rfl⟩;have hWx:Ext w W:=by rw [<- hW]; exact (Ext.refl w).alloc _
 have hWs:w.heap.size < W.heap.size:=by rw [<- hW]; simp
 have hbx:um W w.heap.size m (.slice A0 n0 c0) (.slice A n1 c1) (.slice K m.ks.length c):=by rw [<- hW]; exact um.new w m _ _ _ _
 have HWX:=Lib.hid hWx;have HBX:=Lib.hid hbx;have HDF:=Lib.hid (vaz (SlR.ext HS.out (fun _ _ h=>h) HWX.out));have HLV:=Lib.hid (fun W' (hx:Ext W W')=>qcj m _ W' hbig hsm (HT.out.ext (HWX.out.trans hx)));have HBD:=Lib.hid (fun (hlv:m.lvl<=(nms.length:Int)) W' (hx:Ext W W')=>wcn hL m _ _ W' hbig hsm hlv (HT.out.ext (HWX.out.trans hx)) (SlR.ext HS.out (fun _ _ h=>h) (HWX.out.trans hx)));obtain ⟨lv,hlv⟩:∃ lv,m.lvl=lv:=⟨_,rfl⟩;have HOK:Hid (vat nms m ↔ jy nms=true/\lv<=(nms.length:Int)):=Lib.hid (by unfold vat; rw [hlv]);rw [hlv] at HLV HBD;clear hlv hWx hbx;unfold mxV at HLV HBD;unfold mxV;go_enter Tryz.func35,Tryz.ntmps35;go_wp2_with fail;clear hW;refine HDF.out.mono ?_;rintro e w1 ⟨rfl,x1⟩;have X1:=Lib.hid x1;obtain ⟨b0,b1,b2,b3,b4,b5,b6⟩:=HBX.out.ext x1 hWs;clear x1 HDF
 by_cases hn:jy nms=true
 case neg =>
  have hn':jy nms=false:=by simpa using hn
  have HR:Hid (jbj L nms m w (.returned (.tuple #[.nilIface,.int .i64 9])) w1):=Lib.hid (.inr ⟨fun h=>hn (HOK.out.1 h).1,rfl,HWX.out.trans X1.out⟩);rw [hn'];clear hn hn';go_wp2_with fail;exact bodyPost_ret (v:=.tuple #[.nilIface,.int .i64 9]) (by simp [results,Tryz.results35,go_sem]) rfl HR.out
 have HN:=Lib.hid hn;rw [hn];clear hn;go_wp2_with fail;clear b0 b1 b2 b3 b4 b5 b6;refine (HLV.out _ X1.out).mono ?_;rintro e w2 ⟨rfl,x2⟩;have X2:=Lib.hid (X1.out.trans x2);obtain ⟨b0,b1,b2,b3,b4,b5,b6⟩:=HBX.out.ext X2.out hWs;clear x2 HLV
 by_cases hl:lv<=(nms.length:Int)
 case neg =>
  have hd:decide ((nms.length:Int) < lv)=true:=decide_eq_true (by omega);have HR:Hid (jbj L nms m w (.returned (.tuple #[.nilIface,.int .i64 9])) w2):=Lib.hid (.inr ⟨fun h=>hl (HOK.out.1 h).2,rfl,HWX.out.trans X2.out⟩);clear hl;go_wp2_with fail;exact bodyPost_ret (v:=.tuple #[.nilIface,.int .i64 9]) (by simp [results,Tryz.results35,go_sem]) rfl HR.out
 have hd:decide ((nms.length:Int) < lv)=false:=decide_eq_false (by omega);have HB:=Lib.hid (HBD.out hl _ X2.out);have HB0:Hid (vat nms m):=Lib.hid (HOK.out.2 ⟨HN.out,hl⟩);clear hl HBD HOK;go_wp2_with fail;clear b0 b1 b2 b3 b4 b5 b6;refine HB.out.mono ?_;rintro e w3 ⟨v3,rfl,f3,x3⟩;obtain ⟨T3,u3,rfl⟩:=f3.iface;have HR:Hid (jbj L nms m w (.returned (.tuple #[.iface T3 u3,.int .i64 0])) w3):=Lib.hid (.inl ⟨HB0.out,_,rfl,f3,HWX.out.trans (X2.out.trans x3)⟩);clear f3 x3 HB;go_wp2_with fail;exact bodyPost_ret (v:=.tuple #[.iface T3 u3,.int .i64 0]) (by simp [results,Tryz.results35,go_sem]) rfl HR.out
end Go.Proofs.YtaedbimbbeploaaGreatDoor

/- Layer 22: sparse.Total. -/
set_option maxRecDepth 100000
set_option maxHeartbeats 8000000
namespace Go.Proofs.YtaedbimbbeploaaGreatDoor
open Go.RowKit Go.Shelf
attribute [local go_sem] Oper.semAt_some ubp vbp kbp jbp vbx kbx jbx qbx
theorem va7 (a b:Int):je a b=max a b:=by unfold je; split <;> omega
theorem zb6 (l:Sp) (k:Nat) (hk:k < l.length):uw (l.take (k+1))=max (uw (l.take k)) l[k].2.tot:=by
 unfold uw;rw [List.take_succ_eq_append_getElem hk,List.foldl_append,<- va7]; rfl
theorem total_any {w : World} {v : Value} {l : Sp} (h : SpV w none v l) (hc : jc l = l) (hdg : ∀ x ∈ l, (dg x.1.natAbs).length <= 1099511627776) (hL : (dg (qf l)).length <= 1099511627776) (hlen : l.length <= 1099511627776)
 (hE:∀ x ∈ l,x.2.nonneg/\x.2.le 10000000):Calls Tryz.prog 148 #[v] w (waa (uw l) w):=by
 have HE:=Lib.hid hE;have HDG:=Lib.hid hdg;have HTQ:=Lib.hid (fun (W':World) (hx:Ext w W')=>vbe (h.ext hx) hdg hL hlen);rw [hc] at HTQ;obtain ⟨A0,k0,rfl,-⟩:=h;obtain ⟨l0,hl0⟩:∃ l0,l.length=l0:=⟨_,rfl⟩;rw [hl0] at HTQ;rw [hl0];clear hc hdg hL hE;have hdd:∀ k:Nat,(Fence.wide.depth.isSome=true->1<=k):=fun k h=>by cases h
 obtain ⟨W0,hW0⟩:∃ W0,(w.alloc (.cells #[.int .i64 (-1)] 3))=W0:=⟨_,rfl⟩;have hx0:Ext w W0:=by rw [<- hW0]; exact (Ext.refl w).alloc _
 have hs0:W0.heap.size=w.heap.size+1:=by rw [<- hW0]; simp
 have hbT:W0.heap[w.heap.size]?=some (.cells #[.int .i64 (-1)] 3 (0,0)):=by rw [<- hW0]; exact heap_alloc_new w _
 have HX0:=Lib.hid hx0;have HBT:=Lib.hid hbT;clear hx0 hbT;refine (callsIn_wide (n:=5)).1 ?_;refine callsIn_of_wp_marks Tryz.func148 rfl trivial ?_ rfl;simp only [Tryz.ntmps148,List.size_toArray,List.length_cons,List.length_nil,Nat.reduceAdd,Nat.reduceSub,Array.replicate_succ,Array.replicate_zero,List.push_toArray,List.append_toArray,List.nil_append,List.cons_append]
 gi_wp2_with fail
 clear hW0;refine ⟨trivial,?_⟩;refine (callsIn_wide.2 (HTQ.out W0 HX0.out)).mono ?_;rintro e w2 ⟨B2,v2,rfl,hc2,hB1,hB2,⟨A2,k2,rfl,hk1,hk2,hat⟩,x2⟩;have X2:=Lib.hid (HX0.out.trans x2);have BT2:=Lib.hid ((x2.below.block _ (by omega)).trans HBT.out);have hs2:=x2.size;have HSEQ:=Lib.hid (fun n=>kbe w.heap.size hk1 hk2 hat (hat.apart BT2.out) (fun x hx=>HDG.out x hx) B2 hB2 (by omega) hc2 n);clear x2 hc2 hat HTQ HX0 HBT
 gi_wp2_with fail
 refine ybn (by omega) (gf := 202) (lb := #[.pointer (some ⟨B2, 0, none⟩)]) rfl (enters_of Tryz.func202 (by kernel_rfl) rfl) (HSEQ.out _) wu.trans (fun W l o o' _ h1 h2 _ => wu.putObj _ W l o o' h1 h2) (Below.refl _ _) (fun _ => rfl)
  (fun k W=>Ext w W/\w2.heap.size<=W.heap.size/\W.heap[w.heap.size]?=some (.cells #[.int .i64 (uw (l.take k))] 3 (0,0)))
  ?ownI ?startI
  (fun k x a' W=>(∃ g,a'={ tmps:=#[.slice A0 l0 k0,undef,.int .i64 0,.pointer (some ⟨w.heap.size,0,none⟩),.pointer (some ⟨g,0,none⟩),undef,undef,undef,.slice A0 l0 k0,.func (.func 202) #[] #[.pointer (some ⟨B2,0,none⟩)],.agg #[.int .i64 x.1.a,.int .i64 x.1.b,.int .i64 x.1.c,.int .i64 x.1.d],x.2,undef,undef,undef,undef,undef,undef,undef,undef,undef,undef,undef,undef],defers:=[] }/\w2.heap.size<=g/\W.heap[g]?=some (.cells #[.int .i64 x.1.a,.int .i64 x.1.b,.int .i64 x.1.c,.int .i64 x.1.d] 188 (0,0)))/\(∃ h:k < l.length,x.1=l[k].2)/\Ext w W/\w2.heap.size<=W.heap.size/\W.heap[w.heap.size]?=some (.cells #[.int .i64 (uw (l.take k))] 3 (0,0)))
  ?ownA ?assign ?body ?done
 case ownI =>
  rintro k W W' row ⟨h1,h2,h3⟩ hg hr;exact ⟨Below.grown h1.below hg h1.size (fun r e=>by have:=(hr r e).1; have:=h1.size; have:=X2.out.size; omega),Nat.le_trans h2 hg.size,cells_kept hg (fun r e=>(hr r e).2) h3⟩
 case startI=>exact ⟨X2.out,Nat.le_refl _,BT2.out⟩
 case ownA =>
  rintro k x a' s W W' row ⟨⟨g,ha,hg1,hg2⟩,hk,h1,h2,h3⟩ hg hr;have hr2:=fun r e=>(hr r e).2
  exact ⟨⟨g,ha,hg1,cells_kept hg hr2 hg2⟩,hk,Below.grown h1.below hg h1.size (fun r e=>by have:=(hr r e).1; have:=h1.size; have:=X2.out.size; omega),Nat.le_trans h2 hg.size,cells_kept hg hr2 h3⟩
 case assign =>
  rintro lp k ⟨mk,xv⟩ W K hk ⟨h1,h2,h3⟩ ⟨hk',hm,hz⟩ hK;dsimp only at hm hz;have hx1:Ext W (W.alloc (.cells #[.int .i64 mk.a,.int .i64 mk.b,.int .i64 mk.c,.int .i64 mk.d] 188)):=(Ext.refl W).alloc _;have HK:=hK { tmps:=#[.slice A0 l0 k0,undef,.int .i64 0,.pointer (some ⟨w.heap.size,0,none⟩),.pointer (some ⟨W.heap.size,0,none⟩),undef,undef,undef,.slice A0 l0 k0,.func (.func 202) #[] #[.pointer (some ⟨B2,0,none⟩)],.agg #[.int .i64 mk.a,.int .i64 mk.b,.int .i64 mk.c,.int .i64 mk.d],xv,undef,undef,undef,undef,undef,undef,undef,undef,undef,undef,undef,undef],defers:=[] } _ (yar hx1) (wu.of_ext _ hx1) ⟨⟨W.heap.size,rfl,h2,heap_alloc_new W _⟩,⟨hk',hm⟩,h1.trans hx1,Nat.le_trans h2 hx1.size,(hx1.below.block _ (by have:=X2.out.size; have:=h1.size; omega)).trans h3⟩;have HKK:=Lib.hid HK;clear HK hK h1 h2 h3 hx1 hz hm;simp only [qbj,moV]
  gi_wp2
  exact HKK.out
 case body =>
  rintro lp k ⟨mk,xv⟩ a' W hk ⟨⟨g,rfl,hg1,hg2⟩,⟨hk',hm⟩,h1,h2,h3⟩;dsimp only at hm hg2;have HSTEP:Hid (uw (l.take (k+1))=max (uw (l.take k)) mk.tot):=Lib.hid (by rw [zb6 l k hk',hm]);obtain ⟨⟨n1,n2,n3,n4⟩,e1,e2,e3,e4⟩:mk.nonneg/\mk.le 10000000:=by rw [hm]; exact HE.out _ (List.getElem_mem hk')
  have HFIN:Hid (KeepsFrom w2.heap.size W (W.setCell ⟨w.heap.size,0,none⟩ (.int .i64 (uw (l.take (k+1)))))/\wu w.heap.size W (W.setCell ⟨w.heap.size,0,none⟩ (.int .i64 (uw (l.take (k+1)))))/\Ext w (W.setCell ⟨w.heap.size,0,none⟩ (.int .i64 (uw (l.take (k+1)))))/\w2.heap.size<=(W.setCell ⟨w.heap.size,0,none⟩ (.int .i64 (uw (l.take (k+1))))).heap.size/\(W.setCell ⟨w.heap.size,0,none⟩ (.int .i64 (uw (l.take (k+1))))).heap[w.heap.size]?=some (.cells #[.int .i64 (uw (l.take (k+1)))] 3 (0,0))):=Lib.hid (by
   have hw:=X2.out.size;have t0:=box1 h3;refine ⟨KeepsFrom.of_grownBy (grownBy_setCell' W _ _) (fun j e=>by injection e with e; omega),wu.setCell _ W _ t0 rfl,h1.setCell (Nat.le_refl _) _,?_,Boxed.set _ h3⟩;have:(W.setCell ⟨w.heap.size,0,none⟩ (.int .i64 (uw (l.take (k+1))))).heap.size=W.heap.size:=by simp [World.setCell]
   omega)
  rw [HSTEP.out] at HFIN;have hmt:mk.tot=mk.a+mk.b+mk.c+mk.d:=rfl;have t0:=box1 h3;have tf:W.frozen? ⟨w.heap.size,0,none⟩=false:=by simp [World.frozen?,h3]
  obtain ⟨m0,m1,m2,m3⟩:=ucn hg2;have hw1:IntKind.i64.wrap (mk.a+mk.b)=mk.a+mk.b:=by rw [IntKind.wrap_i64]; omega
  have hw2:IntKind.i64.wrap (mk.a+mk.b+mk.c)=mk.a+mk.b+mk.c:=by rw [IntKind.wrap_i64]; omega
  have hw3:IntKind.i64.wrap (mk.a+mk.b+mk.c+mk.d)=mk.a+mk.b+mk.c+mk.d:=by rw [IntKind.wrap_i64]; omega
  have hw0:IntKind.i64.wrap mk.a=mk.a:=by rw [IntKind.wrap_i64]; omega
  rw [hmt] at HFIN HSTEP;clear h1 h2 h3 hg2 hm hmt e1 e2 e3 e4 n1 n2 n3 n4;generalize uw (l.take k)=tk at *;generalize mk.a=xa at *;generalize mk.b=xb at *;generalize mk.c=xc at *;generalize mk.d=xd at *
  gi_wp2_with fail
  clear m0 m1 m2 m3
  gi_loopw [5,13] (fun u5 iv wr=>∃ k:Nat,k<=4/\iv=.int .i64 k/\u5=.int .i64 (if k=0 then 0 else if k=1 then xa else if k=2 then xa+xb else if k=3 then xa+xb+xc else xa+xb+xc+xd)/\wr=W) (fun _ iv _=>4 - (intOf iv).toNat)
  case atStart=>exact ⟨0,by omega,rfl,rfl,rfl⟩
  case round =>
   obtain ⟨k,hk,rfl,rfl,rfl⟩:=hrel;rcases (by omega:k=0\/k=1\/k=2\/k=3\/k=4) with rfl | rfl | rfl | rfl | rfl
   · simp only [if_true]
     gi_wp2_with fail
     go_roundw
     case rel=>exact ⟨1,by omega,by first | rfl | go_num,by simp [hw0],by first | trivial | rfl⟩
     case measure=>simp [intOf]
   · rw [if_neg (by omega),if_pos rfl]
     gi_wp2_with fail
     go_roundw
     case rel=>exact ⟨2,by omega,by first | rfl | go_num,by simp [hw1],by first | trivial | rfl⟩
     case measure=>simp [intOf]
   · rw [if_neg (by omega),if_neg (by omega),if_pos rfl]
     gi_wp2_with fail
     go_roundw
     case rel=>exact ⟨3,by omega,by first | rfl | go_num,by simp [hw2],by first | trivial | rfl⟩
     case measure=>simp [intOf]
   · rw [if_neg (by omega),if_neg (by omega),if_neg (by omega),if_pos rfl]
     gi_wp2_with fail
     go_roundw
     case rel=>exact ⟨4,by omega,by first | rfl | go_num,by simp [hw3],by first | trivial | rfl⟩
     case measure=>simp [intOf]
   · rw [if_neg (by omega),if_neg (by omega),if_neg (by omega),if_neg (by omega)]
     gi_wp2_with fail
     simp only [wb9,HSTEP.out];exact HFIN.out
 case done =>
  rintro D W hD ⟨h1,h2,h3⟩ hK;rw [List.take_length] at h3;have t0:=box1 h3;have H1:=Lib.hid h1;have HKD:=Lib.hid hK;have hw2:=X2.out.size;clear h1 h2 h3 hK
  gi_wp2_with fail
  refine ⟨by simp,.inl ⟨_,_,rfl,run_takeDeferred HKD.out,?_⟩⟩;exact ⟨.int .i64 (uw l),by simp [results,Tryz.results148,go_sem],rfl,Below.grown H1.out.below (grownBy_putObj' _ D _) H1.out.size (fun k e=>by injection e with e; omega)⟩
end Go.Proofs.YtaedbimbbeploaaGreatDoor

/- Law 38: plain: a term has no greater degree and weight than a sum of monomials. -/
set_option maxRecDepth 100000
set_option maxHeartbeats 8000000
namespace Go.Proofs.YtaedbimbbeploaaGreatDoor
open Go.RowKit
theorem zcc (l:Sp) (k:Nat) (hk:k < l.length):vag (l.take (k+1))=max (vag (l.take k)) (qo l[k].1.natAbs:Nat):=by
 unfold vag;rw [List.take_succ_eq_append_getElem hk,List.foldl_append,<- va7]; rfl
theorem xcm (l:Sp) (k:Nat):vag (l.take k)<=vag l/\1<=vag (l.take k):=
 ⟨kag (fun x=>(qo x.1.natAbs:Nat)) _ _ (yaj (fun x=>(qo x.1.natAbs:Nat)) l 1).1 (fun x hx=>(yaj (fun x=>(qo x.1.natAbs:Nat)) l 1).2 x (List.mem_of_mem_take hx)),(yaj (fun x=>(qo x.1.natAbs:Nat)) (l.take k) 1).1⟩
theorem vcp (l:Sp):-1<=uw l:=(yaj (fun x=>x.2.tot) l (-1)).1
theorem wb1 {w : World} {q p' : Nat -> Prop} {L : Nat} (hL : L <= 1000000) {m : Tm} {t : Tr} {v pv : Value} {p : Pl} (hm : vw L m t) (ht : TrV w p' t v) (hp : PlV w q p pv) (hsz : p.sz <= 10000000) (hdm : p.dm <= 100000)
 (h1:m.deg<=max 0 (uw (jc (p.terms Mo.one)))) (h2:m.wt<=vag (jc (p.terms Mo.one))+max 0 (uw (jc (p.terms Mo.one)))+((jc (p.terms Mo.one)).length:Int)):Calls Tryz.prog 88 #[v,pv] w (qaj true w):=by
 have HM:=Lib.hid hm;have HT:=Lib.hid ht;have HP:=Lib.hid hp;have hln:=Pl.terms_len p Mo.one;have hsl:=xaq (p.terms Mo.one);have hdig0:=qao p hp.dig (by omega);have hdl:∀ x ∈ jc (p.terms Mo.one),(dg x.1.natAbs).length<=p.dm+1:=fun x hx=>Nat.le_trans (jh (kas hx)) (Nat.le_trans (jh (wai _)) hdig0)
 have HDL:=Lib.hid hdl;have hle:∀ x ∈ jc (p.terms Mo.one),x.2.nonneg/\x.2.le 10000000:=fun x hx=>by
  obtain ⟨hn,y,hy,e⟩:=jr hx;have:=Pl.terms_le p Mo.one 0 Mo.one_le y hy;rw [e] at this;exact ⟨hn,this.mono (by omega)⟩
 have HTT:=Lib.hid (fun (W':World) (v:Value) (h:SpV W' none v (jc (p.terms Mo.one)))=>total_any h (vas (ww _) fun x hx=>(jr hx).1) (fun x hx=>by have:=hdl x hx; omega) (by have:=Nat.le_trans (jh (wai (p.terms Mo.one))) hdig0; omega) (by omega) hle);obtain ⟨A0,n0,c0,A,c,rfl,-⟩:=ht.open_;obtain ⟨B0,j0,f0,B,f,rfl,-⟩:=hp.open_;have htot:uw (jc (p.terms Mo.one))<=40000000:=kag (fun x=>x.2.tot) _ _ (by omega) (fun x hx=>by obtain ⟨-,g1,g2,g3,g4⟩:=hle x hx; show x.2.a+x.2.b+x.2.c+x.2.d<=_; omega);have htlo:=vcp (jc (p.terms Mo.one));have hdg:vag (jc (p.terms Mo.one))<=2000000:=kag (fun x=>(qo x.1.natAbs:Nat)) _ _ (by omega) (fun x hx=>by have:=za3 x.1.natAbs; have:=hdl x hx; show ((qo x.1.natAbs:Nat):Int)<=_; omega);have HTO:=Lib.hid (fun (W':World) (hx:Ext w W')=>qb6 p _ (HP.out.ext hx) (by omega) (by omega));obtain ⟨l,hl⟩:∃ l,jc (p.terms Mo.one)=l:=⟨_,rfl⟩;rw [hl] at h1 h2 htot htlo hdg HTT HTO HDL hsl;clear hm ht hp hdl hle hl hdig0;obtain ⟨W,hW⟩:∃ W,(w.alloc (.cells #[.int .i64 t.d.kind,.bool t.d.neg,.slice A0 n0 c0,.string t.d.name,.int .i64 t.d.exp,.int .i64 t.d.rel,.bool t.d.truth,.bool t.d.all,.slice A t.ks.length c] 29)).alloc (.cells #[.int .i64 p.lv,.bool p.neg,.slice B0 j0 f0,.slice B p.cs.length f] 42)=W:=⟨_,rfl⟩;have hWx:Ext w W:=by rw [<- hW]; exact ((Ext.refl w).alloc _).alloc _
 have hWs:W.heap.size=w.heap.size+1+1:=by rw [<- hW]; simp
 have hb9:ja8 W w.heap.size t.d (.slice A0 n0 c0) (.slice A t.ks.length c):=by rw [<- hW]; exact (ja8.new w t.d _ _ _).ext ((Ext.refl _).alloc _) (by simp)
 have hb4:zg W (w.heap.size+1) p (.slice B0 j0 f0) (.slice B p.cs.length f):=by
  have:=zg.new (w.alloc (.cells #[.int .i64 t.d.kind,.bool t.d.neg,.slice A0 n0 c0,.string t.d.name,.int .i64 t.d.exp,.int .i64 t.d.rel,.bool t.d.truth,.bool t.d.all,.slice A t.ks.length c] 29)) p (.slice B0 j0 f0) (.slice B p.cs.length f) 42;rw [hW,World.size_alloc] at this;exact this
 have HWX:=Lib.hid hWx;have HB9:=Lib.hid hb9;obtain ⟨b0,b1,b2,b3⟩:=hb4;clear hWx hb9;unfold plV at HTO;unfold ndV plV;unfold ndV at HT;go_enter Tryz.func88,Tryz.ntmps88;go_wp2_with fail;clear hW b0 b1 b2 b3;refine (HTO.out _ HWX.out).mono ?_;rintro e w1 ⟨v1,rfl,sp1,x1⟩;have HS1:=Lib.hid sp1;have HTT1:=Lib.hid (HTT.out _ _ sp1);have X1:=Lib.hid x1;obtain ⟨SA,sk,rfl,hs1,hs2,hat⟩:=sp1;have HAT:=Lib.hid hat;clear hat x1 HTT HTO;go_wp2_with fail;refine HTT1.out.mono ?_;rintro e w2 ⟨rfl,x2⟩;have X2:=Lib.hid (X1.out.trans x2);have X12:=Lib.hid x2;clear x2 HTT1;have hll:(l.length:Int)<=10000000:=by omega
 go_wp2_with fail
 go_loopw [7,16] (fun u7 iv wr=>∃ k:Nat,k<=l.length/\iv=.int .i64 k/\u7=.int .i64 (vag (l.take k))/\Hid (Ext w2 wr)) (fun _ iv _=>l.length - (intOf iv).toNat)
 case atStart=>exact ⟨0,Nat.zero_le _,rfl,by rw [List.take_zero]; rfl,Ext.refl _⟩
 case round =>
  obtain ⟨k,hk,rfl,rfl,hx⟩:=hrel;have HX:=Lib.hid hx.out
  by_cases hlt:k < l.length
  · obtain ⟨ad,b,BA,bn,bc,rfl,hadb,hc6,hcf⟩:=HAT.out k hlt;obtain ⟨t0,t1,-⟩:=hc6;have hxx:=X12.out.trans HX.out
    replace t0:=(hxx.cell (p:=ad.add (k * 6)) (by rw [ja]; exact hadb)).trans t0
    replace t1:=(hxx.cell (p:=⟨(ad.add (k * 6)).block,(ad.add (k * 6)).off+1,none⟩) (by show (ad.add (k * 6)).block < _; rw [ja]; exact hadb)).trans t1
    obtain ⟨vz,ez,hz⟩:=hcf;have HDN:=Lib.hid (zaz b _ _ wr ((show jb w1 (.slice BA bn bc) (dg l[k].1.natAbs) by injection ez with ez; injection ez with ez; simp at ez; rw [ez.2]; exact hz).ext hxx) (by have:=HDL.out _ (List.getElem_mem hlt); omega));rw [zi] at HDN;have HST:=Lib.hid (zcc l k hlt);generalize qo l[k].1.natAbs=nd at *;have hkl:(k:Int) < (l.length:Int):=by omega
    clear hz ez hx hxx;go_wp2_with fail;clear t0 t1;refine HDN.out.mono ?_;rintro e w3 ⟨rfl,x3⟩;have X3:=Lib.hid (HX.out.trans x3);clear x3 HDN;go_wp2_with fail
    go_roundw
    case rel=>exact ⟨k+1,by omega,by go_num,by rw [HST.out],X3.out⟩
    case measure=>simp [intOf]; omega
  · obtain rfl:k=l.length:=by omega
    rw [List.take_length];have hkl:¬ (l.length:Int) < (l.length:Int):=by omega
    obtain ⟨b0,b1,b2,b3,b4,b5,b6,b7,b8⟩:=HB9.out.ext (X2.out.trans HX.out) (by omega);have HDG:=Lib.hid (fun (W':World) (hx:Ext W W')=>vbi (L:=L) m t _ _ HM.out (HT.out.ext (HWX.out.trans hx)));have HWT:=Lib.hid (fun (W':World) (hx:Ext W W')=>jbi (L:=L) hL m t _ _ HM.out (HT.out.ext (HWX.out.trans hx)));have hd1:decide (m.deg<=max 0 (uw l))=true:=decide_eq_true h1;have hd2:decide (m.wt<=vag l+max 0 (uw l)+(l.length:Int))=true:=decide_eq_true h2;have hdp:=(xcm l l.length).2;rw [List.take_length] at hdp;have hw1:IntKind.i64.wrap (vag l+max 0 (uw l))=vag l+max 0 (uw l):=by rw [IntKind.wrap_i64]; omega
    have hw2:IntKind.i64.wrap (vag l+max 0 (uw l)+(l.length:Int))=vag l+max 0 (uw l)+(l.length:Int):=by rw [IntKind.wrap_i64]; omega
    clear h1 h2 hx;generalize vag l=dl at *;generalize max 0 (uw l)=mt at *;go_wp2_with fail;clear b0 b1 b2 b3 b4 b5 b6 b7 b8;refine (HDG.out _ (X2.out.trans HX.out)).mono ?_;rintro e w4 ⟨rfl,x4⟩;have X4:=Lib.hid (X2.out.trans (HX.out.trans x4));obtain ⟨b0,b1,b2,b3,b4,b5,b6,b7,b8⟩:=HB9.out.ext X4.out (by omega);clear x4 HDG;go_wp2_with fail;clear b0 b1 b2 b3 b4 b5 b6 b7 b8;refine (HWT.out _ X4.out).mono ?_;rintro e w5 ⟨rfl,x5⟩;have X5:=Lib.hid (HWX.out.trans (X4.out.trans x5));clear x5 HWT;go_wp2_with fail;go_ret;exact ⟨rfl,X5.out⟩
end Go.Proofs.YtaedbimbbeploaaGreatDoor
