/- How many decimal digits a number has. No program in sight. -/
import Derived.Test.YtcfcjabgkfehlaaGreatDec
import Derived.Deep.AppendLies
set_option linter.unusedSimpArgs false
set_option linter.unusedVariables false
namespace Go.Proofs.YtcfcjabgkfehlaaGreat
def yal (n:Nat):Nat:=if _h:n < 10 then 1 else yal (n / 10)+1
termination_by n
decreasing_by omega
theorem wa1 {n:Nat} (h:n < 10):yal n=1:=by rw [yal]; simp [h]
theorem vbt {n:Nat} (h:10<=n):yal n=yal (n / 10)+1:=by rw [yal]; simp [show ¬ n < 10 by omega]
theorem jbk (n:Nat):1<=yal n:=by
 rcases Nat.lt_or_ge n 10 with h | h
 · rw [wa1 h]; omega
 · rw [vbt h]; omega
def more (n:Nat):Nat:=if n=0 then 0 else yal n
theorem uaz:more 0=0:=rfl
theorem ja6 {n:Nat} (h:n ≠ 0):more n=yal n:=if_neg h
theorem gaz {n:Nat} (h:n ≠ 0):more n=more (n / 10)+1:=by
 rw [ja6 h];rcases Nat.lt_or_ge n 10 with h1 | h1
 · rw [wa1 h1,Nat.div_eq_of_lt h1,uaz]
 · rw [vbt h1,ja6 (by omega)]
theorem gbx (k:Nat):∀ n,10 ^ k<=n->more n=more (n / 10 ^ k)+k:=by
 induction k with
 | zero=>intro n _; simp
 | succ k ih =>
   intro n h;have hp:0 < 10 ^ k:=Nat.pow_pos (by omega);have h1:10 ^ k<=n / 10:=by
    rw [Nat.le_div_iff_mul_le (by omega)];rw [Nat.pow_succ] at h;exact h
   have hn:n ≠ 0:=by
    rintro rfl;have:0 < 10 ^ (k+1):=Nat.pow_pos (by omega);omega
   rw [gaz hn,ih _ h1,Nat.div_div_eq_div_mul,Nat.pow_succ,Nat.mul_comm 10];omega
theorem vbb (n k:Nat) (h:n < 10 ^ k):more n<=k:=by
 induction k generalizing n with
 | zero => have : n = 0 := by simpa using h
           subst this; simp [more]
 | succ k ih =>
   by_cases hn:n=0
   · subst hn; simp [more]
   · rw [gaz hn];have:n / 10 < 10 ^ k:=by
      rw [Nat.div_lt_iff_lt_mul (by omega)];rw [Nat.pow_succ] at h;exact h
     have:=ih _ this;omega
/- Layer 4 (decimal): Format, its length; Digits. -/
set_option maxRecDepth 100000
set_option maxHeartbeats 8000000
open Go.RowKit
def yak (w:World) (base:Nat) (v:Value) (len:Nat):Prop:=∃ xs:List Value,w.ownsRow base 5 1 v len xs/\∀ u ∈ xs,∃ b:Nat,b < 256/\u=.int .u8 (b:Nat)
theorem gcp:(Tryz.prog.info? 5).map (fun i=>(i.zero,i.size,i.bytes))=some (some (.int .u8 0),1,1):=by kernel_rfl
def zak (w:World) (v s8:Value) (R:Nat):Prop:=∃ (A:Option Addr) (c:Nat) (ds:List Nat),s8=.slice A ds.length c/\ds.length<=c/\c<=9223372036854775807/\ds.length<=17592186044416/\ji w A ds/\val ds=R/\(0 < ds.length->∀ ad,A=some ad->v.ownBlock ≠ some ad.block)
theorem zak.natV {w:World} {v s8:Value} {R:Nat} (h:zak w v s8 R):∃ ds,jb w s8 ds/\val ds=R/\ds.length<=17592186044416:=by
 obtain ⟨A,c,ds,e,h1,h2,h3,h4,h5,h6⟩:=h;exact ⟨ds,⟨A,c,e,h1,h2,h4⟩,h5,h3⟩
theorem vbs {w w' : World} {base len R b : Nat} {v v' s8 : Value} {xs : List Value} (hown : w'.ownsRow base 5 1 v' (len + 1) (xs ++ [.int .u8 (b : Nat)])) (hx : ∀ u ∈ xs, ∃ b : Nat, b < 256 /\ u = .int .u8 (b : Nat)) (hb : b < 256)
 (hg:w.grownBy w' v.ownBlock) (hat:v'.ownBlock=v.ownBlock\/v'.ownBlock=some w.heap.size) (hr:zak w v s8 R):yak w' base v' (len+1)/\zak w' v' s8 R:=by
 refine ⟨⟨_,hown,fun u hu=>?_⟩,?_⟩
 · rcases List.mem_append.1 hu with h | h
   · exact hx u h
   · exact ⟨b,hb,by simpa using h⟩
 · obtain ⟨A,c,ds,e,h1,h2,h3,h4,h5,h6⟩:=hr;refine ⟨A,c,ds,e,h1,h2,h3,⟨h4.1,fun hl=>?_⟩,h5,fun hl ad e'=>?_⟩
   · obtain ⟨ad,e',hb',hc'⟩:=h4.2 hl;refine ⟨ad,e',Nat.lt_of_lt_of_le hb' hg.size,fun j hj=>?_⟩;have hne:=h6 hl ad e';rw [World.cell?_of_block (hg.block _ (by rw [ja]; exact hb') (by rw [ja]; exact fun e=>hne e.symm))];exact hc' j hj
   · rcases hat with h | h
     · rw [h]; exact h6 hl ad e'
     · rw [h];intro e2;injection e2 with e2
       obtain ⟨ad',e3,hb',-⟩:=h4.2 hl;rw [e'] at e3;injection e3 with e3
       subst e3;omega
theorem wbx (n:Nat):more n<=10 * (dg n).length:=by
 apply vbb;have h:=gaa n;have h2:B32 ^ (dg n).length<=(10 ^ 10) ^ (dg n).length:=Nat.pow_le_pow_left (by decide) _;rw [<- Nat.pow_mul] at h2;omega
def FmtInv (w0:World) (N R:Nat) (s7 s8:Value) (wr:World):Prop:=∃ len,yak wr w0.heap.size s7 len/\zak wr s7 s8 R/\len+more R=more N/\Ext w0 wr
def kbc (last:Bool) (len' len p p0 i:Nat):Prop:=if last then len'+more p=len+more p0/\i+more p<=9 else len'=len+i
def jb1 (w0:World) (R' len p0:Nat) (last:Bool) (vq:Value) (i p:Nat) (s7:Value) (wr:World):Prop:=
 ∃ len',yak wr w0.heap.size s7 len'/\zak wr s7 vq R'/\kbc last len' len p p0 i/\Ext w0 wr
theorem zak.kept {w w':World} {v s8:Value} {R:Nat} (h:zak w v s8 R) (hx:Ext w w'):zak w' v s8 R:=by
 obtain ⟨A,c,ds,e,h1,h2,h3,h4,h5,h6⟩:=h;exact ⟨A,c,ds,e,h1,h2,h3,h4.ext hx,h5,h6⟩
theorem yak.lt {w:World} {base len:Nat} {v:Value} (h:yak w base v len):∀ g,v.ownBlock=some g->g < w.heap.size:=by
 intro g hg;obtain ⟨xs,⟨-,h2⟩,-⟩:=h;rcases h2 with ⟨rfl,-⟩ | ⟨g',cap,cur,rfl,-,hh,-⟩
 · simp [Value.ownBlock] at hg
 · have:g'=g:=by simpa [Value.ownBlock] using hg
   subst this;rcases Nat.lt_or_ge g' w.heap.size with hlt | hge
   · exact hlt
   · rw [Array.getElem?_eq_none hge] at hh; cases hh
theorem yak.kept {w w':World} {base len:Nat} {v:Value} (h:yak w base v len) (hx:Ext w w'):yak w' base v len:=by
 have hlt:=h.lt;obtain ⟨xs,h1,h2⟩:=h;exact ⟨xs,h1.kept (row:=none) ⟨hx.below.os,hx.below.tape,hx.below.output,hx.size,fun k hk _=>hx.below.block k hk⟩ (by cases hv:v.ownBlock <;> simp),h2⟩
theorem yak.base_le {w:World} {base len:Nat} {v:Value} (h:yak w base v len):∀ g,v.ownBlock=some g->base<=g:=by
 intro g hg;obtain ⟨xs,⟨-,h2⟩,-⟩:=h;rcases h2 with ⟨rfl,-⟩ | ⟨g',cap,cur,rfl,hb,-⟩
 · simp [Value.ownBlock] at hg
 · have:g'=g:=by simpa [Value.ownBlock] using hg
   subst this;exact hb
theorem Ext.grown {w0 w w':World} {row:Option Nat} (hx:Ext w0 w) (hg:w.grownBy w' row) (hr:∀ g,row=some g->w0.heap.size<=g):Ext w0 w':=
 Below.grown hx hg hx.size hr
theorem wa8 (ns:List Int) (s:ByteArray):(ns.foldl (fun r n=>r.push (UInt8.ofNat n.toNat)) s).size=s.size+ns.length:=by
 induction ns generalizing s with
 | nil=>simp
 | cons n r ih=>rw [List.foldl_cons,ih,ByteArray.size_push,List.length_cons]; omega
theorem zbb {w:World} {g n:Nat} (h:uad w g n) (cap:Nat) :
 ∃ s:ByteArray,s.size=n/\(convert 310 9 (.slice (some ⟨g,0,none⟩) n cap)).run Tryz.prog w=.ok (.string s) w:=by
 have hex:∀ i,∃ b:Int,i < n->w.cell? ⟨g,i,none⟩=some (.int .u8 b):=fun i=>by
  by_cases hi:i < n
  · obtain ⟨b,-,hc,-⟩:=h.get i hi;exact ⟨b,fun _=>hc⟩
  · exact ⟨0,fun hh=>absurd hh hi⟩
 let f:Nat->Int:=fun i=>Classical.choose (hex i)
 have hf:∀ i,i < n->w.cell? ⟨g,i,none⟩=some (.int .u8 (f i)):=fun i hi=>Classical.choose_spec (hex i) hi
 have hl:=run_loadCells (P:=Tryz.prog) w ⟨g,0,none⟩ n (fun j=>.int .u8 (f j)) (fun j hj=>by rw [jq,Nat.zero_add]; exact hf j hj);have hl2:(loadCells ⟨g,0,none⟩ n).run Tryz.prog w=.ok (((List.range n).map f).map (Value.int .u8)).toArray w:=by
  rw [hl,List.map_map]; rfl
 refine ⟨((List.range n).map f).foldl (fun r n=>r.push (UInt8.ofNat n.toNat)) ByteArray.empty,?_,?_⟩
 · rw [wa8]; simp
 · rw [run_convert_bytes_string w 310 9 5 _ _ _ Tryz.underlying310 Tryz.underlying5 Tryz.underlying9];exact run_bytesToString w _ n cap _ hl2
theorem qbe {w0 wr wq : World} {R' len p0 i p len' b : Nat} {last : Bool} {vq v v' : Value} {xs : List Value} {o : Obj} (hown : (wr.ownsRow w0.heap.size 5 1 v len' xs)) (hxs : ∀ u ∈ xs, ∃ b : Nat, b < 256 /\ u = .int .u8 (b : Nat))
 (hr:zak wr v vq R') (hc:kbc last len' len p p0 i) (hx:Ext w0 wr) (hgo:last=false\/p ≠ 0)
 (hown':wq.ownsRow w0.heap.size 5 1 v' (len'+1) (xs ++ [.int .u8 (b:Nat)])) (hb:b < 256) (hg:(wr.alloc o).grownBy wq v.ownBlock) (hat:v'.ownBlock=v.ownBlock\/v'.ownBlock=some (wr.heap.size+1)) :
 jb1 w0 R' len p0 last vq (i+1) (p / 10) v' wq:=by
 have hbase:∀ g,v.ownBlock=some g->w0.heap.size<=g:=yak.base_le ⟨xs,hown,hxs⟩;obtain ⟨s1,s2⟩:=vbs hown' hxs hb hg (by simpa using hat) (hr.kept ((Ext.refl wr).alloc o));refine ⟨len'+1,s1,s2,?_,(hx.alloc o).grown hg hbase⟩;unfold kbc at hc ⊢;cases last
 · simp at hc ⊢; omega
 · rcases hgo with h | h
   · cases h
   · simp only [if_true] at hc ⊢;have:=gaz h;omega
theorem qbz (x:Value) (z:Int) (L:Nat) (w:World) (h:yh w x z L) (hs:L<=1000000000000) (hz0:0<=z) :
 Calls Tryz.prog 241 #[x,.int .i64 10] w fun e w'=>(∃ s:ByteArray,s.size=yal z.natAbs/\e=.returned (.string s))/\Ext w w':=by
 have H:=Lib.hid h;obtain ⟨neg,v,ds,rfl,⟨A,c,rfl,h1,h2,h3⟩,hz,hl⟩:=h;have H3:=Lib.hid h3;clear h3
 by_cases hzz:z=0
 · subst hzz;have hsz:(sgI 0 == 0)=true:=by decide
   have x0:Ext w (w.alloc (Obj.cells #[.bool neg,.slice A ds.length c] 33)):=(Ext.refl w).alloc _;have X0:=Lib.hid x0;clear x0 hz;go_enter Tryz.func241,Tryz.ntmps241;go_wp2_with fail;refine (zam _ 0 L _ (H.out.ext X0.out)).mono ?_;rintro e w1 ⟨rfl,y1⟩;have Y1:=Lib.hid y1;clear y1;go_wp2_with fail;go_ret;exact ⟨⟨_,by rw [wa1 (by decide)]; rfl,rfl⟩,X0.out.trans Y1.out⟩
 · have hneg:neg=false:=by
    cases neg
    · rfl
    · exfalso; simp [sgn] at hz; omega
   subst hneg;have hzv:z.natAbs=val ds:=by rw [hz]; exact jr _ _
   have HZV:=Lib.hid hzv;have hsz:(sgI z == 0)=false:=by
    unfold sgI; rw [wam (by omega)]; rfl
   have HNZ:Hid (val ds ≠ 0):=by
    intro e;rw [e] at hzv;omega
   clear hz hzv hzz hz0;go_enter Tryz.func241,Tryz.ntmps241;go_wp2_with fail;have x0:Ext w (w.alloc (Obj.cells #[.bool false,.slice A ds.length c] 33)):=(Ext.refl w).alloc _;have hcA:∀ w',Ext (w.alloc (Obj.cells #[.bool false,.slice A ds.length c] 33)) w'->w'.cell? ⟨w.heap.size,0,none⟩=some (.bool false)/\w'.cell? ⟨w.heap.size,1,none⟩=some (.slice A ds.length c):=by
    intro w' hx;obtain ⟨hc,-⟩:=hx.cells;exact ⟨by rw [hc _ _ (by simp)]; simp [World.cell?_alloc_new],by rw [hc _ _ (by simp)]; simp [World.cell?_alloc_new]⟩
   have HCA:=Lib.hid hcA;have X0:=Lib.hid x0;refine (zam _ z L _ (H.out.ext x0)).mono ?_;generalize w.alloc (Obj.cells #[.bool false,.slice A ds.length c] 33)=W at *;clear hcA x0;rintro e w1 ⟨rfl,y1⟩;obtain ⟨c0,c1⟩:=HCA.out w1 y1;have Y1:=Lib.hid y1;clear y1;go_wp2_with (go_at_call 246; refine (vcr _).mono ?_; rintro e w' ⟨rfl,rfl⟩)
   have HI0:Hid (FmtInv w1 (val ds) (val ds) (.slice none 0 0) (.slice A ds.length c) w1):=
    ⟨0,⟨[],⟨by simp,.inl ⟨rfl,rfl⟩⟩,by simp⟩,⟨A,c,ds,rfl,h1,h2,by omega,H3.out.ext (X0.out.trans Y1.out),rfl,fun _ ad _=>by simp [Value.ownBlock]⟩,by omega,Ext.refl _⟩
   have hmb:more (val ds)<=10000000000000:=by
    have h4:=wbx (val ds);have h5:=ve H3.out.1;omega
   go_loopg [7,8] (val ds) (fun gk s7 s8 wr=>Hid (FmtInv w1 (val ds) gk s7 s8 wr))
   case atStart=>exact HI0
   case round =>
    clear HI0;obtain ⟨len,ho,hr,hlen,hx⟩:=hrel.out;obtain ⟨d8,n8,v8,l8⟩:=hr.natV
    by_cases hR:gk=0
    · have hb8:(val d8 == 0)=true:=by rw [v8]; simp [hR]
      obtain ⟨c0,c1⟩:=HCA.out wr (Y1.out.trans hx);have hlenN:len=yal z.natAbs:=by
       rw [hR,uaz,ja6 HNZ.out] at hlen;rw [HZV.out];omega
      have HLEN:=Lib.hid hlenN;have hlp:1<=len:=by rw [hlenN]; exact jbk _
      have HX:=Lib.hid (X0.out.trans (Y1.out.trans hx));have hbl:w.heap.size<=w1.heap.size:=by have:=X0.out.size; have:=Y1.out.size; omega
      have hl10:len<=10000000000000:=by omega
      obtain ⟨xs,⟨hxl,hown⟩,hxs⟩:=ho;rcases hown with ⟨-,h0⟩ | ⟨g,cap,cur,rfl,hbg,hh,hnc,hcm,hcs,htk⟩
      · omega
      have hBB:uad wr g len:=by
       refine ⟨cur,hh,by omega,fun i hi=>?_⟩;have hil:i < xs.length:=by omega
       obtain ⟨b,hb,hu⟩:=hxs xs[i] (List.getElem_mem hil);refine ⟨b,hb,?_⟩;have h5:(cur.toList.take (len * 1))[i]?=some xs[i]:=by rw [htk,List.getElem?_eq_getElem hil]
       rw [List.getElem?_take_of_lt (by omega)] at h5;simpa [hu] using h5
      have HBB:=Lib.hid hBB;clear hrel hr hlen hx v8 hlenN hxl hxs hh hcs htk hBB;unfold maxLen at hcm;go_wp2_with fail;refine (wag _ _ _ n8).mono ?_;rintro e w' ⟨rfl,rfl⟩;go_wp2_with fail;refine (kbp g len cap _ HBB.out hnc hcm).mono ?_;rintro e w5 ⟨rfl,hB5,hO5⟩;have HB5:=Lib.hid hB5;have HO5:=Lib.hid hO5;clear hB5 hO5;obtain ⟨str,hsl,hrun⟩:=zbb HB5.out cap;have HSL:=Lib.hid hsl;clear hsl;go_wp2_with fail;go_ret;exact ⟨⟨str,by rw [HSL.out]; exact HLEN.out,rfl⟩,HO5.out.ext HX.out (by omega)⟩
    · have hb8:(val d8 == 0)=false:=by rw [v8]; simp [hR]
      have HO:=Lib.hid ho;have HR:=Lib.hid hr;have HL:=Lib.hid hlen;have HX:=Lib.hid hx;have V8:=Lib.hid v8;have N8:=Lib.hid n8;clear hrel ho hr hlen hx v8 n8;go_wp2_with fail;refine (wag _ _ _ N8.out).mono ?_;rintro e w' ⟨rfl,rfl⟩;go_wp2_with fail;refine (ga0 _ _ 1000000000 _ N8.out (by omega) (by omega) (by omega)).mono ?_;rw [V8.out];rintro e w2 ⟨vq,rfl,nq,fq,y2⟩;have hp0:gk % 1000000000 < 1000000000:=Nat.mod_lt _ (by omega);have HR2:Hid (zak w2 u7 vq (gk / 1000000000)):=by
       obtain ⟨Aq,cq,rfl,i1,i2,i3⟩:=nq;refine ⟨Aq,cq,_,rfl,i1,i2,?_,i3,je _,fun _ ad e hh=>?_⟩
       · have h6:=jl (Nat.div_le_self gk 1000000000);have h7:=ve N8.out.digs;rw [V8.out] at h7;omega
       · subst e;have h8:=fq ad _ _ rfl;have h9:=HO.out.lt _ hh;omega
      have HO2:=Lib.hid (HO.out.kept y2);have HX2:=Lib.hid (HX.out.trans y2);have NQ:=Lib.hid nq;clear nq fq y2;go_wp2_with fail;refine (wag _ _ _ NQ.out).mono ?_;rw [je];rintro e w' ⟨rfl,rfl⟩;obtain ⟨last,hlast⟩:∃ last,last=(gk / 1000000000 == 0):=⟨_,rfl⟩;rw [<- hlast];have HLAST:=Lib.hid hlast;clear hlast;go_wp2_with fail;have HIN:Hid (jb1 w1 (gk / 1000000000) len (gk % 1000000000) last vq 0 (gk % 1000000000) u7 w2):=by
       refine ⟨len,HO2.out,HR2.out,?_,HX2.out⟩;unfold kbc;cases last
       · simp
       · simp only [if_true];exact ⟨trivial,by have:=vbb _ 9 hp0; omega⟩
      obtain ⟨wo,rfl⟩:∃ wo:World,wo=wr:=⟨_,rfl⟩;obtain ⟨i0,hi0,hz0,hz1,hz2⟩:=info_parts gcp;have HI0:=Lib.hid (And.intro hi0 (And.intro hz0 (And.intro hz1 hz2)));clear hi0 hz0 hz1 hz2;have hlen10:len<=10000000000000:=by have:=HL.out; omega
      go_loopw [7,9,11] (fun s7 pv iv wq=>∃ i p:Nat,i<=9/\iv=.int .i64 i/\pv=.int .u32 p/\p < 1000000000/\Hid (jb1 w1 (gk / 1000000000) len (gk % 1000000000) last vq i p s7 wq)) (fun _ _ iv _=>9 - (intOf iv).toNat)
      case atStart=>exact ⟨0,gk % 1000000000,by omega,rfl,by simp,hp0,HIN⟩
      case round =>
       clear HIN;obtain ⟨i,p,hi,rfl,rfl,hp,HI⟩:=hrel;obtain ⟨len',ho',hr',hc',hx'⟩:=HI.out;have hl':len'<=20000000000000:=by
        unfold kbc at hc';cases last
        · simp at hc'; omega
        · simp at hc';have:=vbb _ 9 hp0;omega
       by_cases hgo:i < 9/\(last=false\/p ≠ 0)
       · obtain ⟨hi9,hgo⟩:=hgo;obtain ⟨xs,hown,hxs⟩:=ho';have HS:=Lib.hid hr';have HC:=Lib.hid hc';have HX':=Lib.hid hx';have HXS:=Lib.hid hxs;have HOWN:=Lib.hid hown;clear HI hr' hc' hx' hxs hown;have hp10:p % 10 < 10:=Nat.mod_lt _ (by omega)
         by_cases hgo2:last=false
         · subst hgo2;clear hgo
           go_wp2_with (at_builtin
                        refine wpList_append_own_at _ rfl (.tmp 47) (.tmp 53) _ rfl w1.heap.size 5 i0 (.int .u8 0) 1 1 Tryz.underlying310 HI0.out.1 HI0.out.2.1 HI0.out.2.2.1 HI0.out.2.2.2 rfl (by omega) _ len' xs rfl (HOWN.out.alloc _) ⟨wr.heap.size,0,none⟩ 1 1 _ rfl rfl (World.news_of_block (heap_alloc_new wr _)) ?_ ?_ ?_ ?_ ?_)
           · simp [Value.oneCell']
           · unfold maxLen; omega
           · omega
           · have:=HX'.out.size; simp; omega
           · intro v' wq hown' hg' _ hat';have HSTEP:=Lib.hid (qbe HOWN.out HXS.out HS.out HC.out HX'.out (.inl rfl) hown' (UInt8.toNat_lt _) hg' hat');clear hown' hg' hat' HOWN HXS HS HC HX';go_wp2_with fail
             go_roundw
             case rel=>exact ⟨i+1,p / 10,by omega,by go_num,by simp,by omega,HSTEP⟩
             case measure=>simp [intOf]; omega
         · have hpne : p ≠ 0 := by rcases hgo with h | h
                                   · exact absurd h hgo2
                                   · exact h
           clear hgo;cases last
           · exact absurd rfl hgo2
           · clear hgo2;have hpb:((p:Int) != 0)=true:=by simp; omega
             go_wp2_with (at_builtin
                          refine wpList_append_own_at _ rfl (.tmp 47) (.tmp 53) _ rfl w1.heap.size 5 i0 (.int .u8 0) 1 1 Tryz.underlying310 HI0.out.1 HI0.out.2.1 HI0.out.2.2.1 HI0.out.2.2.2 rfl (by omega) _ len' xs rfl (HOWN.out.alloc _) ⟨wr.heap.size,0,none⟩ 1 1 _ rfl rfl (World.news_of_block (heap_alloc_new wr _)) ?_ ?_ ?_ ?_ ?_)
             · simp [Value.oneCell']
             · unfold maxLen; omega
             · omega
             · have:=HX'.out.size; simp; omega
             · intro v' wq hown' hg' _ hat';have HSTEP:=Lib.hid (qbe HOWN.out HXS.out HS.out HC.out HX'.out (.inr hpne) hown' (UInt8.toNat_lt _) hg' hat');clear hown' hg' hat' HOWN HXS HS HC HX';go_wp2_with fail
               go_roundw
               case rel=>exact ⟨i+1,p / 10,by omega,by go_num,by simp,by omega,HSTEP⟩
               case measure=>simp [intOf]; omega
       · have hend:len'+more (gk / 1000000000)=more (val ds):=by
          have hL:=HL.out;unfold kbc at hc';cases last
          · have h9:i=9:=by
             rcases Nat.lt_or_ge i 9 with h | h
             · exact absurd ⟨h,.inl rfl⟩ hgo
             · omega
            have hq:gk / 1000000000 ≠ 0:=by
             have:=HLAST.out;intro e;rw [e] at this;simp at this
            have h10:10 ^ 9<=gk:=by
             rcases Nat.lt_or_ge gk (10 ^ 9) with h | h
             · exact absurd (Nat.div_eq_of_lt h) hq
             · exact h
            have h11:=gbx 9 gk h10;simp at hc';have h12:(10:Nat) ^ 9=1000000000:=by decide
            rw [h12] at h11;omega
          · have hq:gk / 1000000000=0:=by
             have:=HLAST.out;simpa using this.symm
            have hgp:gk % 1000000000=gk:=by omega
            have hp0':more p=0:=by
             rcases Nat.lt_or_ge i 9 with h | h
             · have:p=0:=Decidable.byContradiction fun hne=>hgo ⟨h,.inr hne⟩
               rw [this]; rfl
             · simp only [if_true] at hc'; omega
            simp only [if_true] at hc';rw [hq,hgp] at *;rw [uaz];omega
         have HS2:Hid (FmtInv w1 (val ds) (gk / 1000000000) u7 vq wr):=⟨len',ho',hr',hend,hx'⟩;have hlt2:gk / 1000000000 < gk:=Nat.div_lt_self (by omega) (by omega);have hb:(decide ((i:Int) < 9)=false)\/(decide ((i:Int) < 9)=true/\last=true/\p=0):=by
          rcases Nat.lt_or_ge i 9 with h | h
          · right
            refine ⟨by simp; omega,?_,Decidable.byContradiction fun hne=>hgo ⟨h,.inr hne⟩⟩;cases last
            · exact absurd ⟨h,.inl rfl⟩ hgo
            · rfl
          · left; simp; omega
         clear HI ho' hr' hc' hx' hend hgo;rcases hb with hb | ⟨hb,hb2,hb3⟩
         · go_wp2_with fail
           go_roundg (gk / 1000000000)
           case rel=>exact HS2
           case measure=>exact hlt2
         · subst hb2;subst hb3;go_wp2_with fail
           go_roundg (gk / 1000000000)
           case rel=>exact HS2
           case measure=>exact hlt2
/- Layer 4 (decimal): Format and Digits. -/
theorem xb1 (x:Value) (z:Int) (L:Nat) (w:World) (h:yh w x z L) (hs:L<=1000000000000) (hz0:0<=z) :
 Calls Tryz.prog 230 #[x] w fun e w'=>(∃ s:ByteArray,s.size=yal z.natAbs/\e=.returned (.string s))/\Ext w w':=by
 have H:=Lib.hid h;obtain ⟨neg,v,ds,rfl,⟨A,c,rfl,h1,h2,h3⟩,hz,hl⟩:=h;clear h3 hz;go_enter Tryz.func230,Tryz.ntmps230;go_wp2_with fail;generalize hW:w.alloc (Obj.cells #[.bool neg,.slice A ds.length c] 33)=W;have HX0:Hid (Ext w W):=by
  have:Ext w W:=by rw [<- hW]; exact (Ext.refl w).alloc _
  exact this
 have HWS:Hid (W.heap.size=w.heap.size+1):=by
  have:W.heap.size=w.heap.size+1:=by rw [<- hW]; simp
  exact this
 have HS:Hid (∀ W',Ext W W'->(Ext w W'/\W'.cell? ⟨w.heap.size,0,none⟩=some (.bool neg)/\W'.cell? ⟨w.heap.size,1,none⟩=some (.slice A ds.length c))):=by
  intro W' hx;obtain ⟨hc,hf⟩:=hx.cells;have hsz:=HWS.out;refine ⟨HX0.out.trans hx,?_,?_⟩ <;> (rw [hc _ _ (by omega),<- hW]; simp [go_sem])
 clear hW;obtain ⟨e0,b0,b1⟩:=HS.out W (Ext.refl W);refine (qbz _ z L _ (H.out.ext e0) hs hz0).mono ?_;rintro e w2 ⟨⟨s,hs1,rfl⟩,y2⟩;have HS1:=Lib.hid hs1;clear e0 b0 b1 hs1;go_wp2_with fail;go_ret;exact ⟨⟨s,HS1.out,rfl⟩,HX0.out.trans y2⟩
theorem kb1 (x:Value) (z:Int) (L:Nat) (w:World) (h:yh w x z L) (hs:L<=1000000000000) :
 Calls Tryz.prog 196 #[x] w fun e w'=>e=.returned (.int .i64 (yal z.natAbs:Nat))/\Ext w w':=by
 have H:=Lib.hid h;obtain ⟨neg,v,ds,rfl,⟨A,c,rfl,h1,h2,h3⟩,hz,hl⟩:=h;have HL:Hid ((dg z.natAbs).length<=L):=H.out.len;clear h3 hz;go_enter Tryz.func196,Tryz.ntmps196;go_wp2_with fail;generalize hW:w.alloc (Obj.cells #[.bool neg,.slice A ds.length c] 33)=W;have HX0:Hid (Ext w W):=by
  have:Ext w W:=by rw [<- hW]; exact (Ext.refl w).alloc _
  exact this
 have HWS:Hid (W.heap.size=w.heap.size+1):=by
  have:W.heap.size=w.heap.size+1:=by rw [<- hW]; simp
  exact this
 have HS:Hid (∀ W',Ext W W'->(Ext w W'/\W'.cell? ⟨w.heap.size,0,none⟩=some (.bool neg)/\W'.cell? ⟨w.heap.size,1,none⟩=some (.slice A ds.length c))):=by
  intro W' hx;obtain ⟨hc,hf⟩:=hx.cells;have hsz:=HWS.out;refine ⟨HX0.out.trans hx,?_,?_⟩ <;> (rw [hc _ _ (by omega),<- hW]; simp [go_sem])
 clear hW;obtain ⟨e0,b0,b1⟩:=HS.out W (Ext.refl W);refine (jcs _ z L _ (H.out.ext e0) (by omega)).mono ?_;rintro e w1 ⟨x1,rfl,n1,y1⟩;have Y1:=Lib.hid y1;have N1:=Lib.hid n1;clear e0 b0 b1 y1 n1;go_wp2_with fail;refine (xb1 _ (z.natAbs:Int) L _ (N1.out.raw.mono HL.out) hs (by omega)).mono ?_;rw [Int.natAbs_natCast];rintro e w2 ⟨⟨s,hs1,rfl⟩,y2⟩;go_wp2_with fail;go_ret;exact ⟨rfl,HX0.out.trans (Y1.out.trans y2)⟩
end Go.Proofs.YtcfcjabgkfehlaaGreat
