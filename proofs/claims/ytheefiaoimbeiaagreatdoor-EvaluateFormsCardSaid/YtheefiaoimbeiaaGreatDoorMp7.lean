/- Layer 4 (decimal): Format, its length; Digits. -/
import Derived.Test.YtheefiaoimbeiaaGreatDoorMp6
import Derived.Deep.AppendLies
import Derived.Lib.MinMax
set_option linter.unusedSimpArgs false
set_option linter.unusedVariables false

set_option maxRecDepth 100000
set_option maxHeartbeats 8000000
namespace Go.Proofs.YtheefiaoimbeiaaGreatDoor
open Lib (hid)
open Go.RowKit
def kd3 (w:World) (base:Nat) (v:Value) (len:Nat):Prop:=∃ xs:List Value,w.ownsRow base 5 1 v len xs/\∀ u ∈ xs,∃ b:Nat,b < 256/\u=.int .u8 (b:Nat)
theorem ugf:(Tryz.prog.info? 5).map (fun i=>(i.zero,i.size,i.bytes))=some (some (.int .u8 0),1,1):=by kernel_rfl
def jd3 (w:World) (v s8:Value) (R:Nat):Prop:=∃ (A:Option Addr) (c:Nat) (ds:List Nat),s8=.slice A ds.length c/\ds.length<=c/\c<=9223372036854775807/\ds.length<=17592186044416/\ydm w A ds/\val ds=R/\(0 < ds.length->∀ ad,A=some ad->v.ownBlock ≠ some ad.block)
theorem jd3.zA {w:World} {v s8:Value} {R:Nat} (h:jd3 w v s8 R):∃ ds,zb1 w s8 ds/\val ds=R/\ds.length<=17592186044416:=by
 obtain ⟨A,c,ds,e,h1,h2,h3,h4,h5,h6⟩:=h;exact ⟨ds,⟨A,c,e,h1,h2,h4⟩,h5,h3⟩
theorem yfc {w w' : World} {base len R b : Nat} {v v' s8 : Value} {xs : List Value} (aen : w'.ownsRow base 5 1 v' (len + 1) (xs ++ [.int .u8 (b : Nat)])) (hx : ∀ u ∈ xs, ∃ b : Nat, b < 256 /\ u = .int .u8 (b : Nat)) (hb : b < 256)
 (hg:w.grownBy w' v.ownBlock) (hat:v'.ownBlock=v.ownBlock\/v'.ownBlock=some w.heap.size) (hr:jd3 w v s8 R):kd3 w' base v' (len+1)/\jd3 w' v' s8 R:=by
 refine ⟨⟨_,aen,fun u hu=>?_⟩,?_⟩
 · rcases rq.1 hu with h | h
   · exact hx u h
   · exact ⟨b,hb,by simpa using h⟩
 · obtain ⟨A,c,ds,e,h1,h2,h3,h4,h5,h6⟩:=hr;refine ⟨A,c,ds,e,h1,h2,h3,⟨h4.1,fun hl=>?_⟩,h5,fun hl ad e'=>?_⟩
   · obtain ⟨ad,e',hb',hc'⟩:=h4.2 hl;refine ⟨ad,e',pr hb' hg.size,fun j hj=>?_⟩;have hne:=h6 hl ad e';rw [ph (hg.block _ (by rw [zc1]; exact hb') (by rw [zc1]; exact fun e=>hne e.symm))];exact hc' j hj
   · rcases hat with h | h
     · rw [h]; exact h6 hl ad e'
     · rw [h];intro e2;injection e2 with e2
       obtain ⟨ad',e3,hb',-⟩:=h4.2 hl;rw [e'] at e3;injection e3 with e3
       subst e3;omega
theorem wfi (n:Nat):more n<=10 * (dg n).length:=by
 apply uev;have h:=gdu n;have h2:B32 ^ (dg n).length<=(10 ^ 10) ^ (dg n).length:=tT (by decide) _;rw [<- Nat.pow_mul] at h2;omega
def FmtInv (w0:World) (N R:Nat) (s7 s8:Value) (wr:World):Prop:=∃ len,kd3 wr w0.heap.size s7 len/\jd3 wr s7 s8 R/\len+more R=more N/\Ext w0 wr
def yex (last:Bool) (len' len p p0 i:Nat):Prop:=if last then len'+more p=len+more p0/\i+more p<=9 else len'=len+i
def zfm (w0:World) (R' len p0:Nat) (last:Bool) (vq:Value) (i p:Nat) (s7:Value) (wr:World):Prop:=
 ∃ len',kd3 wr w0.heap.size s7 len'/\jd3 wr s7 vq R'/\yex last len' len p p0 i/\Ext w0 wr
theorem jd3.kept {w w':World} {v s8:Value} {R:Nat} (h:jd3 w v s8 R) (hx:Ext w w'):jd3 w' v s8 R:=by
 obtain ⟨A,c,ds,e,h1,h2,h3,h4,h5,h6⟩:=h;exact ⟨A,c,ds,e,h1,h2,h3,h4.ext hx,h5,h6⟩
theorem kd3.lt {w:World} {base len:Nat} {v:Value} (h:kd3 w base v len):∀ g,v.ownBlock=some g->g < w.heap.size:=by
 intro g hg;obtain ⟨xs,⟨-,h2⟩,-⟩:=h;rcases h2 with ⟨rfl,-⟩ | ⟨g',cap,cur,rfl,-,hh,-⟩
 · simp [Value.ownBlock] at hg
 · have:g'=g:=by simpa [Value.ownBlock] using hg
   subst this;rcases rz g' w.heap.size with hlt | hge
   · exact hlt
   · rw [sY hge] at hh; cases hh
theorem kd3.kept {w w':World} {base len:Nat} {v:Value} (h:kd3 w base v len) (hx:Ext w w'):kd3 w' base v len:=by
 have hlt:=h.lt;obtain ⟨xs,h1,h2⟩:=h;exact ⟨xs,h1.kept (row:=none) ⟨hx.below.os,hx.below.tape,hx.below.output,hx.size,fun k hk _=>hx.below.block k hk⟩ (by cases hv:v.ownBlock <;> simp),h2⟩
theorem kd3.yP {w:World} {base len:Nat} {v:Value} (h:kd3 w base v len):∀ g,v.ownBlock=some g->base<=g:=by
 intro g hg;obtain ⟨xs,⟨-,h2⟩,-⟩:=h;rcases h2 with ⟨rfl,-⟩ | ⟨g',cap,cur,rfl,hb,-⟩
 · simp [Value.ownBlock] at hg
 · have:g'=g:=by simpa [Value.ownBlock] using hg
   subst this;exact hb
theorem Ext.grown {w0 w w':World} {row:Option Nat} (hx:Ext w0 w) (hg:w.grownBy w' row) (hr:∀ g,row=some g->w0.heap.size<=g):Ext w0 w':=
 Below.grown hx hg hx.size hr
theorem ues (ns:List Int) (s:ByteArray):(ns.foldl (fun r n=>r.push (UInt8.ofNat n.toNat)) s).size=s.size+ns.length:=by
 induction ns generalizing s with
 | nil=>simp
 | cons n r ih=>rw [List.foldl_cons,ih,ByteArray.size_push,py]; omega
theorem weu {w:World} {g n:Nat} (h:xdx w g n) (cap:Nat) :
 ∃ s:ByteArray,s.size=n/\(convert 243 9 (.slice (some ⟨g,0,none⟩) n cap)).run Tryz.prog w=.ok (.string s) w:=by
 have hex:∀ i,∃ b:Int,i < n->w.cell? ⟨g,i,none⟩=some (.int .u8 b):=fun i=>by
  by_cases hi:i < n
  · obtain ⟨b,-,hc,-⟩:=h.get i hi;exact ⟨b,fun _=>hc⟩
  · exact ⟨0,fun hh=>absurd hh hi⟩
 let f:Nat->Int:=fun i=>Classical.choose (hex i)
 have hf:∀ i,i < n->w.cell? ⟨g,i,none⟩=some (.int .u8 (f i)):=fun i hi=>Classical.choose_spec (hex i) hi
 have hl:=run_loadCells (P:=Tryz.prog) w ⟨g,0,none⟩ n (fun j=>.int .u8 (f j)) (fun j hj=>by rw [kdo,pH]; exact hf j hj);have hl2:(loadCells ⟨g,0,none⟩ n).run Tryz.prog w=.ok (((List.range n).map f).map (Value.int .u8)).toArray w:=by
  rw [hl,List.map_map]; rfl
 refine ⟨((List.range n).map f).foldl (fun r n=>r.push (UInt8.ofNat n.toNat)) ByteArray.empty,?_,?_⟩
 · rw [ues]; simp
 · rw [run_convert_bytes_string w 243 9 5 _ _ _ Tryz.underlying243 Tryz.underlying5 ss];exact run_bytesToString w _ n cap _ hl2
theorem jez {w0 wr wq : World} {R' len p0 i p len' b : Nat} {last : Bool} {vq v v' : Value} {xs : List Value} {o : Obj} (aen : (wr.ownsRow w0.heap.size 5 1 v len' xs)) (hxs : ∀ u ∈ xs, ∃ b : Nat, b < 256 /\ u = .int .u8 (b : Nat))
 (hr:jd3 wr v vq R') (hc:yex last len' len p p0 i) (hx:Ext w0 wr) (hgo:last=false\/p ≠ 0)
 (ad8:wq.ownsRow w0.heap.size 5 1 v' (len'+1) (xs ++ [.int .u8 (b:Nat)])) (hb:b < 256) (hg:(wr.alloc o).grownBy wq v.ownBlock) (hat:v'.ownBlock=v.ownBlock\/v'.ownBlock=some (wr.heap.size+1)) :
 zfm w0 R' len p0 last vq (i+1) (p / 10) v' wq:=by
 have adW:∀ g,v.ownBlock=some g->w0.heap.size<=g:=kd3.yP ⟨xs,aen,hxs⟩;obtain ⟨s1,s2⟩:=yfc ad8 hxs hb hg (by simpa using hat) (hr.kept ((Ext.refl wr).alloc o));refine ⟨len'+1,s1,s2,?_,(hx.alloc o).grown hg adW⟩;unfold yex at hc ⊢;cases last
 · simp at hc ⊢; omega
 · rcases hgo with h | h
   · cases h
   · simp only [if_true] at hc ⊢;have:=zek h;omega
theorem xfk (x:Value) (z:Int) (L:Nat) (w:World) (h:wdl w x z L) (hs:L<=1000000000000) (hz0:0<=z) :
 Calls Tryz.prog 152 #[x,.int .i64 10] w fun e w'=>(∃ s:ByteArray,s.size=qdx z.natAbs/\e=.returned (.string s))/\Ext w w':=by
 have H:=hid h;obtain ⟨neg,v,ds,rfl,⟨A,c,rfl,h1,h2,h3⟩,hz,hl⟩:=h;have H3:=hid h3;clear h3
 by_cases hzz:z=0
 · subst hzz;have hsz:(sgI 0 == 0)=true:=by decide
   have x0:Ext w (w.alloc (Obj.cells #[.bool neg,.slice A ds.length c] 25)):=(Ext.refl w).alloc _;have X0:=hid x0;clear x0 hz;go_enter Tryz.func152,Tryz.ntmps152;go_wp2_with fail;refine (wd7 _ 0 L _ (H.out.ext X0.out)).mono ?_;rintro e w1 ⟨rfl,y1⟩;have Y1:=hid y1;clear y1;go_wp2_with fail;go_ret;exact ⟨⟨_,by rw [gef (by decide)]; rfl,rfl⟩,X0.out.trans Y1.out⟩
 · have akG:neg=false:=by
    cases neg
    · rfl
    · exfalso; simp [sgn] at hz; omega
   subst akG;have hzv:z.natAbs=val ds:=by rw [hz]; exact gdo _ _
   have HZV:=hid hzv;have hsz:(sgI z == 0)=false:=by
    unfold sgI; rw [wd8 (by omega)]; rfl
   have HNZ:Hid (val ds ≠ 0):=by
    intro e;rw [e] at hzv;omega
   clear hz hzv hzz hz0;go_enter Tryz.func152,Tryz.ntmps152;go_wp2_with fail;have x0:Ext w (w.alloc (Obj.cells #[.bool false,.slice A ds.length c] 25)):=(Ext.refl w).alloc _;have hcA:∀ w',Ext (w.alloc (Obj.cells #[.bool false,.slice A ds.length c] 25)) w'->w'.cell? ⟨w.heap.size,0,none⟩=some (.bool false)/\w'.cell? ⟨w.heap.size,1,none⟩=some (.slice A ds.length c):=by
    intro w' hx;obtain ⟨hc,-⟩:=hx.cells;exact ⟨by rw [hc _ _ (by simp)]; simp [rQ],by rw [hc _ _ (by simp)]; simp [rQ]⟩
   have HCA:=hid hcA;have X0:=hid x0;refine (wd7 _ z L _ (H.out.ext x0)).mono ?_;generalize w.alloc (Obj.cells #[.bool false,.slice A ds.length c] 25)=W at *;clear hcA x0;rintro e w1 ⟨rfl,y1⟩;obtain ⟨c0,c1⟩:=HCA.out w1 y1;have Y1:=hid y1;clear y1;go_wp2_with (go_at_call 163; refine (zgi _).mono ?_; rintro e w' ⟨rfl,rfl⟩)
   have HI0:Hid (FmtInv w1 (val ds) (val ds) (.slice none 0 0) (.slice A ds.length c) w1):=
    ⟨0,⟨[],⟨by simp,.inl ⟨rfl,rfl⟩⟩,by simp⟩,⟨A,c,ds,rfl,h1,h2,by omega,H3.out.ext (X0.out.trans Y1.out),rfl,fun _ ad _=>by simp [Value.ownBlock]⟩,by omega,Ext.refl _⟩
   have hmb:more (val ds)<=10000000000000:=by
    have h4:=wfi (val ds);have h5:=xdk H3.out.1;omega
   go_loopg [7,8] (val ds) (fun gk s7 s8 wr=>Hid (FmtInv w1 (val ds) gk s7 s8 wr))
   case atStart=>exact HI0
   case round =>
    clear HI0;obtain ⟨len,ho,hr,hlen,hx⟩:=hrel.out;obtain ⟨d8,n8,v8,l8⟩:=hr.zA
    by_cases hR:gk=0
    · have hb8:(val d8 == 0)=true:=by rw [v8]; simp [hR]
      obtain ⟨c0,c1⟩:=HCA.out wr (Y1.out.trans hx);have alD:len=qdx z.natAbs:=by
       rw [hR,wej,uep HNZ.out] at hlen;rw [HZV.out];omega
      have aj2:=hid alD;have hlp:1<=len:=by rw [alD]; exact xe5 _
      have HX:=hid (X0.out.trans (Y1.out.trans hx));have hbl:w.heap.size<=w1.heap.size:=by have:=X0.out.size; have:=Y1.out.size; omega
      have aA1:len<=10000000000000:=by omega
      obtain ⟨xs,⟨hxl,aen⟩,hxs⟩:=ho;rcases aen with ⟨-,h0⟩ | ⟨g,cap,cur,rfl,hbg,hh,hnc,hcm,hcs,htk⟩
      · omega
      have hBB:xdx wr g len:=by
       refine ⟨cur,hh,by omega,fun i hi=>?_⟩;have hil:i < xs.length:=by omega
       obtain ⟨b,hb,hu⟩:=hxs xs[i] (pt hil);refine ⟨b,hb,?_⟩;have h5:(cur.toList.take (len * 1))[i]?=some xs[i]:=by rw [htk,pq hil]
       rw [List.getElem?_take_of_lt (by omega)] at h5;simpa [hu] using h5
      have HBB:=hid hBB;clear hrel hr hlen hx v8 alD hxl hxs hh hcs htk hBB;unfold maxLen at hcm;go_wp2_with fail;refine (ud0 _ _ _ n8).mono ?_;rintro e w' ⟨rfl,rfl⟩;go_wp2_with fail;refine (ue9 g len cap _ HBB.out hnc hcm).mono ?_;rintro e w5 ⟨rfl,hB5,hO5⟩;have HB5:=hid hB5;have HO5:=hid hO5;clear hB5 hO5;obtain ⟨str,hsl,ab3⟩:=weu HB5.out cap;have HSL:=hid hsl;clear hsl;go_wp2_with fail;go_ret;exact ⟨⟨str,by rw [HSL.out]; exact aj2.out,rfl⟩,HO5.out.ext HX.out (by omega)⟩
    · have hb8:(val d8 == 0)=false:=by rw [v8]; simp [hR]
      have HO:=hid ho;have HR:=hid hr;have HL:=hid hlen;have HX:=hid hx;have V8:=hid v8;have N8:=hid n8;clear hrel ho hr hlen hx v8 n8;go_wp2_with fail;refine (ud0 _ _ _ N8.out).mono ?_;rintro e w' ⟨rfl,rfl⟩;go_wp2_with fail;refine (gek _ _ 1000000000 _ N8.out (by omega) (by omega) (by omega)).mono ?_;rw [V8.out];rintro e w2 ⟨vq,rfl,nq,fq,y2⟩;have hp0:gk % 1000000000 < 1000000000:=rN _ (by omega);have HR2:Hid (jd3 w2 u7 vq (gk / 1000000000)):=by
       obtain ⟨Aq,cq,rfl,i1,i2,i3⟩:=nq;refine ⟨Aq,cq,_,rfl,i1,i2,?_,i3,zdk _,fun _ ad e hh=>?_⟩
       · have h6:=ydq (Nat.div_le_self gk 1000000000);have h7:=xdk N8.out.xi;rw [V8.out] at h7;omega
       · subst e;have h8:=fq ad _ _ rfl;have h9:=HO.out.lt _ hh;omega
      have HO2:=hid (HO.out.kept y2);have HX2:=hid (HX.out.trans y2);have NQ:=hid nq;clear nq fq y2;go_wp2_with fail;refine (ud0 _ _ _ NQ.out).mono ?_;rw [zdk];rintro e w' ⟨rfl,rfl⟩;obtain ⟨last,ad9⟩:∃ last,last=(gk / 1000000000 == 0):=⟨_,rfl⟩;rw [<- ad9];have aoj:=hid ad9;clear ad9;go_wp2_with fail;have HIN:Hid (zfm w1 (gk / 1000000000) len (gk % 1000000000) last vq 0 (gk % 1000000000) u7 w2):=by
       refine ⟨len,HO2.out,HR2.out,?_,HX2.out⟩;unfold yex;cases last
       · simp
       · simp only [if_true];exact ⟨trivial,by have:=uev _ 9 hp0; omega⟩
      obtain ⟨wo,rfl⟩:∃ wo:World,wo=wr:=⟨_,rfl⟩;obtain ⟨i0,hi0,hz0,hz1,hz2⟩:=info_parts ugf;have HI0:=hid (And.intro hi0 (And.intro hz0 (And.intro hz1 hz2)));clear hi0 hz0 hz1 hz2;have avw:len<=10000000000000:=by have:=HL.out; omega
      go_loopw [7,9,11] (fun s7 pv iv wq=>∃ i p:Nat,i<=9/\iv=.int .i64 i/\pv=.int .u32 p/\p < 1000000000/\Hid (zfm w1 (gk / 1000000000) len (gk % 1000000000) last vq i p s7 wq)) (fun _ _ iv _=>9 - (intOf iv).toNat)
      case atStart=>exact ⟨0,gk % 1000000000,by omega,rfl,by simp,hp0,HIN⟩
      case round =>
       clear HIN;obtain ⟨i,p,hi,rfl,rfl,hp,HI⟩:=hrel;obtain ⟨len',ho',hr',hc',hx'⟩:=HI.out;have hl':len'<=20000000000000:=by
        unfold yex at hc';cases last
        · simp at hc'; omega
        · simp at hc';have:=uev _ 9 hp0;omega
       by_cases hgo:i < 9/\(last=false\/p ≠ 0)
       · obtain ⟨hi9,hgo⟩:=hgo;obtain ⟨xs,aen,hxs⟩:=ho';have HS:=hid hr';have HC:=hid hc';have HX':=hid hx';have HXS:=hid hxs;have ahN:=hid aen;clear HI hr' hc' hx' hxs aen;have aAI:p % 10 < 10:=rN _ (by omega)
         by_cases amP:last=false
         · subst amP;clear hgo
           go_wp2_with (at_builtin
                        refine wpList_append_own_at _ rfl (.tmp 47) (.tmp 53) _ rfl w1.heap.size 5 i0 (.int .u8 0) 1 1 Tryz.underlying243 HI0.out.1 HI0.out.2.1 HI0.out.2.2.1 HI0.out.2.2.2 rfl (by omega) _ len' xs rfl (ahN.out.alloc _) ⟨wr.heap.size,0,none⟩ 1 1 _ rfl rfl (World.news_of_block (heap_alloc_new wr _)) ?_ ?_ ?_ ?_ ?_)
           · simp [Value.oneCell']
           · unfold maxLen; omega
           · omega
           · have:=HX'.out.size; simp; omega
           · intro v' wq ad8 hg' _ afH;have afT:=hid (jez ahN.out HXS.out HS.out HC.out HX'.out (.inl rfl) ad8 (UInt8.toNat_lt _) hg' afH);clear ad8 hg' afH ahN HXS HS HC HX';go_wp2_with fail
             go_roundw
             case rel=>exact ⟨i+1,p / 10,by omega,by go_num,by simp,by omega,afT⟩
             case measure=>simp [intOf]; omega
         · have ava:p ≠ 0:=by
             rcases hgo with h | h
             · exact absurd h amP
             · exact h
           clear hgo;cases last
           · exact absurd rfl amP
           · clear amP;have hpb:((p:Int) != 0)=true:=by simp; omega
             go_wp2_with (at_builtin
                          refine wpList_append_own_at _ rfl (.tmp 47) (.tmp 53) _ rfl w1.heap.size 5 i0 (.int .u8 0) 1 1 Tryz.underlying243 HI0.out.1 HI0.out.2.1 HI0.out.2.2.1 HI0.out.2.2.2 rfl (by omega) _ len' xs rfl (ahN.out.alloc _) ⟨wr.heap.size,0,none⟩ 1 1 _ rfl rfl (World.news_of_block (heap_alloc_new wr _)) ?_ ?_ ?_ ?_ ?_)
             · simp [Value.oneCell']
             · unfold maxLen; omega
             · omega
             · have:=HX'.out.size; simp; omega
             · intro v' wq ad8 hg' _ afH;have afT:=hid (jez ahN.out HXS.out HS.out HC.out HX'.out (.inr ava) ad8 (UInt8.toNat_lt _) hg' afH);clear ad8 hg' afH ahN HXS HS HC HX';go_wp2_with fail
               go_roundw
               case rel=>exact ⟨i+1,p / 10,by omega,by go_num,by simp,by omega,afT⟩
               case measure=>simp [intOf]; omega
       · have arV:len'+more (gk / 1000000000)=more (val ds):=by
          have hL:=HL.out;unfold yex at hc';cases last
          · have h9:i=9:=by
             rcases rz i 9 with h | h
             · exact absurd ⟨h,.inl rfl⟩ hgo
             · omega
            have hq:gk / 1000000000 ≠ 0:=by
             have:=aoj.out;intro e;rw [e] at this;simp at this
            have h10:10 ^ 9<=gk:=by
             rcases rz gk (10 ^ 9) with h | h
             · exact absurd (sE h) hq
             · exact h
            have h11:=gfi 9 gk h10;simp at hc';have h12:(10:Nat) ^ 9=1000000000:=by decide
            rw [h12] at h11;omega
          · have hq:gk / 1000000000=0:=by
             have:=aoj.out;simpa using this.symm
            have hgp:gk % 1000000000=gk:=by omega
            have aAJ:more p=0:=by
             rcases rz i 9 with h | h
             · have:p=0:=Decidable.byContradiction fun hne=>hgo ⟨h,.inr hne⟩
               rw [this]; rfl
             · simp only [if_true] at hc'; omega
            simp only [if_true] at hc';rw [hq,hgp] at *;rw [wej];omega
         have HS2:Hid (FmtInv w1 (val ds) (gk / 1000000000) u7 vq wr):=⟨len',ho',hr',arV,hx'⟩;have ahz:gk / 1000000000 < gk:=Nat.div_lt_self (by omega) (by omega);have hb:(decide ((i:Int) < 9)=false)\/(decide ((i:Int) < 9)=true/\last=true/\p=0):=by
          rcases rz i 9 with h | h
          · right
            refine ⟨by simp; omega,?_,Decidable.byContradiction fun hne=>hgo ⟨h,.inr hne⟩⟩;cases last
            · exact absurd ⟨h,.inl rfl⟩ hgo
            · rfl
          · left; simp; omega
         clear HI ho' hr' hc' hx' arV hgo;rcases hb with hb | ⟨hb,hb2,hb3⟩
         · go_wp2_with fail
           go_roundg (gk / 1000000000)
           case rel=>exact HS2
           case measure=>exact ahz
         · subst hb2;subst hb3;go_wp2_with fail
           go_roundg (gk / 1000000000)
           case rel=>exact HS2
           case measure=>exact ahz
theorem wfl (x:Value) (z:Int) (L:Nat) (w:World) (h:wdl w x z L) (hs:L<=1000000000000) (hz0:0<=z) :
 Calls Tryz.prog 135 #[x] w fun e w'=>(∃ s:ByteArray,s.size=qdx z.natAbs/\e=.returned (.string s))/\Ext w w':=by
 have H:=hid h;obtain ⟨neg,v,ds,rfl,⟨A,c,rfl,h1,h2,h3⟩,hz,hl⟩:=h;clear h3 hz;go_enter Tryz.func135,Tryz.ntmps135;go_wp2_with fail;generalize hW:w.alloc (Obj.cells #[.bool neg,.slice A ds.length c] 25)=W;have HX0:Hid (Ext w W):=by
  have:Ext w W:=by rw [<- hW]; exact (Ext.refl w).alloc _
  exact this
 have HWS:Hid (W.heap.size=w.heap.size+1):=by
  have:W.heap.size=w.heap.size+1:=by rw [<- hW]; simp
  exact this
 have HS:Hid (∀ W',Ext W W'->(Ext w W'/\W'.cell? ⟨w.heap.size,0,none⟩=some (.bool neg)/\W'.cell? ⟨w.heap.size,1,none⟩=some (.slice A ds.length c))):=by
  intro W' hx;obtain ⟨hc,hf⟩:=hx.cells;have hsz:=HWS.out;refine ⟨HX0.out.trans hx,?_,?_⟩ <;> (rw [hc _ _ (by omega),<- hW]; simp [go_sem])
 clear hW;obtain ⟨e0,b0,b1⟩:=HS.out W (Ext.refl W);refine (xfk _ z L _ (H.out.ext e0) hs hz0).mono ?_;rintro e w2 ⟨⟨s,hs1,rfl⟩,y2⟩;have HS1:=hid hs1;clear e0 b0 b1 hs1;go_wp2_with fail;go_ret;exact ⟨⟨s,HS1.out,rfl⟩,HX0.out.trans y2⟩
theorem keu (x:Value) (z:Int) (L:Nat) (w:World) (h:wdl w x z L) (hs:L<=1000000000000) :
 Calls Tryz.prog 109 #[x] w fun e w'=>e=.returned (.int .i64 (qdx z.natAbs:Nat))/\Ext w w':=by
 have H:=hid h;obtain ⟨neg,v,ds,rfl,⟨A,c,rfl,h1,h2,h3⟩,hz,hl⟩:=h;have HL:Hid ((dg z.natAbs).length<=L):=H.out.len;clear h3 hz;go_enter Tryz.func109,Tryz.ntmps109;go_wp2_with fail;generalize hW:w.alloc (Obj.cells #[.bool neg,.slice A ds.length c] 25)=W;have HX0:Hid (Ext w W):=by
  have:Ext w W:=by rw [<- hW]; exact (Ext.refl w).alloc _
  exact this
 have HWS:Hid (W.heap.size=w.heap.size+1):=by
  have:W.heap.size=w.heap.size+1:=by rw [<- hW]; simp
  exact this
 have HS:Hid (∀ W',Ext W W'->(Ext w W'/\W'.cell? ⟨w.heap.size,0,none⟩=some (.bool neg)/\W'.cell? ⟨w.heap.size,1,none⟩=some (.slice A ds.length c))):=by
  intro W' hx;obtain ⟨hc,hf⟩:=hx.cells;have hsz:=HWS.out;refine ⟨HX0.out.trans hx,?_,?_⟩ <;> (rw [hc _ _ (by omega),<- hW]; simp [go_sem])
 clear hW;obtain ⟨e0,b0,b1⟩:=HS.out W (Ext.refl W);refine (jgi _ z L _ (H.out.ext e0) (by omega)).mono ?_;rintro e w1 ⟨x1,rfl,n1,y1⟩;have Y1:=hid y1;have N1:=hid n1;clear e0 b0 b1 y1 n1;go_wp2_with fail;refine (wfl _ (z.natAbs:Int) L _ (N1.out.raw.mono HL.out) hs (by omega)).mono ?_;rw [rP];rintro e w2 ⟨⟨s,hs1,rfl⟩,y2⟩;go_wp2_with fail;go_ret;exact ⟨rfl,HX0.out.trans (Y1.out.trans y2)⟩
attribute [local go_sem] uds ydr qdt kds zdt wds vds ydp xdr gds xdt udv qdn ydt xdp
def Tm.wt : Tm -> Int
 | .num z=>xdm (qdx z.natAbs:Nat)
 | .name _=>1
 | .add a b=>xdm (wdj a.wt b.wt+1)
 | .sub a b=>xdm (wdj a.wt b.wt+1)
 | .mul a b=>xdm (a.wt+b.wt)
 | .neg a=>a.wt
 | .pow a e=>kdx (wdj e 1) a.wt
theorem kdy {n:Int} (h:1<=n):1<=xdm n/\xdm n<=2147483647:=by unfold xdm; split <;> omega
theorem zfp {a b:Int} (h:1<=a) (k:1<=b):1<=kdx a b/\kdx a b<=2147483647:=by
 have h1:=kdy h;have h2:=kdy k;have:=tQ h1.1 h2.1 (by omega) (by omega);exact kdy (by simpa using this)
theorem Tm.qx (t:Tm):1<=t.wt/\t.wt<=2147483647:=by
 induction t with
 | num z=>exact kdy (by have:=xe5 z.natAbs; omega)
 | name s=>simp [Tm.wt]
 | add a b iha ihb=>have:=geb iha.1 iha.2 ihb.1 ihb.2; exact kdy (by omega)
 | sub a b iha ihb=>have:=geb iha.1 iha.2 ihb.1 ihb.2; exact kdy (by omega)
 | mul a b iha ihb=>exact kdy (by omega)
 | neg a iha=>exact iha
 | pow a e iha=>exact zfp (by unfold wdj; split <;> omega) iha.1
theorem jgj {w0 w:World} {L:Nat} {a b:Tm} {v:Value} (h:TmV w0 L (.add a b) v) (iha:∀ (v:Value) (w:World),Ext w0 w->TmV w0 L a v->Calls Tryz.prog 74 #[v] w (zdn a.wt w)) (ihb:∀ (v:Value) (w:World),Ext w0 w->TmV w0 L b v->Calls Tryz.prog 74 #[v] w (zdn b.wt w)) (hx0:Ext w0 w) :
 Calls Tryz.prog 74 #[v] w (zdn (xdm (wdj a.wt b.wt+1)) w):=by
 have ha:=a.qx;have hb:=b.qx;have IHA:=hid iha;have IHB:=hid ihb;obtain ⟨x,y,rfl,hx,hy⟩:=h;have HX:=hid hx;have HY:=hid hy;obtain ⟨T,x,rfl⟩:=hx.iface;obtain ⟨U,y,rfl⟩:=hy.iface;clear hx hy iha ihb;generalize a.wt=da at *;generalize b.wt=db at *;have hwm:IntKind.i64.wrap (max da db+1)=wdj da db+1:=by
  have hm:max da db=wdj da db:=by rw [Int.max_def]; unfold wdj; split <;> split <;> omega
  have hm':=geb ha.1 ha.2 hb.1 hb.2;rw [hm]; exact so _ (by omega)
 go_enter uB,tX;go_wp2_with fail;obtain ⟨W,hW⟩:=n_m (w.alloc (.cells #[.iface T x,.iface U y] 175));have HB:Hid (∀ W',Ext W W'->(Ext W W'/\W'.cell? ⟨w.heap.size,0,none⟩=some (.iface T x)/\W'.cell? ⟨w.heap.size,1,none⟩=some (.iface U y))):=by
  intro W' hx;obtain ⟨hc,hf⟩:=hx.cells;refine ⟨hx,?_,?_⟩ <;> (rw [hc _ _ (by rw [<- hW]; simp),<- hW]; simp [go_sem])
 have HX0:Hid (Ext w W):=by
  have:Ext w W:=by rw [<- hW]; exact (Ext.refl w).alloc _
  exact this
 have HXW:=hid (hx0.trans HX0.out);clear hx0;rw [hW];clear hW
 go_region_held3 (fun W' => Ext W W' /\ W'.cell? ⟨w.heap.size, 0, none⟩ = some (.iface T x) /\ W'.cell? ⟨w.heap.size, 1, none⟩ = some (.iface U y))
  (first | exact HB.out _ ((Ext.refl W).drew) | exact HB.out _ (by assumption))
  (first
    | (go_at_call_of 74 (Value.iface T x)
       refine (IHA.out _ _ (HXW.out.trans ((Ext.refl W).drew)) HX.out).mono ?_;rintro e v1 ⟨rfl,x1⟩
       have y1:Ext W v1:=Ext.trans ((Ext.refl W).drew) x1)
    | (go_at_call_of 74 (Value.iface U y)
       refine (IHB.out _ _ (HXW.out.trans y1) HY.out).mono ?_;rintro e v2 ⟨rfl,x2⟩
       have y2:Ext W v2:=Ext.trans y1 x2)
    | (go_at_call 107
       refine (zdy _ _).mono ?_
       rintro e v3 ⟨rfl,rfl⟩))
 have HY2:=hid (HX0.out.trans y2);clear y1 y2 x1 x2 HB HX0;go_wp2_with fail;go_ret;exact ⟨rfl,HY2.out⟩
theorem wgi {w0 w:World} {L:Nat} {a b:Tm} {v:Value} (h:TmV w0 L (.sub a b) v) (iha:∀ (v:Value) (w:World),Ext w0 w->TmV w0 L a v->Calls Tryz.prog 74 #[v] w (zdn a.wt w)) (ihb:∀ (v:Value) (w:World),Ext w0 w->TmV w0 L b v->Calls Tryz.prog 74 #[v] w (zdn b.wt w)) (hx0:Ext w0 w) :
 Calls Tryz.prog 74 #[v] w (zdn (xdm (wdj a.wt b.wt+1)) w):=by
 have ha:=a.qx;have hb:=b.qx;have IHA:=hid iha;have IHB:=hid ihb;obtain ⟨x,y,rfl,hx,hy⟩:=h;have HX:=hid hx;have HY:=hid hy;obtain ⟨T,x,rfl⟩:=hx.iface;obtain ⟨U,y,rfl⟩:=hy.iface;clear hx hy iha ihb;generalize a.wt=da at *;generalize b.wt=db at *;have hwm:IntKind.i64.wrap (max da db+1)=wdj da db+1:=by
  have hm:max da db=wdj da db:=by rw [Int.max_def]; unfold wdj; split <;> split <;> omega
  have hm':=geb ha.1 ha.2 hb.1 hb.2;rw [hm]; exact so _ (by omega)
 go_enter uB,tX;go_wp2_with fail;obtain ⟨W,hW⟩:=n_m (w.alloc (.cells #[.iface T x,.iface U y] 176));have HB:Hid (∀ W',Ext W W'->(Ext W W'/\W'.cell? ⟨w.heap.size,0,none⟩=some (.iface T x)/\W'.cell? ⟨w.heap.size,1,none⟩=some (.iface U y))):=by
  intro W' hx;obtain ⟨hc,hf⟩:=hx.cells;refine ⟨hx,?_,?_⟩ <;> (rw [hc _ _ (by rw [<- hW]; simp),<- hW]; simp [go_sem])
 have HX0:Hid (Ext w W):=by
  have:Ext w W:=by rw [<- hW]; exact (Ext.refl w).alloc _
  exact this
 have HXW:=hid (hx0.trans HX0.out);clear hx0;rw [hW];clear hW
 go_region_held3 (fun W' => Ext W W' /\ W'.cell? ⟨w.heap.size, 0, none⟩ = some (.iface T x) /\ W'.cell? ⟨w.heap.size, 1, none⟩ = some (.iface U y))
  (first | exact HB.out _ ((Ext.refl W).drew) | exact HB.out _ (by assumption))
  (first
    | (go_at_call_of 74 (Value.iface T x)
       refine (IHA.out _ _ (HXW.out.trans ((Ext.refl W).drew)) HX.out).mono ?_;rintro e v1 ⟨rfl,x1⟩
       have y1:Ext W v1:=Ext.trans ((Ext.refl W).drew) x1)
    | (go_at_call_of 74 (Value.iface U y)
       refine (IHB.out _ _ (HXW.out.trans y1) HY.out).mono ?_;rintro e v2 ⟨rfl,x2⟩
       have y2:Ext W v2:=Ext.trans y1 x2)
    | (go_at_call 107
       refine (zdy _ _).mono ?_
       rintro e v3 ⟨rfl,rfl⟩))
 have HY2:=hid (HX0.out.trans y2);clear y1 y2 x1 x2 HB HX0;go_wp2_with fail;go_ret;exact ⟨rfl,HY2.out⟩
theorem qgj {w0 w:World} {L:Nat} {a b:Tm} {v:Value} (h:TmV w0 L (.mul a b) v) (iha:∀ (v:Value) (w:World),Ext w0 w->TmV w0 L a v->Calls Tryz.prog 74 #[v] w (zdn a.wt w)) (ihb:∀ (v:Value) (w:World),Ext w0 w->TmV w0 L b v->Calls Tryz.prog 74 #[v] w (zdn b.wt w)) (hx0:Ext w0 w) :
 Calls Tryz.prog 74 #[v] w (zdn (xdm (a.wt+b.wt)) w):=by
 have ha:=a.qx;have hb:=b.qx;have IHA:=hid iha;have IHB:=hid ihb;obtain ⟨x,y,rfl,hx,hy⟩:=h;have HX:=hid hx;have HY:=hid hy;obtain ⟨T,x,rfl⟩:=hx.iface;obtain ⟨U,y,rfl⟩:=hy.iface;clear hx hy iha ihb;generalize a.wt=da at *;generalize b.wt=db at *;have hwr:IntKind.i64.wrap (da+db)=da+db:=so _ (by omega);go_enter uB,tX;go_wp2_with fail;obtain ⟨W,hW⟩:=n_m (w.alloc (.cells #[.iface T x,.iface U y] 177));have HB:Hid (∀ W',Ext W W'->(Ext W W'/\W'.cell? ⟨w.heap.size,0,none⟩=some (.iface T x)/\W'.cell? ⟨w.heap.size,1,none⟩=some (.iface U y))):=by
  intro W' hx;obtain ⟨hc,hf⟩:=hx.cells;refine ⟨hx,?_,?_⟩ <;> (rw [hc _ _ (by rw [<- hW]; simp),<- hW]; simp [go_sem])
 have HX0:Hid (Ext w W):=by
  have:Ext w W:=by rw [<- hW]; exact (Ext.refl w).alloc _
  exact this
 have HXW:=hid (hx0.trans HX0.out);clear hx0;rw [hW];clear hW
 go_region_held3 (fun W' => Ext W W' /\ W'.cell? ⟨w.heap.size, 0, none⟩ = some (.iface T x) /\ W'.cell? ⟨w.heap.size, 1, none⟩ = some (.iface U y))
  (first | exact HB.out _ ((Ext.refl W).drew) | exact HB.out _ (by assumption))
  (first
    | (go_at_call_of 74 (Value.iface T x)
       refine (IHA.out _ _ (HXW.out.trans ((Ext.refl W).drew)) HX.out).mono ?_;rintro e v1 ⟨rfl,x1⟩
       have y1:Ext W v1:=Ext.trans ((Ext.refl W).drew) x1)
    | (go_at_call_of 74 (Value.iface U y)
       refine (IHB.out _ _ (HXW.out.trans y1) HY.out).mono ?_;rintro e v2 ⟨rfl,x2⟩
       have y2:Ext W v2:=Ext.trans y1 x2)
    | (go_at_call 107
       refine (zdy _ _).mono ?_
       rintro e v3 ⟨rfl,rfl⟩))
 have HY2:=hid (HX0.out.trans y2);clear y1 y2 x1 x2 HB HX0;go_wp2_with fail;go_ret;exact ⟨rfl,HY2.out⟩
theorem xgj {w0 w:World} {L:Nat} {a:Tm} {v:Value} (h:TmV w0 L (.neg a) v) (iha:∀ (v:Value) (w:World),Ext w0 w->TmV w0 L a v->Calls Tryz.prog 74 #[v] w (zdn a.wt w)) (hx0:Ext w0 w) :
 Calls Tryz.prog 74 #[v] w (zdn a.wt w):=by
 have IHA:=hid iha;obtain ⟨x,rfl,hx⟩:=h;have HX:=hid hx;obtain ⟨T,x,rfl⟩:=hx.iface;clear hx iha;go_enter uB,tX;go_wp2_with fail;refine (IHA.out _ _ (hx0.trans ((Ext.refl w).alloc _)) HX.out).mono ?_;rintro e v1 ⟨rfl,x1⟩;have X1:=hid (Ext.trans ((Ext.refl w).alloc _) x1);clear x1;go_wp2_with fail;go_ret;exact ⟨rfl,X1.out⟩
theorem zgj {w0 w:World} {L:Nat} {a:Tm} {n:Int} {v:Value} (h:TmV w0 L (.pow a n) v) (iha:∀ (v:Value) (w:World),Ext w0 w->TmV w0 L a v->Calls Tryz.prog 74 #[v] w (zdn a.wt w)) (hx0:Ext w0 w) :
 Calls Tryz.prog 74 #[v] w (zdn (kdx (wdj n 1) a.wt) w):=by
 have ha:=a.qx;have IHA:=hid iha;obtain ⟨x,rfl,hx⟩:=h;have HX:=hid hx;obtain ⟨T,x,rfl⟩:=hx.iface;clear hx iha;generalize a.wt=da at *
 by_cases hlt:n < 1
 · rw [show wdj n 1=1 from if_pos hlt];have hif:(if n < 1 then (1:Int) else n)=1:=if_pos hlt;have hde:decide (n < 1)=true:=by simpa using hlt
   have hma:max n 1=1:=by omega
   go_enter uB,tX;go_wp2_with fail;obtain ⟨W,hW⟩:=n_m (w.alloc (.cells #[.iface T x,.int .i64 n] 173));have HB:Hid (∀ W',Ext W W'->(Ext W W'/\W'.cell? ⟨w.heap.size,0,none⟩=some (.iface T x)/\W'.cell? ⟨w.heap.size,1,none⟩=some (.int .i64 n))):=by
    intro W' hx;obtain ⟨hc,hf⟩:=hx.cells;refine ⟨hx,?_,?_⟩ <;> (rw [hc _ _ (by rw [<- hW]; simp),<- hW]; simp [go_sem])
   have HX0:Hid (Ext w W):=by
    have:Ext w W:=by rw [<- hW]; exact (Ext.refl w).alloc _
    exact this
   have HXW:=hid (hx0.trans HX0.out);clear hx0;rw [hW];clear hW
   go_region_held3 (fun W' => Ext W W' /\ W'.cell? ⟨w.heap.size, 0, none⟩ = some (.iface T x) /\ W'.cell? ⟨w.heap.size, 1, none⟩ = some (.int .i64 n))
    (first | exact HB.out _ ((Ext.refl W).drew) | exact HB.out _ (by assumption))
    (first
      | (go_at_call 74
         refine (IHA.out _ _ (HXW.out.trans ((Ext.refl W).drew)) HX.out).mono ?_;rintro e v1 ⟨rfl,x1⟩
         have y1:Ext W v1:=Ext.trans ((Ext.refl W).drew) x1)
      | (go_at_call 108
         refine (vd9 (1) da _ (by omega) (by omega)).mono ?_
         rintro e v2 ⟨rfl,rfl⟩))
   all_goals
    have HY2:=hid (HX0.out.trans y1);clear y1 x1 HB HX0;go_wp2_with fail;go_ret;exact ⟨rfl,HY2.out⟩
 · rw [show wdj n 1=n from if_neg hlt];have hge:1<=n:=by omega
   have hif:(if n < 1 then (1:Int) else n)=n:=if_neg hlt;have hde:decide (n < 1)=false:=by simpa using hlt
   have hma:max n 1=n:=by omega
   go_enter uB,tX;go_wp2_with fail;obtain ⟨W,hW⟩:=n_m (w.alloc (.cells #[.iface T x,.int .i64 n] 173));have HB:Hid (∀ W',Ext W W'->(Ext W W'/\W'.cell? ⟨w.heap.size,0,none⟩=some (.iface T x)/\W'.cell? ⟨w.heap.size,1,none⟩=some (.int .i64 n))):=by
    intro W' hx;obtain ⟨hc,hf⟩:=hx.cells;refine ⟨hx,?_,?_⟩ <;> (rw [hc _ _ (by rw [<- hW]; simp),<- hW]; simp [go_sem])
   have HX0:Hid (Ext w W):=by
    have:Ext w W:=by rw [<- hW]; exact (Ext.refl w).alloc _
    exact this
   have HXW:=hid (hx0.trans HX0.out);clear hx0;rw [hW];clear hW
   go_region_held3 (fun W' => Ext W W' /\ W'.cell? ⟨w.heap.size, 0, none⟩ = some (.iface T x) /\ W'.cell? ⟨w.heap.size, 1, none⟩ = some (.int .i64 n))
    (first | exact HB.out _ ((Ext.refl W).drew) | exact HB.out _ (by assumption))
    (first
      | (go_at_call 74
         refine (IHA.out _ _ (HXW.out.trans ((Ext.refl W).drew)) HX.out).mono ?_;rintro e v1 ⟨rfl,x1⟩
         have y1:Ext W v1:=Ext.trans ((Ext.refl W).drew) x1)
      | (go_at_call 108
         refine (vd9 (n) da _ (by omega) (by omega)).mono ?_
         rintro e v2 ⟨rfl,rfl⟩))
   all_goals
    have HY2:=hid (HX0.out.trans y1);clear y1 x1 HB HX0;go_wp2_with fail;go_ret;exact ⟨rfl,HY2.out⟩
theorem ygj {w0 w:World} {L:Nat} {z:Int} {v:Value} (h:TmV w0 L (.num z) v) (hx0:Ext w0 w) (hs:L<=1000000000000):Calls Tryz.prog 74 #[v] w (zdn (xdm (qdx z.natAbs:Nat)) w):=by
 obtain ⟨x,rfl,hx⟩:=h;have HX:=hid (hx.ext hx0);obtain ⟨b,A,n,c,rfl⟩:=hx.unpack;clear hx;go_enter uB,tX;go_wp2_with fail;refine (keu _ z L _ (HX.out.ext ((Ext.refl w).alloc _)) hs).mono ?_;rintro e w1 ⟨rfl,x1⟩;have X1:=hid (Ext.trans ((Ext.refl w).alloc _) x1);clear x1;go_wp2_with fail;refine (zdy _ _).mono ?_;rintro e w1 ⟨rfl,rfl⟩;go_wp2_with fail;go_ret;exact ⟨rfl,X1.out⟩
theorem gf7 {w0 w:World} {L:Nat} {s:ByteArray} {v:Value} (h:TmV w0 L (.name s) v):Calls Tryz.prog 74 #[v] w (zdn 1 w):=by
 obtain rfl:=h;go_enter uB,tX;go_wp2_with fail;go_ret;exact ⟨rfl,Ext.refl _⟩
theorem zer {w0:World} {L:Nat} (hs:L<=1000000000000) (t:Tm):∀ (v:Value) (w:World),Ext w0 w->TmV w0 L t v->Calls Tryz.prog 74 #[v] w (zdn t.wt w):=by
 induction t with
 | num z=>exact fun v w hx h=>ygj h hx hs
 | name s=>exact fun v w hx h=>gf7 h
 | add a b iha ihb=>exact fun v w hx h=>jgj h iha ihb hx
 | sub a b iha ihb=>exact fun v w hx h=>wgi h iha ihb hx
 | mul a b iha ihb=>exact fun v w hx h=>qgj h iha ihb hx
 | neg a iha=>exact fun v w hx h=>xgj (a:=a) h iha hx
 | pow a n iha=>exact fun v w hx h=>zgj h iha hx
end Go.Proofs.YtheefiaoimbeiaaGreatDoor
