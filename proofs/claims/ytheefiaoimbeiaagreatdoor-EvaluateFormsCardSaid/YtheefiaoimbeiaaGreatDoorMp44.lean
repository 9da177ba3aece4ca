/- Reference 34: Parts, Bound: the subformulas, and the names of the quantifiers. -/
import Derived.Test.YtheefiaoimbeiaaGreatDoorMp43
import Derived.Test.YtheefiaoimbeiaaGreatDoorMp26
set_option linter.unusedSimpArgs false
set_option linter.unusedVariables false

set_option maxRecDepth 100000
set_option maxHeartbeats 8000000
namespace Go.Proofs.YtheefiaoimbeiaaGreatDoor
open Lib (hid)
open Go.RowKit
def Tr.parts (t:Tr):List Tr:=t.list.filter fun x=>!wdw x.d.kind
def Tr.jk (t:Tr):List ByteArray:=(t.parts.filter fun x=>x.d.kind == 15).map fun x=>x.d.name
theorem jdr.new {w W:World} {p:Nat->Prop} {x:Tr} {s K:Value} (h:TrV w p x (ndV x.d s K)):jdr w p W.heap.size (W.alloc (.cells #[.int .i64 x.d.kind,.bool x.d.neg,s,.string x.d.name,.int .i64 x.d.exp,.int .i64 x.d.rel,.bool x.d.truth,.bool x.d.all,K] 29)) (.slice (some ⟨W.heap.size,0,none⟩) 1 1) [x]:=by
 refine ⟨[(x,s,K)],rfl,⟨rfl,.inr ⟨W.heap.size,1,#[.int .i64 x.d.kind,.bool x.d.neg,s,.string x.d.name,.int .i64 x.d.exp,.int .i64 x.d.rel,.bool x.d.truth,.bool x.d.all,K],rfl,pf _,heap_alloc_new W _,pf _,by unfold maxLen; omega,rfl,rfl⟩⟩,?_⟩;intro r hr;obtain rfl:r=(x,s,K):=by simpa using hr
 exact h
theorem xdo.new {W:World} (d:Int):xdo W.heap.size (W.alloc (.cells #[.int .i64 d] 3)) (.slice (some ⟨W.heap.size,0,none⟩) 1 1) 1:=by
 refine ⟨[.int .i64 d],⟨rfl,.inr ⟨W.heap.size,1,#[.int .i64 d],rfl,pf _,heap_alloc_new W _,pf _,by unfold maxLen; omega,rfl,rfl⟩⟩,?_⟩;intro x hx; exact ⟨d,by simpa using hx⟩
theorem jdr.nil {w W:World} {p:Nat->Prop} {base:Nat}:jdr w p base W (.slice none 0 0) []:=⟨[],rfl,World.ownsRow_nil _ _ _ _,by simp⟩
theorem xdo.nil {W:World} {base:Nat}:xdo base W (.slice none 0 0) 0:=⟨[],World.ownsRow_nil _ _ _ _,by simp⟩
theorem xdo.jj {W:World} {base n:Nat} {u:Value} (h:xdo base W u n) (hl:0 < n):∃ ad cap,u=.slice (some ad) n cap/\n<=cap/\cap<=9223372036854775807/\∀ W',Ext W W'->∀ k,k < n->∃ z:Int,W'.cell? (ad.add k)=some (.int .i64 z):=by
 obtain ⟨g,cap,rfl,h1,h2⟩:=h.pos hl;refine ⟨⟨g,0,none⟩,cap,rfl,h1,by unfold maxLen at h2; omega,fun W' hx k hk=>?_⟩;obtain ⟨xs,ho,hz⟩:=h.ext hx;have hlen:xs.length=n:=by have:=ho.1; omega
 obtain ⟨z,hz⟩:=hz xs[k] (pt (by omega));refine ⟨z,?_⟩;rw [<- hz];exact World.ownsRow.cells ho rfl k _ (pq (by omega))
theorem zeo {α:Type} (l:List α) (f:α->Bool) (k:Nat) (hk:k < l.length):(l.take (k+1)).filter f=(l.take k).filter f ++ (if f l[k] then [l[k]] else []):=by
 rw [pg hk,tz];cases h:f l[k] <;> simp [h]
def kgp (w0:World) (p:Nat->Prop) (l:List Tr) (w:World) (e:Ending) (w':World):Prop:=
 ∃ v u,e=.returned (.tuple #[v,u])/\jdr w0 p w.heap.size w' v l/\Ext w w'
def ufl (w:World) (p:Nat->Prop) (w2:World) (ov uv:Value) (l:List Tr) (wr:World):Prop:=
 jdr w p w2.heap.size wr ov l/\xdo w2.heap.size wr uv l.length/\(∀ b,ov.ownBlock=some b->uv.ownBlock ≠ some b)/\Ext w2 wr
theorem ufl.step {w w2 wr:World} {p:Nat->Prop} {ov uv:Value} {l:List Tr} {x:Tr} {s K:Value} (h:ufl w p w2 ov uv l wr) (hx:TrV w p x (ndV x.d s K)) (hlen:l.length<=1000000) (ty ty':TypeId) :
 ∃ v3 w3,(Builtin.append_ #[27,27] ty #[ov,.slice (some ⟨wr.heap.size,0,none⟩) 1 1]).run Tryz.prog (wr.alloc (.cells #[.int .i64 x.d.kind,.bool x.d.neg,s,.string x.d.name,.int .i64 x.d.exp,.int .i64 x.d.rel,.bool x.d.truth,.bool x.d.all,K] 29))=.ok v3 w3/\Ext w2 w3 /\
   ∀ z:Int,∃ v4 w4,(Builtin.append_ #[81,81] ty' #[uv,.slice (some ⟨w3.heap.size,0,none⟩) 1 1]).run Tryz.prog (w3.alloc (.cells #[.int .i64 z] 3))=.ok v4 w4/\ufl w p w2 v3 v4 (l ++ [x]) w4:=by
 obtain ⟨hl,hi,hne,hxw⟩:=h;have hw:=hxw.size;obtain ⟨W1,hW1⟩:=n_m (wr.alloc (.cells #[.int .i64 x.d.kind,.bool x.d.neg,s,.string x.d.name,.int .i64 x.d.exp,.int .i64 x.d.rel,.bool x.d.truth,.bool x.d.all,K] 29));have hx1:Ext wr W1:=by rw [<- hW1]; exact (Ext.refl wr).alloc _
 have hs1:W1.heap.size=wr.heap.size+1:=by rw [<- hW1]; simp
 have hn:jdr w p wr.heap.size W1 (.slice (some ⟨wr.heap.size,0,none⟩) 1 1) [x]:=by rw [<- hW1]; exact jdr.new hx
 obtain ⟨v3,w3,hr3,l3,gr3,o3⟩:=xec (hl.ext hx1) hn (by simp) (by omega) (by simp; omega) ty;have hs3:=gr3.size;have x3:Ext w2 w3:=(hxw.trans hx1).grown gr3 (fun b hb=>(hl.lt b hb).1);rw [hW1];refine ⟨v3,w3,hr3,x3,fun z=>?_⟩;have hi3:xdo w2.heap.size w3 uv l.length:=(hi.ext hx1).kept gr3 (by
  cases hu:uv.ownBlock with
  | none=>exact .inl rfl
  | some b=>exact .inr (fun e=>hne b e.symm hu))
 obtain ⟨W2,hW2⟩:=n_m (w3.alloc (.cells #[.int .i64 z] 3));have hx2:Ext w3 W2:=by rw [<- hW2]; exact (Ext.refl w3).alloc _
 have hs2:W2.heap.size=w3.heap.size+1:=by rw [<- hW2]; simp
 have hm:xdo w3.heap.size W2 (.slice (some ⟨w3.heap.size,0,none⟩) 1 1) 1:=by rw [<- hW2]; exact xdo.new z
 obtain ⟨v4,w4,hr4,l4,gr4,o4⟩:=zee (hi3.ext hx2) hm (by omega) (by omega) (by omega) ty';rw [hW2];have far:∀ b,v3.ownBlock=some b->uv.ownBlock ≠ some b:=by
  intro b hb hu;rcases o3 with o3 | o3
  · exact hne b (by rw [<- o3]; exact hb) hu
  · rw [o3] at hb;injection hb with hb
    have:=(hi.lt b hu).2;omega
 refine ⟨v4,w4,hr4,(l3.ext hx2).kept gr4 ?_,?_,?_,(x3.trans hx2).grown gr4 (fun b hb=>(hi3.lt b hb).1)⟩
 · cases hv:v3.ownBlock with
   | none=>exact .inl rfl
   | some b=>exact .inr (fun e=>far b hv e.symm)
 · rw [pz]; exact l4
 · intro b hb hu;rcases o4 with o4 | o4
   · exact far b hb (by rw [<- o4]; exact hu)
   · rw [o4] at hu;injection hu with hu
     have:=(l3.lt b hb).2;omega
theorem je4 {w:World} {p:Nat->Prop} (t:Tr) (v:Value) (h:TrV w p t v) (hsz:t.sz<=1000000):Calls Tryz.prog 21 #[v] w (kgp w p t.parts w):=by
 have HT:=hid h;obtain ⟨A0,n0,c0,A,c,rfl,-,hl1,hl2,h4⟩:=h.open_;clear h h4;unfold ndV;unfold ndV at HT;obtain ⟨W,hW⟩:=n_m (w.alloc (.cells #[.int .i64 t.d.kind,.bool t.d.neg,.slice A0 n0 c0,.string t.d.name,.int .i64 t.d.exp,.int .i64 t.d.rel,.bool t.d.truth,.bool t.d.all,.slice A t.ks.length c] 29));have hWx:Ext w W:=by rw [<- hW]; exact (Ext.refl w).alloc _
 have hbx:jd1 W w.heap.size t.d (.slice A0 n0 c0) (.slice A t.ks.length c):=by rw [<- hW]; exact jd1.new w t.d _ _ _
 obtain ⟨b0,b1,b2,b3,b4,b5,b6,b7,b8⟩:=hbx;have HWX:=hid hWx;have HLI:=hid (vfd (t.sz+1) t _ W 0 (pO _) HT.out hWx (by omega));have hlp:0 < t.list.length:=by rw [t.qI]; exact t.zg
 have hlen:t.list.length<=1000000:=by rw [t.qI]; exact hsz
 have HF:Hid (t.parts=t.list.filter fun x=>!wdw x.d.kind):=rfl;clear hWx hsz;generalize hls:t.list=ls at *;have HLS:=hid hls;clear hls;go_enter Tryz.func21,Tryz.ntmps21;go_wp2_with fail;clear hW b0 b1 b2 b3 b4 b5 b6 b7 b8;refine HLI.out.mono ?_;rintro e w2 ⟨v2,u2,rfl,l2,i2,-,x2⟩;obtain ⟨ad,cap,rfl,hc1,hc2,hat⟩:=l2.jj hlp;obtain ⟨ad',cap',rfl,hd1,hd2,afH⟩:=i2.jj hlp;have L2:=hid hat;have I2:=hid afH;have X2:=hid x2;clear l2 i2 hat afH x2 HLI HT;go_wp2_with fail
 go_loopw [6,7,16] (fun ov uv iv wr=>∃ k:Nat,k<=ls.length/\iv=.int .i64 k/\Hid (ufl w p w2 ov uv ((ls.take k).filter fun x=>!wdw x.d.kind) wr)) (fun _ _ iv _=>ls.length - (intOf iv).toNat)
 case atStart=>exact ⟨0,pM _,rfl,⟨by simpa using jdr.nil,by simpa using xdo.nil,by simp [Value.ownBlock],Ext.refl w2⟩⟩
 case round =>
  obtain ⟨k,hk,rfl,hpr⟩:=hrel;have HPR:=hpr;clear hpr;have hx:=HPR.out.2.2.2
  by_cases hlt:k < ls.length
  · obtain ⟨A0,c0,A1,c1,⟨e0,e1,e2,e3,e4,e5,e6,e7,e8⟩,ht⟩:=L2.out wr hx k hlt;have HTX:=hid ht;have HTK:=hid (zeo ls (fun x=>!wdw x.d.kind) k hlt);have aj2:Hid (((ls.take k).filter fun x=>!wdw x.d.kind).length<=1000000):=by
     have h1:=te (fun x:Tr=>!wdw x.d.kind) (ls.take k);rw [px] at h1;have:((ls.take k).filter fun x=>!wdw x.d.kind).length<=1000000:=by omega
     exact this
    by_cases htk:wdw ls[k].d.kind=true
    · have HN:Hid ((ls.take (k+1)).filter (fun x=>!wdw x.d.kind)=(ls.take k).filter fun x=>!wdw x.d.kind):=by
       have:(ls.take (k+1)).filter (fun x=>!wdw x.d.kind)=(ls.take k).filter fun x=>!wdw x.d.kind:=by rw [HTK.out,htk]; simp
       exact this
      have HKD:=hid htk;clear ht hx htk;go_wp2_with fail;refine (weh _ _).mono ?_;rintro e w5 ⟨rfl,rfl⟩;rw [HKD.out];go_wp2_with fail
      go_roundw
      case rel=>exact ⟨k+1,by omega,by go_num,by rw [HN.out]; exact HPR⟩
      case measure=>simp [intOf]; omega
    · have aoA:wdw ls[k].d.kind=false:=by simpa using htk
      have HN:Hid ((ls.take (k+1)).filter (fun x=>!wdw x.d.kind)=((ls.take k).filter fun x=>!wdw x.d.kind) ++ [ls[k]]):=by
       have:(ls.take (k+1)).filter (fun x=>!wdw x.d.kind)=((ls.take k).filter fun x=>!wdw x.d.kind) ++ [ls[k]]:=by rw [HTK.out,aoA]; simp
       exact this
      have HKD:=hid aoA;obtain ⟨v3,w3,hr3,x3,anM⟩:=HPR.out.step ht aj2.out 27 81;obtain ⟨z,hz⟩:=I2.out w3 x3 k hlt;have hz':(w3.alloc (.cells #[.int .i64 z] 3)).cell? (ad'.add k)=some (.int .i64 z):=by
       obtain ⟨z',hz'⟩:=I2.out _ (x3.trans ((Ext.refl w3).alloc (.cells #[.int .i64 z] 3))) k hlt;rw [<- hz];have ahz:(ad'.add k).block < w3.heap.size:=by
        rcases rz (ad'.add k).block w3.heap.size with h | h
        · exact h
        · simp [World.cell?,sY h] at hz
       exact ((Ext.refl w3).alloc _).cell ahz
      obtain ⟨v4,w4,hr4,hp4⟩:=anM z;have HP4:=hid hp4;clear ht hx htk aoA anM hp4 x3;go_wp2_with fail;refine (weh _ _).mono ?_;rintro e w5 ⟨rfl,rfl⟩;rw [HKD.out]
      go_wp2_with (at_builtin
                   first
                   | refine wpList_append_run rfl (.tmp 26) (.tmp 31) _ _ rfl _ _ _ _ rfl rfl hr3 ?_
                   | refine wpList_append_run rfl (.tmp 33) (.tmp 38) _ _ rfl _ _ _ _ rfl rfl hr4 ?_)
      clear hr3 hr4
      go_roundw
      case rel=>exact ⟨k+1,by omega,by go_num,by rw [HN.out]; exact HP4⟩
      case measure=>simp [intOf]; omega
  · have HKE:Hid (k=ls.length):=by
     have:k=ls.length:=by omega
     exact this
    clear hx;go_wp2_with fail
    go_ret2
    have hp:=HPR.out;rw [HKE.out,pw] at hp;have hs:=(HWX.out.trans X2.out).size;exact ⟨_,_,rfl,by rw [HF.out]; exact hp.1.zV hs,HWX.out.trans (X2.out.trans hp.2.2.2)⟩
theorem zev {W:World} {base:Nat} {v:Value} {l:List ByteArray} (h:jdl W base v l) (s:ByteArray) (hb:base<=W.heap.size) (hlen:l.length<=1000000) (ty:TypeId) :
 ∃ v' w',(Builtin.append_ #[34,34] ty #[v,.slice (some ⟨W.heap.size,0,none⟩) 1 1]).run Tryz.prog (W.alloc (.cells #[.string s] 9))=.ok v' w'/\jdl w' base v' (l ++ [s])/\(W.alloc (.cells #[.string s] 9)).grownBy w' v.ownBlock:=by
 obtain ⟨i0,hi,hz0,hz1,hz2⟩:=info_parts zei;have h':=h.ext ((Ext.refl W).alloc (.cells #[.string s] 9));obtain ⟨v',w',ab3,r1,r2,-,r3⟩:=run_append_own_at (P:=Tryz.prog) (W.alloc (.cells #[.string s] 9)) base 34 ty 9 i0 _ 1 16 Tryz.underlying34 hi hz0 hz1 hz2 rfl (by omega) v l.length (strs l) h' ⟨W.heap.size,0,none⟩ 1 1 [.string s] rfl (jfi (by simp [go_sem])) (by simp [Value.oneCell']) (by unfold maxLen; omega) (by omega) (by simp; omega);refine ⟨v',w',ab3,?_,r2⟩;unfold jdl;rw [wed]; simpa using r1
theorem ke4 {w:World} {p:Nat->Prop} (t:Tr) (v:Value) (h:TrV w p t v) (hsz:t.sz<=1000000) (hnt:wdw t.d.kind=false):Calls Tryz.prog 7 #[v] w (wew t.jk w):=by
 have HT:=hid h;obtain ⟨A0,n0,c0,A,c,rfl,-,hl1,hl2,h4⟩:=h.open_;clear h h4;unfold ndV;unfold ndV at HT;obtain ⟨W,hW⟩:=n_m (w.alloc (.cells #[.int .i64 t.d.kind,.bool t.d.neg,.slice A0 n0 c0,.string t.d.name,.int .i64 t.d.exp,.int .i64 t.d.rel,.bool t.d.truth,.bool t.d.all,.slice A t.ks.length c] 29));have hWx:Ext w W:=by rw [<- hW]; exact (Ext.refl w).alloc _
 have hbx:jd1 W w.heap.size t.d (.slice A0 n0 c0) (.slice A t.ks.length c):=by rw [<- hW]; exact jd1.new w t.d _ _ _
 obtain ⟨b0,b1,b2,b3,b4,b5,b6,b7,b8⟩:=hbx;have HWX:=hid hWx;have HPA:=hid (je4 t _ (HT.out.ext hWx) hsz);have hlp:0 < t.parts.length:=by
  have:t ∈ t.parts:=sL.2 ⟨by cases t; simp [Tr.list],by rw [hnt]; rfl⟩;exact List.length_pos_of_mem this
 have hlen:t.parts.length<=1000000:=by
  have h1:=te (fun x:Tr=>!wdw x.d.kind) t.list;rw [t.qI] at h1;unfold Tr.parts; omega
 have HF:Hid (t.jk=(t.parts.filter fun x=>x.d.kind == 15).map fun x=>x.d.name):=rfl;clear hWx hsz hnt;generalize hls:t.parts=ls at *;have HLS:=hid hls;clear hls;go_enter Tryz.func7,Tryz.ntmps7;go_wp2_with fail;clear hW b0 b1 b2 b3 b4 b5 b6 b7 b8;refine HPA.out.mono ?_;rintro e w2 ⟨v2,u2,rfl,l2,x2⟩;obtain ⟨ad,cap,rfl,hc1,hc2,hat⟩:=l2.jj hlp;have L2:=hid hat;have X2:=hid x2;clear l2 hat x2 HPA HT;go_wp2_with fail
 go_loopw [3,14] (fun sv iv wr=>∃ k:Nat,k<=ls.length/\iv=.int .i64 k/\Hid (jdl wr w2.heap.size sv (((ls.take k).filter fun x=>x.d.kind == 15).map fun x=>x.d.name)/\Ext w2 wr)) (fun _ iv _=>ls.length - (intOf iv).toNat)
 case atStart=>exact ⟨0,pM _,rfl,⟨by simpa using jdl.nil w2 w2.heap.size,Ext.refl w2⟩⟩
 case round =>
  obtain ⟨k,hk,rfl,⟨hsr,hx⟩⟩:=hrel;have HSR:=hid hsr;have HX:=hid hx
  by_cases hlt:k < ls.length
  · obtain ⟨A0,c0,A1,c1,⟨e0,e1,e2,e3,e4,e5,e6,e7,e8⟩,ht⟩:=L2.out wr hx k hlt;have HTK:=hid (zeo ls (fun x=>x.d.kind == 15) k hlt);have aj2:Hid ((((ls.take k).filter fun x=>x.d.kind == 15).map fun x=>x.d.name).length<=1000000):=by
     have h1:=te (fun x:Tr=>x.d.kind == 15) (ls.take k);rw [px] at h1;have:(((ls.take k).filter fun x=>x.d.kind == 15).map fun x=>x.d.name).length<=1000000:=by rw [pC]; omega
     exact this
    clear e1 e2 e4 e5 e6 e7 e8 ht
    by_cases hq:(ls[k].d.kind == 15)=true
    · obtain ⟨v3,w3,hr3,r3,gr3⟩:=zev hsr ls[k].d.name hx.size aj2.out 34;have hn:jdl w3 w2.heap.size v3 (((ls.take (k+1)).filter fun x=>x.d.kind == 15).map fun x=>x.d.name)/\Ext w2 w3:=by
       rw [HTK.out,hq];refine ⟨by simpa using r3,(hx.trans ((Ext.refl wr).alloc _)).grown gr3 (fun b hb=>(hsr.lt b hb).1)⟩
      have HN:=hid hn;clear hn r3 gr3 hsr hx HTK
      go_wp2_with (at_builtin
                   refine wpList_append_run rfl (.tmp 23) (.tmp 29) _ _ rfl _ _ _ _ rfl rfl hr3 ?_)
      clear hr3
      go_roundw
      case rel=>exact ⟨k+1,by omega,by go_num,HN⟩
      case measure=>simp [intOf]; omega
    · have hq':(ls[k].d.kind == 15)=false:=by simpa using hq
      have HEQ:Hid ((((ls.take (k+1)).filter fun x=>x.d.kind == 15).map fun x=>x.d.name)=(((ls.take k).filter fun x=>x.d.kind == 15).map fun x=>x.d.name)):=by
       have:(((ls.take (k+1)).filter fun x=>x.d.kind == 15).map fun x=>x.d.name)=(((ls.take k).filter fun x=>x.d.kind == 15).map fun x=>x.d.name):=by rw [HTK.out,hq']; simp
       exact this
      clear hsr hx hq HTK;go_wp2_with fail
      go_roundw
      case rel=>exact ⟨k+1,by omega,by go_num,⟨by rw [HEQ.out]; exact HSR.out,HX.out⟩⟩
      case measure=>simp [intOf]; omega
  · have HKE:Hid (k=ls.length):=by
     have:k=ls.length:=by omega
     exact this
    clear hx hsr;go_wp2_with fail;go_ret;have hp:=HSR.out;rw [HKE.out,pw] at hp;have hs:=(HWX.out.trans X2.out).size;exact ⟨_,rfl,by rw [HF.out]; exact ownsRow_base hp hs,HWX.out.trans (X2.out.trans HX.out)⟩
def Fm.qM : Fm -> List ByteArray
 | .truth _=>[]
 | .atom l _ k=>l.qM ++ k.qM
 | .not f=>f.qM
 | .and f g=>f.qM ++ g.qM
 | .or f g=>f.qM ++ g.qM
 | .imp f g=>f.qM ++ g.qM
 | .iff f g=>f.qM ++ g.qM
 | .quant _ _ f=>f.qM
theorem Fm.xb (g:ByteArray->Option Rat) (a:ByteArray->Int) (ha:∀ s,a s=0) (f:Fm) (hb:f.bound=[]):∀ l,ydl g (f.fold vdl a l)=(ydl g l && ydl g f.qM):=by
 induction f with
 | truth b=>intro l; simp [Fm.fold,Fm.qM,ydl]
 | atom x r y=>intro l; rw [Fm.fold,Tm.xb g a ha,Tm.xb g a ha,Fm.qM,udl,sS]
 | not f ih=>intro l; exact ih hb l
 | and f h ihf ihh=>intro l; rw [Fm.fold,ihh (pF.1 hb).2,ihf (pF.1 hb).1,Fm.qM,udl,sS]
 | or f h ihf ihh=>intro l; rw [Fm.fold,ihh (pF.1 hb).2,ihf (pF.1 hb).1,Fm.qM,udl,sS]
 | imp f h ihf ihh=>intro l; rw [Fm.fold,ihh (pF.1 hb).2,ihf (pF.1 hb).1,Fm.qM,udl,sS]
 | iff f h ihf ihh=>intro l; rw [Fm.fold,ihh (pF.1 hb).2,ihf (pF.1 hb).1,Fm.qM,udl,sS]
 | quant a s f ih=>cases hb
theorem Fm.xX (g:ByteArray->Option Rat) (f:Fm) (hb:f.bound=[]):ydl g f.free=ydl g f.qM:=by
 unfold Fm.free;rw [Fm.xb g _ (fun _=>rfl) f hb];simp [ydl]
theorem qdr (t:Tr):t.jk=(t.list.filter fun x=>x.d.kind == 15).map fun x=>x.d.name:=by
 unfold Tr.jk Tr.parts;rw [List.filter_filter]
 congr 1
 refine List.filter_congr fun x _=>?_
 cases h:x.d.kind == 15 with
 | false=>simp
 | true =>
   have:x.d.kind=15:=by simpa using h
   simp [wdw,this]
theorem yeo {l:List Tr} (h:∀ x ∈ l,1<=x.d.kind/\x.d.kind<=7):(l.filter fun x=>x.d.kind == 15)=[]:=List.filter_eq_nil_iff.2 fun x hx=>by
 have:=h x hx;simp; omega
theorem ygp (L:Nat) (f:Fm):∀ t,vdq L f t->t.jk=f.bound:=by
 have no:∀ t:Tr,t.d.kind ≠ 15->(t.d.kind == 15)=false:=fun t h=>by simpa using h
 refine wes L (fun f t=>t.jk=f.bound) ?_ ?_ ?_ ?_ ?_ ?_ ?_ ?_ f
 · intro b t hk e _; rw [qdr,e,ri,no t (by omega)]; simp [Fm.bound]
 · intro l r k t x y hk _ _ _ e hx hy;rw [qdr,e,ri,no t (by omega),tz,yeo (ve1 L l x hx),yeo (ve1 L k y hy)]; simp [Fm.bound]
 · intro f t x hk e h; rw [qdr,e,ri,no t (by omega)]; rw [qdr] at h; simpa [Fm.bound] using h
 · intro f g t x y hk e h1 h2; rw [qdr,e,ri,no t (by omega),Fm.bound,<- h1,<- h2,qdr,qdr]; simp
 · intro f g t x y hk e h1 h2; rw [qdr,e,ri,no t (by omega),Fm.bound,<- h1,<- h2,qdr,qdr]; simp
 · intro f g t x y hk e h1 h2; rw [qdr,e,ri,no t (by omega),Fm.bound,<- h1,<- h2,qdr,qdr]; simp
 · intro f g t x y hk e h1 h2; rw [qdr,e,ri,no t (by omega),Fm.bound,<- h1,<- h2,qdr,qdr]; simp
 · intro f t x hk e h; rw [qdr,e,ri,hk,Fm.bound,<- h,qdr]; simp
theorem jfc (L:Nat) (m:Tm):∀ t,wdq L m t->m.norm=m:=by
 induction m with
 | num z=>intro t _; rfl
 | name s=>intro t _; rfl
 | add a b iha ihb=>rintro t ⟨hk,x,y,e,hx,hy⟩; rw [Tm.norm,iha x hx,ihb y hy]
 | sub a b iha ihb=>rintro t ⟨hk,x,y,e,hx,hy⟩; rw [Tm.norm,iha x hx,ihb y hy]
 | mul a b iha ihb=>rintro t ⟨hk,x,y,e,hx,hy⟩; rw [Tm.norm,iha x hx,ihb y hy]
 | neg a iha=>rintro t ⟨hk,x,e,hx⟩; rw [Tm.norm,iha x hx]
 | pow a n iha =>
   rintro t ⟨hk,-,hn,x,e,hx⟩;rw [Tm.norm,iha x hx];have:wdj n 0=n:=by unfold wdj; split <;> omega
   rw [this]
theorem qgg (L:Nat) (f:Fm):∀ t,vdq L f t->f.norm=f:=by
 refine wes L (fun f t=>f.norm=f) ?_ ?_ ?_ ?_ ?_ ?_ ?_ ?_ f
 · intro b t hk e _; rfl
 · intro l r k t x y hk h1 h2 hh e hx hy;rw [Fm.norm,jfc L l x hx,jfc L k y hy];have:yd8 r=r:=by unfold yd8; rw [if_neg (by omega)]
   rw [this]
 · intro f t x hk e h; rw [Fm.norm,h]
 · intro f g t x y hk e h1 h2; rw [Fm.norm,h1,h2]
 · intro f g t x y hk e h1 h2; rw [Fm.norm,h1,h2]
 · intro f g t x y hk e h1 h2; rw [Fm.norm,h1,h2]
 · intro f g t x y hk e h1 h2; rw [Fm.norm,h1,h2]
 · intro f t x hk e h; rw [Fm.norm,h]
theorem ven (r s:Int):wdu (ud4 r) s=wdu r s:=by
 unfold ud4
 split
 · rename_i h;have h1:r ≠ 1/\r ≠ 2/\r ≠ 3/\r ≠ 4/\r ≠ 5/\r ≠ 6:=by omega
   simp [wdu,h1]
 · rfl
theorem qfb (r s:Int):wdu (wek (ud4 r)) s=!wdu r s:=by
 rw [<- ven r s];have hr:1<=ud4 r/\ud4 r<=6:=by unfold ud4; split <;> omega
 generalize ud4 r=k at hr;rw [sX];rcases (show k=1\/k=2\/k=3\/k=4\/k=5\/k=6 by omega) with rfl | rfl | rfl | rfl | rfl | rfl <;> simp [wdu,wek]
theorem zga (a b:Rat):sgQ (a - b)=jei a b:=by
 have h1:a - b < 0 ↔ a < b:=by constructor <;> intro h <;> grind
 have h2:0 < a - b ↔ b < a:=by constructor <;> intro h <;> grind
 unfold sgQ jei;simp only [h1,h2]
theorem Pl.yl (ρ:Int->Rat) {n:Int} (h1:1<=n) (h4:n<=4):(Pl.var n).val ρ=ρ n:=by
 rw [Pl.var,if_pos ⟨h1,h4⟩,Pl.val,if_neg (by omega)];simp only [wdk,Pl.qS,Pl.qC]
 grind
def Fm.yg (g : ByteArray -> Option Rat) : Fm -> Prop
 | .truth _=>True
 | .atom l _ k=>l.covered g/\k.covered g
 | .not f=>f.yg g
 | .and f h=>f.yg g/\h.yg g
 | .or f h=>f.yg g/\h.yg g
 | .imp f h=>f.yg g/\h.yg g
 | .iff f h=>f.yg g/\h.yg g
 | .quant _ _ f=>f.yg g
section
variable {v:ByteArray->Option Rat} {g:ByteArray->Int} {ρ:Int->Rat} (HN:∀ s q,v s=some q->1<=g s/\g s<=4/\ρ (g s)=q)
include HN
theorem qdy : ∀ t : Tm, t.covered v -> (wdm g t).val ρ = t.val v
 | .num z,_=>by rw [wdm,Pl.qC]; rfl
 | .name s,h=>by
   obtain ⟨q,hq⟩:=Option.isSome_iff_exists.1 (show (v s).isSome=true from h);obtain ⟨h1,h2,h3⟩:=HN s q hq;rw [wdm,Pl.yl ρ h1 h2,h3,Tm.val,hq]; rfl
 | .add a b,h=>by rw [wdm,Pl.xU,qdy a h.1,qdy b h.2]; rfl
 | .sub a b,h=>by rw [wdm,Pl.xU,Pl.zi,qdy a h.1,qdy b h.2,Tm.val]; grind
 | .mul a b,h=>by rw [wdm,Pl.qB,qdy a h.1,qdy b h.2]; rfl
 | .neg a,h=>by rw [wdm,Pl.zi,qdy a h]; rfl
 | .pow a e,h=>by rw [wdm,Pl.zh,qdy a h]; rfl
omit HN in
theorem vec (a b:Mx):(gdq 3 a b).tv ρ=(a.tv ρ && b.tv ρ):=by simp [gdq,Mx.tv,allM]
omit HN in
theorem geh (a b:Mx):(gdq 4 a b).tv ρ=(a.tv ρ || b.tv ρ):=by simp [gdq,Mx.tv,anyM]
theorem yge (f:Fm):∀ (st:PSt) (pos:Bool),st.lev=g->f.okB true=true->f.yg v->(zc2 f pos st).1.tv ρ=(f.tv v == pos):=by
 induction f with
 | truth b =>
   intro st pos _ _ _;simp only [zc2,kev,Mx.tv,Fm.tv];cases b <;> cases pos <;> simp
 | atom l r k =>
   intro st pos hs _ hf;have hv:(((wdm st.lev l).add (wdm st.lev k).xJ).val ρ)=l.val v - k.val v:=by
    rw [hs,Pl.xU,Pl.zi,qdy HN l hf.1,qdy HN k hf.2]; grind
   simp only [zc2,vfi,Mx.tv,Fm.tv];rw [if_neg (by omega),if_pos trivial,hv,zga];cases pos
   · rw [if_neg (by simp),qfb]; simp
   · rw [if_pos rfl,ven]; simp
 | not f ih =>
   intro st pos hs ho hf;rw [zc2,ih st (!pos) hs ho hf,Fm.tv];cases f.tv v <;> cases pos <;> rfl
 | and f h ihf ihh =>
   intro st pos hs ho hf;simp only [Fm.okB,pj] at ho;simp only [zc2,(xdv f ho.1).2.1];have h1:=ihf st pos hs ho.1 hf.1;have h2:=ihh st pos hs ho.2 hf.2;cases pos
   · rw [if_neg (by simp),geh,h1,h2,Fm.tv]; cases f.tv v <;> cases h.tv v <;> rfl
   · rw [if_pos rfl,vec,h1,h2,Fm.tv]; cases f.tv v <;> cases h.tv v <;> rfl
 | or f h ihf ihh =>
   intro st pos hs ho hf;simp only [Fm.okB,pj] at ho;simp only [zc2,(xdv f ho.1).2.1];have h1:=ihf st pos hs ho.1 hf.1;have h2:=ihh st pos hs ho.2 hf.2;cases pos
   · rw [if_neg (by simp),vec,h1,h2,Fm.tv]; cases f.tv v <;> cases h.tv v <;> rfl
   · rw [if_pos rfl,geh,h1,h2,Fm.tv]; cases f.tv v <;> cases h.tv v <;> rfl
 | imp f h ihf ihh =>
   intro st pos hs ho hf;simp only [Fm.okB,pj] at ho;simp only [zc2,(xdv f ho.1).2.1];have h1:=ihf st (!pos) hs ho.1 hf.1;have h2:=ihh st pos hs ho.2 hf.2;cases pos
   · rw [if_neg (by simp),vec,h1,h2,Fm.tv]; cases f.tv v <;> cases h.tv v <;> rfl
   · rw [if_pos rfl,geh,h1,h2,Fm.tv]; cases f.tv v <;> cases h.tv v <;> rfl
 | iff f h ihf ihh =>
   intro st pos hs ho hf;simp only [Fm.okB,pj] at ho;simp only [zc2];rw [geh,vec,vec,ihf st true hs ho.1 hf.1,ihf st false hs ho.1 hf.1,ihh st pos hs ho.2 hf.2,ihh st (!pos) hs ho.2 hf.2,Fm.tv];cases f.tv v <;> cases h.tv v <;> cases pos <;> rfl
 | quant a nm f ih=>intro st pos _ ho _; simp [Fm.okB] at ho
end
theorem xd7 (f:Fm):f.bound=[]->f.okB true=true/\f.qn=0:=by
 induction f with
 | truth b=>exact fun _=>⟨rfl,rfl⟩
 | atom l r k=>exact fun _=>⟨rfl,rfl⟩
 | not f ih=>intro h; obtain ⟨h1,h2⟩:=ih h; exact ⟨h1,by rw [Fm.qn,h2]; rfl⟩
 | and f g ihf ihg=>intro h; obtain ⟨h1,h2⟩:=ihf (pF.1 h).1; obtain ⟨h3,h4⟩:=ihg (pF.1 h).2; exact ⟨by simp [Fm.okB,h1,h3],by rw [Fm.qn,h2,h4]; rfl⟩
 | or f g ihf ihg=>intro h; obtain ⟨h1,h2⟩:=ihf (pF.1 h).1; obtain ⟨h3,h4⟩:=ihg (pF.1 h).2; exact ⟨by simp [Fm.okB,h1,h3],by rw [Fm.qn,h2,h4]; rfl⟩
 | imp f g ihf ihg=>intro h; obtain ⟨h1,h2⟩:=ihf (pF.1 h).1; obtain ⟨h3,h4⟩:=ihg (pF.1 h).2; exact ⟨by simp [Fm.okB,h1,h3],by rw [Fm.qn,h2,h4]; rfl⟩
 | iff f g ihf ihg=>intro h; obtain ⟨h1,h2⟩:=ihf (pF.1 h).1; obtain ⟨h3,h4⟩:=ihg (pF.1 h).2; exact ⟨by simp [Fm.okB,h1,h3],by rw [Fm.qn,h2,h4]; rfl⟩
 | quant a nm f ih=>intro h; cases h
theorem vfn (s:ByteArray) (x:List ByteArray × Bool):(gdx (fun _=>0) s x).1=vdl (fun _=>0) s x.1:=by
 unfold gdx zed vdl;cases has x.1 s <;> simp
theorem qer (t:Tm):∀ x:List ByteArray × Bool,(t.fold (gdx (fun _=>0)) x).1=t.fold (vdl (fun _=>0)) x.1:=by
 induction t with
 | num z=>intro x; rfl
 | name s=>intro x; exact vfn s x
 | add a b iha ihb=>intro x; simp only [Tm.fold]; rw [ihb,iha]
 | sub a b iha ihb=>intro x; simp only [Tm.fold]; rw [ihb,iha]
 | mul a b iha ihb=>intro x; simp only [Tm.fold]; rw [ihb,iha]
 | neg a ih=>intro x; exact ih x
 | pow a e ih=>intro x; exact ih x
theorem kfk (f:Fm) (hb:f.bound=[]):∀ x:List ByteArray × Bool,(f.fold gdx (fun _=>0) x).1=f.fold vdl (fun _=>0) x.1:=by
 induction f with
 | truth b=>intro x; rfl
 | atom l r k=>intro x; simp only [Fm.fold]; rw [qer,qer]
 | not f ih=>intro x; exact ih hb x
 | and f g ihf ihg=>intro x; simp only [Fm.fold]; rw [ihg (pF.1 hb).2,ihf (pF.1 hb).1]
 | or f g ihf ihg=>intro x; simp only [Fm.fold]; rw [ihg (pF.1 hb).2,ihf (pF.1 hb).1]
 | imp f g ihf ihg=>intro x; simp only [Fm.fold]; rw [ihg (pF.1 hb).2,ihf (pF.1 hb).1]
 | iff f g ihf ihg=>intro x; simp only [Fm.fold]; rw [ihg (pF.1 hb).2,ihf (pF.1 hb).1]
 | quant a nm f ih=>cases hb
theorem yew (a:ByteArray->Int) (s:ByteArray) {l:List ByteArray} (h:l.Nodup):(vdl a s l).Nodup:=by
 unfold vdl
 split
 · rename_i h1;rw [List.nodup_append];refine ⟨h,by simp,fun x hx y hy e=>?_⟩;rw [rb.1 hy] at e;rw [e] at hx;have:=(ygg l s).2 hx;rw [h1.2] at this; cases this
 · exact h
theorem vem (a:ByteArray->Int) (t:Tm):∀ l:List ByteArray,l.Nodup->(t.fold (vdl a) l).Nodup:=by
 induction t with
 | num z=>exact fun l h=>h
 | name s=>exact fun l h=>yew a s h
 | add x y ihx ihy=>exact fun l h=>ihy _ (ihx _ h)
 | sub x y ihx ihy=>exact fun l h=>ihy _ (ihx _ h)
 | mul x y ihx ihy=>exact fun l h=>ihy _ (ihx _ h)
 | neg x ih=>exact ih
 | pow x e ih=>exact ih
theorem ufb (f:Fm):∀ (a:ByteArray->Int) (l:List ByteArray),l.Nodup->(f.fold vdl a l).Nodup:=by
 induction f with
 | truth b=>exact fun a l h=>h
 | atom x r y=>exact fun a l h=>vem a y _ (vem a x _ h)
 | not f ih=>exact ih
 | and f g ihf ihg=>exact fun a l h=>ihg a _ (ihf a _ h)
 | or f g ihf ihg=>exact fun a l h=>ihg a _ (ihf a _ h)
 | imp f g ihf ihg=>exact fun a l h=>ihg a _ (ihf a _ h)
 | iff f g ihf ihg=>exact fun a l h=>ihg a _ (ihf a _ h)
 | quant b s f ih=>exact fun a l h=>ih _ l h
theorem Fm.zJ (f:Fm):f.free.Nodup:=ufb f _ [] List.nodup_nil
theorem kei {f:Fm} (hb:f.bound=[]) (h:f.zd=0):f.free.length<=4/\f.lim=true/\f.xZ=0:=by
 have hq:=(xd7 f hb).2;have hs:f.note.1=f.free:=kfk f hb ([],true);have h0:=h
 replace h:(if f.free.foldl (kd2 []) f.note.2=false then (7:Int) else if 4000 < f.sz\/16 < f.atoms\/4 < f.note.1.length\/f.lim=false then 8 else 0)=0:=by
  unfold Fm.zd at h;rw [hb] at h;exact h
 by_cases h5:List.foldl (kd2 []) f.note.2 f.free=false
 · rw [if_pos h5] at h; cases h
 rw [if_neg h5] at h
 by_cases h2:4000 < f.sz\/16 < f.atoms\/4 < f.note.1.length\/f.lim=false
 · rw [if_pos h2] at h; cases h
 rw [hs] at h2;have h3:f.free.length<=4:=by omega
 refine ⟨h3,by cases e:f.lim <;> simp [e] at h2 ⊢,?_⟩;unfold Fm.xZ;rw [if_pos h0,hq,if_pos (by omega)]
theorem qfd {f:Fm} (hb:f.bound=[]):f.xZ=f.zd:=by
 by_cases h:f.zd=0
 · rw [(kei hb h).2.2,h]
 · unfold Fm.xZ; rw [if_neg h]
theorem ufd {l : List ByteArray} (hn : l.Nodup) (i : Nat) (hi : i < l.length) : ∀ k, i < k -> k <= l.length -> jd7 l k l[i] = (i : Int) + 1
 | 0,h,_=>by omega
 | k+1,h,hk=>by
   rw [zez l k (by omega)];simp only
   by_cases e:i=k
   · subst e; rw [if_pos rfl]; omega
   · rw [if_neg (fun he=>e ((List.getElem_inj hn).1 he)),ufd hn i hi k (by omega) (by omega)]
def gdv (l:List ByteArray) (x:List Rat) (k:Nat):List (ByteArray × Rat):=(List.range k).map fun i=>(l.getD i ByteArray.empty,x.getD i 0)
theorem jej (l:List ByteArray) (x:List Rat) (k:Nat):gdv l x (k+1)=gdv l x k ++ [(l.getD k ByteArray.empty,x.getD k 0)]:=by
 unfold gdv; rw [List.range_succ,rC]; rfl
theorem ge0 (l:List ByteArray) (x:List Rat) (k:Nat):(gdv l x k).length=k:=by simp [gdv]
theorem we0 (l : List ByteArray) (x : List Rat) (s : ByteArray) : ∀ k, ∀ q, gdm (gdv l x k) s = some q -> ∃ i, i < k /\ s = l.getD i ByteArray.empty /\ q = x.getD i 0
 | 0,q,h=>by simp [gdv,gdm] at h
 | k+1,q,h=>by
   rw [jej,ged] at h;cases h1:gdm (gdv l x k) s with
   | some p =>
     rw [h1] at h;obtain ⟨i,hi,h2,h3⟩:=we0 l x s k p h1;injection h with h
     exact ⟨i,by omega,h2,h ▸ h3⟩
   | none =>
     rw [h1] at h
     by_cases e:s=l.getD k ByteArray.empty
     · rw [if_pos e] at h;injection h with h
       exact ⟨k,by omega,e,h.symm⟩
     · rw [if_neg e] at h; cases h
theorem uei (l : List ByteArray) (x : List Rat) : ∀ k i, i < k -> (gdm (gdv l x k) (l.getD i ByteArray.empty)).isSome = true
 | 0,i,h=>by omega
 | k+1,i,h=>by
   rw [jej,ged]
   by_cases e:i=k
   · subst e;cases gdm (gdv l x i) (l.getD i ByteArray.empty) <;> simp
   · have:=uei l x k i (by omega);cases h1:gdm (gdv l x k) (l.getD i ByteArray.empty) with
     | some p=>simp
     | none=>rw [h1] at this; cases this
end Go.Proofs.YtheefiaoimbeiaaGreatDoor
