/- Layer 34: what a formula counts as; its canonical tree is its tree. -/
import Derived.Test.YtheefiaoimbeiaaGreatDoorMt17
import Derived.Test.YtheefiaoimbeiaaGreatDoorMt16
import Derived.Test.YtheefiaoimbeiaaGreatDoorMt8
import Derived.Test.YtheefiaoimbeiaaGreatDoorMt15
import Derived.Test.YtheefiaoimbeiaaGreatDoorMt9
import Derived.OrdersHeld
import Derived.Deep.RegionHeld3
import Derived.Test.YtheefiaoimbeiaaGreatDoorMt14
import Derived.Test.YtheefiaoimbeiaaGreatDoorMt5
import Derived.Test.YtheefiaoimbeiaaGreatDoorMt6
import Derived.Test.YtheefiaoimbeiaaGreatDoorMt2
import Derived.Deep.Slices
import Derived.ChangeSlices
import Derived.Carry
import Derived.OpenShut
import Derived.ProofKit
import Derived.Test.YtheefiaoimbeiaaGreatDoorMt7
import Derived.Test.YtheefiaoimbeiaaGreatDoorMt0
import Derived.WalkKit
import Derived.Below
import Derived.ChangeSame
import Derived.Test.YtheefiaoimbeiaaGreatDoorRows
import Derived.Test.YtheefiaoimbeiaaGreatDoorChecked
import Derived.LaidMore
import Derived.LaidLaws
import Derived.LaidHandle
import Derived.ChangeArms
set_option linter.unusedSimpArgs false
set_option linter.unusedVariables false

namespace Go.Proofs.YtheefiaoimbeiaaGreatDoor
end Go.Proofs.YtheefiaoimbeiaaGreatDoor

/- Layer 34: formula.fresh, formula.Parts. -/
namespace Go.Proofs.YtheefiaoimbeiaaGreatDoor
open Go.RowKit Go.Shelf
end Go.Proofs.YtheefiaoimbeiaaGreatDoor

/- Reference 34: Parts, Bound: the subformulas, and the names of the quantifiers. -/
set_option maxRecDepth 100000
set_option maxHeartbeats 8000000
namespace Go.Proofs.YtheefiaoimbeiaaGreatDoor
open Go.RowKit
def Tr.parts (t:Tr):List Tr:=t.list.filter fun x=>!gad x.d.kind
def Tr.bnd (t:Tr):List ByteArray:=(t.parts.filter fun x=>x.d.kind == 15).map fun x=>x.d.name
theorem uy.new {w W:World} {p:Nat->Prop} {x:Tr} {s K:Value} (h:TrV w p x (ndV x.d s K)):uy w p W.heap.size (W.alloc (.cells #[.int .i64 x.d.kind,.bool x.d.neg,s,.string x.d.name,.int .i64 x.d.exp,.int .i64 x.d.rel,.bool x.d.truth,.bool x.d.all,K] 29)) (.slice (some ⟨W.heap.size,0,none⟩) 1 1) [x]:=by
 refine ⟨[(x,s,K)],rfl,⟨rfl,.inr ⟨W.heap.size,1,#[.int .i64 x.d.kind,.bool x.d.neg,s,.string x.d.name,.int .i64 x.d.exp,.int .i64 x.d.rel,.bool x.d.truth,.bool x.d.all,K],rfl,Nat.le_refl _,heap_alloc_new W _,Nat.le_refl _,by unfold maxLen; omega,rfl,rfl⟩⟩,?_⟩;intro r hr;obtain rfl:r=(x,s,K):=by simpa using hr
 exact h
theorem qo.new {W:World} (d:Int):qo W.heap.size (W.alloc (.cells #[.int .i64 d] 3)) (.slice (some ⟨W.heap.size,0,none⟩) 1 1) 1:=by
 refine ⟨[.int .i64 d],⟨rfl,.inr ⟨W.heap.size,1,#[.int .i64 d],rfl,Nat.le_refl _,heap_alloc_new W _,Nat.le_refl _,by unfold maxLen; omega,rfl,rfl⟩⟩,?_⟩;intro x hx; exact ⟨d,by simpa using hx⟩
theorem uy.nil {w W:World} {p:Nat->Prop} {base:Nat}:uy w p base W (.slice none 0 0) []:=⟨[],rfl,World.ownsRow_nil _ _ _ _,by simp⟩
theorem qo.nil {W:World} {base:Nat}:qo base W (.slice none 0 0) 0:=⟨[],World.ownsRow_nil _ _ _ _,by simp⟩
theorem qo.see {W:World} {base n:Nat} {u:Value} (h:qo base W u n) (hl:0 < n):∃ ad cap,u=.slice (some ad) n cap/\n<=cap/\cap<=9223372036854775807/\∀ W',Ext W W'->∀ k,k < n->∃ z:Int,W'.cell? (ad.add k)=some (.int .i64 z):=by
 obtain ⟨g,cap,rfl,h1,h2⟩:=h.pos hl;refine ⟨⟨g,0,none⟩,cap,rfl,h1,by unfold maxLen at h2; omega,fun W' hx k hk=>?_⟩;obtain ⟨xs,ho,hz⟩:=h.ext hx;have hlen:xs.length=n:=by have:=ho.1; omega
 obtain ⟨z,hz⟩:=hz xs[k] (List.getElem_mem (by omega));refine ⟨z,?_⟩;rw [<- hz];exact World.ownsRow.cells ho rfl k _ (List.getElem?_eq_getElem (by omega))
theorem ka4 {α:Type} (l:List α) (f:α->Bool) (k:Nat) (hk:k < l.length):(l.take (k+1)).filter f=(l.take k).filter f ++ (if f l[k] then [l[k]] else []):=by
 rw [List.take_succ_eq_append_getElem hk,List.filter_append];cases h:f l[k] <;> simp [h]
def kc0 (w0:World) (p:Nat->Prop) (l:List Tr) (w:World) (e:Ending) (w':World):Prop:=
 ∃ v u,e=.returned (.tuple #[v,u])/\uy w0 p w.heap.size w' v l/\Ext w w'
def yb0 (w:World) (p:Nat->Prop) (w2:World) (ov uv:Value) (l:List Tr) (wr:World):Prop:=
 uy w p w2.heap.size wr ov l/\qo w2.heap.size wr uv l.length/\(∀ b,ov.ownBlock=some b->uv.ownBlock ≠ some b)/\Ext w2 wr
theorem yb0.step {w w2 wr:World} {p:Nat->Prop} {ov uv:Value} {l:List Tr} {x:Tr} {s K:Value} (h:yb0 w p w2 ov uv l wr) (hx:TrV w p x (ndV x.d s K)) (hlen:l.length<=1000000) (ty ty':TypeId) :
 ∃ v3 w3,(Builtin.append_ #[27,27] ty #[ov,.slice (some ⟨wr.heap.size,0,none⟩) 1 1]).run Tryz.prog (wr.alloc (.cells #[.int .i64 x.d.kind,.bool x.d.neg,s,.string x.d.name,.int .i64 x.d.exp,.int .i64 x.d.rel,.bool x.d.truth,.bool x.d.all,K] 29))=.ok v3 w3/\Ext w2 w3 /\
   ∀ z:Int,∃ v4 w4,(Builtin.append_ #[81,81] ty' #[uv,.slice (some ⟨w3.heap.size,0,none⟩) 1 1]).run Tryz.prog (w3.alloc (.cells #[.int .i64 z] 3))=.ok v4 w4/\yb0 w p w2 v3 v4 (l ++ [x]) w4:=by
 obtain ⟨hl,hi,hne,hxw⟩:=h;have hw:=hxw.size;obtain ⟨W1,hW1⟩:=n_m (wr.alloc (.cells #[.int .i64 x.d.kind,.bool x.d.neg,s,.string x.d.name,.int .i64 x.d.exp,.int .i64 x.d.rel,.bool x.d.truth,.bool x.d.all,K] 29));have hx1:Ext wr W1:=by rw [<- hW1]; exact (Ext.refl wr).alloc _
 have hs1:W1.heap.size=wr.heap.size+1:=by rw [<- hW1]; simp
 have hn:uy w p wr.heap.size W1 (.slice (some ⟨wr.heap.size,0,none⟩) 1 1) [x]:=by rw [<- hW1]; exact uy.new hx
 obtain ⟨v3,w3,hr3,l3,gr3,o3⟩:=yat (hl.ext hx1) hn (by simp) (by omega) (by simp; omega) ty;have hs3:=gr3.size;have x3:Ext w2 w3:=(hxw.trans hx1).grown gr3 (fun b hb=>(hl.lt b hb).1);rw [hW1];refine ⟨v3,w3,hr3,x3,fun z=>?_⟩;have hi3:qo w2.heap.size w3 uv l.length:=(hi.ext hx1).kept gr3 (by
  cases hu:uv.ownBlock with
  | none=>exact .inl rfl
  | some b=>exact .inr (fun e=>hne b e.symm hu))
 obtain ⟨W2,hW2⟩:=n_m (w3.alloc (.cells #[.int .i64 z] 3));have hx2:Ext w3 W2:=by rw [<- hW2]; exact (Ext.refl w3).alloc _
 have hs2:W2.heap.size=w3.heap.size+1:=by rw [<- hW2]; simp
 have hm:qo w3.heap.size W2 (.slice (some ⟨w3.heap.size,0,none⟩) 1 1) 1:=by rw [<- hW2]; exact qo.new z
 obtain ⟨v4,w4,hr4,l4,gr4,o4⟩:=gau (hi3.ext hx2) hm (by omega) (by omega) (by omega) ty';rw [hW2];have far:∀ b,v3.ownBlock=some b->uv.ownBlock ≠ some b:=by
  intro b hb hu;rcases o3 with o3 | o3
  · exact hne b (by rw [<- o3]; exact hb) hu
  · rw [o3] at hb;injection hb with hb
    have:=(hi.lt b hu).2;omega
 refine ⟨v4,w4,hr4,(l3.ext hx2).kept gr4 ?_,?_,?_,(x3.trans hx2).grown gr4 (fun b hb=>(hi3.lt b hb).1)⟩
 · cases hv:v3.ownBlock with
   | none=>exact .inl rfl
   | some b=>exact .inr (fun e=>far b hv e.symm)
 · rw [List.length_append]; exact l4
 · intro b hb hu;rcases o4 with o4 | o4
   · exact far b hb (by rw [<- o4]; exact hu)
   · rw [o4] at hu;injection hu with hu
     have:=(l3.lt b hb).2;omega
theorem qbj {w:World} {p:Nat->Prop} (t:Tr) (v:Value) (h:TrV w p t v) (hsz:t.sz<=1000000):Calls Tryz.prog 21 #[v] w (kc0 w p t.parts w):=by
 have HT:=Lib.hid h;obtain ⟨A0,n0,c0,A,c,rfl,-,hl1,hl2,h4⟩:=h.open_;clear h h4;unfold ndV;unfold ndV at HT;obtain ⟨W,hW⟩:=n_m (w.alloc (.cells #[.int .i64 t.d.kind,.bool t.d.neg,.slice A0 n0 c0,.string t.d.name,.int .i64 t.d.exp,.int .i64 t.d.rel,.bool t.d.truth,.bool t.d.all,.slice A t.ks.length c] 29));have hWx:Ext w W:=by rw [<- hW]; exact (Ext.refl w).alloc _
 have hbx:yai W w.heap.size t.d (.slice A0 n0 c0) (.slice A t.ks.length c):=by rw [<- hW]; exact yai.new w t.d _ _ _
 obtain ⟨b0,b1,b2,b3,b4,b5,b6,b7,b8⟩:=hbx;have HWX:=Lib.hid hWx;have HLI:=Lib.hid (jbs (t.sz+1) t _ W 0 (Nat.lt_succ_self _) HT.out hWx (by omega));have hlp:0 < t.list.length:=by rw [t.list_len]; exact t.sz_pos
 have hlen:t.list.length<=1000000:=by rw [t.list_len]; exact hsz
 have HF:Hid (t.parts=t.list.filter fun x=>!gad x.d.kind):=rfl;clear hWx hsz;generalize hls:t.list=ls at *;have HLS:=Lib.hid hls;clear hls;go_enter Tryz.func21,Tryz.ntmps21;go_wp2_with fail;clear hW b0 b1 b2 b3 b4 b5 b6 b7 b8;refine HLI.out.mono ?_;rintro e w2 ⟨v2,u2,rfl,l2,i2,-,x2⟩;obtain ⟨ad,cap,rfl,hc1,hc2,hat⟩:=l2.see hlp;obtain ⟨ad',cap',rfl,hd1,hd2,hat'⟩:=i2.see hlp;have L2:=Lib.hid hat;have I2:=Lib.hid hat';have X2:=Lib.hid x2;clear l2 i2 hat hat' x2 HLI HT;go_wp2_with fail
 go_loopw [6,7,16] (fun ov uv iv wr=>∃ k:Nat,k<=ls.length/\iv=.int .i64 k/\Hid (yb0 w p w2 ov uv ((ls.take k).filter fun x=>!gad x.d.kind) wr)) (fun _ _ iv _=>ls.length - (intOf iv).toNat)
 case atStart=>exact ⟨0,Nat.zero_le _,rfl,⟨by simpa using uy.nil,by simpa using qo.nil,by simp [Value.ownBlock],Ext.refl w2⟩⟩
 case round =>
  obtain ⟨k,hk,rfl,hpr⟩:=hrel;have HPR:=hpr;clear hpr;have hx:=HPR.out.2.2.2
  by_cases hlt:k < ls.length
  · obtain ⟨A0,c0,A1,c1,⟨e0,e1,e2,e3,e4,e5,e6,e7,e8⟩,ht⟩:=L2.out wr hx k hlt;have HTX:=Lib.hid ht;have HTK:=Lib.hid (ka4 ls (fun x=>!gad x.d.kind) k hlt);have HLEN:Hid (((ls.take k).filter fun x=>!gad x.d.kind).length<=1000000):=by
     have h1:=List.length_filter_le (fun x:Tr=>!gad x.d.kind) (ls.take k);rw [List.length_take] at h1;have:((ls.take k).filter fun x=>!gad x.d.kind).length<=1000000:=by omega
     exact this
    by_cases htk:gad ls[k].d.kind=true
    · have HN:Hid ((ls.take (k+1)).filter (fun x=>!gad x.d.kind)=(ls.take k).filter fun x=>!gad x.d.kind):=by
       have:(ls.take (k+1)).filter (fun x=>!gad x.d.kind)=(ls.take k).filter fun x=>!gad x.d.kind:=by rw [HTK.out,htk]; simp
       exact this
      have HKD:=Lib.hid htk;clear ht hx htk;go_wp2_with fail;refine (zay _ _).mono ?_;rintro e w5 ⟨rfl,rfl⟩;rw [HKD.out];go_wp2_with fail
      go_roundw
      case rel=>exact ⟨k+1,by omega,by go_num,by rw [HN.out]; exact HPR⟩
      case measure=>simp [intOf]; omega
    · have htk':gad ls[k].d.kind=false:=by simpa using htk
      have HN:Hid ((ls.take (k+1)).filter (fun x=>!gad x.d.kind)=((ls.take k).filter fun x=>!gad x.d.kind) ++ [ls[k]]):=by
       have:(ls.take (k+1)).filter (fun x=>!gad x.d.kind)=((ls.take k).filter fun x=>!gad x.d.kind) ++ [ls[k]]:=by rw [HTK.out,htk']; simp
       exact this
      have HKD:=Lib.hid htk';obtain ⟨v3,w3,hr3,x3,hnext⟩:=HPR.out.step ht HLEN.out 27 81;obtain ⟨z,hz⟩:=I2.out w3 x3 k hlt;have hz':(w3.alloc (.cells #[.int .i64 z] 3)).cell? (ad'.add k)=some (.int .i64 z):=by
       obtain ⟨z',hz'⟩:=I2.out _ (x3.trans ((Ext.refl w3).alloc (.cells #[.int .i64 z] 3))) k hlt;rw [<- hz];have hlt2:(ad'.add k).block < w3.heap.size:=by
        rcases Nat.lt_or_ge (ad'.add k).block w3.heap.size with h | h
        · exact h
        · simp [World.cell?,Array.getElem?_eq_none h] at hz
       exact ((Ext.refl w3).alloc _).cell hlt2
      obtain ⟨v4,w4,hr4,hp4⟩:=hnext z;have HP4:=Lib.hid hp4;clear ht hx htk htk' hnext hp4 x3;go_wp2_with fail;refine (zay _ _).mono ?_;rintro e w5 ⟨rfl,rfl⟩;rw [HKD.out]
      go_wp2_with (at_builtin
                   first
                   | refine wpList_append_run rfl (.tmp 26) (.tmp 31) _ _ rfl _ _ _ _ rfl rfl hr3 ?_
                   | refine wpList_append_run rfl (.tmp 33) (.tmp 38) _ _ rfl _ _ _ _ rfl rfl hr4 ?_)
      clear hr3 hr4
      go_roundw
      case rel=>exact ⟨k+1,by omega,by go_num,by rw [HN.out]; exact HP4⟩
      case measure=>simp [intOf]; omega
  · have HKE:Hid (k=ls.length):=by
     have:k=ls.length:=by omega
     exact this
    clear hx;go_wp2_with fail
    go_ret2
    have hp:=HPR.out;rw [HKE.out,List.take_length] at hp;have hs:=(HWX.out.trans X2.out).size;exact ⟨_,_,rfl,by rw [HF.out]; exact hp.1.base_ hs,HWX.out.trans (X2.out.trans hp.2.2.2)⟩
theorem qba {W:World} {base:Nat} {v:Value} {l:List ByteArray} (h:jh W base v l) (s:ByteArray) (hb:base<=W.heap.size) (hlen:l.length<=1000000) (ty:TypeId) :
 ∃ v' w',(Builtin.append_ #[34,34] ty #[v,.slice (some ⟨W.heap.size,0,none⟩) 1 1]).run Tryz.prog (W.alloc (.cells #[.string s] 9))=.ok v' w'/\jh w' base v' (l ++ [s])/\(W.alloc (.cells #[.string s] 9)).grownBy w' v.ownBlock:=by
 obtain ⟨i0,hi,hz0,hz1,hz2⟩:=info_parts yay;have h':=h.ext ((Ext.refl W).alloc (.cells #[.string s] 9));obtain ⟨v',w',hrun,r1,r2,-,r3⟩:=run_append_own_at (P:=Tryz.prog) (W.alloc (.cells #[.string s] 9)) base 34 ty 9 i0 _ 1 16 Tryz.underlying34 hi hz0 hz1 hz2 rfl (by omega) v l.length (strs l) h' ⟨W.heap.size,0,none⟩ 1 1 [.string s] rfl (ybx (by simp [go_sem])) (by simp [Value.oneCell']) (by unfold maxLen; omega) (by omega) (by simp; omega);refine ⟨v',w',hrun,?_,r2⟩;unfold jh;rw [uau]; simpa using r1
theorem jbj {w:World} {p:Nat->Prop} (t:Tr) (v:Value) (h:TrV w p t v) (hsz:t.sz<=1000000) (hnt:gad t.d.kind=false):Calls Tryz.prog 7 #[v] w (qbc t.bnd w):=by
 have HT:=Lib.hid h;obtain ⟨A0,n0,c0,A,c,rfl,-,hl1,hl2,h4⟩:=h.open_;clear h h4;unfold ndV;unfold ndV at HT;obtain ⟨W,hW⟩:=n_m (w.alloc (.cells #[.int .i64 t.d.kind,.bool t.d.neg,.slice A0 n0 c0,.string t.d.name,.int .i64 t.d.exp,.int .i64 t.d.rel,.bool t.d.truth,.bool t.d.all,.slice A t.ks.length c] 29));have hWx:Ext w W:=by rw [<- hW]; exact (Ext.refl w).alloc _
 have hbx:yai W w.heap.size t.d (.slice A0 n0 c0) (.slice A t.ks.length c):=by rw [<- hW]; exact yai.new w t.d _ _ _
 obtain ⟨b0,b1,b2,b3,b4,b5,b6,b7,b8⟩:=hbx;have HWX:=Lib.hid hWx;have HPA:=Lib.hid (qbj t _ (HT.out.ext hWx) hsz);have hlp:0 < t.parts.length:=by
  have:t ∈ t.parts:=List.mem_filter.2 ⟨by cases t; simp [Tr.list],by rw [hnt]; rfl⟩;exact List.length_pos_of_mem this
 have hlen:t.parts.length<=1000000:=by
  have h1:=List.length_filter_le (fun x:Tr=>!gad x.d.kind) t.list;rw [t.list_len] at h1;unfold Tr.parts; omega
 have HF:Hid (t.bnd=(t.parts.filter fun x=>x.d.kind == 15).map fun x=>x.d.name):=rfl;clear hWx hsz hnt;generalize hls:t.parts=ls at *;have HLS:=Lib.hid hls;clear hls;go_enter Tryz.func7,Tryz.ntmps7;go_wp2_with fail;clear hW b0 b1 b2 b3 b4 b5 b6 b7 b8;refine HPA.out.mono ?_;rintro e w2 ⟨v2,u2,rfl,l2,x2⟩;obtain ⟨ad,cap,rfl,hc1,hc2,hat⟩:=l2.see hlp;have L2:=Lib.hid hat;have X2:=Lib.hid x2;clear l2 hat x2 HPA HT;go_wp2_with fail
 go_loopw [3,14] (fun sv iv wr=>∃ k:Nat,k<=ls.length/\iv=.int .i64 k/\Hid (jh wr w2.heap.size sv (((ls.take k).filter fun x=>x.d.kind == 15).map fun x=>x.d.name)/\Ext w2 wr)) (fun _ iv _=>ls.length - (intOf iv).toNat)
 case atStart=>exact ⟨0,Nat.zero_le _,rfl,⟨by simpa using jh.nil w2 w2.heap.size,Ext.refl w2⟩⟩
 case round =>
  obtain ⟨k,hk,rfl,⟨hsr,hx⟩⟩:=hrel;have HSR:=Lib.hid hsr;have HX:=Lib.hid hx
  by_cases hlt:k < ls.length
  · obtain ⟨A0,c0,A1,c1,⟨e0,e1,e2,e3,e4,e5,e6,e7,e8⟩,ht⟩:=L2.out wr hx k hlt;have HTK:=Lib.hid (ka4 ls (fun x=>x.d.kind == 15) k hlt);have HLEN:Hid ((((ls.take k).filter fun x=>x.d.kind == 15).map fun x=>x.d.name).length<=1000000):=by
     have h1:=List.length_filter_le (fun x:Tr=>x.d.kind == 15) (ls.take k);rw [List.length_take] at h1;have:(((ls.take k).filter fun x=>x.d.kind == 15).map fun x=>x.d.name).length<=1000000:=by rw [List.length_map]; omega
     exact this
    clear e1 e2 e4 e5 e6 e7 e8 ht
    by_cases hq:(ls[k].d.kind == 15)=true
    · obtain ⟨v3,w3,hr3,r3,gr3⟩:=qba hsr ls[k].d.name hx.size HLEN.out 34;have hn:jh w3 w2.heap.size v3 (((ls.take (k+1)).filter fun x=>x.d.kind == 15).map fun x=>x.d.name)/\Ext w2 w3:=by
       rw [HTK.out,hq];refine ⟨by simpa using r3,(hx.trans ((Ext.refl wr).alloc _)).grown gr3 (fun b hb=>(hsr.lt b hb).1)⟩
      have HN:=Lib.hid hn;clear hn r3 gr3 hsr hx HTK
      go_wp2_with (at_builtin
                   refine wpList_append_run rfl (.tmp 23) (.tmp 29) _ _ rfl _ _ _ _ rfl rfl hr3 ?_)
      clear hr3
      go_roundw
      case rel=>exact ⟨k+1,by omega,by go_num,HN⟩
      case measure=>simp [intOf]; omega
    · have hq':(ls[k].d.kind == 15)=false:=by simpa using hq
      have HEQ:Hid ((((ls.take (k+1)).filter fun x=>x.d.kind == 15).map fun x=>x.d.name)=(((ls.take k).filter fun x=>x.d.kind == 15).map fun x=>x.d.name)):=by
       have:(((ls.take (k+1)).filter fun x=>x.d.kind == 15).map fun x=>x.d.name)=(((ls.take k).filter fun x=>x.d.kind == 15).map fun x=>x.d.name):=by rw [HTK.out,hq']; simp
       exact this
      clear hsr hx hq HTK;go_wp2_with fail
      go_roundw
      case rel=>exact ⟨k+1,by omega,by go_num,⟨by rw [HEQ.out]; exact HSR.out,HX.out⟩⟩
      case measure=>simp [intOf]; omega
  · have HKE:Hid (k=ls.length):=by
     have:k=ls.length:=by omega
     exact this
    clear hx hsr;go_wp2_with fail;go_ret;have hp:=HSR.out;rw [HKE.out,List.take_length] at hp;have hs:=(HWX.out.trans X2.out).size;exact ⟨_,rfl,by rw [HF.out]; exact ownsRow_base hp hs,HWX.out.trans (X2.out.trans HX.out)⟩
end Go.Proofs.YtheefiaoimbeiaaGreatDoor

/- Matrices: no level is above 4. -/
namespace Go.Proofs.YtheefiaoimbeiaaGreatDoor
open Go.RowKit
theorem yb6 : ∀ (l : List Mx) (a : Int), a <= 4 -> (∀ t ∈ l, t.lvl <= 4) -> xbb a l <= 4
 | [],a,h,_=>by rw [xbb]; exact h
 | x :: r,a,h,hl=>by
   rw [xbb];have:=hl x (by simp);exact yb6 r _ (by omega) (fun t ht=>hl t (by simp [ht]))
theorem Mx.lvl_4 (n:Nat):∀ t:Mx,t.sz < n->t.lvl<=4:=by
 induction n with
 | zero=>intro t h; omega
 | succ n ih =>
   intro t h;rw [Mx.lvl_eq]
   split
   · exact (Pl.Can.lv_nonneg t.p.nf_can).2
   · split
     · refine yb6 _ _ (by omega) (fun x hx=>ih x ?_);obtain ⟨i,hi,rfl⟩:=List.getElem_of_mem hx;have:=Mx.kid_le t i hi;omega
     · omega
end Go.Proofs.YtheefiaoimbeiaaGreatDoor

/- One operation of a region taken first: its side conditions by themselves. -/
namespace Go.Proofs.YtheefiaoimbeiaaGreatDoor
theorem tk {P : Program} {ops : Array Oper} {Q : Exit -> Act -> World -> Prop} {md : Region.Mode} {S : World -> Prop} {oi : Oper} {v : Value} {fuel : Nat} {listed l' : Array Bool} {a a' : Act} {w : World} (i : Nat) (h : wpAnyH P md ops Q S fuel l' a' w) (hi : ops[i]? = some oi := by rfl) (hs : Region.noSelect ops = true := by kernel_rfl) (hf : Region.free md ops listed i = true := by kernel_rfl) (hr : (Region.ready md ops listed).contains i = true := by kernel_rfl)
 (hy:YieldsIf P ops S oi v a:=by (first | exact Or.inl ⟨by rfl,by intro w' hSw; (try dsimp only at hSw); go_simp; (try (with_reducible rfl))⟩ | exact Or.inr ⟨by rfl,rfl⟩)) (hS:S w:=by assumption)
 (ha:a.put oi.dst v=a':=by ((try simp only [Act.put,List.getElem_toArray,List.getElem_cons_zero,List.getElem_cons_succ,List.setIfInBounds_toArray,List.set_cons_zero,List.set_cons_succ]) <;> rfl))
 (hl:listed.setIfInBounds i true=l':=by ((try simp only [List.setIfInBounds_toArray,List.set_cons_zero,List.set_cons_succ]) <;> rfl)) (hq:∀ c a w,Q (.panic c) (a.put oi.dst v) w->Q (.panic c) a w:=by exact fun _ _ _ h=>h):wpAnyH P md ops Q S (fuel+1) listed a w:=
 wpAnyH_take hi hs hf hr hq hy hS (by rw [ha,hl]; exact h)
section
variable {P:Program} {ops:Array Oper} {Q:Exit->Act->World->Prop} {md:Region.Mode} {S:World->Prop} {fuel:Nat}
theorem k_t {l0 l':Array Bool} {K':Act->World->Prop} {a a':Act} {w:World} (hK:Shut (∀ a w,S w->(S w->wpAnyH P md ops Q S fuel l0 a w)->K' a w)) (hS:S w) (h:S w->wpAnyH P md ops Q S fuel l' a' w) (ha:a=a':=by ((try simp only [Act.put,List.getElem_toArray,List.getElem_cons_zero,List.getElem_cons_succ,List.setIfInBounds_toArray,List.set_cons_zero,List.set_cons_succ]) <;> rfl)) (hl:l0=l':=by ((try simp only [List.setIfInBounds_toArray,List.set_cons_zero,List.set_cons_succ]) <;> rfl)):K' a w:=
  hK.out a w hS fun hs=>by rw [ha,hl]; exact h hs
theorem r_1 {listed:Array Bool} {a:Act} {w:World} {o:Oper} (i:Nat) (h:∀ K':Act->World->Prop,Shut (∀ a w,S w->(S w->wpAnyH P md ops Q S fuel (listed.setIfInBounds i true) a w)->K' a w)->if Region.wanted o (yielded ops a.tmps)=true then Oper.wp P o a w K' Q else K' (a.put o.dst undef) w) (hr:Region.ready md ops listed=[i]:=by kernel_rfl) (ho:ops[i]?=some o:=by rfl):wpAnyH P md ops Q S (fuel+1) listed a w:=
  wpAnyH_ready hr (by simp) (AllReadyH.cons ho h AllReadyH.nil)
theorem r_2 {listed:Array Bool} {a:Act} {w:World} {o p:Oper} (i j:Nat) (h:∀ K':Act->World->Prop,Shut (∀ a w,S w->(S w->wpAnyH P md ops Q S fuel (listed.setIfInBounds i true) a w)->K' a w)->if Region.wanted o (yielded ops a.tmps)=true then Oper.wp P o a w K' Q else K' (a.put o.dst undef) w) (h2:∀ K':Act->World->Prop,Shut (∀ a w,S w->(S w->wpAnyH P md ops Q S fuel (listed.setIfInBounds j true) a w)->K' a w)->if Region.wanted p (yielded ops a.tmps)=true then Oper.wp P p a w K' Q else K' (a.put p.dst undef) w) (hr:Region.ready md ops listed=[i,j]:=by kernel_rfl) (ho:ops[i]?=some o:=by rfl) (hp:ops[j]?=some p:=by rfl):wpAnyH P md ops Q S (fuel+1) listed a w:=
  wpAnyH_ready hr (by simp) (AllReadyH.cons ho h (AllReadyH.cons hp h2 AllReadyH.nil))
theorem w_d {listed:Array Bool} {a:Act} {w:World} (h:Q .normal a w) (hr:Region.ready md ops listed=[]:=by kernel_rfl):wpAnyH P md ops Q S fuel listed a w:=wpAnyH_done hr h _
end
end Go.Proofs.YtheefiaoimbeiaaGreatDoor

/- Small matrices: their polynomials, and those of their normal forms. -/
namespace Go.Proofs.YtheefiaoimbeiaaGreatDoor
open Go.RowKit
end Go.Proofs.YtheefiaoimbeiaaGreatDoor

/- Reference 38: Holds. -/
namespace Go.Proofs.YtheefiaoimbeiaaGreatDoor
open Go.RowKit
theorem gbf (r s:Int) (w:World):Calls Tryz.prog 37 #[.int .i64 r,.int .i64 s] w fun e w'=>e=.returned (.bool (jac r s))/\w'=w:=by
 by_cases h1:r=1
 · have hv:jac r s=(decide (s < 0)):=by subst h1; rfl
   have b1:(r == 1)=true:=by simpa using h1
   rw [hv];clear hv h1;go_enter Tryz.func37,Tryz.ntmps37;go_wp2_with fail;go_ret;exact ⟨rfl,rfl⟩
 by_cases h2:r=2
 · have hv:jac r s=(decide (s<=0)):=by subst h2; rfl
   have b1:(r == 1)=false:=by simpa using h1
   have b2:(r == 2)=true:=by simpa using h2
   rw [hv];clear hv h1 h2;go_enter Tryz.func37,Tryz.ntmps37;go_wp2_with fail;go_ret;exact ⟨rfl,rfl⟩
 by_cases h4:r=4
 · have hv:jac r s=(s != 0):=by subst h4; rfl
   have b1:(r == 1)=false:=by simpa using h1
   have b2:(r == 2)=false:=by simpa using h2
   have b4:(r == 4)=true:=by simpa using h4
   rw [hv];clear hv h1 h2 h4;go_enter Tryz.func37,Tryz.ntmps37;go_wp2_with fail;go_ret;exact ⟨rfl,rfl⟩
 by_cases h5:r=5
 · have hv:jac r s=(decide (0<=s)):=by subst h5; rfl
   have b1:(r == 1)=false:=by simpa using h1
   have b2:(r == 2)=false:=by simpa using h2
   have b4:(r == 4)=false:=by simpa using h4
   have b5:(r == 5)=true:=by simpa using h5
   rw [hv];clear hv h1 h2 h4 h5;go_enter Tryz.func37,Tryz.ntmps37;go_wp2_with fail;go_ret;exact ⟨rfl,rfl⟩
 by_cases h6:r=6
 · have hv:jac r s=(decide (0 < s)):=by subst h6; rfl
   have b1:(r == 1)=false:=by simpa using h1
   have b2:(r == 2)=false:=by simpa using h2
   have b4:(r == 4)=false:=by simpa using h4
   have b5:(r == 5)=false:=by simpa using h5
   have b6:(r == 6)=true:=by simpa using h6
   rw [hv];clear hv h1 h2 h4 h5 h6;go_enter Tryz.func37,Tryz.ntmps37;go_wp2_with fail;go_ret;exact ⟨rfl,rfl⟩
 have hv:jac r s=(s == 0):=by simp [jac,h1,h2,h4,h5,h6]
 have b1:(r == 1)=false:=by simpa using h1
 have b2:(r == 2)=false:=by simpa using h2
 have b4:(r == 4)=false:=by simpa using h4
 have b5:(r == 5)=false:=by simpa using h5
 have b6:(r == 6)=false:=by simpa using h6
 rw [hv];clear hv h1 h2 h4 h5 h6;go_enter Tryz.func37,Tryz.ntmps37;go_wp2_with fail;go_ret;exact ⟨rfl,rfl⟩
end Go.Proofs.YtheefiaoimbeiaaGreatDoor

/- A growing row of integers. -/
namespace Go.Proofs.YtheefiaoimbeiaaGreatDoor
open Go.RowKit
theorem kb6:(Tryz.prog.info? 25).map (fun i=>(i.zero,i.size,i.bytes))=some (some (.agg #[.bool false,.slice none 0 0]),2,32):=by kernel_rfl
theorem kb9 : yas 54 25 2 32 (.agg #[.bool false, .slice none 0 0]) where
 und:=Tryz.underlying54
 info:=kb6
 cells:=rfl
 pos:=by omega
 nodig:=by
  intro u hu;simp only [Value.cells] at hu;simp only [List.mem_cons,List.not_mem_nil,or_false] at hu;rcases hu with rfl | rfl <;> rfl
abbrev ZaR:=Int × Value
def zaC (r:ZaR):List Value:=[.bool (decide (r.1 < 0)),r.2]
def gar (rs:List ZaR):List Value:=rs.flatMap zaC
theorem gbl (a b:List ZaR):gar (a ++ b)=gar a ++ gar b:=by simp [gar]
theorem qb7 (rs:List ZaR) (k:Nat) (hk:k < rs.length) (j:Nat) (hj:j < 2):(gar rs)[k * 2+j]?=(zaC rs[k])[j]?:=by
 induction rs generalizing k with
 | nil=>simp at hk
 | cons r rs ih =>
   have hl:(zaC r).length=2:=rfl;simp only [gar,List.flatMap_cons];cases k with
   | zero=>simp only [Nat.zero_mul,Nat.zero_add,List.getElem_cons_zero]; rw [List.getElem?_append_left (by omega)]
   | succ k =>
     rw [List.getElem?_append_right (by omega),hl,show (k+1) * 2+j - 2=k * 2+j by omega];exact ih k (by simpa using hk)
def xal (base:Nat) (W:World) (v:Value) (l:List Int):Prop:=
 ∃ rs:List ZaR,rs.map (fun r=>r.1)=l/\yj 25 2 base W v rs.length (gar rs)/\∀ r ∈ rs,(∃ A n c,r.2=.slice A n c)/\ja W r.2 (dg r.1.natAbs)
section
variable {base:Nat} {W W':World} {v:Value} {l:List Int}
theorem xal.nil (base:Nat) (W:World):xal base W (.slice none 0 0) []:=⟨[],rfl,yj.nil _ _ _ _,by simp⟩
theorem xal.ext (h:xal base W v l) (hx:Ext W W'):xal base W' v l:=by
 obtain ⟨rs,e,g,f⟩:=h;exact ⟨rs,e,g.ext hx,fun r hr=>⟨(f r hr).1,(f r hr).2.ext hx⟩⟩
theorem xal.own (h:xal base W v l) {R:Nat} (hR:v.ownBlock=some R):base<=R/\R < W.heap.size:=by
 obtain ⟨rs,-,g,-⟩:=h;exact g.own hR
theorem xal.len (h:xal base W v l):∃ A c,v=.slice A l.length c/\l.length<=c/\c<=9223372036854775807:=by
 obtain ⟨rs,rfl,g,-⟩:=h;rw [List.length_map];exact g.len
theorem xal.push (h:xal base W v l) (hbase:base<=W.heap.size) {z:Int} {A:Option Addr} {n c:Nat} (hx:ja W (.slice A n c) (dg z.natAbs)) (hlen:l.length+1<=1000000000) (ty:TypeId) :
 ∃ v4 w4,(Builtin.append_ #[54,54] ty #[v,.slice (some ⟨W.heap.size,0,none⟩) 1 1]).run Tryz.prog (W.alloc (.cells #[.bool (decide (z < 0)),.slice A n c] 25))=.ok v4 w4/\xal base w4 v4 (l ++ [z])/\W.grownBy w4 v.ownBlock:=by
 obtain ⟨rs,rfl,g,f⟩:=h;rw [List.length_map] at hlen;obtain ⟨v4,w4,hrun,r1,r2,r3,r4⟩:=g.push kb9 hbase (zaC (z,.slice A n c)) rfl (by
  intro u hu;simp only [zaC,List.mem_cons,List.not_mem_nil,or_false] at hu
  rcases hu with rfl | rfl <;> exact ⟨rfl,rfl⟩) (by omega) (by omega) ty
 refine ⟨v4,w4,hrun,⟨rs ++ [(z,.slice A n c)],by simp,?_,fun r hr=>?_⟩,r2⟩
 · rw [gbl,List.length_append];have:gar [(z,Value.slice A n c)]=zaC (z,.slice A n c):=by simp [gar]
   rw [this];exact r1
 · rcases List.mem_append.1 hr with hr | hr
   · exact ⟨(f r hr).1,r3 _ _ (f r hr).2⟩
   · rw [List.mem_singleton.1 hr];exact ⟨⟨_,_,_,rfl⟩,r3 _ _ hx⟩
theorem xal.vals (h:xal base W v l):IsV W v l:=by
 obtain ⟨rs,rfl,g,f⟩:=h;obtain ⟨A,c,rfl,h1,h2⟩:=g.len;refine ⟨A,c,by rw [List.length_map],by rw [List.length_map]; exact h1,h2,fun k hk=>?_⟩;rw [List.length_map] at hk;obtain ⟨b,c',e',-,-,hbg,hlt,-⟩:=g.pos (by omega);injection e' with e1 e2 e3
 subst e1 e3;have hcell:∀ j,j < 2->W.cell? ⟨b,k * 2+j,none⟩=(zaC rs[k])[j]?:=by
  intro j hj;rw [g.cell (k * 2+j) (by omega)];exact qb7 rs k hk j hj
 obtain ⟨⟨A1,n1,c1,er⟩,hp⟩:=f rs[k] (List.getElem_mem hk);rw [er] at hp;refine ⟨⟨b,0,none⟩,A1,n1,c1,rfl,hlt,?_,?_,?_⟩
 · rw [yx,Nat.zero_add,List.getElem_map];exact hcell 0 (by omega)
 · rw [yx,Nat.zero_add];have k1:=hcell 1 (by omega);simp only [zaC,er,List.getElem?_cons_succ,List.getElem?_cons_zero] at k1;exact k1
 · rw [List.getElem_map];exact hp
end
end Go.Proofs.YtheefiaoimbeiaaGreatDoor

/- Law 38: integers: four small numbers as integers. -/
set_option maxRecDepth 100000
set_option maxHeartbeats 8000000
namespace Go.Proofs.YtheefiaoimbeiaaGreatDoor
open Go.RowKit
theorem xby {w:World} (x:Nat->Int) (hx:∀ k,k < 4->-32768<=x k/\x k<=32767):Calls Tryz.prog 12 #[.agg #[.int .i16 (x 0),.int .i16 (x 1),.int .i16 (x 2),.int .i16 (x 3)]] w fun e w'=>∃ v,e=.returned v/\IsV w' v ((List.range 4).map x)/\Ext w w':=by
 obtain ⟨W,hW⟩:=n_m (w.alloc (.cells #[.int .i16 (x 0),.int .i16 (x 1),.int .i16 (x 2),.int .i16 (x 3)] 31));have hWx:Ext w W:=by rw [<- hW]; exact (Ext.refl w).alloc _
 have hWs:W.heap.size=w.heap.size+1:=by rw [<- hW]; simp
 have HC:Hid (∀ W',Ext W W'->∀ k,k < 4->W'.cell? ⟨w.heap.size,k,none⟩=some (.int .i16 (x k))):=Lib.hid (fun W' hx' k hk=>by
  rw [hx'.cell (p:=⟨w.heap.size,k,none⟩) (by show w.heap.size < _; omega),<- hW]
  rcases (by omega:k=0\/k=1\/k=2\/k=3) with rfl | rfl | rfl | rfl <;> simp [go_sem])
 have HWX:=Lib.hid hWx;have HX:=Lib.hid hx;clear hWx hx;go_enter Tryz.func12,Tryz.ntmps12;go_wp2_with fail
 try rw [hW]
 clear hW
 go_loopw [3,5] (fun rv iv wr=>∃ (k:Nat),k<=4/\iv=.int .i64 k/\Hid (xal W.heap.size wr rv ((List.range k).map x)/\Ext W wr)) (fun _ iv _=>4 - (intOf iv).toNat)
 case atStart=>exact ⟨0,by omega,rfl,Lib.hid ⟨xal.nil _ _,Ext.refl _⟩⟩
 case round =>
  obtain ⟨k,hk,rfl,HI⟩:=hrel;have HQ:=Lib.hid HI.out.1;have HE:=Lib.hid HI.out.2;obtain ⟨RA,rc,rfl,hr1,hr2⟩:=HI.out.1.len;rw [List.length_map,List.length_range] at hr1 HQ ⊢;clear HI
  by_cases hlt:k < 4
  · have hc:=HC.out wr HE.out k hlt;have hki:(k:Int) < 4:=by omega
    have hk0:(0:Int)<=(k:Int):=by omega
    have hb:=HX.out k hlt;have hw:IntKind.i64.wrap (x k)=x k:=by rw [IntKind.wrap_i64]; omega
    obtain ⟨z,hz⟩:=n_m (x k);have HS:Hid ((List.range (k+1)).map x=(List.range k).map x ++ [z]):=Lib.hid (by rw [List.range_succ,List.map_append,<- hz]; rfl);rw [hz] at hc hb hw;clear hz;go_wp2_with fail
    try rw [hw]
    refine (of_int z _ (by omega) (by omega)).mono ?_;rintro e w4 ⟨v4,rfl,i4,x4⟩;obtain ⟨y,rfl,hn⟩:=i4;obtain ⟨A,c,rfl,-,-,-⟩:=id hn;have hx4:=HE.out.trans x4;obtain ⟨v6,w6,hrun,hrow6,hg6⟩:=(HQ.out.ext x4).push (z:=z) hx4.size hn (by rw [List.length_map,List.length_range]; omega) 54;rw [<- HS.out] at hrow6;have hx6:Ext W w6:=Below.grown hx4.below hg6 hx4.size (fun j e=>((HQ.out.ext x4).own e).1);have HN:=Lib.hid (And.intro hrow6 hx6);clear hrow6 hg6 hx6 hx4 x4 hn hc
    go_wp2_with (at_builtin
                 refine wpList_append_run rfl (.tmp 8) (.tmp 14) _ _ rfl _ _ _ _ rfl rfl hrun ?_)
    clear hrun
    go_roundw
    case rel=>exact ⟨k+1,by omega,by go_num,HN⟩
    case measure=>simp [intOf]; omega
  · obtain rfl:k=4:=by omega
    have HV:=HQ.out.vals;have HF:=Lib.hid (HWX.out.trans HE.out);clear HQ;go_wp2_with fail;go_ret;exact ⟨_,rfl,HV,HF.out⟩
end Go.Proofs.YtheefiaoimbeiaaGreatDoor

/- Reading the arguments: numbers. -/
namespace Go.Proofs.YtheefiaoimbeiaaGreatDoor
open Go.ChangeShapes Go.WideShapes Go.RowKit
theorem cell_lt {w:World} {a:Addr} {v:Value} (h:w.cell? a=some v):a.block < w.heap.size:=by
 unfold World.cell? at h
 split at h
 · rename_i hh;exact (Array.getElem?_eq_some_iff.1 hh).1
 · cases h
theorem ubf (a:Addr) (n:Nat):a.add (n+1)=⟨a.block,a.off+(n+1),none⟩:=by simp [Addr.add]
theorem ja1 (a:Addr):a.add 0=a:=by simp [Addr.add]
theorem jcy {α:Type} {l:List α} (h:l.length=3):∃ x y z,l=[x,y,z]:=by
 cases l with
 | nil=>simp at h
 | cons x r =>
   obtain ⟨y,z,rfl⟩:=qbb (l:=r) (by simpa using h);exact ⟨x,y,z,rfl⟩
theorem gcg {α:Type} {l:List α} (h:l.length=4):∃ x y z u,l=[x,y,z,u]:=by
 cases l with
 | nil=>simp at h
 | cons x r =>
   obtain ⟨y,z,u,rfl⟩:=jcy (l:=r) (by simpa using h);exact ⟨x,y,z,u,rfl⟩
theorem len8 {α:Type} {l:List α} (h:l.length=8):∃ a b c d e f g i,l=[a,b,c,d,e,f,g,i]:=by
 obtain ⟨a,b,c,d,h1⟩:=gcg (l:=l.take 4) (by rw [List.length_take]; omega);obtain ⟨e,f,g,i,h2⟩:=gcg (l:=l.drop 4) (by rw [List.length_drop]; omega);exact ⟨a,b,c,d,e,f,g,i,by rw [<- List.take_append_drop 4 l,h1,h2]; rfl⟩
theorem kc2 {α:Type} {l:List α} (h:l.length=9):∃ a b c d e f g i j,l=[a,b,c,d,e,f,g,i,j]:=by
 cases l with
 | nil=>simp at h
 | cons x r =>
   obtain ⟨a,b,c,d,e,f,g,i,rfl⟩:=len8 (l:=r) (by simpa using h);exact ⟨x,a,b,c,d,e,f,g,i,rfl⟩
section
variable {H:Type} {enc:TypeId × Value->H} {w:World} {sp:Nat->Bool} {held:Bool}
theorem yca {fuel:Nat} {cs:List Value} {x:DataW H × List MemPlace} (h:DataW.trod enc Tryz.prog w 0 sp held fuel 23 cs=some x):∃ A ds c,cs=[.slice A ds.length c]/\ja w (.slice A ds.length c) ds:=by
 rcases open_ints Tryz.underlying23 Tryz.underlying108 (by kernel_rfl) h with ⟨rfl,-⟩ | ⟨a,len,cap,zs,rfl,-,hlc,hcm,hzl,-,hcell,hwf⟩
 · exact ⟨none,[],0,rfl,ja.nil w⟩
 · have hle:len<=zs.length:=by rw [hzl]; split <;> omega
   have hlen:((zs.take len).map Int.toNat).length=len:=by rw [List.length_map,List.length_take]; omega
   refine ⟨some a,(zs.take len).map Int.toNat,cap,by rw [hlen],?_⟩;refine ⟨some a,cap,rfl,by rw [hlen]; exact hlc,by unfold maxLen at hcm; omega,?_,fun hp=>⟨a,rfl,?_,?_⟩⟩
   · intro d hd;obtain ⟨z,hz,rfl⟩:=List.mem_map.1 hd;have:=bounds_u32 (hwf z (List.mem_of_mem_take hz));show z.toNat < 4294967296;omega
   · rw [hlen] at hp;have:=cell_lt (hcell 0 (by omega))
     rwa [ja1] at this
   · intro j hj;rw [hlen] at hj;have hj2:j < zs.length:=by omega
     rw [hcell j hj2];have hb:=bounds_u32 (hwf zs[j] (List.getElem_mem hj2));simp only [List.getElem_map,List.getElem_take];rw [List.getD_eq_getElem?_getD,List.getElem?_eq_getElem hj2];simp only [Option.getD_some]
     congr 2
     omega
theorem ub1 {fuel:Nat} {cs:List Value} {x:DataW H × List MemPlace} (h:DataW.trod enc Tryz.prog w 0 sp held fuel 25 cs=some x):∃ neg A ds c,cs=[.bool neg,.slice A ds.length c]/\ja w (.slice A ds.length c) ds:=by
 obtain ⟨xs,n,rfl,-,hl,hx,hf⟩:=DataW.trod_struct Tryz.underlying25 h;have hl2:cs.length=2:=hl.trans (by kernel_rfl);have hx2:xs.length=2:=hx;obtain ⟨c0,c1,rfl⟩:=qbb hl2;obtain ⟨x0,x1,rfl⟩:=qbb hx2;have f0:DataW.trod enc Tryz.prog w 0 sp held n 4 ((List.drop 0 [c0,c1]).take (Tryz.prog.cellsOf 4))=some x0:=hf 0 _ rfl;have f1:DataW.trod enc Tryz.prog w 0 sp held n 23 ((List.drop 1 [c0,c1]).take (Tryz.prog.cellsOf 23))=some x1:=hf 1 _ rfl;rw [show Tryz.prog.cellsOf 4=1 by kernel_rfl] at f0;rw [show Tryz.prog.cellsOf 23=1 by kernel_rfl] at f1;simp only [List.drop_zero,List.drop_succ_cons,List.take_succ_cons,List.take_zero,List.getElem?_cons_zero,List.getElem?_cons_succ] at f0 f1;obtain ⟨b,e,-⟩:=DataW.trod_bool Tryz.underlying4 f0;obtain ⟨A,ds,c,e1,hn⟩:=yca f1;simp only [List.cons.injEq,and_true] at e e1;exact ⟨b,A,ds,c,by rw [e,e1],hn⟩
end
end Go.Proofs.YtheefiaoimbeiaaGreatDoor

/- Reading the arguments: polynomials and matrices that came in. -/
namespace Go.Proofs.YtheefiaoimbeiaaGreatDoor
open Go.ChangeShapes Go.WideShapes Go.RowKit
section
variable {H:Type} {enc:TypeId × Value->H} {w:World} {sp:Nat->Bool} {held:Bool}
theorem uax {α:Type} {l:List α} (h:l.length=7):∃ a b c d e f g,l=[a,b,c,d,e,f,g]:=by
 obtain ⟨a,b,c,d,h1⟩:=gcg (l:=l.take 4) (by rw [List.length_take]; omega);obtain ⟨e,f,g,h2⟩:=jcy (l:=l.drop 4) (by rw [List.length_drop]; omega);exact ⟨a,b,c,d,e,f,g,by rw [<- List.take_append_drop 4 l,h1,h2]; rfl⟩
end
end Go.Proofs.YtheefiaoimbeiaaGreatDoor

/- Reference 38: SmallTree; law 38: right. -/
set_option maxRecDepth 100000
set_option maxHeartbeats 8000000
namespace Go.Proofs.YtheefiaoimbeiaaGreatDoor
open Go.RowKit
def Tr.iffs (t:Tr):Nat:=(t.list.filter fun x=>x.d.kind == 14).length
theorem ga8 {α:Type} (l:List α) (f:α->Bool) (k:Nat) (hk:k < l.length):((l.take (k+1)).filter f).length=((l.take k).filter f).length+(if f l[k] then 1 else 0):=by
 rw [List.take_succ_eq_append_getElem hk,List.filter_append,List.length_append];cases h:f l[k] <;> simp [h]
theorem jbv {w:World} {p:Nat->Prop} (t:Tr) (v:Value) (h:TrV w p t v) (n k0:Nat) (hn:n<=1000):Calls Tryz.prog 16 #[v,.int .i64 n,.int .i64 k0] w (kad (t.few n && decide (t.iffs<=k0)) w):=by
 have HT:=Lib.hid h;obtain ⟨A0,n0,c0,A,c,rfl,-,hl1,hl2,h4⟩:=h.open_;clear h h4;unfold ndV;unfold ndV at HT;obtain ⟨W,hW⟩:=n_m (w.alloc (.cells #[.int .i64 t.d.kind,.bool t.d.neg,.slice A0 n0 c0,.string t.d.name,.int .i64 t.d.exp,.int .i64 t.d.rel,.bool t.d.truth,.bool t.d.all,.slice A t.ks.length c] 29));have hWx:Ext w W:=by rw [<- hW]; exact (Ext.refl w).alloc _
 have hWs:W.heap.size=w.heap.size+1:=by rw [<- hW]; simp
 have hbx:yai W w.heap.size t.d (.slice A0 n0 c0) (.slice A t.ks.length c):=by rw [<- hW]; exact yai.new w t.d _ _ _
 obtain ⟨b0,b1,b2,b3,b4,b5,b6,b7,b8⟩:=id hbx;have HBX:=Lib.hid hbx;have HWX:=Lib.hid hWx;have HRM:=Lib.hid (wci t _ (HT.out.ext hWx) n hn);have HFS:=Lib.hid (fun h=>(qay (t:=t) (n:=n) h).1);clear hWx hbx;generalize t.few n=fw at *;go_enter Tryz.func16,Tryz.ntmps16;go_wp2_with fail;clear hW b0 b1 b2 b3 b4 b5 b6 b7 b8;refine HRM.out.mono ?_;rintro e w1 ⟨rfl,x1⟩;have X1:=Lib.hid x1;clear HRM;cases fw
 case false =>
  clear x1;go_wp2_with fail;go_ret;exact ⟨rfl,HWX.out.trans X1.out⟩
 obtain ⟨b0,b1,b2,b3,b4,b5,b6,b7,b8⟩:=HBX.out.ext x1 (by omega);have hsz:=HFS.out rfl;have HLI:=Lib.hid (gbk t _ (HT.out.ext (HWX.out.trans x1)) (by omega));have hlp:0 < t.list.length:=by rw [t.list_len]; exact t.sz_pos
 have hll:t.list.length<=1000:=by rw [t.list_len]; omega
 have HF:Hid (t.iffs=(t.list.filter fun x=>x.d.kind == 14).length):=rfl;generalize t.iffs=tif at *;clear x1 HFS;generalize hls:t.list=ls at *;have HLS:=Lib.hid hls;clear hls;go_wp2_with fail;refine HLI.out.mono ?_;rintro e w2 ⟨v2,u2,rfl,l2,i2,-,x2⟩;obtain ⟨ad,cap,rfl,hc1,hc2,hat⟩:=l2.see hlp;obtain ⟨g',cap',rfl,-,-⟩:=i2.pos hlp;have L2:=Lib.hid hat;have X2:=Lib.hid x2;clear b0 b1 b2 b3 b4 b5 b6 b7 b8 l2 i2 hat x2 HLI HBX HT;go_wp2_with fail
 go_loopw [7,22] (fun cv iv wr=>∃ k:Nat,k<=ls.length/\iv=.int .i64 k/\Hid (∃ j:Nat,cv=.int .i64 j/\j<=k/\((ls.take k).filter fun x=>x.d.kind == 14).length=j/\Ext w2 wr)) (fun _ iv _=>ls.length - (intOf iv).toNat)
 case atStart=>exact ⟨0,Nat.zero_le _,rfl,⟨0,rfl,Nat.le_refl _,by simp,Ext.refl w2⟩⟩
 case round =>
  obtain ⟨k,hk,rfl,⟨j,rfl,hjk,hal,hx⟩⟩:=hrel;have HA:=Lib.hid hal;have HX:=Lib.hid hx
  by_cases hlt:k < ls.length
  · obtain ⟨A0,c0,A1,c1,⟨e0,e1,e2,e3,e4,e5,e6,e7,e8⟩,ht⟩:=L2.out wr hx k hlt;have HTK:=Lib.hid (ga8 ls (fun x=>x.d.kind == 14) k hlt);clear ht hal hx e1 e2 e3 e4 e5 e6 e7 e8;generalize ls[k].d.kind=kd at *
    by_cases h14:(kd == 14)=true
    · have HN:Hid (((ls.take (k+1)).filter fun x=>x.d.kind == 14).length=j+1):=by
       have:((ls.take (k+1)).filter fun x=>x.d.kind == 14).length=j+1:=by rw [HTK.out,HA.out,if_pos h14]
       exact this
      go_wp2_with fail
      go_roundw
      case rel=>exact ⟨k+1,by omega,by go_num,⟨j+1,by go_num,by omega,HN.out,HX.out⟩⟩
      case measure=>simp [intOf]; omega
    · have HN:Hid (((ls.take (k+1)).filter fun x=>x.d.kind == 14).length=j):=by
       have:((ls.take (k+1)).filter fun x=>x.d.kind == 14).length=j:=by rw [HTK.out,HA.out,if_neg h14]; simp
       exact this
      have h14':(kd == 14)=false:=by simpa using h14
      clear h14;go_wp2_with fail
      go_roundw
      case rel=>exact ⟨k+1,by omega,by go_num,⟨j,rfl,by omega,HN.out,HX.out⟩⟩
      case measure=>simp [intOf]; omega
  · have hke:k=ls.length:=by omega
    have HJ:Hid (tif=j):=by
     have:tif=j:=by rw [HF.out,<- HA.out,hke,List.take_length]
     exact this
    clear hal hx;go_wp2_with fail;go_ret;refine ⟨?_,HWX.out.trans (X1.out.trans (X2.out.trans HX.out))⟩;rw [HJ.out];simp
theorem gbo {w:World} {p:Nat->Prop} (t:Tr) (v:Value) (h:TrV w p t v):Calls Tryz.prog 6 #[v] w (kad (t.few 120 && decide (t.iffs<=4) && t.is false) w):=by
 have HT:=Lib.hid h;obtain ⟨A0,n0,c0,A,c,rfl,-,hl1,hl2,h4⟩:=h.open_;clear h h4;unfold ndV;unfold ndV at HT;obtain ⟨W,hW⟩:=n_m (w.alloc (.cells #[.int .i64 t.d.kind,.bool t.d.neg,.slice A0 n0 c0,.string t.d.name,.int .i64 t.d.exp,.int .i64 t.d.rel,.bool t.d.truth,.bool t.d.all,.slice A t.ks.length c] 29));have hWx:Ext w W:=by rw [<- hW]; exact (Ext.refl w).alloc _
 have hWs:W.heap.size=w.heap.size+1:=by rw [<- hW]; simp
 have hbx:yai W w.heap.size t.d (.slice A0 n0 c0) (.slice A t.ks.length c):=by rw [<- hW]; exact yai.new w t.d _ _ _
 obtain ⟨b0,b1,b2,b3,b4,b5,b6,b7,b8⟩:=id hbx;have HBX:=Lib.hid hbx;have HWX:=Lib.hid hWx;have HST:=Lib.hid (jbv t _ (HT.out.ext hWx) 120 4 (by omega));have HI:=Lib.hid (fun W' (hx:Ext w W')=>kcz t _ W' false (HT.out.ext hx));clear hWx hbx;generalize (t.few 120 && decide (t.iffs<=4))=fw at *;generalize t.is false=r at *;go_enter Tryz.func6,Tryz.ntmps6;go_wp2_with fail;clear hW b0 b1 b2 b3 b4 b5 b6 b7 b8;refine HST.out.mono ?_;rintro e w1 ⟨rfl,x1⟩;have X1:=Lib.hid (HWX.out.trans x1);obtain ⟨b0,b1,b2,b3,b4,b5,b6,b7,b8⟩:=HBX.out.ext x1 (by omega);clear HST;cases fw
 · clear x1 b0 b1 b2 b3 b4 b5 b6 b7 b8;go_wp2_with fail;go_ret;exact ⟨rfl,X1.out⟩
 · clear x1;go_wp2_with fail;clear b0 b1 b2 b3 b4 b5 b6 b7 b8;refine (HI.out _ X1.out).mono ?_;rintro e w2 ⟨rfl,x2⟩;have X2:=Lib.hid (X1.out.trans x2);clear x2;go_wp2_with fail;go_ret;exact ⟨rfl,X2.out⟩
end Go.Proofs.YtheefiaoimbeiaaGreatDoor

/- Reading the arguments: a tree. -/
set_option maxRecDepth 100000
set_option maxHeartbeats 8000000
namespace Go.Proofs.YtheefiaoimbeiaaGreatDoor
open Go.ChangeShapes Go.WideShapes Go.RowKit
section
variable {H:Type} {enc:TypeId × Value->H} {w:World} {sp:Nat->Bool} {held:Bool}
def zcy:Tr:=.mk ⟨0,false,[],ByteArray.empty,0,0,false,false⟩ []
theorem ucj {a:Addr} {r:Tr × Value × Value} (h:w.cells? 0 a 9=some (xah r)):zah w a r.1.d r.2.1 r.2.2/\a.block < w.heap.size:=by
 have hc:=(World.cells?_some h).2.2;have c0:=hc 0 (by omega);have c1:=hc 1 (by omega);have c2:=hc 2 (by omega);have c3:=hc 3 (by omega);have c4:=hc 4 (by omega);have c5:=hc 5 (by omega);have c6:=hc 6 (by omega);have c7:=hc 7 (by omega);have c8:=hc 8 (by omega);rw [ja1] at c0;rw [ubf] at c1 c2 c3 c4 c5 c6 c7 c8;exact ⟨⟨c0,c1,c2,c3,c4,c5,c6,c7,c8⟩,cell_lt c0⟩
theorem kb1 (fuel:Nat):∀ (cs:List Value) (x:DataW H × List MemPlace),DataW.trod enc Tryz.prog w 0 sp held fuel 29 cs=some x->∃ r:Tr × Value × Value,cs=xah r/\TrV w (fun _=>True) r.1 (ndV r.1.d r.2.1 r.2.2):=by
 induction fuel using Nat.strongRecOn with
 | _ fuel ih =>
 intro cs x h;obtain ⟨xs,n,rfl,-,hl,hx,hf⟩:=DataW.trod_struct Tryz.underlying29 h;have hk29:Tryz.prog.cellsOf 29=9:=by kernel_rfl
 have hl2:cs.length=9:=hl.trans hk29;have hx2:xs.length=8:=hx;obtain ⟨c0,c1,c2,c3,c4,c5,c6,c7,c8,rfl⟩:=kc2 hl2;obtain ⟨x0,x1,x2,x3,x4,x5,x6,x7,rfl⟩:=len8 hx2;have f0:DataW.trod enc Tryz.prog w 0 sp held n 3 ((List.drop 0 [c0,c1,c2,c3,c4,c5,c6,c7,c8]).take (Tryz.prog.cellsOf 3))=some x0:=hf 0 _ rfl;have f1:DataW.trod enc Tryz.prog w 0 sp held n 25 ((List.drop 1 [c0,c1,c2,c3,c4,c5,c6,c7,c8]).take (Tryz.prog.cellsOf 25))=some x1:=hf 1 _ rfl;have f2:DataW.trod enc Tryz.prog w 0 sp held n 9 ((List.drop 3 [c0,c1,c2,c3,c4,c5,c6,c7,c8]).take (Tryz.prog.cellsOf 9))=some x2:=hf 2 _ rfl;have f3:DataW.trod enc Tryz.prog w 0 sp held n 3 ((List.drop 4 [c0,c1,c2,c3,c4,c5,c6,c7,c8]).take (Tryz.prog.cellsOf 3))=some x3:=hf 3 _ rfl;have f4:DataW.trod enc Tryz.prog w 0 sp held n 26 ((List.drop 5 [c0,c1,c2,c3,c4,c5,c6,c7,c8]).take (Tryz.prog.cellsOf 26))=some x4:=hf 4 _ rfl;have f5:DataW.trod enc Tryz.prog w 0 sp held n 4 ((List.drop 6 [c0,c1,c2,c3,c4,c5,c6,c7,c8]).take (Tryz.prog.cellsOf 4))=some x5:=hf 5 _ rfl;have f6:DataW.trod enc Tryz.prog w 0 sp held n 4 ((List.drop 7 [c0,c1,c2,c3,c4,c5,c6,c7,c8]).take (Tryz.prog.cellsOf 4))=some x6:=hf 6 _ rfl;have f7:DataW.trod enc Tryz.prog w 0 sp held n 27 ((List.drop 8 [c0,c1,c2,c3,c4,c5,c6,c7,c8]).take (Tryz.prog.cellsOf 27))=some x7:=hf 7 _ rfl;rw [show Tryz.prog.cellsOf 3=1 by kernel_rfl] at f0 f3;rw [show Tryz.prog.cellsOf 25=2 by kernel_rfl] at f1;rw [show Tryz.prog.cellsOf 9=1 by kernel_rfl] at f2;rw [show Tryz.prog.cellsOf 26=1 by kernel_rfl] at f4;rw [show Tryz.prog.cellsOf 4=1 by kernel_rfl] at f5 f6;rw [show Tryz.prog.cellsOf 27=1 by kernel_rfl] at f7;simp only [List.drop_zero,List.drop_succ_cons,List.take_succ_cons,List.take_zero,List.getElem?_cons_zero,List.getElem?_cons_succ] at f0 f1 f2 f3 f4 f5 f6 f7;obtain ⟨kind,e0,-⟩:=DataW.trod_int Tryz.underlying3 f0;obtain ⟨neg,A,ds,c,e1,hn⟩:=ub1 f1;obtain ⟨name,e3,-⟩:=DataW.trod_string Tryz.underlying9 f2;obtain ⟨exp,e4,-⟩:=DataW.trod_int Tryz.underlying3 f3;obtain ⟨rel,e5,-⟩:=DataW.trod_int Tryz.underlying26 f4;obtain ⟨truth,e6,-⟩:=DataW.trod_bool Tryz.underlying4 f5;obtain ⟨all,e7,-⟩:=DataW.trod_bool Tryz.underlying4 f6;simp only [List.cons.injEq,and_true] at e0 e1 e3 e4 e5 e6 e7;obtain ⟨e1,e2⟩:=e1;have hkids:∃ ks B m,c8=.slice B ks.length m/\ks.length<=m/\m<=9223372036854775807/\ug w (fun _=>True) ks B 0:=by
  rcases DataW.trod_slice Tryz.underlying27 f7 with ⟨e8,-⟩ | ⟨a,len,cap,elems,rest,n',hfu,e8,-,-,hlc,hcm,hel,hat,-⟩
  · simp only [List.cons.injEq,and_true] at e8;exact ⟨[],none,0,e8,by simp,by omega,by unfold ug; trivial⟩
  · simp only [List.cons.injEq,and_true] at e8;rw [hk29] at hat;have each:∀ i:Nat,∃ t:Tr,i < len->∃ s K,zah w (a.add (i * 9)) t.d s K/\a.block < w.heap.size/\TrV w (fun _=>True) t (ndV t.d s K):=by
     intro i
     by_cases hi:i < len
     · have h1:=hat i hi;rw [List.getElem?_eq_getElem (by omega)] at h1;obtain ⟨cs',hc,ht⟩:=Option.bind_eq_some_iff.1 h1;obtain ⟨r,rfl,hr⟩:=ih n' (by omega) cs' _ ht;obtain ⟨h2,h3⟩:=ucj hc;rw [jb] at h3;exact ⟨r.1,fun _=>⟨r.2.1,r.2.2,h2,h3,hr⟩⟩
     · exact ⟨zcy,fun h=>absurd h hi⟩
    refine ⟨(List.range len).map (fun i=>Classical.choose (each i)),some a,cap,by simpa using e8,by simpa using hlc,by unfold maxLen at hcm; omega,ug.of _ _ _ fun i hi=>?_⟩;simp only [List.length_map,List.length_range] at hi;obtain ⟨s,K,h1,h2,h3⟩:=Classical.choose_spec (each i) hi;simp only [List.getElem_map,List.getElem_range,Nat.zero_add];exact ⟨a,s,K,rfl,h2,trivial,h1,h3⟩
 obtain ⟨ks,B,m,e8,hm1,hm2,hat⟩:=hkids;refine ⟨(.mk ⟨kind,neg,ds,name,exp,rel,truth,all⟩ ks,c2,c8),?_,?_⟩
 · unfold xah;rw [e0,e1,e3,e4,e5,e6,e7]
   rfl
 · have:=TrV.mk (w:=w) (p:=fun _=>True) (t:=.mk ⟨kind,neg,ds,name,exp,rel,truth,all⟩ ks) (s:=c2) (A:=B) (c:=m) (by rw [e2]; exact hn) hm1 hm2 hat;rw [e8];exact this
theorem open_tree {r:Reach} {b0:Nat} {v:Value} {d:DataW H} {ps:List MemPlace} (hval:Value.okWide Tryz.prog w r b0 29 v) (h:DataW.Trod enc Tryz.prog w 0 sp held 29 v d ps):∃ t,TrV w (fun _=>True) t v:=by
 obtain ⟨fuel,h⟩:=h;obtain ⟨r,e,ht⟩:=kb1 fuel _ _ h;simp only [Value.okWide,Tryz.underlying29] at hval;obtain ⟨cs,rfl,-⟩:=hval;refine ⟨r.1,?_⟩;have:Value.agg cs=ndV r.1.d r.2.1 r.2.2:=by
  unfold ndV
  congr 1
  exact Array.toList_inj.1 e
 rw [this]; exact ht
end
end Go.Proofs.YtheefiaoimbeiaaGreatDoor

/- The last step of every law that leaves its arguments alone. -/
namespace Go.Proofs.YtheefiaoimbeiaaGreatDoor
open Go.ChangeShapes Go.WideShapes Go.ChangeAt Go.RowKit
theorem qcd {H : Type} {enc : TypeId × Value -> H} {P : Program} {f : Func} {s : ChangeSpec} {apart fresh handsOn again : Bool} {W W' : World} {args : Array Value} {v : Value} {ds gs : List (DataW H)} {before pa pv : List MemPlace}
 (hW:DataW.Whole enc P f.params.toList s.vars apart W args.toList ds gs before) (hx:Ext W W')
 (hres:∀ (b:Nat) (sp:Nat->Bool) (hd:Bool),DataW.TrodAll enc P W' b sp hd f.resultTypes.toList (v.resultList f.resultTypes.size) (s.fn H (ds ++ gs)).results [])
 (hargs:∀ sp:Nat->Bool,(∀ p ∈ before,sp p.block=true)->DataW.TrodAll enc P W' 0 sp true f.params.toList args.toList (s.fn H (ds ++ gs)).args pa)
 (hvars:∀ sp:Nat->Bool,(∀ p ∈ before,sp p.block=true)->DataW.TrodVars enc P W' sp s.vars (s.fn H (ds ++ gs)).vars pv) (hps:before=pa ++ pv)
 (hok:∀ (j:Nat) (t:TypeId) (r:Value),f.resultTypes[j]?=some t->(v.resultList f.resultTypes.size)[j]?=some r->Value.okWide P W' .any 0 t r) :
 s.post enc P f apart fresh handsOn again W args v W':=by
 have low:∀ p ∈ before,p.block < W.heap.size:=fun p hp=>hW.lt p hp
 have old:∀ p ∈ before,(fun b=>decide (b < W.heap.size)) p.block=true:=fun p hp=>by simpa using low p hp
 refine ⟨ds,gs,before,[],pa,pv,hW,hres _ _ _,hargs _ old,hvars _ old,World.keptBut_mono (fun p hp=>⟨hp,?_⟩) (Below.frame hx (· ∈ before)),fun _=>?_⟩
 · exact .inr (List.mem_append.1 (hps ▸ hp))
 · obtain ⟨_,_,_,_,_,hz,hn⟩:=hW;refine ⟨hok,_,_,([] ++ pa) ++ pv,⟨[] ++ pa,pv,trodAll_append (hargs _ (fun _ _=>rfl)) (hres _ _ _),hvars _ (fun _ _=>rfl),rfl,fun b off hp=>?_,fun ha=>?_⟩,?_⟩
   · have hin:MemPlace.cell b off ∈ before:=by rw [hps]; simpa using hp
     rw [hx.frozen (low _ hin)];exact hz b off hin
   · have h:=hn ha;rw [hps] at h;simpa using h
   · exact fun p hp _=>by rw [hps]; simpa using hp
theorem ycf:ownKnob Tryz.prog.godebug=none:=by kernel_rfl
theorem wcg:laidOutB Tryz.prog=true:=by kernel_rfl
theorem kbf {H:Type} {enc:TypeId × Value->H} {W W':World} {t:TypeId} (hr:Tryz.prog.readableRec t=true) (hrow:t < Tryz.prog.types.size) {v:Value} {d:DataW H} {ps:List MemPlace} (h:DataW.Trod enc Tryz.prog W 0 (fun _=>true) true t v d ps) (hx:Ext W W') (hlt:∀ x ∈ ps,x.block < W.heap.size) {sp:Nat->Bool} (hs:∀ x ∈ ps,sp x.block=true):DataW.Trod enc Tryz.prog W' 0 sp true t v d ps:=
 WideElems.Trod_stays wcg hr hrow h (fun x hx'=>Below.same hx (hlt x hx')) hs
end Go.Proofs.YtheefiaoimbeiaaGreatDoor

/- The world that the door's own run leaves meets the three listed tables' condition: the witness of the rows that list them. -/
namespace Go.Proofs.YtheefiaoimbeiaaGreatDoor
open Go.ChangeShapes Go.WideShapes Go.ChangeAt Go.RowKit
def kbg : List (String × DataW Unit) := [("math/bits.deBruijn32tab", Rows.laid_math_bits_deBruijn32tab), ("math/bits.deBruijn64tab", Rows.laid_math_bits_deBruijn64tab), ("internal/strconv.uint64pow10", Rows.laid_internal_strconv_uint64pow10)]
theorem door_met (os:Os) (args:Array Value):laidMetH Tryz.prog kbg ((World.doorLaid Tryz.prog 2000 os).forCall (fun _ _=>0) ⟨#[],args,[]⟩).memory:=
 laidMetH_of_parts3 (fuel:=8) (laidMet_of_run' 80 (by kernel_rfl) (by kernel_rfl)) (by kernel_rfl) (by kernel_rfl)
end Go.Proofs.YtheefiaoimbeiaaGreatDoor
