/- Layer 34: formula.Valid, and the reference's Has, words, Valid. -/
import Derived.Test.YtheefiaoimbeiaaGreatDoorMp19
set_option linter.unusedSimpArgs false
set_option linter.unusedVariables false

set_option maxRecDepth 100000
set_option maxHeartbeats 8000000
namespace Go.Proofs.YtheefiaoimbeiaaGreatDoor
open Lib (hid)
open Go.RowKit
def yei (c i:Nat):Bool:=decide ((97<=c/\c<=122)\/(65<=c/\c<=90)\/c=95\/(48<=c/\c<=57/\0 < i))
def ydz:List (List UInt8):=[[116,114,117,101],[102,97,108,115,101],[97,110,100],[111,114],[110,111,116],[105,109,112,108,105,101,115],[105,102,102],[102,111,114,97,108,108],[101,120,105,115,116,115]]
def zd5 (s:ByteArray):Bool:=decide (1<=s.size/\s.size<=16/\(∀ i (h:i < s.size),yei s[i].toNat i=true)/\s.toList ∉ ydz)
theorem ye9 {s:ByteArray} (h1:¬ s.size < 1) (h2:¬ 16 < s.size) (h3:∀ i (h:i < s.size),yei s[i].toNat i=true) (h4:s.toList ∉ ydz):zd5 s=true:=decide_eq_true ⟨by omega,by omega,h3,h4⟩
theorem qff {s:ByteArray} (k:Nat) (hk:k < s.size) (h:yei s[k].toNat k=false):zd5 s=false:=decide_eq_false (fun hh=>by rw [hh.2.2.1 k hk] at h; cases h)
theorem kdv {s:ByteArray} (h:s.toList ∈ ydz):zd5 s=false:=decide_eq_false (fun hh=>hh.2.2.2 h)
theorem vfm (s:ByteArray) (w:World):Calls Tryz.prog 30 #[.string s] w fun e w'=>e=.returned (.bool (zd5 s))/\w'=w:=by
 by_cases h1:s.size < 1
 · have d1:decide ((s.size:Int) < 1)=true:=by simp; omega
   have hv:zd5 s=false:=decide_eq_false (by omega);rw [hv];go_enter Tryz.func30,Tryz.ntmps30;go_wp2_with fail;go_ret;exact ⟨rfl,rfl⟩
 · have d1:decide ((s.size:Int) < 1)=false:=by simp; omega
   by_cases h2:16 < s.size
   · have d2:decide ((16:Int) < s.size)=true:=by simp; omega
     have hv:zd5 s=false:=decide_eq_false (by omega);rw [hv];go_enter Tryz.func30,Tryz.ntmps30;go_wp2_with fail;go_ret;exact ⟨rfl,rfl⟩
   · have d2:decide ((16:Int) < s.size)=false:=by simp; omega
     generalize hvb:zd5 s=vb;have HVB:=hid hvb;clear hvb;go_enter Tryz.func30,Tryz.ntmps30;go_wp2_with fail
     go_loop [15] (fun iv=>∃ k:Nat,k<=s.size/\iv=.int .i64 k/\Hid (∀ i (h:i < s.size),i < k->yei s[i].toNat i=true)) (fun iv=>s.size - (intOf iv).toNat)
     case atStart=>exact ⟨0,pM _,rfl,(fun i h h0=>absurd h0 (by omega))⟩
     case round =>
      obtain ⟨k,hk,rfl,HG⟩:=hrel
      by_cases hlt:k < s.size
      · have agt:=hid (qff (s:=s) k hlt);have adR:Hid (yei s[k].toNat k=true->∀ i (h:i < s.size),i < k+1->yei s[i].toNat i=true):=by
         intro hg i h hi
         by_cases he:i=k
         · subst he; exact hg
         · exact HG.out i h (by omega)
        have hcc:s[k].toNat < 256:=s[k].toNat_lt;clear HG;go_upto_region 8 with fail;generalize s[k].toNat=cc at *
        by_cases h95:cc=95
        · have d95:((cc:Int) == 95)=true:=by simp; omega
          go_wp2_with fail
          all_goals first
            | exact ⟨⟨k+1,by omega,by go_num,adR.out (decide_eq_true (by omega))⟩,by simp [intOf]; omega⟩
            | (exfalso; omega)
        · have d95:((cc:Int) == 95)=false:=by simp; omega
          go_wp2_with fail
          all_goals first
            | exact ⟨⟨k+1,by omega,by go_num,adR.out (decide_eq_true (by omega))⟩,by simp [intOf]; omega⟩
            | (go_ret
               exact ⟨by rw [<- HVB.out,agt.out (decide_eq_false (by omega))]; rfl,rfl⟩)
            | (exfalso; omega)
      · have acl:∀ i (h:i < s.size),yei s[i].toNat i=true:=fun i h=>HG.out i h (by omega)
        have aec:=hid acl;clear acl HG
        by_cases e0:(s.toList == ([116,114,117,101]:List UInt8))=true
        · have hv:vb=false:=by rw [<- HVB.out]; exact kdv (by rw [(beq_iff_eq.1 e0:s.toList=[116,114,117,101])]; unfold ydz; simp)
          clear HVB aec;subst hv;go_wp2_with fail;go_ret;exact ⟨rfl,rfl⟩
        have n0:(s.toList == ([116,114,117,101]:List UInt8))=false:=by simpa using e0
        by_cases e1:(s.toList == ([102,97,108,115,101]:List UInt8))=true
        · have hv:vb=false:=by rw [<- HVB.out]; exact kdv (by rw [(beq_iff_eq.1 e1:s.toList=[102,97,108,115,101])]; unfold ydz; simp)
          clear HVB aec;subst hv;go_wp2_with fail;go_ret;exact ⟨rfl,rfl⟩
        have n1:(s.toList == ([102,97,108,115,101]:List UInt8))=false:=by simpa using e1
        by_cases e2:(s.toList == ([97,110,100]:List UInt8))=true
        · have hv:vb=false:=by rw [<- HVB.out]; exact kdv (by rw [(beq_iff_eq.1 e2:s.toList=[97,110,100])]; unfold ydz; simp)
          clear HVB aec;subst hv;go_wp2_with fail;go_ret;exact ⟨rfl,rfl⟩
        have n2:(s.toList == ([97,110,100]:List UInt8))=false:=by simpa using e2
        by_cases e3:(s.toList == ([111,114]:List UInt8))=true
        · have hv:vb=false:=by rw [<- HVB.out]; exact kdv (by rw [(beq_iff_eq.1 e3:s.toList=[111,114])]; unfold ydz; simp)
          clear HVB aec;subst hv;go_wp2_with fail;go_ret;exact ⟨rfl,rfl⟩
        have n3:(s.toList == ([111,114]:List UInt8))=false:=by simpa using e3
        by_cases e4:(s.toList == ([110,111,116]:List UInt8))=true
        · have hv:vb=false:=by rw [<- HVB.out]; exact kdv (by rw [(beq_iff_eq.1 e4:s.toList=[110,111,116])]; unfold ydz; simp)
          clear HVB aec;subst hv;go_wp2_with fail;go_ret;exact ⟨rfl,rfl⟩
        have n4:(s.toList == ([110,111,116]:List UInt8))=false:=by simpa using e4
        by_cases e5:(s.toList == ([105,109,112,108,105,101,115]:List UInt8))=true
        · have hv:vb=false:=by rw [<- HVB.out]; exact kdv (by rw [(beq_iff_eq.1 e5:s.toList=[105,109,112,108,105,101,115])]; unfold ydz; simp)
          clear HVB aec;subst hv;go_wp2_with fail;go_ret;exact ⟨rfl,rfl⟩
        have n5:(s.toList == ([105,109,112,108,105,101,115]:List UInt8))=false:=by simpa using e5
        by_cases e6:(s.toList == ([105,102,102]:List UInt8))=true
        · have hv:vb=false:=by rw [<- HVB.out]; exact kdv (by rw [(beq_iff_eq.1 e6:s.toList=[105,102,102])]; unfold ydz; simp)
          clear HVB aec;subst hv;go_wp2_with fail;go_ret;exact ⟨rfl,rfl⟩
        have n6:(s.toList == ([105,102,102]:List UInt8))=false:=by simpa using e6
        by_cases e7:(s.toList == ([102,111,114,97,108,108]:List UInt8))=true
        · have hv:vb=false:=by rw [<- HVB.out]; exact kdv (by rw [(beq_iff_eq.1 e7:s.toList=[102,111,114,97,108,108])]; unfold ydz; simp)
          clear HVB aec;subst hv;go_wp2_with fail;go_ret;exact ⟨rfl,rfl⟩
        have n7:(s.toList == ([102,111,114,97,108,108]:List UInt8))=false:=by simpa using e7
        by_cases e8:(s.toList == ([101,120,105,115,116,115]:List UInt8))=true
        · have hv:vb=false:=by rw [<- HVB.out]; exact kdv (by rw [(beq_iff_eq.1 e8:s.toList=[101,120,105,115,116,115])]; unfold ydz; simp)
          clear HVB aec;subst hv;go_wp2_with fail;go_ret;exact ⟨rfl,rfl⟩
        have n8:(s.toList == ([101,120,105,115,116,115]:List UInt8))=false:=by simpa using e8
        have hv:vb=true:=by
         rw [<- HVB.out];refine ye9 h1 h2 aec.out ?_;unfold ydz;simp only [pI,rM,or_false,not_or];exact ⟨by simpa using n0,by simpa using n1,by simpa using n2,by simpa using n3,by simpa using n4,by simpa using n5,by simpa using n6,by simpa using n7,by simpa using n8⟩
        clear HVB aec e0 e1 e2 e3 e4 e5 e6 e7 e8;subst hv;go_wp2_with fail;go_ret;exact ⟨rfl,rfl⟩
theorem jdp.len {P:Program} {t k e:TypeId} {w:World} {b:Nat} {l:List (ByteArray × Value)} (h:jdp w b l) (ht:P.underlying t=some (.map k e)) (ty:TypeId):(Builtin.len_ #[t] ty #[.map (some b)]).run P w=.ok (.int .i64 l.length) w:=by
 obtain ⟨es,clock,hb,he⟩:=h;have:es.size=l.length:=by simpa using congrArg List.length he
 rw [<- this];simp [Builtin.len_,run_underlying ht,MapKept.run_getObj_map hb,goInt,Result.andThen]
theorem uf1 (l:List (ByteArray × Value)) (s:ByteArray) (u:Value):(vd0 l s u).length=if (xds l s).isSome then l.length else l.length+1:=by
 induction l with
 | nil=>rfl
 | cons x l ih =>
   rw [vd0,xds]
   by_cases h:s=x.1
   · simp [h]
   · simp only [if_neg h,py,ih]
     split <;> rfl
def vdy (w:World) (b:Nat) (l:List ByteArray):Prop:=∃ ls,jdp w b ls/\ls.length=l.length/\∀ s,xds ls s=if has l s then some (.bool true) else none
theorem vdy.block {w w':World} {b:Nat} {l:List ByteArray} (h:vdy w b l) (hb:w'.heap[b]?=w.heap[b]?):vdy w' b l:=by
 obtain ⟨ls,h1,h2⟩:=h;exact ⟨ls,h1.block hb,h2⟩
theorem vdy.lt {w:World} {b:Nat} {l:List ByteArray} (h:vdy w b l):b < w.heap.size:=by
 obtain ⟨ls,h1,h2⟩:=h;exact h1.lt
theorem vdy.ext {w w':World} {b:Nat} {l:List ByteArray} (h:vdy w b l) (hx:Ext w w'):vdy w' b l:=h.block (hx.below.block b h.lt)
def zed (l:List ByteArray) (s:ByteArray):List ByteArray:=if has l s then l else l ++ [s]
theorem zf7 (l:List ByteArray) (s t:ByteArray):has (zed l s) t=(has l t || decide (s=t)):=by
 unfold zed
 by_cases h:has l s=true
 · rw [if_pos h]
   by_cases e:s=t
   · subst e; simp [h]
   · simp [e]
 · rw [if_neg h,ye6]
theorem vdy.put {w:World} {b:Nat} {l:List ByteArray} (h:vdy w b l) (s:ByteArray):∃ w',(Instr.mapUpdate 91 (.map (some b)) (.string s) (.bool true)).run Tryz.prog w=.ok () w'/\vdy w' b (zed l s)/\Only b w w':=by
 obtain ⟨ls,h1,h2,h3⟩:=h;obtain ⟨w',h4,h5,h6⟩:=h1.put (P:=Tryz.prog) uy ss s (.bool true);refine ⟨w',h4,⟨_,h5,?_,fun t=>?_⟩,h6⟩
 · rw [uf1,h3];unfold zed
   by_cases h:has l s=true
   · simp [h,h2]
   · simp [h,h2]
 · rw [yee,zf7,h3]
   by_cases e:t=s
   · simp [e]
   · have e':¬ s=t:=fun x=>e x.symm
     simp [e,e']
theorem vdy.look {w:World} {b:Nat} {l:List ByteArray} (h:vdy w b l) (s:ByteArray):(Instr.lookup 91 (.map (some b)) (.string s) false).run Tryz.prog w=.ok (.bool (has l s)) w:=by
 obtain ⟨ls,h1,h2,h3⟩:=h;have:=h1.look (P:=Tryz.prog) uy ss xez s false;rw [this,if_neg (by simp),h3]
 split <;> simp_all
theorem vdy.len {w:World} {b:Nat} {l:List ByteArray} (h:vdy w b l):(Builtin.len_ #[91] 3 #[.map (some b)]).run Tryz.prog w=.ok (.int .i64 l.length) w:=by
 obtain ⟨ls,h1,h2,h3⟩:=h;rw [<- h2];exact h1.len (P:=Tryz.prog) uy _
def gdx (_:ByteArray->Int) (s:ByteArray) (x:List ByteArray × Bool):List ByteArray × Bool:=(zed x.1 s,x.2 && zd5 s)
def vd3 (bn Mn bv:Nat) (_:Nat) (W:World) (own:Nat->Prop) (x:List ByteArray × Bool):Prop:=
 W.cell? ⟨bn,0,none⟩=some (.map (some Mn))/\W.heap[bv]?=some (.cells #[.bool x.2] 4 (0,0))/\vdy W Mn x.1/\own=fun i=>i=bv\/i=Mn
theorem vd3.ql {bn Mn bv b b':Nat} {W W':World} {own:Nat->Prop} {x:List ByteArray × Bool} (h:vd3 bn Mn bv b W own x) (h1:W'.heap[bn]?=W.heap[bn]?) (h2:W'.heap[bv]?=W.heap[bv]?) (h3:W'.heap[Mn]?=W.heap[Mn]?):vd3 bn Mn bv b' W' own x:=
 ⟨(ph h1).trans h.1,h2.trans h.2.1,h.2.2.1.block h3,h.2.2.2⟩
theorem vd3.zC {bn Mn bv b:Nat} {W:World} {own:Nat->Prop} {x:List ByteArray × Bool} (h:vd3 bn Mn bv b W own x):bn < W.heap.size/\bv < W.heap.size/\Mn < W.heap.size:=by
 refine ⟨?_,lt_of_block h.2.1,h.2.2.1.lt⟩;rcases rz bn W.heap.size with hlt | hge
 · exact hlt
 · have:=h.1; simp [World.cell?,sY hge] at this
section
variable {bn Mn bv:Nat}
theorem gez (h1:bn ≠ Mn) (h2:bn ≠ bv) (h3:bv ≠ Mn) {b:Nat} {W W1:World} {own:Nat->Prop} {x:List ByteArray × Bool} {s:ByteArray} (hJ:vd3 bn Mn bv (b+1) W own x) (hM:vdy W1 Mn (zed x.1 s)) (ho:Only Mn W W1) (v:Bool) :
 (∃ own',vd3 bn Mn bv b (W1.setCell ⟨bv,0,none⟩ (.bool v)) own' (zed x.1 s,v)/\qdk own W own' (W1.setCell ⟨bv,0,none⟩ (.bool v)))/\W1.cell? ⟨bv,0,none⟩=some (.bool x.2)/\W1.frozen? ⟨bv,0,none⟩=false:=by
 obtain ⟨l1,l2,l3⟩:=hJ.zC;obtain ⟨c1,c2,c3,rfl⟩:=hJ;have c4:W1.heap[bv]?=some (.cells #[.bool x.2] 4 (0,0)):=by rw [ho.block l2 h3]; exact c2
 have hs:=ho.size;have q1:W1.os=W.os:=rR ho;have q2:W1.tape=W.tape:=rK ho;have q3:W1.output=W.output:=rE ho;refine ⟨⟨fun i=>i=bv\/i=Mn,⟨?_,one_setCell c4,hM.block (Below.heap_setCell _ _ _ Mn (fun e=>h3 e.symm)),rfl⟩,⟨q1,q2,q3,by simp; omega,fun i hi hn=>?_,fun i _ h=>h⟩⟩,cell_of_one c4,free_of_one c4⟩
 · rw [ph ((Below.heap_setCell W1 ⟨bv,0,none⟩ _ bn h2).trans (ho.block l1 h1))]; exact c1
 · rw [Below.heap_setCell W1 ⟨bv,0,none⟩ _ i (fun e=>hn (.inl e))];exact ho.block hi (fun e=>hn (.inr e))
theorem ve7 (h1:bn ≠ Mn) (h2:bn ≠ bv) (h3:bv ≠ Mn) (b:Nat) (a:ByteArray->Int) (W:World) (own:Nat->Prop) (x:List ByteArray × Bool) (s:ByteArray) (hJ:vd3 bn Mn bv (b+1) W own x) :
 Calls Tryz.prog 29 #[.string s,.pointer (some ⟨bn,0,none⟩),.pointer (some ⟨bv,0,none⟩)] W fun e W'=>(∃ v,e=.returned v)/\∃ own',vd3 bn Mn bv b W' own' (gdx a s x)/\qdk own W own' W':=by
 obtain ⟨l1,l2,l3⟩:=hJ.zC;have c1:=hJ.1;obtain ⟨W1,ahu,hM1,ho1⟩:=hJ.2.2.1.put s;have HF:=hid (fun v=>(gez h1 h2 h3 hJ hM1 ho1 v).1);obtain ⟨-,k1,k2⟩:=gez h1 h2 h3 hJ hM1 ho1 true;have k3:W1.cell? ⟨bn,0,none⟩=some (.map (some Mn)):=by rw [ho1.cell (p:=⟨bn,0,none⟩) l1 h1]; exact c1
 clear hJ hM1 ho1 h1 h2 h3;unfold gdx;obtain ⟨ns,v⟩:=x;have HV:=hid (vfm s W1);generalize zd5 s=vb at *;cases v
 · go_enter Tryz.func29,Tryz.ntmps29;go_wp2_with fail
   go_end0
   exact ⟨⟨_,rfl⟩,HF.out _⟩
 · go_enter Tryz.func29,Tryz.ntmps29;go_wp2_with fail;refine HV.out.mono ?_;rintro e w2 ⟨rfl,rfl⟩;go_wp2_with fail
   go_end0
   exact ⟨⟨_,rfl⟩,HF.out _⟩
theorem jft {Ma : Nat} (h1 : bn ≠ Mn) (h2 : bn ≠ bv) (h3 : bv ≠ Mn) (m1 : Ma ≠ bn) (m2 : Ma ≠ Mn) (m3 : Ma ≠ bv) : kee 29 #[.pointer (some ⟨bn, 0, none⟩), .pointer (some ⟨bv, 0, none⟩)] Ma (vd3 bn Mn bv) gdx where
 enter:=fun args W=>by simp [go_sem]
 ext:=fun b W W' own acc h hx=>by
  obtain ⟨l1,l2,l3⟩:=h.zC;exact h.ql (hx.below.block _ l1) (hx.below.block _ l2) (hx.below.block _ l3)
 less:=fun b b' W own acc h hb=>h.ql rfl rfl rfl
 map:=fun b W W' own acc h ho=>by
  obtain ⟨l1,l2,l3⟩:=h.zC;exact h.ql (ho.block l1 m1.symm) (ho.block l2 m3.symm) (ho.block l3 m2.symm)
 lt:=fun b W own acc h i hi=>by
  obtain ⟨l1,l2,l3⟩:=h.zC;obtain ⟨-,-,-,rfl⟩:=h;rcases hi with rfl | rfl
  · exact l2
  · exact l3
 ne:=fun b W own acc h hi=>by
  obtain ⟨-,-,-,rfl⟩:=h;rcases hi with e | e
  · exact m3 e
  · exact m2 e
 call:=fun b a W own acc s h _=>ve7 h1 h2 h3 b a W own acc s h
end
def Fm.note (f:Fm):List ByteArray × Bool:=f.fold gdx (fun _=>0) ([],true)
def xd4 (x:(List ByteArray × Bool) × List ByteArray) (s:ByteArray):(List ByteArray × Bool) × List ByteArray:=((zed x.1.1 s,x.1.2 && zd5 s && !has x.2 s),zed x.2 s)
def kd2 (qs:List ByteArray) (v:Bool) (s:ByteArray):Bool:=v && !has qs s
def Fm.zd (f:Fm):Int:=
 if f.free.foldl (kd2 (f.bound.foldl xd4 (f.note,[])).2) (f.bound.foldl xd4 (f.note,[])).1.2=false then 7
 else if 4000 < f.sz\/16 < f.atoms\/4 < (f.bound.foldl xd4 (f.note,[])).1.1.length\/f.lim=false then 8 else 0
theorem qdk.up {o1 o2 p:Nat->Prop} {a b:World} (h:qdk o1 a o2 b) (hp:∀ i,o1 i->p i):qdk p a p b:=
 ⟨h.os,h.tape,h.output,h.size,fun i hi hn=>h.block i hi (fun ho=>hn (hp i ho)),fun _ _ h=>h⟩
theorem qdk.only {p:Nat->Prop} {a b:World} {m:Nat} (h:Only m a b) (hp:p m):qdk p a p b:=
 ⟨rR h,rK h,rE h,h.size,fun i hi hn=>h.block hi (fun e=>hn (by rw [e]; exact hp)),fun _ _ h=>h⟩
theorem vd3.off {bn Mn bv b:Nat} {W:World} {own:Nat->Prop} {x:List ByteArray × Bool} (hJ:vd3 bn Mn bv b W own x) (h2:bn ≠ bv) (h3:bv ≠ Mn) :
 vd3 bn Mn bv b (W.setCell ⟨bv,0,none⟩ (.bool false)) own (x.1,false)/\W.cell? ⟨bv,0,none⟩=some (.bool x.2)/\W.frozen? ⟨bv,0,none⟩=false/\Only bv W (W.setCell ⟨bv,0,none⟩ (.bool false)):=by
 obtain ⟨c1,c2,c3,c4⟩:=hJ;exact ⟨⟨by rw [ph (Below.heap_setCell W ⟨bv,0,none⟩ _ bn h2)]; exact c1,one_setCell c2,c3.block (Below.heap_setCell _ _ _ Mn (fun e=>h3 e.symm)),c4⟩,cell_of_one c2,free_of_one c2,⟨rfl,rfl,rfl,by simp,fun i hi hne=>Below.heap_setCell W ⟨bv,0,none⟩ _ i (fun e=>hne (by rw [e]))⟩⟩
def vel (bn Mn bv Mq:Nat) (w2:World) (y:(List ByteArray × Bool) × List ByteArray) (wr:World):Prop:=
 vd3 bn Mn bv 0 wr (fun i=>i=bv\/i=Mn) y.1/\vdy wr Mq y.2/\qdk (fun i=>i=bv\/i=Mn\/i=Mq) w2 (fun i=>i=bv\/i=Mn\/i=Mq) wr
theorem qez {α β:Type} (f:β->α->β) (x:β) (l:List α) (k:Nat) (h:k < l.length):(l.take (k+1)).foldl f x=f ((l.take k).foldl f x) l[k]:=by
 rw [pg h,List.foldl_append]; rfl
theorem check_any {w0 w:World} {L:Nat} (hs:L<=1000000000000) (f:Fm) {v:Value} (hx0:Ext w0 w) (h:FmV w0 L f v) (hl:f.sz<=1099511627776) (hok:f.qe (uew w0 L)):Calls Tryz.prog 10 #[v] w (zdn f.zd w):=by
 have hmm:=@run_makeMap Tryz.prog;have HX0:=hid hx0;have H:=hid h;obtain ⟨T,x,rfl⟩:=h.iface;clear h hx0;go_enter Tryz.func10,Tryz.ntmps10;go_wp2_with fail;obtain ⟨W,hW⟩:=n_m (((((w.alloc (Obj.map #[] 0)).alloc (Obj.cells #[Value.map (some w.heap.size)] 91)).alloc (Obj.cells #[Value.bool true] 4)).alloc (Obj.map #[] 0)));rw [hW];have hsz:W.heap.size=w.heap.size+4:=by rw [<- hW]; simp
 have hx:Ext w W:=by rw [<- hW]; exact ((((Ext.refl w).alloc _).alloc _).alloc _).alloc _
 have m1:jdp W w.heap.size []:=by
  rw [<- hW];exact (((jdp.made w).alloc _).alloc _).alloc _
 have m2:jdp W (w.heap.size+1+1+1) []:=by
  rw [<- hW];have:=jdp.made (((w.alloc (Obj.map #[] 0)).alloc (Obj.cells #[Value.map (some w.heap.size)] 91)).alloc (Obj.cells #[Value.bool true] 4));simpa using this
 have hJ:vd3 (w.heap.size+1) w.heap.size (w.heap.size+1+1) (0+f.sz) W (fun i=>i=w.heap.size+1+1\/i=w.heap.size) ([],true):=by
  refine ⟨by rw [<- hW]; simp [go_sem],?_,⟨[],m1,rfl,fun s=>rfl⟩,rfl⟩;rw [<- hW,Below.heap_alloc _ _ _ (by simp)];have:=heap_alloc_new ((w.alloc (Obj.map #[] 0)).alloc (Obj.cells #[Value.map (some w.heap.size)] 91)) (Obj.cells #[Value.bool true] 4);simpa using this
 have hwk:=jft (bn:=w.heap.size+1) (Mn:=w.heap.size) (bv:=w.heap.size+1+1) (Ma:=w.heap.size+1+1+1) (by omega) (by omega) (by omega) (by omega) (by omega) (by omega);refine (xfc hwk (f.sz+1) f _ (pO _) H.out 0 W _ (fun _=>0) ([],true) hJ ⟨[],m2,fun s=>by simp [xds]⟩ (fun s=>by omega)).mono ?_;rintro e w1 ⟨⟨v1,rfl⟩,own',hJ',hA',hk'⟩;have hx1:Ext w w1:=hk'.ext hx (fun i hi=>by
  rcases hi with (hi | hi) | hi <;> omega)
 have hs1:=hk'.size;have hJ1:vd3 (w.heap.size+1) w.heap.size (w.heap.size+1+1) 0 w1 (fun i=>i=w.heap.size+1+1\/i=w.heap.size) f.note:=by
  obtain ⟨c1,c2,c3,c4⟩:=hJ';exact ⟨c1,c2,c3,rfl⟩
 have HX1:=hid hx1;have HJ1:=hid hJ1;clear hW hx m1 m2 hJ hA' hk' hwk hJ' hx1 hJ1;go_wp2_with fail;refine (yel f H.out hl).mono ?_;rintro e w2 ⟨v2,rfl,aaC,hx2⟩;have hxa:Ext w1 w2:=Ext.trans ((Ext.refl w1).alloc _) hx2;have hs2:=hx2.size;have HR:=hid aaC.yC;have HFR:Hid (∀ ad n c,v2=.slice (some ad) n c->w1.heap.size+1<=ad.block/\ad.block < w2.heap.size):=by
  intro ad n c e;have h1:=aaC.lt ad.block (by rw [e]; rfl);simpa using h1
 obtain ⟨bd,hbd⟩:=n_m (f.bound);have HBD:=hid hbd;have hbl:bd.length<=1099511627776:=by rw [<- hbd]; exact po f.qY hl
 rw [hbd] at HR aaC;clear hbd;obtain ⟨A,c,rfl⟩:=HR.out.len
 have HQ0:Hid (vel (w.heap.size+1) w.heap.size (w.heap.size+1+1) w1.heap.size w2 (f.note,[]) w2):=hid ⟨by
  obtain ⟨l1,l2,l3⟩:=HJ1.out.zC
  exact HJ1.out.ql (hxa.below.block _ l1) (hxa.below.block _ l2) (hxa.below.block _ l3),⟨[],(jdp.made w1).ext hx2,rfl,fun s=>rfl⟩,qdk.refl _ _⟩
 have HXA:=hid (HX1.out.trans hxa);simp only [pU] at hs2;clear aaC hx2 hxa HJ1;go_wp2_with fail
 go_loopw [21] (fun iv wr=>∃ k:Nat,k<=bd.length/\iv=.int .i64 k/\Hid (vel (w.heap.size+1) w.heap.size (w.heap.size+1+1) w1.heap.size w2 ((bd.take k).foldl xd4 (f.note,[])) wr)) (fun iv _=>bd.length - (intOf iv).toNat)
 case atStart=>exact ⟨0,pM _,rfl,HQ0⟩
 case round =>
  obtain ⟨k,hk,rfl,hq0⟩:=hrel;have HQ:=hid hq0.out;clear hq0;have hwr:=HQ.out.2.2.size
  by_cases hlt:k < bd.length
  · obtain ⟨ad,y,rfl,hc,rfl⟩:=SlR.qt (SlR.keeps HR.out HQ.out.2.2 (fun ad n c e=>by
     have h1:=HFR.out ad n c e
     omega)) k hlt
    have HFO:=hid (qez xd4 (f.note,[]) bd k hlt);generalize bd[k]=s at *;obtain ⟨y,hy⟩:=n_m ((bd.take k).foldl xd4 (f.note,[]));rw [hy] at HQ HFO;clear hy;have HC1:=hid (ve7 (by omega) (by omega) (by omega) 0 (fun _=>0) wr _ y.1 s (show vd3 (w.heap.size+1) w.heap.size (w.heap.size+1+1) (0+1) wr _ y.1 from HQ.out.1));go_wp2_with fail;refine HC1.out.mono ?_;rintro e w3 ⟨⟨v3,rfl⟩,aor,hj3,hk3⟩;obtain rfl:aor=fun i=>i=w.heap.size+1+1\/i=w.heap.size:=hj3.2.2.2
    have hs3:=hk3.size;have hq3:vdy w3 w1.heap.size y.2:=HQ.out.2.1.block (hk3.block _ (by have:=HQ.out.2.1.lt; omega) (by omega));have HK3:Hid (qdk (fun i=>i=w.heap.size+1+1\/i=w.heap.size\/i=w1.heap.size) w2 (fun i=>i=w.heap.size+1+1\/i=w.heap.size\/i=w1.heap.size) w3):=hid (HQ.out.2.2.trans (hk3.up fun i hi=>by omega));have HJ3:=hid hj3;have hlk:=hq3.look s;have HSQ:=hid hq3;clear hj3 hk3 hq3 HC1 hc;cases hh:has y.2 s
    · rw [hh] at hlk;obtain ⟨W4,ahu,hM4,ho4⟩:=HSQ.out.put s;have ach:Hid (vel (w.heap.size+1) w.heap.size (w.heap.size+1+1) w1.heap.size w2 ((bd.take (k+1)).foldl xd4 (f.note,[])) W4):=hid (by
       rw [HFO.out];obtain ⟨l1,l2,l3⟩:=HJ3.out.zC;refine ⟨?_,hM4,HK3.out.trans (qdk.only ho4 (by simp))⟩;have e1:(xd4 y s).1=gdx (fun _=>0) s y.1:=by unfold xd4 gdx; rw [hh]; simp
       rw [e1]
       exact HJ3.out.ql (ho4.block l1 (by omega)) (ho4.block l2 (by omega)) (ho4.block l3 (by omega)))
      clear hM4 ho4 hh;go_wp2_with fail
      go_roundw
      case rel=>exact ⟨k+1,by omega,by go_num,ach⟩
      case measure=>simp [intOf]; omega
    · rw [hh] at hlk;obtain ⟨hj4,r1,r2,ho4⟩:=HJ3.out.off (by omega) (by omega);obtain ⟨W4,hW4⟩:=n_m (w3.setCell ⟨w.heap.size+1+1,0,none⟩ (.bool false));rw [hW4] at hj4 ho4;have hq4:vdy W4 w1.heap.size y.2:=HSQ.out.block (ho4.block HSQ.out.lt (by omega));obtain ⟨W5,ahu,hM5,ho5⟩:=hq4.put s;have ach:Hid (vel (w.heap.size+1) w.heap.size (w.heap.size+1+1) w1.heap.size w2 ((bd.take (k+1)).foldl xd4 (f.note,[])) W5):=hid (by
       rw [HFO.out];obtain ⟨l1,l2,l3⟩:=hj4.zC;refine ⟨?_,hM5,(HK3.out.trans (qdk.only ho4 (by simp))).trans (qdk.only ho5 (by simp))⟩;have e1:(xd4 y s).1=((gdx (fun _=>0) s y.1).1,false):=by unfold xd4 gdx; rw [hh]; simp
       rw [e1]
       exact hj4.ql (ho5.block l1 (by omega)) (ho5.block l2 (by omega)) (ho5.block l3 (by omega)))
      clear hj4 ho4 hq4 hM5 ho5 hh;go_wp2_with fail
      go_roundw
      case rel=>exact ⟨k+1,by omega,by go_num,ach⟩
      case measure=>simp [intOf]; omega
  · have hke:k=bd.length:=by omega
    subst hke;rw [pw] at HQ;have HXR:Hid (Ext w wr):=hid (HQ.out.2.2.ext HXA.out (fun i hi=>by omega));clear HR HFR HQ0 HXA HX1;go_wp2_with fail;refine (yeq f H.out hl).mono ?_;rintro e w3 ⟨v3,rfl,aaC,hx3⟩;have HR:=hid aaC.yC;have HFR:Hid (∀ ad n c,v3=.slice (some ad) n c->wr.heap.size<=ad.block):=by
     intro ad n c e;exact (aaC.lt ad.block (by rw [e]; rfl)).1
    obtain ⟨fr,hfr⟩:=n_m (f.free);obtain ⟨y,hy⟩:=n_m (bd.foldl xd4 (f.note,[]));have HCK:Hid (f.zd=if fr.foldl (kd2 y.2) y.1.2=false then 7 else if 4000 < f.sz\/16 < f.atoms\/4 < y.1.1.length\/f.lim=false then 8 else 0):=hid (by unfold Fm.zd; rw [HBD.out,hfr,hy]);rw [hfr] at HR;rw [hy] at HQ;clear hfr hy aaC HBD;have hfl:fr.length<=9223372036854775807:=by
     obtain ⟨_,_,-,h1,h2,-⟩:=HR.out;omega
    obtain ⟨A3,c3,rfl⟩:=HR.out.len
    have HQ3:Hid (vel (w.heap.size+1) w.heap.size (w.heap.size+1+1) w1.heap.size w3 y w3):=hid ⟨by
     obtain ⟨l1,l2,l3⟩:=HQ.out.1.zC
     exact HQ.out.1.ql (hx3.below.block _ l1) (hx3.below.block _ l2) (hx3.below.block _ l3),HQ.out.2.1.ext hx3,qdk.refl _ _⟩
    have HX3:=hid (HXR.out.trans hx3);have hs3:=hx3.size;clear hx3 HQ HXR;obtain ⟨⟨ns,vb⟩,qs⟩:=y;simp only at HCK;go_wp2_with fail
    go_loopw [37] (fun iv wx=>∃ k:Nat,k<=fr.length/\iv=.int .i64 k/\Hid (vel (w.heap.size+1) w.heap.size (w.heap.size+1+1) w1.heap.size w3 ((ns,(fr.take k).foldl (kd2 qs) vb),qs) wx)) (fun iv _=>fr.length - (intOf iv).toNat)
    case atStart=>exact ⟨0,pM _,rfl,HQ3⟩
    case round =>
     obtain ⟨k,hk,rfl,hq0⟩:=hrel;have HQ:=hid hq0.out;clear hq0;have aAf:=HQ.out.2.2.size
     by_cases hlt:k < fr.length
     · obtain ⟨ad,y,rfl,hc,rfl⟩:=SlR.qt (SlR.keeps HR.out HQ.out.2.2 (fun ad n c e=>by
        have h1:=HFR.out ad n c e
        omega)) k hlt
       have HFO:=hid (qez (kd2 qs) vb fr k hlt);generalize fr[k]=s at *;obtain ⟨vk,hvk⟩:=n_m ((fr.take k).foldl (kd2 qs) vb);rw [hvk] at HQ HFO;clear hvk;have hlk:=HQ.out.2.1.look s;cases hh:has qs s
       · rw [hh] at hlk;have ach:Hid (vel (w.heap.size+1) w.heap.size (w.heap.size+1+1) w1.heap.size w3 ((ns,(fr.take (k+1)).foldl (kd2 qs) vb),qs) wr):=hid (by
          rw [HFO.out,show kd2 qs vk s=vk by unfold kd2; rw [hh]; simp]
          exact HQ.out)
         clear hh;go_wp2_with fail
         go_roundw
         case rel=>exact ⟨k+1,by omega,by go_num,ach⟩
         case measure=>simp [intOf]; omega
       · rw [hh] at hlk;obtain ⟨hj4,r1,r2,ho4⟩:=HQ.out.1.off (by omega) (by omega);obtain ⟨W4,hW4⟩:=n_m (wr.setCell ⟨w.heap.size+1+1,0,none⟩ (.bool false));rw [hW4] at hj4 ho4;have ach:Hid (vel (w.heap.size+1) w.heap.size (w.heap.size+1+1) w1.heap.size w3 ((ns,(fr.take (k+1)).foldl (kd2 qs) vb),qs) W4):=hid (by
          rw [HFO.out,show kd2 qs vk s=false by unfold kd2; rw [hh]; simp]
          exact ⟨hj4,HQ.out.2.1.block (ho4.block HQ.out.2.1.lt (by omega)),HQ.out.2.2.trans (qdk.only ho4 (by simp))⟩)
         clear hj4 ho4 hh;go_wp2_with fail
         go_roundw
         case rel=>exact ⟨k+1,by omega,by go_num,ach⟩
         case measure=>simp [intOf]; omega
     · have hke:k=fr.length:=by omega
       subst hke;rw [pw] at HQ;have HXR:Hid (Ext w wr):=hid (HQ.out.2.2.ext HX3.out (fun i hi=>by omega));have c1:=cell_of_one HQ.out.1.2.1;have c2:=HQ.out.1.1;have c3':=HQ.out.1.2.2.1;have hll:=c3'.len;simp only at c1 hll;have HSS:=hid c3';have l1:=HQ.out.1.zC.1;generalize fr.foldl (kd2 qs) vb=vf at *;clear HR HFR HQ HX3 c3' HQ3;cases vf
       · have HF:Hid (f.zd=7):=hid (by rw [HCK.out,if_pos rfl]);go_wp2_with fail;go_ret;exact ⟨by rw [HF.out]; rfl,HXR.out⟩
       · have ame:Hid (f.zd=if 4000 < f.sz\/16 < f.atoms\/4 < ns.length\/f.lim=false then 8 else 0):=hid (by rw [HCK.out,if_neg (by simp)]);have HN:=hid (fun W'=>vfq (W:=W') f hl H.out);have HA:=hid (fun W'=>gft (W:=W') f hl H.out);have HLM:=hid (fun W' (hx:Ext wr W')=>wfa (W:=W') hs f ((HX0.out.trans HXR.out).trans hx) H.out hok);clear HCK;generalize f.sz=z at *;generalize f.atoms=at_ at *;generalize f.lim=lm at *;generalize f.zd=res at *
         by_cases hz:4000 < z
         · have HF:Hid (res=8):=hid (by rw [ame.out,if_pos (.inl hz)]);have hz':(4000:Int) < z:=by omega
           go_wp2_with fail;refine (HN.out _).mono ?_;rintro e w4 ⟨rfl,x4⟩;have X4:=hid (HXR.out.trans x4);clear x4;go_wp2_with fail;go_ret;exact ⟨by rw [HF.out]; rfl,X4.out⟩
         · have hz':¬ (4000:Int) < z:=by omega
           go_wp2_with fail;refine (HN.out _).mono ?_;rintro e w4 ⟨rfl,x4⟩;have X4:=hid x4;clear x4
           by_cases ha:16 < at_
           · have HF:Hid (res=8):=hid (by rw [ame.out,if_pos (.inr (.inl ha))]);have ha':(16:Int) < at_:=by omega
             go_wp2_with fail;refine (HA.out _).mono ?_;rintro e w5 ⟨rfl,x5⟩;have X5:=hid (HXR.out.trans (X4.out.trans x5));clear x5;go_wp2_with fail;go_ret;exact ⟨by rw [HF.out]; rfl,X5.out⟩
           · have ha':¬ (16:Int) < at_:=by omega
             go_wp2_with fail;refine (HA.out _).mono ?_;rintro e w5 ⟨rfl,x5⟩;have X5:=hid (X4.out.trans x5);have aAZ:=(HSS.out.ext X5.out).len;have c25:=(X5.out.cell (p:=⟨w.heap.size+1,0,none⟩) l1).trans c2;clear x5 c1 c2 hll
             by_cases hn:4 < ns.length
             · have HF:Hid (res=8):=hid (by rw [ame.out,if_pos (.inr (.inr (.inl hn)))]);have hn':(4:Int) < ns.length:=by omega
               go_wp2_with fail;go_ret;exact ⟨by rw [HF.out]; rfl,HXR.out.trans X5.out⟩
             · have hn':¬ (4:Int) < ns.length:=by omega
               cases lm
               · have HF:Hid (res=8):=hid (by rw [ame.out,if_pos (.inr (.inr (.inr rfl)))]);go_wp2_with fail;refine (HLM.out _ X5.out).mono ?_;rintro e w6 ⟨rfl,x6⟩;have X6:=hid (HXR.out.trans (X5.out.trans x6));clear x6;go_wp2_with fail;go_ret;exact ⟨by rw [HF.out]; rfl,X6.out⟩
               · have HF:Hid (res=0):=hid (by rw [ame.out,if_neg (by simp; omega)]);go_wp2_with fail;refine (HLM.out _ X5.out).mono ?_;rintro e w6 ⟨rfl,x6⟩;have X6:=hid (HXR.out.trans (X5.out.trans x6));clear x6;go_wp2_with fail;go_ret;exact ⟨by rw [HF.out]; rfl,X6.out⟩
end Go.Proofs.YtheefiaoimbeiaaGreatDoor
