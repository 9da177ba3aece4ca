/- Layer 40: evaluate.first, covers: values of names. -/
import Derived.Test.YtcfcjabgkfehlaaGreatMf26
import Derived.Test.YtcfcjabgkfehlaaGreatMf19
set_option linter.unusedSimpArgs false
set_option linter.unusedVariables false

set_option maxRecDepth 100000
set_option maxHeartbeats 8000000
namespace Go.Proofs.YtcfcjabgkfehlaaGreat
open Go.RowKit
def yw (l:List (ByteArray × Rat)) (s:ByteArray):Option Rat:=match l with
 | []=>none
 | (k,q) :: r=>if s=k then some q else yw r s
theorem ubc (l:List (ByteArray × Rat)) (k s:ByteArray) (q:Rat):yw (l ++ [(k,q)]) s=(yw l s).or (if s=k then some q else none):=by
 induction l with
 | nil=>simp [yw]
 | cons x r ih =>
   obtain ⟨k',q'⟩:=x;simp only [List.cons_append,yw]
   by_cases h:s=k'
   · simp [h]
   · simp [h,ih]
def wb0 (w:World) (ad:Addr) (s:ByteArray) (b s1 s2:Value):Prop:=
 w.cell? ad=some (.string s)/\w.cell? ⟨ad.block,ad.off+1,none⟩=some b/\w.cell? ⟨ad.block,ad.off+2,none⟩=some s1/\w.cell? ⟨ad.block,ad.off+3,none⟩=some s2
theorem wb0.ext {w w':World} {ad:Addr} {s:ByteArray} {b s1 s2:Value} (h:wb0 w ad s b s1 s2) (hx:Ext w w') (hb:ad.block < w.heap.size):wb0 w' ad s b s1 s2:=by
 obtain ⟨h0,h1,h2,h3⟩:=h;have k:∀ n,(⟨ad.block,ad.off+n,none⟩:Addr).block < w.heap.size:=fun n=>hb
 exact ⟨(hx.cell hb).trans h0,(hx.cell (k _)).trans h1,(hx.cell (k _)).trans h2,(hx.cell (k _)).trans h3⟩
def VsV (w:World) (L:Nat) (v:Value) (l:List (ByteArray × Rat)):Prop:=
 ∃ A c,v=.slice A l.length c/\l.length<=c/\c<=9223372036854775807/\∀ j (h:j < l.length),∃ ad bb A1 n1 c1 A2 n2 c2,A=some ad/\ad.block < w.heap.size/\wb0 w (ad.add (j * 4)) l[j].1 (.bool bb) (.slice A1 n1 c1) (.slice A2 n2 c2)/\qw w (.agg #[.bool bb,.slice A1 n1 c1,.slice A2 n2 c2]) l[j].2 L
theorem VsV.ext {w w':World} {L:Nat} {v:Value} {l:List (ByteArray × Rat)} (h:VsV w L v l) (hx:Ext w w'):VsV w' L v l:=by
 obtain ⟨A,c,e,h1,h2,h3⟩:=h;refine ⟨A,c,e,h1,h2,fun j hj=>?_⟩;obtain ⟨ad,bb,A1,n1,c1,A2,n2,c2,e,hb,hv,hr⟩:=h3 j hj;exact ⟨ad,bb,A1,n1,c1,A2,n2,c2,e,Nat.lt_of_lt_of_le hb hx.size,hv.ext hx (by rw [ja]; exact hb),hr.ext hx⟩
def yai (w:World) (L b:Nat) (g:ByteArray->Option Rat):Prop:=
 ∃ l,uy w b l/\∀ s,(g s=none/\jaa l s=none)\/∃ q bb A1 n1 c1 A2 n2 c2,g s=some q/\jaa l s=some (.agg #[.bool bb,.slice A1 n1 c1,.slice A2 n2 c2])/\qw w (.agg #[.bool bb,.slice A1 n1 c1,.slice A2 n2 c2]) q L
theorem yai.ext {w w':World} {L b:Nat} {g:ByteArray->Option Rat} (h:yai w L b g) (hx:Ext w w'):yai w' L b g:=by
 obtain ⟨l,h1,h2⟩:=h;refine ⟨l,h1.ext hx,fun s=>?_⟩;rcases h2 s with h | ⟨q,bb,A1,n1,c1,A2,n2,c2,e1,e2,e3⟩
 · exact .inl h
 · exact .inr ⟨q,bb,A1,n1,c1,A2,n2,c2,e1,e2,e3.ext hx⟩
theorem jcg:(Tryz.prog.info? 65).map (·.zero)=some (some (.agg #[.bool false,.slice none 0 0,.slice none 0 0])):=by kernel_rfl
theorem yai.look {w:World} {L b:Nat} {g:ByteArray->Option Rat} (h:yai w L b g) (s:ByteArray):∃ bb A1 n1 c1 A2 n2 c2,(∀ ok,(Instr.lookup 167 (.map (some b)) (.string s) ok).run Tryz.prog w=.ok (if ok then .tuple #[.agg #[.bool bb,.slice A1 n1 c1,.slice A2 n2 c2],.bool (g s).isSome] else .agg #[.bool bb,.slice A1 n1 c1,.slice A2 n2 c2]) w)/\∀ q,g s=some q->qw w (.agg #[.bool bb,.slice A1 n1 c1,.slice A2 n2 c2]) q L:=by
 obtain ⟨l,h1,h2⟩:=h;have hk:=fun ok=>h1.look (P:=Tryz.prog) Tryz.underlying167 Tryz.underlying9 jcg s ok
 rcases h2 s with ⟨e1,e2⟩ | ⟨q,bb,A1,n1,c1,A2,n2,c2,e1,e2,e3⟩
 · refine ⟨false,none,0,0,none,0,0,fun ok=>?_,fun q hq=>by rw [e1] at hq; cases hq⟩;rw [hk ok,e1,e2]; rfl
 · refine ⟨bb,A1,n1,c1,A2,n2,c2,fun ok=>?_,fun q' hq=>by rw [e1] at hq; injection hq with hq; rw [<- hq]; exact e3⟩;rw [hk ok,e1,e2]; rfl
def wcw (L:Nat) (g:ByteArray->Option Rat) (w:World) (e:Ending) (w':World):Prop:=∃ b,e=.returned (.map (some b))/\yai w' L b g/\Ext w w'
theorem yai.put {w w' : World} {L b : Nat} {g : ByteArray -> Option Rat} {s : ByteArray} {q : Rat} {bb : Bool} {A1 A2 : Option Addr} {n1 c1 n2 c2 : Nat} {l : List (ByteArray × Value)} (h2 : ∀ s, (g s = none /\ jaa l s = none) \/ ∃ q bb A1 n1 c1 A2 n2 c2, g s = some q /\ jaa l s = some (.agg #[.bool bb, .slice A1 n1 c1, .slice A2 n2 c2]) /\ qw w (.agg #[.bool bb, .slice A1 n1 c1, .slice A2 n2 c2]) q L)
 (h1:uy w' b (gai l s (.agg #[.bool bb,.slice A1 n1 c1,.slice A2 n2 c2]))) (hr:qw w' (.agg #[.bool bb,.slice A1 n1 c1,.slice A2 n2 c2]) q L) (hx:∀ x q,qw w x q L->qw w' x q L):yai w' L b (fun t=>if t=s then some q else g t):=by
 refine ⟨_,h1,fun t=>?_⟩;rw [waz]
 by_cases ht:t=s
 · simp only [ht,if_true];exact .inr ⟨q,bb,A1,n1,c1,A2,n2,c2,rfl,rfl,hr⟩
 · simp only [ht,if_false];rcases h2 t with h | ⟨q,bb,A1,n1,c1,A2,n2,c2,e1,e2,e3⟩
   · exact .inl h
   · exact .inr ⟨q,bb,A1,n1,c1,A2,n2,c2,e1,e2,hx _ _ e3⟩
theorem ji.isCells {w:World} {A:Option Addr} {ds:List Nat} (h:ji w A ds) {w':World} (hs:w.heap.size<=w'.heap.size) {b:Nat} {es:Array MapEntry} {k:Nat} (hb:w.heap[b]?=some (.map es k)) (ho:∀ i,i < w.heap.size->i ≠ b->w'.heap[i]?=w.heap[i]?):ji w' A ds:=
 ⟨h.1,fun hl=>by
   obtain ⟨ad,e,hb',hc⟩:=h.2 hl;refine ⟨ad,e,Nat.lt_of_lt_of_le hb' hs,fun j hj=>?_⟩;have hne:ad.block ≠ b:=fun e=>by
    have h0:=hc 0 hl;rw [World.cell?,ja,e,hb] at h0;simp at h0
   exact (World.cell?_of_block (a:=ad.add j) (by rw [ja]; exact ho _ hb' hne)).trans (hc j hj)⟩
theorem qw.map {w w':World} {b L:Nat} {x:Value} {q:Rat} {l:List (ByteArray × Value)} (h:qw w x q L) (hm:uy w b l) (ho:Only b w w'):qw w' x q L:=by
 obtain ⟨es,k,hb,-⟩:=hm;have key:∀ {A ds},ji w A ds->ji w' A ds:=fun {A ds} hd=>hd.isCells ho.size hb (fun i hi hne=>ho.block hi hne)
 obtain ⟨neg,s1,s2,ds,es,e,⟨A1,c1,e1,a1,a2,a3⟩,⟨A2,c2,e2,b1,b2,b3⟩,h3,h4,h5⟩:=h;exact ⟨neg,s1,s2,ds,es,e,⟨A1,c1,e1,a1,a2,key a3⟩,⟨A2,c2,e2,b1,b2,key b3⟩,h3,h4,h5⟩
theorem first_any {w:World} {L:Nat} {v:Value} {l:List (ByteArray × Rat)} (h:VsV w L v l):Calls Tryz.prog 123 #[v] w (wcw L (yw l) w):=by
 have H:=Lib.hid h;obtain ⟨A,c,rfl,h1,h2,-⟩:=h;have hlen:l.length<=9223372036854775807:=by omega
 have hmm:=@run_makeMap Tryz.prog;go_enter Tryz.func123,Tryz.ntmps123;go_wp2_with fail;clear hmm
 go_loopw [11] (fun iv wr=>∃ k:Nat,k<=l.length/\iv=.int .i64 k/\Hid (yai wr L w.heap.size (yw (l.take k))/\Ext w wr)) (fun iv _=>l.length - (intOf iv).toNat)
 case atStart=>exact ⟨0,Nat.zero_le _,rfl,⟨⟨[],uy.made w,fun s=>.inl ⟨rfl,rfl⟩⟩,(Ext.refl w).alloc _⟩⟩
 case round =>
  obtain ⟨k,hk,rfl,⟨hM,hX⟩⟩:=hrel;have HM:=Lib.hid hM;have HX:=Lib.hid hX;clear hM hX
  by_cases hlt:k < l.length
  · obtain ⟨A',c',e',-,-,h3⟩:=H.out.ext HX.out;injection e' with e1 e2 e3
    obtain ⟨ad,bb,A1,n1,c1,A2,n2,c2,e4,hb,⟨a0,a1,a2,a3⟩,hr⟩:=h3 k hlt;obtain rfl:A=some ad:=e1.trans e4;have HRR:=Lib.hid hr;have HT:Hid (l.take (k+1)=l.take k ++ [l[k]]):=List.take_succ_eq_append_getElem hlt;clear h3 e1 e3 e4 hr;rcases hlk:l[k] with ⟨nm,q⟩
    rw [hlk] at a0 HRR HT;dsimp only at a0 HRR;obtain ⟨W1,hW1⟩:∃ W1,wr.alloc (.cells #[.string nm,.bool bb,.slice A1 n1 c1,.slice A2 n2 c2] 113)=W1:=⟨_,rfl⟩;have hx1:Ext wr W1:=by rw [<- hW1]; exact (Ext.refl wr).alloc _
    obtain ⟨b3,A3,n3,c3,A4,n4,c4,hlook,hrl⟩:=(HM.out.ext hx1).look nm;have hlo:=hlook true;rw [if_pos rfl] at hlo;have d0:W1.cell? ⟨wr.heap.size,0,none⟩=some (.string nm):=by rw [<- hW1]; simp [go_sem]
    clear hlook hrl hlk
    by_cases hg:yw (l.take k) nm=none
    · rw [hg] at hlo;simp only [Option.isSome_none] at hlo;obtain ⟨W2,hW2⟩:∃ W2,W1.alloc (.cells #[.bool b3,.slice A3 n3 c3,.slice A4 n4 c4] 65)=W2:=⟨_,rfl⟩;have hx2:Ext wr W2:=by rw [<- hW2]; exact hx1.alloc _
      have f0:W2.cell? ⟨wr.heap.size,0,none⟩=some (.string nm):=by rw [<- hW2,<- hW1]; simp [go_sem]
      have f1:W2.cell? ⟨wr.heap.size,1,none⟩=some (.bool bb):=by rw [<- hW2,<- hW1]; simp [go_sem]
      have f2:W2.cell? ⟨wr.heap.size,2,none⟩=some (.slice A1 n1 c1):=by rw [<- hW2,<- hW1]; simp [go_sem]
      have f3:W2.cell? ⟨wr.heap.size,3,none⟩=some (.slice A2 n2 c2):=by rw [<- hW2,<- hW1]; simp [go_sem]
      obtain ⟨lm,hm1,hm2⟩:=HM.out.ext hx2;obtain ⟨W3,hput,hm3,ho3⟩:=hm1.put (P:=Tryz.prog) Tryz.underlying167 Tryz.underlying9 nm (.agg #[.bool bb,.slice A1 n1 c1,.slice A2 n2 c2]);have HN:Hid (yai W3 L w.heap.size (yw (l.take (k+1)))/\Ext w W3):=by
       have h9:=yai.put hm2 hm3 ((HRR.out.ext hx2).map hm1 ho3) (fun x q hq=>hq.map hm1 ho3);have e9:(fun t=>if t=nm then some q else yw (l.take k) t)=yw (l.take (k+1)):=by
        funext t
        rw [HT.out,ubc]
        by_cases ht:t=nm
        · rw [if_pos ht,ht,hg]; simp
        · rw [if_neg ht]; simp [ht]
       rw [e9] at h9;exact ⟨h9,ho3.ext (HX.out.trans hx2) (Nat.le_refl _)⟩
      clear hx1 hx2 hm1 hm2 hm3 ho3 hg HT HRR HM HX;go_wp2_with fail
      go_roundw
      case rel=>exact ⟨k+1,by omega,by go_num,HN⟩
      case measure=>simp [intOf]; omega
    · have hsome:(yw (l.take k) nm).isSome=true:=by cases hh:yw (l.take k) nm <;> simp_all
      rw [hsome] at hlo;have HN:Hid (∀ W2,Ext W1 W2->yai W2 L w.heap.size (yw (l.take (k+1)))/\Ext w W2):=by
       intro W2 hx2;have e9:yw (l.take (k+1))=yw (l.take k):=by
        funext t
        rw [HT.out,ubc]
        by_cases ht:t=nm
        · rw [ht]; cases hh:yw (l.take k) nm <;> simp_all
        · simp [ht]
       rw [e9];exact ⟨HM.out.ext (hx1.trans hx2),HX.out.trans (hx1.trans hx2)⟩
      clear hx1 hg hsome HT HRR HM HX;go_wp2_with fail
      go_roundw
      case rel=>exact ⟨k+1,by omega,by go_num,HN.out _ ((Ext.refl W1).alloc _)⟩
      case measure=>simp [intOf]; omega
  · have hke:k=l.length:=by omega
    have HD:Hid (yai wr L w.heap.size (yw l)):=by
     have:=HM.out;rw [hke,List.take_length] at this;exact this
    clear hke;go_wp2_with fail;go_ret;exact ⟨_,rfl,HD.out,HX.out⟩
def kac (g:ByteArray->Option Rat) (l:List ByteArray):Bool:=l.all fun s=>(g s).isSome
theorem zbs (g:ByteArray->Option Rat) (l:List ByteArray) (k:Nat) (hk:k < l.length):kac g (l.take (k+1))=(kac g (l.take k) && (g l[k]).isSome):=by
 unfold kac;rw [List.take_succ_eq_append_getElem hk,List.all_append]; simp
theorem qbn (g:ByteArray->Option Rat) (l:List ByteArray) (k:Nat) (hk:k < l.length) (h:(g l[k]).isSome=false):kac g l=false:=by
 unfold kac;rw [List.all_eq_false];exact ⟨l[k],List.getElem_mem hk,by rw [h]; simp⟩
theorem zb0 {w:World} {L b:Nat} {g:ByteArray->Option Rat} {v:Value} {l:List ByteArray} (hm:yai w L b g) (h:SlR (fun _ (s:ByteArray) x=>x=.string s) w v l):Calls Tryz.prog 124 #[.map (some b),v] w fun e w'=>e=.returned (.bool (kac g l))/\Ext w w':=by
 have H:=Lib.hid h;have HM:=Lib.hid hm;obtain ⟨A,c,rfl,h1,h2,-⟩:=h;have hlen:l.length<=9223372036854775807:=by omega
 clear hm;go_enter Tryz.func124,Tryz.ntmps124;go_wp2_with fail
 go_loopw [11] (fun iv wr=>∃ k:Nat,k<=l.length/\iv=.int .i64 k/\Hid (kac g (l.take k)=true/\Ext w wr)) (fun iv _=>l.length - (intOf iv).toNat)
 case atStart=>exact ⟨0,Nat.zero_le _,rfl,⟨by simp [kac],Ext.refl w⟩⟩
 case round =>
  obtain ⟨k,hk,rfl,⟨hC,hX⟩⟩:=hrel;have HC:=Lib.hid hC;have HX:=Lib.hid hX;clear hC hX
  by_cases hlt:k < l.length
  · obtain ⟨ad,x,rfl,hc,hp⟩:=SlR.get_ (SlR.ext H.out (fun _ _ h=>h) HX.out) k hlt;subst hp;obtain ⟨b3,A3,n3,c3,A4,n4,c4,hlook,hrl⟩:=(HM.out.ext HX.out).look l[k];have hlo:=hlook true;rw [if_pos rfl] at hlo;clear hlook hrl
    by_cases hg:(g l[k]).isSome=true
    · rw [hg] at hlo;have HN:Hid (kac g (l.take (k+1))=true):=by
       have:kac g (l.take (k+1))=true:=by rw [zbs g l k hlt,HC.out,hg]; rfl
       exact this
      clear hg;go_wp2_with fail
      go_roundw
      case rel=>exact ⟨k+1,by omega,by go_num,⟨HN.out,HX.out.alloc _⟩⟩
      case measure=>simp [intOf]; omega
    · have hg':(g l[k]).isSome=false:=by simpa using hg
      rw [hg'] at hlo;have HN:=Lib.hid (qbn g l k hlt hg');clear hg hg';go_wp2_with fail;go_ret;exact ⟨by rw [HN.out]; rfl,HX.out.alloc _⟩
  · have hke:k=l.length:=by omega
    have HD:Hid (kac g l=true):=by
     have:=HC.out;rw [hke,List.take_length] at this;exact this
    clear hke;go_wp2_with fail;go_ret;exact ⟨by rw [HD.out]; rfl,HX.out⟩
end Go.Proofs.YtcfcjabgkfehlaaGreat
