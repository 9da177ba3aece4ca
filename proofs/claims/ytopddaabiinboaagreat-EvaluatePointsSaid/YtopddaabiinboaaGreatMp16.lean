/- Layer 40: evaluate.first, covers: values of names. -/
import Derived.Test.YtopddaabiinboaaGreatMp15
import Derived.Test.YtopddaabiinboaaGreatMp6
import Derived.OrdersHeld
import Derived.Deep.RegionHeld3
import Derived.Test.YtopddaabiinboaaGreatMp0
import Derived.Test.YtopddaabiinboaaGreatMp10
import Derived.Test.YtopddaabiinboaaGreatMp8
set_option linter.unusedSimpArgs false
set_option linter.unusedVariables false

set_option maxRecDepth 100000
set_option maxHeartbeats 8000000
namespace Go.Proofs.YtopddaabiinboaaGreat
open Go.RowKit
def vc8 (l:List (ByteArray × Rat)) (s:ByteArray):Option Rat:=match l with
 | []=>none
 | (k,q) :: r=>if s=k then some q else vc8 r s
theorem whn (l:List (ByteArray × Rat)) (k s:ByteArray) (q:Rat):vc8 (l ++ [(k,q)]) s=(vc8 l s).or (if s=k then some q else none):=by
 induction l with
 | nil=>simp [vc8]
 | cons x r ih =>
   obtain ⟨k',q'⟩:=x;simp only [List.cons_append,vc8]
   by_cases h:s=k'
   · simp [h]
   · simp [h,ih]
def qid (w:World) (ad:Addr) (s:ByteArray) (b s1 s2:Value):Prop:=
 w.cell? ad=some (.string s)/\w.cell? ⟨ad.block,ad.off+1,none⟩=some b/\w.cell? ⟨ad.block,ad.off+2,none⟩=some s1/\w.cell? ⟨ad.block,ad.off+3,none⟩=some s2
theorem qid.ext {w w':World} {ad:Addr} {s:ByteArray} {b s1 s2:Value} (h:qid w ad s b s1 s2) (hx:Ext w w') (hb:ad.block < w.heap.size):qid w' ad s b s1 s2:=by
 obtain ⟨h0,h1,h2,h3⟩:=h;have k:∀ n,(⟨ad.block,ad.off+n,none⟩:Addr).block < w.heap.size:=fun n=>hb
 exact ⟨(hx.cell hb).trans h0,(hx.cell (k _)).trans h1,(hx.cell (k _)).trans h2,(hx.cell (k _)).trans h3⟩
def VsV (w:World) (L:Nat) (v:Value) (l:List (ByteArray × Rat)):Prop:=
 ∃ A c,v=.slice A l.length c/\l.length<=c/\c<=9223372036854775807/\∀ j (h:j < l.length),∃ ad bb A1 n1 c1 A2 n2 c2,A=some ad/\ad.block < w.heap.size/\qid w (ad.add (j * 4)) l[j].1 (.bool bb) (.slice A1 n1 c1) (.slice A2 n2 c2)/\wc7 w (.agg #[.bool bb,.slice A1 n1 c1,.slice A2 n2 c2]) l[j].2 L
theorem VsV.ext {w w':World} {L:Nat} {v:Value} {l:List (ByteArray × Rat)} (h:VsV w L v l) (hx:Ext w w'):VsV w' L v l:=by
 obtain ⟨A,c,e,h1,h2,h3⟩:=h;refine ⟨A,c,e,h1,h2,fun j hj=>?_⟩;obtain ⟨ad,bb,A1,n1,c1,A2,n2,c2,e,hb,hv,hr⟩:=h3 j hj;exact ⟨ad,bb,A1,n1,c1,A2,n2,c2,e,Nat.lt_of_lt_of_le hb hx.size,hv.ext hx (by rw [uc2]; exact hb),hr.ext hx⟩
def kdj (w:World) (L b:Nat) (g:ByteArray->Option Rat):Prop:=
 ∃ l,zda w b l/\∀ s,(g s=none/\wda l s=none)\/∃ q bb A1 n1 c1 A2 n2 c2,g s=some q/\wda l s=some (.agg #[.bool bb,.slice A1 n1 c1,.slice A2 n2 c2])/\wc7 w (.agg #[.bool bb,.slice A1 n1 c1,.slice A2 n2 c2]) q L
theorem kdj.ext {w w':World} {L b:Nat} {g:ByteArray->Option Rat} (h:kdj w L b g) (hx:Ext w w'):kdj w' L b g:=by
 obtain ⟨l,h1,h2⟩:=h;refine ⟨l,h1.ext hx,fun s=>?_⟩;rcases h2 s with h | ⟨q,bb,A1,n1,c1,A2,n2,c2,e1,e2,e3⟩
 · exact .inl h
 · exact .inr ⟨q,bb,A1,n1,c1,A2,n2,c2,e1,e2,e3.ext hx⟩
theorem jis:(Tryz.prog.info? 37).map (·.zero)=some (some (.agg #[.bool false,.slice none 0 0,.slice none 0 0])):=by kernel_rfl
theorem kdj.look {w:World} {L b:Nat} {g:ByteArray->Option Rat} (h:kdj w L b g) (s:ByteArray):∃ bb A1 n1 c1 A2 n2 c2,(∀ ok,(Instr.lookup 95 (.map (some b)) (.string s) ok).run Tryz.prog w=.ok (if ok then .tuple #[.agg #[.bool bb,.slice A1 n1 c1,.slice A2 n2 c2],.bool (g s).isSome] else .agg #[.bool bb,.slice A1 n1 c1,.slice A2 n2 c2]) w)/\∀ q,g s=some q->wc7 w (.agg #[.bool bb,.slice A1 n1 c1,.slice A2 n2 c2]) q L:=by
 obtain ⟨l,h1,h2⟩:=h;have hk:=fun ok=>h1.look (P:=Tryz.prog) Tryz.underlying95 Tryz.underlying9 jis s ok
 rcases h2 s with ⟨e1,e2⟩ | ⟨q,bb,A1,n1,c1,A2,n2,c2,e1,e2,e3⟩
 · refine ⟨false,none,0,0,none,0,0,fun ok=>?_,fun q hq=>by rw [e1] at hq; cases hq⟩;rw [hk ok,e1,e2]; rfl
 · refine ⟨bb,A1,n1,c1,A2,n2,c2,fun ok=>?_,fun q' hq=>by rw [e1] at hq; injection hq with hq; rw [<- hq]; exact e3⟩;rw [hk ok,e1,e2]; rfl
def ui9 (L:Nat) (g:ByteArray->Option Rat) (w:World) (e:Ending) (w':World):Prop:=∃ b,e=.returned (.map (some b))/\kdj w' L b g/\Ext w w'
theorem kdj.put {w w' : World} {L b : Nat} {g : ByteArray -> Option Rat} {s : ByteArray} {q : Rat} {bb : Bool} {A1 A2 : Option Addr} {n1 c1 n2 c2 : Nat} {l : List (ByteArray × Value)} (h2 : ∀ s, (g s = none /\ wda l s = none) \/ ∃ q bb A1 n1 c1 A2 n2 c2, g s = some q /\ wda l s = some (.agg #[.bool bb, .slice A1 n1 c1, .slice A2 n2 c2]) /\ wc7 w (.agg #[.bool bb, .slice A1 n1 c1, .slice A2 n2 c2]) q L)
 (h1:zda w' b (jgs l s (.agg #[.bool bb,.slice A1 n1 c1,.slice A2 n2 c2]))) (hr:wc7 w' (.agg #[.bool bb,.slice A1 n1 c1,.slice A2 n2 c2]) q L) (hx:∀ x q,wc7 w x q L->wc7 w' x q L):kdj w' L b (fun t=>if t=s then some q else g t):=by
 refine ⟨_,h1,fun t=>?_⟩;rw [zhb]
 by_cases ht:t=s
 · simp only [ht,if_true];exact .inr ⟨q,bb,A1,n1,c1,A2,n2,c2,rfl,rfl,hr⟩
 · simp only [ht,if_false];rcases h2 t with h | ⟨q,bb,A1,n1,c1,A2,n2,c2,e1,e2,e3⟩
   · exact .inl h
   · exact .inr ⟨q,bb,A1,n1,c1,A2,n2,c2,e1,e2,hx _ _ e3⟩
theorem wc4.isCells {w:World} {A:Option Addr} {ds:List Nat} (h:wc4 w A ds) {w':World} (hs:w.heap.size<=w'.heap.size) {b:Nat} {es:Array MapEntry} {k:Nat} (hb:w.heap[b]?=some (.map es k)) (ho:∀ i,i < w.heap.size->i ≠ b->w'.heap[i]?=w.heap[i]?):wc4 w' A ds:=
 ⟨h.1,fun hl=>by
   obtain ⟨ad,e,hb',hc⟩:=h.2 hl;refine ⟨ad,e,Nat.lt_of_lt_of_le hb' hs,fun j hj=>?_⟩;have hne:ad.block ≠ b:=fun e=>by
    have h0:=hc 0 hl;rw [World.cell?,uc2,e,hb] at h0;simp at h0
   exact (World.cell?_of_block (a:=ad.add j) (by rw [uc2]; exact ho _ hb' hne)).trans (hc j hj)⟩
theorem wc7.map {w w':World} {b L:Nat} {x:Value} {q:Rat} {l:List (ByteArray × Value)} (h:wc7 w x q L) (hm:zda w b l) (ho:Only b w w'):wc7 w' x q L:=by
 obtain ⟨es,k,hb,-⟩:=hm;have key:∀ {A ds},wc4 w A ds->wc4 w' A ds:=fun {A ds} hd=>hd.isCells ho.size hb (fun i hi hne=>ho.block hi hne)
 obtain ⟨neg,s1,s2,ds,es,e,⟨A1,c1,e1,a1,a2,a3⟩,⟨A2,c2,e2,b1,b2,b3⟩,h3,h4,h5⟩:=h;exact ⟨neg,s1,s2,ds,es,e,⟨A1,c1,e1,a1,a2,key a3⟩,⟨A2,c2,e2,b1,b2,key b3⟩,h3,h4,h5⟩
theorem first_any {w:World} {L:Nat} {v:Value} {l:List (ByteArray × Rat)} (h:VsV w L v l):Calls Tryz.prog 44 #[v] w (ui9 L (vc8 l) w):=by
 have H:=Lib.hid h;obtain ⟨A,c,rfl,h1,h2,-⟩:=h;have hlen:l.length<=9223372036854775807:=by omega
 have hmm:=@run_makeMap Tryz.prog;go_enter Tryz.func44,Tryz.ntmps44;go_wp2_with fail;clear hmm
 go_loopw [11] (fun iv wr=>∃ k:Nat,k<=l.length/\iv=.int .i64 k/\Hid (kdj wr L w.heap.size (vc8 (l.take k))/\Ext w wr)) (fun iv _=>l.length - (intOf iv).toNat)
 case atStart=>exact ⟨0,Nat.zero_le _,rfl,⟨⟨[],zda.made w,fun s=>.inl ⟨rfl,rfl⟩⟩,(Ext.refl w).alloc _⟩⟩
 case round =>
  obtain ⟨k,hk,rfl,⟨hM,hX⟩⟩:=hrel;have HM:=Lib.hid hM;have HX:=Lib.hid hX;clear hM hX
  by_cases hlt:k < l.length
  · obtain ⟨A',c',e',-,-,h3⟩:=H.out.ext HX.out;injection e' with e1 e2 e3
    obtain ⟨ad,bb,A1,n1,c1,A2,n2,c2,e4,hb,⟨a0,a1,a2,a3⟩,hr⟩:=h3 k hlt;obtain rfl:A=some ad:=e1.trans e4;have HRR:=Lib.hid hr;have HT:Hid (l.take (k+1)=l.take k ++ [l[k]]):=List.take_succ_eq_append_getElem hlt;clear h3 e1 e3 e4 hr;rcases hlk:l[k] with ⟨nm,q⟩
    rw [hlk] at a0 HRR HT;dsimp only at a0 HRR;obtain ⟨W1,hW1⟩:=n_m (wr.alloc (.cells #[.string nm,.bool bb,.slice A1 n1 c1,.slice A2 n2 c2] 70));have hx1:Ext wr W1:=by rw [<- hW1]; exact (Ext.refl wr).alloc _
    obtain ⟨b3,A3,n3,c3,A4,n4,c4,hlook,hrl⟩:=(HM.out.ext hx1).look nm;have hlo:=hlook true;rw [if_pos rfl] at hlo;have d0:W1.cell? ⟨wr.heap.size,0,none⟩=some (.string nm):=by rw [<- hW1]; simp [go_sem]
    clear hlook hrl hlk
    by_cases hg:vc8 (l.take k) nm=none
    · rw [hg] at hlo;simp only [Option.isSome_none] at hlo;obtain ⟨W2,hW2⟩:=n_m (W1.alloc (.cells #[.bool b3,.slice A3 n3 c3,.slice A4 n4 c4] 37));have hx2:Ext wr W2:=by rw [<- hW2]; exact hx1.alloc _
      have f0:W2.cell? ⟨wr.heap.size,0,none⟩=some (.string nm):=by rw [<- hW2,<- hW1]; simp [go_sem]
      have f1:W2.cell? ⟨wr.heap.size,1,none⟩=some (.bool bb):=by rw [<- hW2,<- hW1]; simp [go_sem]
      have f2:W2.cell? ⟨wr.heap.size,2,none⟩=some (.slice A1 n1 c1):=by rw [<- hW2,<- hW1]; simp [go_sem]
      have f3:W2.cell? ⟨wr.heap.size,3,none⟩=some (.slice A2 n2 c2):=by rw [<- hW2,<- hW1]; simp [go_sem]
      obtain ⟨lm,hm1,hm2⟩:=HM.out.ext hx2;obtain ⟨W3,hput,hm3,ho3⟩:=hm1.put (P:=Tryz.prog) Tryz.underlying95 Tryz.underlying9 nm (.agg #[.bool bb,.slice A1 n1 c1,.slice A2 n2 c2]);have HN:Hid (kdj W3 L w.heap.size (vc8 (l.take (k+1)))/\Ext w W3):=by
       have h9:=kdj.put hm2 hm3 ((HRR.out.ext hx2).map hm1 ho3) (fun x q hq=>hq.map hm1 ho3);have e9:(fun t=>if t=nm then some q else vc8 (l.take k) t)=vc8 (l.take (k+1)):=by
        funext t
        rw [HT.out,whn]
        by_cases ht:t=nm
        · rw [if_pos ht,ht,hg]; simp
        · rw [if_neg ht]; simp [ht]
       rw [e9] at h9;exact ⟨h9,ho3.ext (HX.out.trans hx2) (Nat.le_refl _)⟩
      clear hx1 hx2 hm1 hm2 hm3 ho3 hg HT HRR HM HX;go_wp2_with fail
      go_roundw
      case rel=>exact ⟨k+1,by omega,by go_num,HN⟩
      case measure=>simp [intOf]; omega
    · have hsome:(vc8 (l.take k) nm).isSome=true:=by cases hh:vc8 (l.take k) nm <;> simp_all
      rw [hsome] at hlo;have HN:Hid (∀ W2,Ext W1 W2->kdj W2 L w.heap.size (vc8 (l.take (k+1)))/\Ext w W2):=by
       intro W2 hx2;have e9:vc8 (l.take (k+1))=vc8 (l.take k):=by
        funext t
        rw [HT.out,whn]
        by_cases ht:t=nm
        · rw [ht]; cases hh:vc8 (l.take k) nm <;> simp_all
        · simp [ht]
       rw [e9];exact ⟨HM.out.ext (hx1.trans hx2),HX.out.trans (hx1.trans hx2)⟩
      clear hx1 hg hsome HT HRR HM HX;go_wp2_with fail
      go_roundw
      case rel=>exact ⟨k+1,by omega,by go_num,HN.out _ ((Ext.refl W1).alloc _)⟩
      case measure=>simp [intOf]; omega
  · have hke:k=l.length:=by omega
    have HD:Hid (kdj wr L w.heap.size (vc8 l)):=by
     have:=HM.out;rw [hke,List.take_length] at this;exact this
    clear hke;go_wp2_with fail;go_ret;exact ⟨_,rfl,HD.out,HX.out⟩
def zdd (g:ByteArray->Option Rat) (l:List ByteArray):Bool:=l.all fun s=>(g s).isSome
theorem wh3 (g:ByteArray->Option Rat) (l:List ByteArray) (k:Nat) (hk:k < l.length):zdd g (l.take (k+1))=(zdd g (l.take k) && (g l[k]).isSome):=by
 unfold zdd;rw [List.take_succ_eq_append_getElem hk,List.all_append]; simp
theorem ghy (g:ByteArray->Option Rat) (l:List ByteArray) (k:Nat) (hk:k < l.length) (h:(g l[k]).isSome=false):zdd g l=false:=by
 unfold zdd;rw [List.all_eq_false];exact ⟨l[k],List.getElem_mem hk,by rw [h]; simp⟩
theorem qic {w:World} {L b:Nat} {g:ByteArray->Option Rat} {v:Value} {l:List ByteArray} (hm:kdj w L b g) (h:SlR (fun _ (s:ByteArray) x=>x=.string s) w v l):Calls Tryz.prog 45 #[.map (some b),v] w fun e w'=>e=.returned (.bool (zdd g l))/\Ext w w':=by
 have H:=Lib.hid h;have HM:=Lib.hid hm;obtain ⟨A,c,rfl,h1,h2,-⟩:=h;have hlen:l.length<=9223372036854775807:=by omega
 clear hm;go_enter Tryz.func45,Tryz.ntmps45;go_wp2_with fail
 go_loopw [11] (fun iv wr=>∃ k:Nat,k<=l.length/\iv=.int .i64 k/\Hid (zdd g (l.take k)=true/\Ext w wr)) (fun iv _=>l.length - (intOf iv).toNat)
 case atStart=>exact ⟨0,Nat.zero_le _,rfl,⟨by simp [zdd],Ext.refl w⟩⟩
 case round =>
  obtain ⟨k,hk,rfl,⟨hC,hX⟩⟩:=hrel;have HC:=Lib.hid hC;have HX:=Lib.hid hX;clear hC hX
  by_cases hlt:k < l.length
  · obtain ⟨ad,x,rfl,hc,hp⟩:=SlR.get_ (SlR.ext H.out (fun _ _ h=>h) HX.out) k hlt;subst hp;obtain ⟨b3,A3,n3,c3,A4,n4,c4,hlook,hrl⟩:=(HM.out.ext HX.out).look l[k];have hlo:=hlook true;rw [if_pos rfl] at hlo;clear hlook hrl
    by_cases hg:(g l[k]).isSome=true
    · rw [hg] at hlo;have HN:Hid (zdd g (l.take (k+1))=true):=by
       have:zdd g (l.take (k+1))=true:=by rw [wh3 g l k hlt,HC.out,hg]; rfl
       exact this
      clear hg;go_wp2_with fail
      go_roundw
      case rel=>exact ⟨k+1,by omega,by go_num,⟨HN.out,HX.out.alloc _⟩⟩
      case measure=>simp [intOf]; omega
    · have hg':(g l[k]).isSome=false:=by simpa using hg
      rw [hg'] at hlo;have HN:=Lib.hid (ghy g l k hlt hg');clear hg hg';go_wp2_with fail;go_ret;exact ⟨by rw [HN.out]; rfl,HX.out.alloc _⟩
  · have hke:k=l.length:=by omega
    have HD:Hid (zdd g l=true):=by
     have:=HC.out;rw [hke,List.take_length] at this;exact this
    clear hke;go_wp2_with fail;go_ret;exact ⟨by rw [HD.out]; rfl,HX.out⟩
end Go.Proofs.YtopddaabiinboaaGreat

/- One operation of a region taken first: its side conditions by themselves. -/
namespace Go.Proofs.YtopddaabiinboaaGreat
theorem tk {P : Program} {ops : Array Oper} {Q : Exit -> Act -> World -> Prop} {md : Region.Mode} {S : World -> Prop} {oi : Oper} {v : Value} {fuel : Nat} {listed l' : Array Bool} {a a' : Act} {w : World} (i : Nat) (h : wpAnyH P md ops Q S fuel l' a' w) (hi : ops[i]? = some oi := by rfl) (hs : Region.noSelect ops = true := by kernel_rfl) (hf : Region.free md ops listed i = true := by kernel_rfl) (hr : (Region.ready md ops listed).contains i = true := by kernel_rfl)
 (hy:YieldsIf P ops S oi v a:=by (first | exact Or.inl ⟨by rfl,by intro w' hSw; (try dsimp only at hSw); go_simp; (try (with_reducible rfl))⟩ | exact Or.inr ⟨by rfl,rfl⟩)) (hS:S w:=by assumption)
 (ha:a.put oi.dst v=a':=by ((try simp only [Act.put,List.getElem_toArray,List.getElem_cons_zero,List.getElem_cons_succ,List.setIfInBounds_toArray,List.set_cons_zero,List.set_cons_succ]) <;> rfl))
 (hl:listed.setIfInBounds i true=l':=by ((try simp only [List.setIfInBounds_toArray,List.set_cons_zero,List.set_cons_succ]) <;> rfl)) (hq:∀ c a w,Q (.panic c) (a.put oi.dst v) w->Q (.panic c) a w:=by exact fun _ _ _ h=>h):wpAnyH P md ops Q S (fuel+1) listed a w:=
 wpAnyH_take hi hs hf hr hq hy hS (by rw [ha,hl]; exact h)
section
variable {P:Program} {ops:Array Oper} {Q:Exit->Act->World->Prop} {md:Region.Mode} {S:World->Prop} {fuel:Nat}
theorem k_t {l0 l':Array Bool} {K':Act->World->Prop} {a a':Act} {w:World} (hK:Shut (∀ a w,S w->(S w->wpAnyH P md ops Q S fuel l0 a w)->K' a w)) (hS:S w) (h:S w->wpAnyH P md ops Q S fuel l' a' w) (ha:a=a':=by ((try simp only [Act.put,List.getElem_toArray,List.getElem_cons_zero,List.getElem_cons_succ,List.setIfInBounds_toArray,List.set_cons_zero,List.set_cons_succ]) <;> rfl)) (hl:l0=l':=by ((try simp only [List.setIfInBounds_toArray,List.set_cons_zero,List.set_cons_succ]) <;> rfl)):K' a w:=
  hK.out a w hS fun hs=>by rw [ha,hl]; exact h hs
theorem r_1 {listed:Array Bool} {a:Act} {w:World} {o:Oper} (i:Nat) (h:∀ K':Act->World->Prop,Shut (∀ a w,S w->(S w->wpAnyH P md ops Q S fuel (listed.setIfInBounds i true) a w)->K' a w)->if Region.wanted o (yielded ops a.tmps)=true then Oper.wp P o a w K' Q else K' (a.put o.dst undef) w) (hr:Region.ready md ops listed=[i]:=by kernel_rfl) (ho:ops[i]?=some o:=by rfl):wpAnyH P md ops Q S (fuel+1) listed a w:=
  wpAnyH_ready hr (by simp) (AllReadyH.cons ho h AllReadyH.nil)
theorem r_2 {listed:Array Bool} {a:Act} {w:World} {o p:Oper} (i j:Nat) (h:∀ K':Act->World->Prop,Shut (∀ a w,S w->(S w->wpAnyH P md ops Q S fuel (listed.setIfInBounds i true) a w)->K' a w)->if Region.wanted o (yielded ops a.tmps)=true then Oper.wp P o a w K' Q else K' (a.put o.dst undef) w) (h2:∀ K':Act->World->Prop,Shut (∀ a w,S w->(S w->wpAnyH P md ops Q S fuel (listed.setIfInBounds j true) a w)->K' a w)->if Region.wanted p (yielded ops a.tmps)=true then Oper.wp P p a w K' Q else K' (a.put p.dst undef) w) (hr:Region.ready md ops listed=[i,j]:=by kernel_rfl) (ho:ops[i]?=some o:=by rfl) (hp:ops[j]?=some p:=by rfl):wpAnyH P md ops Q S (fuel+1) listed a w:=
  wpAnyH_ready hr (by simp) (AllReadyH.cons ho h (AllReadyH.cons hp h2 AllReadyH.nil))
theorem w_d {listed:Array Bool} {a:Act} {w:World} (h:Q .normal a w) (hr:Region.ready md ops listed=[]:=by kernel_rfl):wpAnyH P md ops Q S fuel listed a w:=wpAnyH_done hr h _
end
end Go.Proofs.YtopddaabiinboaaGreat

/- A call that returns a Bool. -/
namespace Go.Proofs.YtopddaabiinboaaGreat
def ydd (b:Bool) (w:World) (e:Ending) (w':World):Prop:=e=.returned (.bool b)/\Ext w w'
end Go.Proofs.YtopddaabiinboaaGreat

/- Rows of polynomials that grow. -/
namespace Go.Proofs.YtopddaabiinboaaGreat
open Go.RowKit
theorem xhv : jg4 28 30 4 64 (.agg #[.int .i64 0, .bool false, .slice none 0 0, .slice none 0 0]) where
 und:=Tryz.underlying28
 info:=khp
 cells:=rfl
 pos:=by omega
 nodig:=by
  intro u hu;simp only [Value.cells] at hu;simp only [List.mem_cons,List.not_mem_nil,or_false] at hu;rcases hu with rfl | rfl | rfl | rfl <;> rfl
def plC (r:Pl × Value × Value):List Value:=[.int .i64 r.1.lv,.bool r.1.neg,r.2.1,r.2.2]
def ugx (rs:List (Pl × Value × Value)):List Value:=rs.flatMap plC
theorem whx (a b:List (Pl × Value × Value)):ugx (a ++ b)=ugx a ++ ugx b:=by simp [ugx]
theorem ghb (a:List (Pl × Value × Value)):(ugx a).length=a.length * 4:=by
 induction a with
 | nil=>rfl
 | cons r rs ih=>simp only [ugx,List.flatMap_cons,List.length_append,List.length_cons] at *; rw [ih]; simp [plC]; omega
theorem ghp (rs:List (Pl × Value × Value)) (k:Nat) (hk:k < rs.length) (j:Nat) (hj:j < 4):(ugx rs)[k * 4+j]?=(plC rs[k])[j]?:=by
 induction rs generalizing k with
 | nil=>simp at hk
 | cons r rs ih =>
   have hl:(plC r).length=4:=rfl;simp only [ugx,List.flatMap_cons];cases k with
   | zero=>simp only [Nat.zero_mul,Nat.zero_add,List.getElem_cons_zero]; rw [List.getElem?_append_left (by omega)]
   | succ k =>
     rw [List.getElem?_append_right (by omega),hl,show (k+1) * 4+j - 4=k * 4+j by omega];exact ih k (by simpa using hk)
def ydf (base:Nat) (q:Nat->Prop) (W:World) (v:Value) (l:List Pl):Prop:=
 ∃ rs:List (Pl × Value × Value),rs.map (fun r=>r.1)=l/\zc8 30 4 base W v rs.length (ugx rs)/\∀ r ∈ rs,(∃ A0 n0 c0 A1 n1 c1,r.2=(.slice A0 n0 c0,.slice A1 n1 c1))/\PlV W (fun b=>v.ownBlock ≠ some b/\q b) r.1 (plV r.1 r.2.1 r.2.2)
section
variable {base:Nat} {q:Nat->Prop} {W W':World} {v:Value} {l:List Pl}
theorem ydf.nil (base:Nat) (q:Nat->Prop) (W:World):ydf base q W (.slice none 0 0) []:=⟨[],rfl,zc8.nil _ _ _ _,by simp⟩
theorem ydf.own (h:ydf base q W v l) {R:Nat} (hR:v.ownBlock=some R):base<=R/\R < W.heap.size:=by
 obtain ⟨rs,-,h2,-⟩:=h;exact h2.own hR
theorem ydf.len (h:ydf base q W v l):∃ A c,v=.slice A l.length c/\l.length<=c/\c<=9223372036854775807:=by
 obtain ⟨rs,rfl,h2,-⟩:=h;rw [List.length_map];exact h2.len
theorem ydf.ext (h:ydf base q W v l) (hx:Ext W W'):ydf base q W' v l:=by
 obtain ⟨rs,e,h2,h3⟩:=h;exact ⟨rs,e,h2.ext hx,fun r hr=>⟨(h3 r hr).1,(h3 r hr).2.ext hx⟩⟩
theorem ydf.at_ {A:Option Addr} {n c:Nat} (h:ydf base q W (.slice A n c) l):kc3 W (fun b=>base<=b\/q b) l A 0:=by
 obtain ⟨rs,rfl,h2,h3⟩:=h;refine kc3.of _ _ 0 fun i hi=>?_
 rw [List.length_map] at hi;obtain ⟨g,c',e',-,-,hbg,hlt,-⟩:=h2.pos (by omega);injection e' with e1 e2 e3
 subst e1 e2 e3;have hcell:∀ j,j < 4->W.cell? ⟨g,i * 4+j,none⟩=(plC rs[i])[j]?:=by
  intro j hj;rw [h2.cell (i * 4+j) (by omega)];exact ghp rs i hi j hj
 refine ⟨⟨g,0,none⟩,rs[i].2.1,rs[i].2.2,rfl,hlt,.inl hbg,?_,?_⟩
 · rw [zc9,Nat.zero_add,Nat.zero_add,List.getElem_map];exact ⟨hcell 0 (by omega),hcell 1 (by omega),hcell 2 (by omega),hcell 3 (by omega)⟩
 · rw [List.getElem_map]; exact (h3 rs[i] (List.getElem_mem hi)).2.mono fun b hb=>.inr hb.2
end
theorem vh9 (a:Addr) (n:Nat):(a.add n).off=a.off+n:=by unfold Addr.add; split <;> simp_all
theorem gi4 (a:Addr) (n:Nat) (h:0 < n):a.add n=⟨a.block,a.off+n,none⟩:=by unfold Addr.add; rw [if_neg (by omega)]
theorem xgu.cells {W:World} {ad:Addr} {r:Pl × Value × Value} {i:Nat} (h:xgu W (ad.add (i * 4)) r.1 r.2.1 r.2.2) (j:Nat) (hj:j < 4) (u:Value) (hu:(plC r)[j]?=some u):W.cell? (ad.add (i * 4+j))=some u:=by
 obtain ⟨h0,h1,h2,h3⟩:=h;rw [uc2,vh9] at h1 h2 h3;rcases (show j=0\/j=1\/j=2\/j=3 by omega) with rfl | rfl | rfl | rfl
 · simp only [plC,List.getElem?_cons_zero,Option.some.injEq] at hu;subst hu; exact h0
 all_goals
  rw [gi4 _ _ (by omega)];simp only [plC,List.getElem?_cons_zero,List.getElem?_cons_succ,Option.some.injEq] at hu;subst hu
  first | exact h1 | exact h2 | exact h3
theorem ydf.append_ {base:Nat} {q:Nat->Prop} {W:World} {ov:Value} {l:List Pl} {ad:Addr} (h:ydf base q W ov l) (hbase:base<=W.heap.size) (rs2:List (Pl × Value × Value)) (e2:∀ r ∈ rs2,(∃ A0 n0 c0 A1 n1 c1,r.2=(.slice A0 n0 c0,.slice A1 n1 c1))/\PlV W (fun b=>ov.ownBlock ≠ some b/\q b) r.1 (plV r.1 r.2.1 r.2.2)) (e3:∀ i (hi:i < rs2.length),xgu W (ad.add (i * 4)) rs2[i].1 rs2[i].2.1 rs2[i].2.2) (hpos:0 < rs2.length) (hlen:l.length+rs2.length<=1000000000) (c:Nat) (ty:TypeId) :
 ∃ v4 w4,(Builtin.append_ #[28,28] ty #[ov,.slice (some ad) rs2.length c]).run Tryz.prog W=.ok v4 w4/\W.grownBy w4 ov.ownBlock/\(∀ v ds,vc2 W v ds->vc2 w4 v ds)/\ydf base q w4 v4 (l ++ rs2.map (fun r=>r.1))/\(v4.ownBlock=ov.ownBlock\/v4.ownBlock=some W.heap.size):=by
 obtain ⟨rs,rfl,h2,h3⟩:=h;rw [List.length_map] at hlen;obtain ⟨v4,w4,hrun,r1,r2,r3,r4⟩:=h2.append xhv hbase ad rs2.length c (ugx rs2) (ghb rs2) (by
  intro j u hu;have hj:j < rs2.length * 4:=by rw [<- ghb]; exact (List.getElem?_eq_some_iff.1 hu).1
  have hd:j / 4 * 4+j % 4=j:=by omega
  have hm:=e3 (j / 4) (by omega);have hg:=ghp rs2 (j / 4) (by omega) (j % 4) (by omega);rw [hd,hu] at hg;have:=hm.cells (j % 4) (by omega) u hg.symm
  rwa [hd] at this) (by
  intro u hu;simp only [ugx,List.mem_flatMap] at hu;obtain ⟨r,hr,hu⟩:=hu;obtain ⟨⟨A0,n0,c0,A1,n1,c1,er⟩,-⟩:=e2 r hr;simp only [plC,er,List.mem_cons,List.not_mem_nil,or_false] at hu
  rcases hu with rfl | rfl | rfl | rfl <;> exact ⟨rfl,rfl⟩) hpos (by omega) (by omega) ty
 refine ⟨v4,w4,hrun,r2,r3,⟨rs ++ rs2,by simp,?_,fun r hr=>?_⟩,r4⟩
 · rw [whx,List.length_append]; exact r1
 · have hv4:∀ b,b < W.heap.size->ov.ownBlock ≠ some b->v4.ownBlock ≠ some b:=by
    intro b hb hne e;rcases r4 with r4 | r4
    · exact hne (by rw [<- r4]; exact e)
    · rw [r4] at e; injection e with e; omega
   have hblk:∀ b,b < W.heap.size->ov.ownBlock ≠ some b->w4.heap[b]?=W.heap[b]?:=fun b hb hne=>World.grownBy.block r2 b hb (fun e=>hne e.symm)
   rcases List.mem_append.1 hr with hr | hr
   · exact ⟨(h3 r hr).1,PlV.turn_ r2.size r3 (fun b hb hp=>⟨⟨hv4 b hb hp.1,hp.2⟩,hblk b hb hp.1⟩) (h3 r hr).2⟩
   · exact ⟨(e2 r hr).1,PlV.turn_ r2.size r3 (fun b hb hp=>⟨⟨hv4 b hb hp.1,hp.2⟩,hblk b hb hp.1⟩) (e2 r hr).2⟩
theorem ydf.push {base:Nat} {q:Nat->Prop} {W:World} {ov:Value} {l:List Pl} (h:ydf base q W ov l) (hbase:base<=W.heap.size) {x:Pl} {A0 A1:Option Addr} {n0 c0 n1 c1:Nat} (hx:PlV W (fun b=>ov.ownBlock ≠ some b/\q b) x (plV x (.slice A0 n0 c0) (.slice A1 n1 c1))) (hlen:l.length+1<=1000000000) (ty:TypeId) :
 ∃ v4 w4,(Builtin.append_ #[28,28] ty #[ov,.slice (some ⟨W.heap.size,0,none⟩) 1 1]).run Tryz.prog (W.alloc (.cells #[.int .i64 x.lv,.bool x.neg,.slice A0 n0 c0,.slice A1 n1 c1] 30))=.ok v4 w4/\W.grownBy w4 ov.ownBlock/\(∀ v ds,vc2 W v ds->vc2 w4 v ds)/\ydf base q w4 v4 (l ++ [x])/\(v4.ownBlock=ov.ownBlock\/v4.ownBlock=some (W.heap.size+1)):=by
 have hxa:Ext W (W.alloc (.cells #[.int .i64 x.lv,.bool x.neg,.slice A0 n0 c0,.slice A1 n1 c1] 30)):=(Ext.refl W).alloc _;obtain ⟨v4,w4,hrun,h2,h3,h4,h5⟩:=(h.ext hxa).append_ (ad:=⟨W.heap.size,0,none⟩) (by have:=hxa.size; omega) [(x,.slice A0 n0 c0,.slice A1 n1 c1)] (by
  intro r hr;obtain rfl:=List.mem_singleton.1 hr;exact ⟨⟨_,_,_,_,_,_,rfl⟩,hx.ext hxa⟩) (by
  intro i hi;obtain rfl:i=0:=by simpa using hi
  rw [Nat.zero_mul,zc9,Nat.zero_add]
  refine ⟨?_,?_,?_,?_⟩ <;> simp [go_sem]) (by simp) (by simpa using hlen) 1 ty
 refine ⟨v4,w4,hrun,⟨h2.os.trans hxa.below.os,h2.tape.trans hxa.below.tape,h2.output.trans hxa.below.output,Nat.le_trans hxa.size h2.size,fun i hi hne=>(World.grownBy.block h2 i (Nat.lt_of_lt_of_le hi hxa.size) hne).trans (hxa.below.block i hi)⟩,fun v ds hv=>h3 v ds (hv.ext hxa),h4,?_⟩
 rwa [World.size_alloc] at h5
end Go.Proofs.YtopddaabiinboaaGreat

/- Polynomials in four variables, plain: a canonical polynomial is known by its values; sums and products. No program in sight. -/
namespace Go.Proofs.YtopddaabiinboaaGreat
theorem yg7 (x:Rat) (m n:Nat):x ^ (m+n)=x ^ m * x ^ n:=by
 induction n with
 | zero=>simp
 | succ n ih=>rw [<- Nat.add_assoc,Rat.pow_succ,ih,Rat.pow_succ]; grind
theorem xip (x:Rat) (m n:Nat):x ^ (m * n)=(x ^ m) ^ n:=by
 induction n with
 | zero=>simp
 | succ n ih=>rw [Nat.mul_succ,yg7,ih,Rat.pow_succ]
def Mo.num (E:Nat) (m:Mo):Nat:=m.a.toNat+E * (m.b.toNat+E * (m.c.toNat+E * m.d.toNat))
theorem jgy {E x x' y y':Nat} (hx:x < E) (h:y < y'):x+E * y < x'+E * y':=by
 have h1:E * (y+1)<=E * y':=Nat.mul_le_mul_left E h;rw [Nat.mul_add] at h1;omega
theorem Mo.num_lt {E:Nat} {m n:Mo} (hm:m.nonneg) (hn:n.nonneg) (hE:m.a < E/\m.b < E/\m.c < E/\m.d < E) (h:m.lt n):m.num E < n.num E:=by
 unfold Mo.lt at h;unfold Mo.nonneg at hm hn;unfold Mo.num;rcases h with h | ⟨h1,h | ⟨h2,h | ⟨h3,h⟩⟩⟩
 · exact jgy (by omega) (jgy (by omega) (jgy (by omega) (by omega)))
 · rw [h1]; exact jgy (by omega) (jgy (by omega) (by omega))
 · rw [h1,h2]; exact jgy (by omega) (by omega)
 · rw [h1,h2,h3]; omega
def ival (E B : Nat) : Sp -> Int
 | []=>0
 | (c,m) :: r=>c * (B:Int) ^ m.num E+ival E B r
def kro (E B:Nat) (i:Int):Rat:=(B:Rat) ^ (E ^ (i - 1).toNat)
theorem Mo.val_kro (E B:Nat) (m:Mo):m.val (kro E B)=(B:Rat) ^ m.num E:=by
 unfold Mo.val kro Mo.num;simp only [<- xip,<- yg7]
 congr 1
 simp only [show ((1:Int) - 1).toNat=0 from rfl,show ((2:Int) - 1).toNat=1 from rfl,show ((3:Int) - 1).toNat=2 from rfl,show ((4:Int) - 1).toNat=3 from rfl,Nat.pow_zero,Nat.pow_one]
 grind
theorem khs (E B:Nat) (l:Sp):gc7 (kro E B) l=(ival E B l:Rat):=by
 induction l with
 | nil=>simp [gc7,ival]
 | cons x l ih =>
   obtain ⟨c,m⟩:=x;simp only [gc7,ival,ih,Mo.val_kro]
   push_cast
   rfl
theorem ji2 (E B K:Nat) (hB:0 < B) (l:Sp) (h:∀ x ∈ l,x.2.num E<=K):(ival E B l).natAbs<=yc4 l * B ^ K:=by
 induction l with
 | nil=>simp [ival]
 | cons x l ih =>
   obtain ⟨c,m⟩:=x;have h1:=ih fun x hx=>h x (List.mem_cons_of_mem _ hx)
   have h2:B ^ m.num E<=B ^ K:=Nat.pow_le_pow_right hB (h (c,m) (List.mem_cons_self ..));simp only [ival,yc4];have h3:(c * (B:Int) ^ m.num E).natAbs=c.natAbs * B ^ m.num E:=by
    rw [Int.natAbs_mul,Int.natAbs_pow,Int.natAbs_natCast]
   have h4:c.natAbs * B ^ m.num E<=c.natAbs * B ^ K:=Nat.mul_le_mul_left _ h2;have h5:=Int.natAbs_add_le (c * (B:Int) ^ m.num E) (ival E B l);rw [Nat.add_mul];omega
theorem ugr (c:Int) (m:Mo) (l:Sp):yc4 ((c,m) :: l)=c.natAbs+yc4 l:=rfl
theorem wh5 {l:Sp} (h:zde l) (hn:∀ x ∈ l,x.2.nonneg) (E:Nat) (hE:∀ x ∈ l,x.2.le E) (B:Nat) (hB:yc4 l+1<=B) (hne:l ≠ []):ival (E+1) B l ≠ 0:=by
 intro h2;cases l with
 | nil=>exact hne rfl
 | cons x r =>
   obtain ⟨c,m⟩:=x;simp only [ival] at h2;have hc:=h.1;rw [ugr] at hB;have hnum:∀ x ∈ r,x.2.num (E+1) < m.num (E+1):=fun x hx=>by
    refine Mo.num_lt (hn x (List.mem_cons_of_mem _ hx)) (hn _ (List.mem_cons_self ..)) ?_ (h.2.1 x hx);have:=hE x (List.mem_cons_of_mem _ hx);unfold Mo.le at this;omega
   have h3:(c * (B:Int) ^ m.num (E+1)).natAbs=c.natAbs * B ^ m.num (E+1):=by
    rw [Int.natAbs_mul,Int.natAbs_pow,Int.natAbs_natCast]
   have h4:(ival (E+1) B r).natAbs=(c * (B:Int) ^ m.num (E+1)).natAbs:=by omega
   have hc1:1<=c.natAbs:=by omega
   cases r with
   | nil =>
     simp only [ival,Int.natAbs_zero] at h4;rw [h3] at h4;have:0 < B ^ m.num (E+1):=Nat.pow_pos (by omega);have:=Nat.mul_le_mul_right (B ^ m.num (E+1)) hc1;omega
   | cons y r' =>
     have hy:=hnum y (List.mem_cons_self ..);obtain ⟨K,hK⟩:∃ K,m.num (E+1)=K+1:=⟨m.num (E+1) - 1,by omega⟩;have h5:=ji2 (E+1) B K (by omega) (y :: r') (fun x hx=>by have:=hnum x hx; omega);rw [h4,h3,hK,Nat.pow_succ] at h5;have hp:0 < B ^ K:=Nat.pow_pos (by omega);generalize B ^ K=P at *;generalize yc4 (y :: r')=S at *;have h6:1 * (P * B)<=c.natAbs * (P * B):=Nat.mul_le_mul_right _ hc1;have h7:P * (S+2)<=P * B:=Nat.mul_le_mul_left _ (by omega);have h8:P * (S+2)=S * P+2 * P:=by grind
     omega
theorem vh7 {l:Sp} (h:zde l) (hn:∀ x ∈ l,x.2.nonneg) (E:Nat) (hE:∀ x ∈ l,x.2.le E) (hz:∀ ρ,gc7 ρ l=0):l=[]:=by
 cases l with
 | nil=>rfl
 | cons x r =>
   have h1:=hz (kro (E+1) (yc4 (x :: r)+1));rw [khs] at h1;exact absurd (by exact_mod_cast h1) (wh5 h hn E hE _ (Nat.le_refl _) (by simp))
theorem Mo.le_sup (l:Sp):∃ E:Nat,∀ x ∈ l,x.2.le E:=by
 induction l with
 | nil=>exact ⟨0,by simp⟩
 | cons x r ih =>
   obtain ⟨E,h⟩:=ih;refine ⟨E+x.2.a.toNat+x.2.b.toNat+x.2.c.toNat+x.2.d.toNat,fun y hy=>?_⟩;rcases List.mem_cons.1 hy with rfl | hy
   · unfold Mo.le; omega
   · exact (h y hy).mono (by omega)
theorem yhu {l l':Sp} (hn:∀ x ∈ l,x.2.nonneg) (hn':∀ x ∈ l',x.2.nonneg) (h:∀ ρ,gc7 ρ l=gc7 ρ l') (k:Mo):wc2 l k=wc2 l' k:=by
 have hnn:∀ x ∈ l ++ xgy l',x.2.nonneg:=fun x hx=>by
  rcases List.mem_append.1 hx with hx | hx
  · exact hn x hx
  · unfold xgy at hx;obtain ⟨y,hy,rfl⟩:=List.mem_map.1 hx;exact hn' y hy
 obtain ⟨E,hE⟩:=Mo.le_sup (yc6 (l ++ xgy l'));have h1:yc6 (l ++ xgy l')=[]:=vh7 (udc _) (fun x hx=>(kdc hx).1) E hE (fun ρ=>by
  rw [qg3 ρ (vdi hnn),zdj,jhs,h ρ]
  grind)
 have h2:=vdi hnn k;rw [h1,xgx,jho] at h2;simp only [wc2] at h2;omega
theorem Pl.val_uniq {p q:Pl} (hp:p.Can) (hq:q.Can) (h:∀ ρ,p.val ρ=q.val ρ):p=q:=by
 refine Pl.can_eq hp hq (yhu p.terms_one_nonneg q.terms_one_nonneg fun ρ=>?_);rw [Pl.terms_val ρ p _ Mo.one_nonneg,Pl.terms_val ρ q _ Mo.one_nonneg,h ρ]
theorem Pl.ofS_val (ρ:Int->Rat) {l:Sp} (hn:∀ x ∈ l,x.2.nonneg):(Pl.ofS l).val ρ=gc7 ρ l:=by
 have h1:=qg3 ρ (l:=(Pl.ofS l).terms Mo.one) (l':=l) (fun k=>by
  rw [Pl.ofS_coef]
  split
  · rfl
  · rename_i hk
    exact (qde fun x hx e=>hk (by rw [<- e]; exact hn x hx)).symm)
 rw [Pl.terms_val ρ _ _ Mo.one_nonneg,Mo.val_one] at h1
 grind
theorem Pl.terms_sval (ρ:Int->Rat) (p:Pl):gc7 ρ (p.terms Mo.one)=p.val ρ:=by
 rw [Pl.terms_val ρ p _ Mo.one_nonneg,Mo.val_one]; grind
def Mo.mul (m n:Mo):Mo:=⟨m.a+n.a,m.b+n.b,m.c+n.c,m.d+n.d⟩
theorem Mo.mul_nonneg {m n:Mo} (h:m.nonneg) (k:n.nonneg):(m.mul n).nonneg:=by unfold Mo.nonneg Mo.mul at *; simp only at *; omega
theorem Mo.mul_le {m n:Mo} {E F:Nat} (h:m.le E) (k:n.le F):(m.mul n).le ((E+F:Nat):Int):=by unfold Mo.le Mo.mul at *; simp only; omega
theorem Mo.val_mul (ρ:Int->Rat) {m n:Mo} (h:m.nonneg) (k:n.nonneg):(m.mul n).val ρ=m.val ρ * n.val ρ:=by
 unfold Mo.nonneg at h k;unfold Mo.val Mo.mul;rw [Int.toNat_add h.1 k.1,Int.toNat_add h.2.1 k.2.1,Int.toNat_add h.2.2.1 k.2.2.1,Int.toNat_add h.2.2.2 k.2.2.2];simp only [yg7]
 grind
def stm (c:Int) (m:Mo) (l:Sp):Sp:=l.map fun x=>(c * x.1,m.mul x.2)
def ugw : Sp -> Sp -> Sp
 | [],_=>[]
 | (c,m) :: r,l=>stm c m l ++ ugw r l
theorem viy {c:Int} {m:Mo} {l:Sp} {x:Int × Mo} (h:x ∈ stm c m l):∃ y ∈ l,x=(c * y.1,m.mul y.2):=by
 unfold stm at h;obtain ⟨y,hy,rfl⟩:=List.mem_map.1 h;exact ⟨y,hy,rfl⟩
theorem khg {k l:Sp} {x:Int × Mo} (h:x ∈ ugw k l):∃ y ∈ k,∃ z ∈ l,x=(y.1 * z.1,y.2.mul z.2):=by
 induction k with
 | nil=>simp [ugw] at h
 | cons u k ih =>
   obtain ⟨c,m⟩:=u;rw [ugw] at h;rcases List.mem_append.1 h with h | h
   · obtain ⟨z,hz,rfl⟩:=viy h;exact ⟨(c,m),List.mem_cons_self ..,z,hz,rfl⟩
   · obtain ⟨y,hy,z,hz,rfl⟩:=ih h;exact ⟨y,List.mem_cons_of_mem _ hy,z,hz,rfl⟩
theorem jiy (ρ:Int->Rat) (c:Int) {m:Mo} (hm:m.nonneg) {l:Sp} (hl:∀ x ∈ l,x.2.nonneg):gc7 ρ (stm c m l)=(c:Rat) * m.val ρ * gc7 ρ l:=by
 induction l with
 | nil=>simp [stm,gc7]
 | cons x l ih =>
   obtain ⟨d,n⟩:=x;have h1:=ih fun x hx=>hl x (List.mem_cons_of_mem _ hx)
   have h2:=hl (d,n) (List.mem_cons_self ..);unfold stm at h1 ⊢;simp only [List.map_cons,gc7,h1,Mo.val_mul ρ hm h2]
   push_cast
   grind
theorem qio (ρ:Int->Rat) {k l:Sp} (hk:∀ x ∈ k,x.2.nonneg) (hl:∀ x ∈ l,x.2.nonneg):gc7 ρ (ugw k l)=gc7 ρ k * gc7 ρ l:=by
 induction k with
 | nil=>simp [ugw,gc7]
 | cons x k ih =>
   obtain ⟨c,m⟩:=x;rw [ugw,zdj,jiy ρ c (hk _ (List.mem_cons_self ..)) hl,ih fun x hx=>hk x (List.mem_cons_of_mem _ hx)];simp only [gc7]
   grind
theorem kiy (c:Int) (m:Mo) (l:Sp):yc4 (stm c m l)=c.natAbs * yc4 l:=by
 induction l with
 | nil=>simp [stm,yc4]
 | cons x l ih =>
   obtain ⟨d,n⟩:=x;unfold stm at ih ⊢;simp only [List.map_cons,yc4,ih,Int.natAbs_mul,Nat.mul_add]
theorem zhu (k l:Sp):yc4 (ugw k l)=yc4 k * yc4 l:=by
 induction k with
 | nil=>simp [ugw,yc4]
 | cons x k ih =>
   obtain ⟨c,m⟩:=x;rw [ugw,ydj,kiy,ih,ugr,Nat.add_mul]
theorem zhe {k l:Sp} (hk:∀ x ∈ k,x.2.nonneg) (hl:∀ x ∈ l,x.2.nonneg):∀ x ∈ ugw k l,x.2.nonneg:=fun x hx=>by
 obtain ⟨y,hy,z,hz,rfl⟩:=khg hx;exact Mo.mul_nonneg (hk y hy) (hl z hz)
def Pl.add (p q:Pl):Pl:=Pl.ofS (p.terms Mo.one ++ q.terms Mo.one)
def Pl.mul (p q:Pl):Pl:=Pl.ofS (ugw (p.terms Mo.one) (q.terms Mo.one))
theorem Pl.add_can (p q:Pl):(p.add q).Can:=Pl.ofS_can _
theorem Pl.mul_can (p q:Pl):(p.mul q).Can:=Pl.ofS_can _
theorem Pl.add_val (ρ:Int->Rat) (p q:Pl):(p.add q).val ρ=p.val ρ+q.val ρ:=by
 unfold Pl.add;rw [Pl.ofS_val ρ (fun x hx=>(List.mem_append.1 hx).elim (p.terms_one_nonneg x) (q.terms_one_nonneg x)),zdj,Pl.terms_sval,Pl.terms_sval]
theorem Pl.mul_val (ρ:Int->Rat) (p q:Pl):(p.mul q).val ρ=p.val ρ * q.val ρ:=by
 unfold Pl.mul;rw [Pl.ofS_val ρ (zhe p.terms_one_nonneg q.terms_one_nonneg),qio ρ p.terms_one_nonneg q.terms_one_nonneg,Pl.terms_sval,Pl.terms_sval]
theorem Pl.const_val (ρ:Int->Rat) (z:Int):(Pl.const z).val ρ=(z:Rat):=by
 have:=Pl.terms_sval ρ (Pl.const z);rw [Pl.const_terms] at this;simp only [gc7,Mo.val_one] at this
 grind
theorem Pl.zero_val (ρ:Int->Rat):Pl.zero.val ρ=0:=by simp [Pl.zero,Pl.val,sgn,val]
theorem Pl.zero_of_val {p:Pl} (hp:p.Can) (h:∀ ρ,p.val ρ=0):p=Pl.zero:=Pl.val_uniq hp Pl.zero_can fun ρ=>by rw [h,Pl.zero_val]
mutual
def Pl.ex (E : Nat) : Pl -> Prop
 | .mk l _ _ cs=>l<=0\/(cs.length<=E+1/\qg2 E cs)
def qg2 (E : Nat) : List Pl -> Prop
 | []=>True
 | c :: r=>c.ex E/\qg2 E r
end
mutual
def Pl.nr : Pl -> Nat
 | .mk l n d cs=>if l<=0 then (sgn n (val d)).natAbs else kc7 cs
def kc7 : List Pl -> Nat
 | []=>0
 | c :: r=>c.nr+kc7 r
end
theorem xg2 {E:Nat} {cs:List Pl} (h:qg2 E cs):∀ c ∈ cs,c.ex E:=by
 induction cs with
 | nil=>simp
 | cons y r ih=>rw [qg2] at h; simpa using ⟨h.1,ih h.2⟩
theorem jhm {E:Nat} {cs:List Pl} (h:∀ c ∈ cs,c.ex E):qg2 E cs:=by
 induction cs with
 | nil=>trivial
 | cons y r ih=>rw [qg2]; exact ⟨h y (by simp),ih fun c hc=>h c (by simp [hc])⟩
theorem vhv {cs:List Pl} {c:Pl} (h:c ∈ cs):c.nr<=kc7 cs:=by
 induction cs with
 | nil=>cases h
 | cons y r ih =>
   rw [kc7];rcases List.mem_cons.1 h with rfl | h
   · omega
   · have:=ih h; omega
theorem whe (a b:List Pl):kc7 (a ++ b)=kc7 a+kc7 b:=by
 induction a with
 | nil=>simp [kc7]
 | cons x a ih=>rw [List.cons_append,kc7,kc7,ih]; omega
mutual
theorem Pl.ex_mono {E F : Nat} (hEF : E <= F) : ∀ p : Pl, p.ex E -> p.ex F
 | .mk l _ _ cs,h=>by rw [Pl.ex] at h ⊢; rcases h with h | h; exact .inl h; exact .inr ⟨by omega,yhp hEF cs h.2⟩
theorem yhp {E F : Nat} (hEF : E <= F) : ∀ cs : List Pl, qg2 E cs -> qg2 F cs
 | [],_=>trivial
 | c :: r,h=>by rw [qg2] at h ⊢; exact ⟨Pl.ex_mono hEF c h.1,yhp hEF r h.2⟩
end
theorem Pl.can_kids {l:Int} {n:Bool} {d:List Nat} {cs:List Pl} (h:(Pl.mk l n d cs).Can) (hl:¬ l<=0):l<=4/\vc7 l cs:=⟨h.lv_nonneg.2,(h.kids (by omega)).2.2.2.1⟩
theorem Mo.get_put_ne (m:Mo) (i e j:Int) (hj:0 < j) (hj4:j<=4) (hi:0 < i) (hi4:i<=4) (h:j ≠ i):(m.put i e).get j=m.get j:=by
 have:=Mo.get_put m i.toNat e (by omega) (by omega) j.toNat (by omega) (by omega);rw [show ((i.toNat:Nat):Int)=i by omega,show ((j.toNat:Nat):Int)=j by omega,if_neg (by omega)] at this;exact this
mutual
theorem Pl.terms_ex (E : Nat) : ∀ (p : Pl) (m : Mo), p.Can -> p.ex E -> m.le E -> (∀ i : Int, 0 < i -> i <= p.lv -> m.get i = 0) -> ∀ x ∈ p.terms m, x.2.le E
 | .mk l n d cs,m,hc,h,hm,h0,x,hx=>by
   rw [Pl.terms] at hx
   by_cases h1:l<=0
   · rw [if_pos h1] at hx;rw [List.mem_singleton.1 hx];exact hm
   · rw [if_neg h1] at hx;obtain ⟨hl4,hk⟩:=Pl.can_kids hc h1;rw [if_neg (by omega)] at hx;rw [Pl.ex] at h;have h:=h.resolve_left h1;have hz:=h0 l (by omega) (Int.le_refl _);rw [hz] at hx;exact khi E cs m l 0 hk h.2 hm (by omega) hl4 (by omega) (by omega) (fun i hi hil=>h0 i hi (by show i<=l; omega)) x hx
theorem khi (E : Nat) : ∀ (cs : List Pl) (m : Mo) (l e : Int), vc7 l cs -> qg2 E cs -> m.le E -> 0 < l -> l <= 4 -> 0 <= e -> e + cs.length <= E + 1 -> (∀ i : Int, 0 < i -> i < l -> m.get i = 0) -> ∀ x ∈ gc2 m l e cs, x.2.le E
 | [],m,l,e,_,_,_,_,_,_,_,_,x,hx=>by rw [gc2] at hx; cases hx
 | c :: r,m,l,e,hc,h,hm,hl0,hl4,he,hle,h0,x,hx=>by
   rw [gc2] at hx;rw [qg2] at h;rw [List.length_cons] at hle;unfold vc7 at hc;rcases List.mem_append.1 hx with hx | hx
   · exact Pl.terms_ex E c _ hc.2.1 h.1 (hm.put l e (by omega)) (fun i hi hil=>by rw [Mo.get_put_ne m l e i hi (by omega) hl0 hl4 (by omega)]; exact h0 i hi (by omega)) x hx
   · exact khi E r m l (e+1) hc.2.2 h.2 hm hl0 hl4 (by omega) (by omega) h0 x hx
end
mutual
theorem Pl.terms_nr : ∀ (p : Pl) (m : Mo), p.Can -> yc4 (p.terms m) = p.nr
 | .mk l n d cs,m,hc=>by
   rw [Pl.terms,Pl.nr]
   by_cases h1:l<=0
   · rw [if_pos h1,if_pos h1]; simp [yc4]
   · rw [if_neg h1,if_neg h1];obtain ⟨hl4,hk⟩:=Pl.can_kids hc h1;rw [if_neg (by omega)];exact qhi cs m l _ hk
theorem qhi : ∀ (cs : List Pl) (m : Mo) (l e : Int), vc7 l cs -> yc4 (gc2 m l e cs) = kc7 cs
 | [],m,l,e,_=>rfl
 | c :: r,m,l,e,hc=>by
   unfold vc7 at hc;rw [gc2,ydj,kc7,Pl.terms_nr c _ hc.2.1,qhi r m l (e+1) hc.2.2]
end
theorem Pl.const_nr (z:Int):(Pl.const z).nr=z.natAbs:=by rw [Pl.const,Pl.nr,if_pos (Int.le_refl _),jc3,zgs]
theorem wh7 (f:Int × Mo->Int) (k:Nat) (l:Sp):kc7 ((List.range k).map fun i=>Pl.const (yc4 (l.filter fun x=>decide (f x=Int.ofNat i))))<=yc4 l:=by
 have h1:∀ k,kc7 ((List.range k).map fun i=>Pl.const (yc4 (l.filter fun x=>decide (f x=Int.ofNat i))))=yc4 (l.filter fun x=>decide (0<=f x/\f x < k)):=by
  intro k
  induction k with
  | zero =>
    rw [show (l.filter fun x=>decide (0<=f x/\f x < ((0:Nat):Int)))=[] from List.filter_eq_nil_iff.2 fun x _=>by simp]
    rfl
  | succ k ih =>
    rw [List.range_succ,List.map_append,whe,ih];simp only [List.map_cons,List.map_nil,kc7,Pl.const_nr,Int.natAbs_natCast,Nat.add_zero];clear ih
    induction l with
    | nil=>rfl
    | cons x l ih =>
      obtain ⟨c,m⟩:=x;simp only [List.filter_cons,decide_eq_true_eq]
      by_cases h1:f (c,m)=Int.ofNat k
      · have h2:¬ (0<=f (c,m)/\f (c,m) < (k:Int)):=by rw [h1]; simp
        have h3:0<=f (c,m)/\f (c,m) < ((k+1:Nat):Int):=by rw [h1]; simp; omega
        rw [if_neg h2,if_pos h1,if_pos h3,ugr,ugr];omega
      · rw [if_neg h1];have h4:f (c,m) ≠ (k:Int):=h1
        by_cases h2:0<=f (c,m)/\f (c,m) < (k:Int)
        · have h3:0<=f (c,m)/\f (c,m) < ((k+1:Nat):Int):=by omega
          rw [if_pos h2,if_pos h3,ugr,ugr];omega
        · have h3:¬ (0<=f (c,m)/\f (c,m) < ((k+1:Nat):Int)):=by omega
          rw [if_neg h2,if_neg h3];exact ih
 rw [h1];exact yh1 _ l
theorem uiz {α:Type} (f g:α->Pl) (l:List α) (h:∀ x ∈ l,(f x).nr<=(g x).nr):kc7 (l.map f)<=kc7 (l.map g):=by
 induction l with
 | nil=>simp [kc7]
 | cons x l ih =>
   simp only [List.map_cons,kc7];have h1:=h x (by simp);have h2:=ih fun y hy=>h y (by simp [hy])
   omega
theorem yi9 (n:Nat):∀ l:Sp,(bld n l).nr<=yc4 l:=by
 induction n with
 | zero =>
   intro l;cases l with
   | nil=>simp [bld,Pl.zero,Pl.nr,sgn,val]
   | cons x r=>obtain ⟨c,m⟩:=x; rw [bld,Pl.const_nr,ugr]; omega
 | succ n ih =>
   intro l;cases l with
   | nil=>simp [bld,Pl.zero,Pl.nr,sgn,val]
   | cons x r =>
     obtain ⟨c,m⟩:=x;rw [bld]
     split
     · exact ih _
     · rw [Pl.nr,if_neg (by omega)];refine Nat.le_trans (uiz _ (fun (i:Nat)=>Pl.const (yc4 (((c,m) :: r).filter fun x=>decide (x.2.get (n+1:Nat)=Int.ofNat i)))) _ fun i _=>?_) (wh7 (fun x=>x.2.get (n+1:Nat)) _ _);rw [Pl.const_nr,Int.natAbs_natCast];exact ih _
theorem xi9 (E n:Nat):∀ l:Sp,(∀ x ∈ l,x.2.le E)->(bld n l).ex E:=by
 induction n with
 | zero =>
   intro l _;cases l with
   | nil=>simp [bld,Pl.zero,Pl.ex]
   | cons x r=>obtain ⟨c,m⟩:=x; simp [bld,Pl.const,Pl.ex]
 | succ n ih =>
   intro l hl;cases l with
   | nil=>simp [bld,Pl.zero,Pl.ex]
   | cons x r =>
     obtain ⟨c,m⟩:=x;rw [bld]
     split
     · exact ih _ hl
     · rw [Pl.ex];have hg:m.get ((n+1:Nat):Int)<=E:=(hl (c,m) (by simp)).get ((n+1:Nat):Int);refine .inr ⟨by rw [List.length_map,List.length_range]; omega,jhm fun p hp=>?_⟩;obtain ⟨i,-,rfl⟩:=List.mem_map.1 hp;exact ih _ (fun x hx=>hl x (List.mem_filter.1 hx).1)
theorem Pl.ofS_ex {E:Nat} {l:Sp} (h:∀ x ∈ l,x.2.le E):(Pl.ofS l).ex E:=xi9 E 4 _ fun x hx=>by
 obtain ⟨-,y,hy,e⟩:=kdc hx;rw [<- e];exact h y hy
theorem Pl.ofS_nr (l:Sp):(Pl.ofS l).nr<=yc4 l:=Nat.le_trans (yi9 4 _) (qho l)
theorem Pl.ex_sz (E:Nat) (n:Nat):∀ p:Pl,p.Can->p.ex E->p.lv<=n->p.sz<=(E+2) ^ n:=by
 induction n with
 | zero =>
   intro p hc h hl;obtain ⟨l,ng,d,cs⟩:=p;unfold Pl.Can at hc
   change l<=0 at hl
   rcases hc with hc | hc
   · rw [hc.2.1,Pl.sz,kc5]; simp
   · omega
 | succ n ih =>
   intro p hc h hl;obtain ⟨l,ng,d,cs⟩:=p
   change l<=((n+1:Nat):Int) at hl
   by_cases h1:l<=0
   · unfold Pl.Can at hc;rcases hc with hc | hc
     · rw [hc.2.1,Pl.sz,kc5]; exact Nat.pow_pos (by omega)
     · omega
   · obtain ⟨-,hk⟩:=Pl.can_kids hc h1;rw [Pl.ex] at h;have h:=h.resolve_left h1;have key:∀ ks:List Pl,(∀ c ∈ ks,c.sz<=(E+2) ^ n)->kc5 ks<=ks.length * (E+2) ^ n:=by
      intro ks
      induction ks with
      | nil=>simp [kc5]
      | cons y r ihr =>
        intro hh;have h1:=hh y (by simp);have h2:=ihr fun z hz=>hh z (by simp [hz])
        rw [kc5,List.length_cons,Nat.add_mul];omega
     have h2:=key cs fun c hcm=>ih c (hk.mem c hcm).2 (xg2 h.2 c hcm) (by have:=(hk.mem c hcm).1; omega)
     have h3:cs.length * (E+2) ^ n<=(E+1) * (E+2) ^ n:=Nat.mul_le_mul_right _ h.1;have h4:(E+2) ^ (n+1)=(E+1) * (E+2) ^ n+(E+2) ^ n:=by rw [Nat.pow_succ,Nat.mul_comm,<- Nat.succ_mul]
     have h5:0 < (E+2) ^ n:=Nat.pow_pos (by omega);rw [Pl.sz];omega
mutual
theorem Pl.nr_dm (D : Nat) : ∀ p : Pl, p.Can -> p.nr < B32 ^ D -> p.dm <= D
 | .mk l n d cs,hc,h=>by
   unfold Pl.Can at hc;rw [Pl.nr] at h;rw [Pl.dm];rcases hc with hc | hc
   · rw [if_pos (by omega),qc7] at h;rw [hc.2.1,xdb,hc.2.2.1];have:=zc4 h;omega
   · rw [if_neg (by omega)] at h;have:=qh5 D cs l hc.2.2.2.2.2.1 h;rw [hc.2.2.2.1,List.length_nil];omega
theorem qh5 (D : Nat) : ∀ (cs : List Pl) (l : Int), vc7 l cs -> kc7 cs < B32 ^ D -> xdb cs <= D
 | [],_,_,_=>by rw [xdb]; omega
 | c :: r,l,hc,h=>by
   unfold vc7 at hc;rw [kc7] at h;rw [xdb];have h1:=Pl.nr_dm D c hc.2.1 (by omega);have h2:=qh5 D r l hc.2.2 (by omega);omega
end
structure Fit (p : Pl) (E D : Nat) : Prop where
 can:p.Can
 ex:p.ex E
 nr:p.nr < B32 ^ D
namespace Fit
variable {p q:Pl} {E D F G:Nat}
theorem sz (h:Fit p E D):p.sz<=(E+2) ^ 4:=Pl.ex_sz E 4 p h.can h.ex h.can.lv_nonneg.2
theorem dm (h:Fit p E D):p.dm<=D:=Pl.nr_dm D p h.can h.nr
theorem mono (h:Fit p E D) (hE:E<=F) (hD:D<=G):Fit p F G:=⟨h.can,Pl.ex_mono hE p h.ex,Nat.lt_of_lt_of_le h.nr (Nat.pow_le_pow_right (by decide) hD)⟩
theorem exps (h:Fit p E D):∀ x ∈ p.terms Mo.one,x.2.le E:=Pl.terms_ex E p Mo.one h.can h.ex (by unfold Mo.le Mo.one; simp) (fun i h0 h4=>by unfold Mo.one Mo.get; split <;> (try split) <;> (try split) <;> rfl)
theorem nrm (h:Fit p E D):yc4 (p.terms Mo.one)=p.nr:=Pl.terms_nr p _ h.can
theorem kid {l:Int} {n:Bool} {d:List Nat} {cs:List Pl} (h:Fit (.mk l n d cs) E D) (hl:0 < l) {c:Pl} (hc:c ∈ cs):Fit c E D:=by
 obtain ⟨h1,h2,h3⟩:=h;obtain ⟨-,hk⟩:=Pl.can_kids h1 (by omega);rw [Pl.ex] at h2;rw [Pl.nr,if_neg (by omega)] at h3;have:=vhv hc;exact ⟨(hk.mem c hc).2,xg2 (h2.resolve_left (by omega)).2 c hc,by omega⟩
theorem len {l:Int} {n:Bool} {d:List Nat} {cs:List Pl} (h:Fit (.mk l n d cs) E D) (hl:0 < l):cs.length<=E+1:=by
 have h2:=h.ex;rw [Pl.ex] at h2;exact (h2.resolve_left (by omega)).1
theorem const {z:Int} (h:z.natAbs < B32 ^ D):Fit (Pl.const z) E D:=⟨vdf z,by unfold Pl.const; rw [Pl.ex]; exact .inl (Int.le_refl _),by rw [Pl.const_nr]; exact h⟩
theorem zero:Fit Pl.zero E D:=⟨Pl.zero_can,by unfold Pl.zero; rw [Pl.ex]; exact .inl (Int.le_refl _),by unfold Pl.zero; rw [Pl.nr,if_pos (Int.le_refl _)]; exact Nat.pow_pos (by decide)⟩
theorem add (h:Fit p E D) (k:Fit q F G):Fit (p.add q) (max E F) (max D G+1):=by
 refine ⟨Pl.add_can p q,Pl.ofS_ex fun x hx=>?_,?_⟩
 · rcases List.mem_append.1 hx with hx | hx
   · exact (h.exps x hx).mono (by omega)
   · exact (k.exps x hx).mono (by omega)
 · have h1:=Pl.ofS_nr (p.terms Mo.one ++ q.terms Mo.one);rw [ydj,h.nrm,k.nrm] at h1;have h2:B32 ^ D<=B32 ^ max D G:=Nat.pow_le_pow_right (by decide) (by omega);have h3:B32 ^ G<=B32 ^ max D G:=Nat.pow_le_pow_right (by decide) (by omega);have h4:=h.nr;have h5:=k.nr;unfold Pl.add;rw [Nat.pow_succ];have h6:B32 ^ max D G * 2<=B32 ^ max D G * B32:=Nat.mul_le_mul_left _ (by decide);omega
theorem mul (h:Fit p E D) (k:Fit q F G):Fit (p.mul q) (E+F) (D+G):=by
 refine ⟨Pl.mul_can p q,Pl.ofS_ex fun x hx=>?_,?_⟩
 · obtain ⟨y,hy,z,hz,rfl⟩:=khg hx;exact Mo.mul_le (h.exps y hy) (k.exps z hz)
 · have h1:=Pl.ofS_nr (ugw (p.terms Mo.one) (q.terms Mo.one));rw [zhu,h.nrm,k.nrm] at h1;unfold Pl.mul;rw [Nat.pow_add];refine Nat.lt_of_le_of_lt h1 (Nat.mul_lt_mul_of_lt_of_le h.nr (Nat.le_of_lt k.nr) (Nat.pow_pos (by decide)))
end Fit
end Go.Proofs.YtopddaabiinboaaGreat

/- Polynomials in four variables, plain: how sums and products lie level by level. No program in sight. -/
namespace Go.Proofs.YtopddaabiinboaaGreat
theorem Pl.mul_zero {p q:Pl} (hp:p.Can) (hq:q.Can) (h:∀ ρ,p.val ρ * q.val ρ=0):p=Pl.zero\/q=Pl.zero:=by
 obtain ⟨E,hE⟩:=Mo.le_sup (yc6 (p.terms Mo.one) ++ yc6 (q.terms Mo.one));have key:∀ r:Pl,r.Can->(∀ x ∈ yc6 (r.terms Mo.one),x.2.le E)->r ≠ Pl.zero->∀ B,yc4 (yc6 (r.terms Mo.one))+1<=B->r.val (kro (E+1) B) ≠ 0:=by
  intro r hr hle hne B hB h0;rw [<- Pl.terms_sval,<- qg3 _ (vdi r.terms_one_nonneg),khs] at h0;refine wh5 (udc _) (fun x hx=>(kdc hx).1) E hle B hB (fun e=>hne ?_) (by exact_mod_cast h0);rw [<- Pl.nf_of_can hr];unfold Pl.nf Pl.ofS;rw [e]
  rfl
 by_cases h1:p=Pl.zero
 · exact .inl h1
 by_cases h2:q=Pl.zero
 · exact .inr h2
 exfalso
 have h3:=h (kro (E+1) (yc4 (yc6 (p.terms Mo.one))+yc4 (yc6 (q.terms Mo.one))+1));rcases Rat.mul_eq_zero.1 h3 with h4 | h4
 · exact key p hp (fun x hx=>hE x (List.mem_append_left _ hx)) h1 _ (by omega) h4
 · exact key q hq (fun x hx=>hE x (List.mem_append_right _ hx)) h2 _ (by omega) h4
theorem Pl.mul_eq_zero {p q:Pl} (hp:p.Can) (hq:q.Can) (h:p.mul q=Pl.zero):p=Pl.zero\/q=Pl.zero:=
 Pl.mul_zero hp hq fun ρ=>by rw [<- Pl.mul_val,h,Pl.zero_val]
theorem Pl.ofS_lv {l:Sp} {n:Nat} (hn4:n<=4) (hnn:∀ x ∈ l,x.2.nonneg) (h:∀ x ∈ l,∀ i:Nat,n < i->i<=4->x.2.get i=0):(Pl.ofS l).lv<=n:=by
 have hz:∀ i:Nat,0 < i->i<=4->Mo.one.get i=0:=fun i h1 h2=>by
  rcases (show i=1\/i=2\/i=3\/i=4 by omega) with rfl | rfl | rfl | rfl <;> rfl
 have ha:uhd n Mo.one (yc6 l):=fun x hx i h1 h2=>by
  obtain ⟨-,y,hy,e⟩:=kdc hx;rw [<- e,h y hy i h1 h2,hz i (by omega) h2]
 have hnn':∀ x ∈ yc6 l,x.2.nonneg:=fun x hx=>(kdc hx).1
 obtain ⟨h1,h2⟩:=qh6 n hn4 (yc6 l) Mo.one (udc l) hnn' ha (fun i hi hin=>hz i hi (by omega));have h3:=vhh n hn4 (yc6 l) Mo.one (udc l) hnn' ha (fun i hi hin=>hz i hi (by omega));have h4:bld n (yc6 l)=Pl.ofS l:=Pl.can_eq h1 (Pl.ofS_can l) fun k=>by
  rw [h3,Pl.ofS_coef,vgw]
 rw [<- h4];exact h2
theorem Pl.exp_above {p:Pl} (hp:p.Can) {n:Nat} (h:p.lv<=n):∀ x ∈ p.terms Mo.one,∀ i:Nat,n < i->i<=4->x.2.get i=0:=fun x hx i h1 h2=>by
 rw [Pl.terms_above p Mo.one n hp h x hx i h1 h2];rcases (show i=1\/i=2\/i=3\/i=4 by omega) with rfl | rfl | rfl | rfl <;> rfl
theorem Mo.get_mul (m n:Mo) (i:Int):(m.mul n).get i=m.get i+n.get i:=by
 unfold Mo.mul Mo.get
 split <;> (try split) <;> (try split) <;> rfl
theorem Pl.mul_lv {p q:Pl} (hp:p.Can) (hq:q.Can) {n:Int} (h1:p.lv<=n) (h2:q.lv<=n) (hn:n<=4):(p.mul q).lv<=n:=by
 have h0:=hp.lv_nonneg.1;obtain ⟨k,rfl⟩:∃ k:Nat,n=k:=⟨n.toNat,by omega⟩;refine Pl.ofS_lv (by omega) (zhe p.terms_one_nonneg q.terms_one_nonneg) fun x hx i hi hi4=>?_
 obtain ⟨y,hy,z,hz,rfl⟩:=khg hx;rw [Mo.get_mul,Pl.exp_above hp h1 y hy i hi hi4,Pl.exp_above hq h2 z hz i hi hi4]
 rfl
theorem Pl.add_lv {p q:Pl} (hp:p.Can) (hq:q.Can) {n:Int} (h1:p.lv<=n) (h2:q.lv<=n) (hn:n<=4):(p.add q).lv<=n:=by
 have h0:=hp.lv_nonneg.1;obtain ⟨k,rfl⟩:∃ k:Nat,n=k:=⟨n.toNat,by omega⟩;refine Pl.ofS_lv (by omega) (fun x hx=>(List.mem_append.1 hx).elim (p.terms_one_nonneg x) (q.terms_one_nonneg x)) fun x hx i hi hi4=>?_
 rcases List.mem_append.1 hx with hx | hx
 · exact Pl.exp_above hp h1 x hx i hi hi4
 · exact Pl.exp_above hq h2 x hx i hi hi4
theorem Pl.mul_comm (p q:Pl):p.mul q=q.mul p:=Pl.val_uniq (Pl.mul_can _ _) (Pl.mul_can _ _) fun ρ=>by rw [Pl.mul_val,Pl.mul_val]; grind
theorem Pl.mul_zero_l (p:Pl):Pl.zero.mul p=Pl.zero:=Pl.zero_of_val (Pl.mul_can _ _) fun ρ=>by rw [Pl.mul_val,Pl.zero_val]; grind
theorem Pl.mul_zero_r (p:Pl):p.mul Pl.zero=Pl.zero:=by rw [Pl.mul_comm,Pl.mul_zero_l]
theorem Pl.const_mul (a b:Int):(Pl.const a).mul (Pl.const b)=Pl.const (a * b):=Pl.val_uniq (Pl.mul_can _ _) (vdf _) fun ρ=>by
 rw [Pl.mul_val,Pl.const_val,Pl.const_val,Pl.const_val]; push_cast; rfl
theorem vg5 {p:Pl} (h:p.Can) (hl:p.lv=0):p=Pl.const p.z:=by
 obtain ⟨l,n,d,cs⟩:=p
 change l=0 at hl
 subst hl;unfold Pl.Can at h;rcases h with ⟨-,rfl,hd,hn⟩ | h
 · show _=Pl.const (sgn n (val d));unfold Pl.const;rw [qc7,<- hd]
   congr 1
   cases n
   · simp [sgn]
   · have h1:d ≠ []:=fun e=>by have:=hn e; cases this
     have h2:val d ≠ 0:=fun e=>h1 (by rw [hd,e,uc5])
     simp only [sgn];simp;omega
 · omega
theorem zhp (ρ:Int->Rat) (l:Int) (f:Pl->Pl) (r:Rat) (cs:List Pl) (h:∀ c ∈ cs,(f c).val ρ=c.val ρ * r):zc3 ρ l (cs.map f)=zc3 ρ l cs * r:=by
 induction cs with
 | nil=>simp [zc3]
 | cons x cs ih =>
   simp only [List.map_cons,zc3];rw [h x (by simp),ih fun c hc=>h c (by simp [hc])]
   grind
theorem Pl.mk_val (ρ:Int->Rat) {l:Int} (n:Bool) (d:List Nat) (cs:List Pl) (h0:0 < l) (h4:l<=4):(Pl.mk l n d cs).val ρ=zc3 ρ l cs:=by
 rw [Pl.val,if_neg (by omega),if_neg (by omega)]
theorem wii {l:Int} {cs:List Pl} (h0:0 < l) (h4:l<=4) (h2:2<=cs.length) (hk:vc7 l cs) (hz:cs.getLast? ≠ some Pl.zero):(Pl.mk l false [] cs).Can:=by
 unfold Pl.Can;exact .inr ⟨by omega,h4,rfl,rfl,h2,hk,hz⟩
theorem Pl.mul_up {l:Int} {n:Bool} {d:List Nat} {cs:List Pl} {q:Pl} (hp:(Pl.mk l n d cs).Can) (hq:q.Can) (hl:q.lv < l) (hz:q ≠ Pl.zero):(Pl.mk l n d cs).mul q=.mk l false [] (cs.map fun c=>c.mul q):=by
 have hl0:0 < l:=by have:=hq.lv_nonneg.1; omega
 obtain ⟨rfl,rfl,h2,hk,hlast⟩:=hp.kids hl0;have hl4:l<=4:=hp.lv_nonneg.2;refine Pl.val_uniq (Pl.mul_can _ _) (wii hl0 hl4 (by rw [List.length_map]; exact h2) (xgs fun c hc=>?_) ?_) fun ρ=>?_
 · obtain ⟨c',hc',rfl⟩:=List.mem_map.1 hc;have h3:=hk.mem c' hc';have:=Pl.mul_lv (n:=l - 1) h3.2 hq (by omega) (by omega) (by omega);exact ⟨by omega,Pl.mul_can _ _⟩
 · rw [List.getLast?_map];intro e;obtain ⟨c,hc,he⟩:=Option.map_eq_some_iff.1 e;rcases Pl.mul_eq_zero (hk.mem c (List.mem_of_getLast? hc)).2 hq he with h | h
   · rw [h] at hc; exact hlast hc
   · exact hz h
 · rw [Pl.mul_val,Pl.mk_val ρ _ _ _ hl0 hl4,Pl.mk_val ρ _ _ _ hl0 hl4,zhp ρ l _ (q.val ρ) cs fun c _=>Pl.mul_val ρ c q]
theorem Pl.mul_up_ {p q:Pl} (hp:p.Can) (hq:q.Can) (hl:q.lv < p.lv) (hz:q ≠ Pl.zero):p.mul q=.mk p.lv false [] (p.cs.map fun c=>c.mul q):=by
 obtain ⟨l,n,d,cs⟩:=p;exact Pl.mul_up hp hq hl hz
def zc7 : List Pl -> List Pl
 | []=>[]
 | c :: r=>if c.isZ=true/\zc7 r=[] then [] else c :: zc7 r
def xdd (l:Int) (cs:List Pl):Pl:=
 match zc7 cs with
 | []=>Pl.zero
 | [c]=>c
 | c :: d :: r=>.mk l false [] (c :: d :: r)
theorem gh0 {a:List Pl} {x:Pl} (h:x.isZ=true):zc7 (a ++ [x])=zc7 a:=by
 induction a with
 | nil=>simp [zc7,h]
 | cons y a ih=>rw [List.cons_append,zc7,zc7,ih]
theorem xif {a:List Pl} {x:Pl} (h:x.isZ=false):zc7 (a ++ [x])=a ++ [x]:=by
 induction a with
 | nil=>simp [zc7,h]
 | cons y a ih=>rw [List.cons_append,zc7,ih,if_neg (by simp)]
theorem jhg {l:Int} {cs:List Pl} {n:Nat} (hn:n<=cs.length) (h:zc7 cs=cs.take n):xdd l cs=if n=0 then Pl.zero else if h1:n=1/\0 < cs.length then cs[0]'h1.2 else .mk l false [] (cs.take n):=by
 unfold xdd;rw [h]
 match n,cs,hn with
 | 0,cs,_=>simp
 | 1,x :: cs,_=>simp
 | n+2,x :: y :: cs,_=>simp
theorem yhi {cs:List Pl} {c:Pl} (h:c ∈ zc7 cs):c ∈ cs:=by
 induction cs with
 | nil=>exact h
 | cons x cs ih =>
   rw [zc7] at h
   split at h
   · cases h
   · rcases List.mem_cons.1 h with rfl | h
     · exact List.mem_cons_self ..
     · exact List.mem_cons_of_mem _ (ih h)
theorem wh0 {cs:List Pl} (hc:∀ c ∈ cs,c.Can):(zc7 cs).getLast? ≠ some Pl.zero:=by
 induction cs with
 | nil=>simp [zc7]
 | cons x cs ih =>
   rw [zc7]
   split
   · simp
   · rename_i h;intro e
     by_cases h1:zc7 cs=[]
     · rw [h1] at e;have e1:x=Pl.zero:=by simpa using e
       exact h ⟨(Pl.zero_isZ (hc x (by simp))).2 e1,h1⟩
     · obtain ⟨y,r,hr⟩:=List.exists_cons_of_ne_nil h1;rw [hr,List.getLast?_cons_cons,<- hr] at e;exact ih (fun c hcm=>hc c (by simp [hcm])) e
theorem gh7 (ρ:Int->Rat) (l:Int) {cs:List Pl} (hc:∀ c ∈ cs,c.Can):zc3 ρ l (zc7 cs)=zc3 ρ l cs:=by
 induction cs with
 | nil=>rfl
 | cons x cs ih =>
   have h1:=ih fun c hcm=>hc c (by simp [hcm])
   rw [zc7]
   split
   · rename_i h;rw [zc3,zc3,<- h1,h.2,(Pl.zero_isZ (hc x (by simp))).1 h.1,Pl.zero_val,zc3]
     grind
   · rw [zc3,zc3,h1]
theorem xg3 {l:Int} {cs:List Pl} (h0:0 < l) (h4:l<=4) (hk:vc7 l cs):(xdd l cs).Can/\(xdd l cs).lv<=l/\∀ ρ,(xdd l cs).val ρ=zc3 ρ l cs:=by
 have hc:∀ c ∈ cs,c.Can:=fun c hcm=>(hk.mem c hcm).2
 have hlast:=wh0 hc;have hval:=fun ρ=>gh7 ρ l hc
 have hmem:∀ c ∈ zc7 cs,c.lv < l/\c.Can:=fun c hcm=>hk.mem c (yhi hcm)
 unfold xdd
 split
 · rename_i e;rw [e] at hval;exact ⟨Pl.zero_can,by show (0:Int)<=l; omega,fun ρ=>by rw [<- hval ρ,Pl.zero_val,zc3]⟩
 · rename_i c e;rw [e] at hval hmem;have h1:=hmem c (by simp);exact ⟨h1.2,by omega,fun ρ=>by rw [<- hval ρ,zc3,zc3]; grind⟩
 · rename_i c d r e;rw [e] at hval hmem hlast;exact ⟨wii h0 h4 (by simp) (xgs hmem) hlast,Int.le_refl _,fun ρ=>by rw [<- hval ρ,Pl.mk_val ρ _ _ _ h0 h4]⟩
end Go.Proofs.YtopddaabiinboaaGreat
