/- Layer 34: formula.Bound: the names of the quantifiers. -/
import Derived.Test.YtaedbimbbeploaaGreatDoorMb24
import Derived.Maps.AppendAt
import Derived.OneCell
import Derived.RangeFuncBox
set_option linter.unusedSimpArgs false
set_option linter.unusedVariables false

set_option maxRecDepth 100000
set_option maxHeartbeats 8000000
namespace Go.Proofs.YtaedbimbbeploaaGreatDoor
open Go.RowKit
attribute [local go_sem] yac uz uac wab jac qac zac jw wz xac vac yaf ul kac kw
theorem Ext.grownN {w w':World} (hx:Ext w w'):w.grownBy w' none:=⟨hx.below.os,hx.below.tape,hx.below.output,hx.size,fun k hk _=>hx.below.block k hk⟩
def ownB (v:Value):Nat->Prop:=fun i=>v.ownBlock=some i
def strs (l:List ByteArray):List Value:=l.map Value.string
theorem waz (l:List ByteArray) (s:ByteArray):strs (l ++ [s])=strs l ++ [.string s]:=by simp [strs]
def ug (w:World) (base:Nat) (v:Value) (l:List ByteArray):Prop:=w.ownsRow base 9 1 v l.length (strs l)
theorem ug.nil (w:World) (base:Nat):ug w base (.slice none 0 0) []:=World.ownsRow_nil w base _ _
theorem ug.ext {w w':World} {base:Nat} {v:Value} {l:List ByteArray} (h:ug w base v l) (hx:Ext w w'):ug w' base v l:=
 World.ownsRow.kept h (row:=none) hx.grownN (by cases hv:v.ownBlock <;> simp)
theorem ug.lt {w:World} {base:Nat} {v:Value} {l:List ByteArray} (h:ug w base v l):∀ k,v.ownBlock=some k->base<=k/\k < w.heap.size:=World.ownsRow.lt h
theorem xe.of_append {w w':World} {v v':Value} (hg:w.grownBy w' v.ownBlock) (ha:v'.ownBlock=v.ownBlock\/v'.ownBlock=some w.heap.size):xe (ownB v) w (ownB v') w':=
 ⟨World.grownBy.os hg,World.grownBy.tape hg,World.grownBy.output hg,World.grownBy.size hg,fun i hi hn=>World.grownBy.block hg i hi (fun e=>hn e.symm),fun i hi ho=>by
   unfold ownB at ho ⊢;rcases ha with h | h
   · rw [<- h]; exact ho
   · rw [h] at ho; injection ho with e; omega⟩
theorem uco {w:World} {g:Nat} {x:Value} (h:w.cell? ⟨g,0,none⟩=some x):∀ j u,[x][j]?=some u->w.cell? ((⟨g,0,none⟩:Addr).add j)=some u:=by
 intro j u hu;cases j with
 | zero=>simp at hu; rw [gp,<- hu]; exact h
 | succ j=>simp at hu
def Fm.bound : Fm -> List ByteArray
 | .truth _=>[]
 | .atom _ _ _=>[]
 | .not f=>f.bound
 | .and f g=>f.bound ++ g.bound
 | .or f g=>f.bound ++ g.bound
 | .imp f g=>f.bound ++ g.bound
 | .iff f g=>f.bound ++ g.bound
 | .quant _ s f=>s :: f.bound
def yx (l:List Fm):List ByteArray:=l.flatMap Fm.bound
theorem jaz (l:List Fm) (k:Nat) (h:k < l.length):yx (l.take (k+1))=yx (l.take k) ++ (l[k]).bound:=by
 unfold yx;rw [List.take_succ_eq_append_getElem h,List.flatMap_append,List.flatMap_singleton]
def Fm.isQuant : Fm -> Bool
 | .quant _ _ _=>true
 | _=>false
theorem Fm.bound_kids (t:Fm) (h:t.isQuant=false):t.bound=yx t.kids:=by
 cases t <;> simp_all [Fm.bound,Fm.kids,yx,Fm.isQuant]
theorem FmV.notQuant {w:World} {L:Nat} {t:Fm} {v:Value} (h:FmV w L t v) (hn:t.isQuant=false):∃ T x,v=.iface T x/\¬ T=95:=by
 cases t <;> (simp only [FmV] at h) <;> first | (cases hn; done) | exact ⟨_,_,h,by decide⟩ | (obtain ⟨_,e,_⟩:=h; exact ⟨_,_,e,by decide⟩) | (obtain ⟨_,_,e,_⟩:=h; exact ⟨_,_,e,by decide⟩)
theorem ja1 (l:List Fm) (h:∀ f ∈ l,f.bound.length<=f.sz):(yx l).length<=uh l:=by
 induction l with
 | nil=>simp [yx,uh]
 | cons f r ih =>
   have h1:=ih (fun g hg=>h g (List.mem_cons_of_mem _ hg));have h2:=h f List.mem_cons_self;simp only [yx,uh,List.flatMap_cons,List.length_append,List.map_cons,List.sum_cons] at *;omega
theorem Fm.bound_len (t:Fm):t.bound.length<=t.sz:=by
 induction t <;> simp [Fm.bound,Fm.sz] <;> omega
def jcd (base:Nat) (l:List ByteArray) (W:World) (s:Value) (e:Ending) (W':World):Prop:=∃ s',e=.returned s'/\ug W' base s' l/\xe (ownB s) W (ownB s') W'
theorem wa7:(Tryz.prog.info? 9).map (fun i=>(i.zero,i.size,i.bytes))=some (some (.string ByteArray.empty),1,16):=by kernel_rfl
theorem xbc {w0:World} {L base:Nat} (n:Nat) :
 ∀ (t:Fm) (v:Value),t.sz < n->FmV w0 L t v->∀ (W:World) (s:Value) (l:List ByteArray),ug W base s l->base<=W.heap.size->l.length+t.sz<=1099511627776 ->
 Calls Tryz.prog 78 #[v,s] W (jcd base (l ++ t.bound) W s):=by
 induction n with
 | zero=>intro t v ht; omega
 | succ n ih =>
 intro t v ht h W s l hR hb hl;have IH:=Lib.hid ih;have HR:=Lib.hid hR;have H:=Lib.hid h;clear ih hR;obtain ⟨i0,hi,hz0,hz1,hz2⟩:=info_parts wa7;have HI0:Hid (Tryz.prog.info? 9=some i0/\i0.zero=some (.string ByteArray.empty)/\i0.size=1/\i0.bytes=16):=by
  have:Tryz.prog.info? 9=some i0/\i0.zero=some (.string ByteArray.empty)/\i0.size=1/\i0.bytes=16:=⟨hi,hz0,hz1,hz2⟩;exact this
 clear hi hz0 hz1 hz2
 by_cases hn:t.isQuant=true
 · cases t with
   | quant al q f =>
     obtain ⟨x,rfl,hx⟩:=h;obtain ⟨T,x,rfl⟩:=hx.iface;clear hx;have hl1:l.length+(f.sz+1)<=1099511627776:=hl;go_enter Tryz.func78,Tryz.ntmps78
     go_wp2_with (at_builtin
                  refine wpList_append_own_at _ rfl (.tmp 15) (.tmp 18) _ rfl base 9 i0 (.string ByteArray.empty) 1 16 Tryz.underlying39 HI0.out.1 HI0.out.2.1 HI0.out.2.2.1 HI0.out.2.2.2 rfl (by omega) _ l.length (strs l) rfl (World.ownsRow.alloc (World.ownsRow.alloc HR.out _) _) ⟨W.heap.size+1,0,none⟩ 1 1 [.string q] rfl rfl (uco ?_) ?_ ?_ ?_ ?_ ?_)
     · simp [go_sem]
     · simp [Value.oneCell']
     · unfold maxLen; omega
     · omega
     · simp; omega
     · intro v' w1 hown' hg' _ hat';have hr1:ug w1 base v' (l ++ [q]):=by
        unfold ug;rw [waz]; simpa using hown'
       have hk1:xe (ownB s) W (ownB v') w1:=(xe.of_ext (((Ext.refl W).alloc _).alloc _)).trans (xe.of_append hg' (by simpa using hat'));have HR1:=Lib.hid hr1;have HK1:=Lib.hid hk1;have HLT1:=Lib.hid hr1.lt;have hw1:=hk1.size;clear hown' hg' hat' hr1 hk1;go_wp2_with fail;refine (jae (Fm.quant al q f) H.out).mono ?_;rintro e w2 ⟨s2,rfl,hs,hf,hx⟩;obtain ⟨ks,hks⟩:∃ ks,(Fm.quant al q f).kids=ks:=⟨_,rfl⟩;rw [hks] at hs;have HKS:=Lib.hid hks;have hlen:ks.length<=2:=by rw [<- hks]; exact Fm.kids_len _
       clear hks;obtain ⟨A,c,rfl⟩:=hs.len;have HS:=Lib.hid hs;have HF:=Lib.hid hf;have HX:=Lib.hid hx;have hw2:=hx.size;clear hs hf hx;go_wp2_with fail
       go_loopw [1,23] (fun lv iv wr=>∃ k:Nat,k<=ks.length/\iv=.int .i64 k/\Hid (ug wr base lv (l ++ [q] ++ yx (ks.take k))/\xe (ownB v') w2 (ownB lv) wr)) (fun _ iv _=>ks.length - (intOf iv).toNat)
       case atStart=>exact ⟨0,Nat.zero_le _,rfl,⟨by simpa [yx] using HR1.out.ext HX.out,xe.refl _ _⟩⟩
       case round =>
        obtain ⟨k,hk,rfl,⟨hR',hk'⟩⟩:=hrel;have HR':=Lib.hid hR';have HK':=Lib.hid hk';have hw':=hk'.size;clear hR' hk'
        by_cases hlt:k < ks.length
        · obtain ⟨ad,y,rfl,hc,hp⟩:=SlR.get_ (SlR.keeps HS.out HK'.out (fun ad n c e=>fun ho=>by
           have h1:=HF.out ad n c e;have h2:=(HLT1.out _ ho).2
           omega)) k hlt
          have HP:=Lib.hid hp;obtain ⟨U,y,rfl⟩:=hp.iface;clear hp;have hkl:ks[k].sz < (Fm.quant al q f).sz:=Fm.kids_lt _ _ (by rw [HKS.out]; exact List.getElem_mem hlt);have HLE:Hid ((l ++ [q] ++ yx (ks.take k)).length+ks[k].sz<=1099511627776):=by
           have h1:=ja1 (ks.take k) (fun g _=>g.bound_len);have h2:uh (ks.take k)+ks[k].sz<=uh ks:=by
            have e1:uh (ks.take (k+1))=uh (ks.take k)+ks[k].sz:=by
             unfold uh; rw [List.take_succ_eq_append_getElem hlt,List.map_append,List.sum_append,List.map_singleton,List.sum_singleton]
            have e2:uh ks=uh (ks.take (k+1))+uh (ks.drop (k+1)):=by
             unfold uh; rw [<- List.sum_append,<- List.map_append,List.take_append_drop]
            omega
           have h3:=uar (Fm.quant al q f);rw [HKS.out] at h3;have:(l ++ [q] ++ yx (ks.take k)).length+ks[k].sz<=1099511627776:=by
            simp only [List.length_append,List.length_cons,List.length_nil];omega
           exact this
          go_wp2_with fail;refine (IH.out (ks[k]) _ (by omega) HP.out _ _ _ HR'.out (by omega) HLE.out).mono ?_;rintro e w3 ⟨s3,rfl,hR3,hk3⟩;have HR3:=Lib.hid hR3;have HK3:=Lib.hid hk3;clear hR3 hk3 hc;go_wp2_with fail
          go_roundw
          case rel=>exact ⟨k+1,by omega,by go_num,⟨by rw [jaz _ _ hlt,<- List.append_assoc]; exact HR3.out,HK'.out.trans HK3.out⟩⟩
          case measure=>simp [intOf]; omega
        · have HKE:Hid (k=ks.length):=by
           have:k=ks.length:=by omega
           exact this
          go_wp2_with fail;go_ret;refine ⟨_,rfl,?_,(HK1.out.trans (xe.of_ext HX.out)).trans HK'.out⟩;have:=HR'.out;rw [HKE.out,List.take_length,<- HKS.out] at this;simpa [Fm.bound,Fm.kids,yx] using this
   | _=>simp [Fm.isQuant] at hn
 · have HN:Hid (t.isQuant=false):=by
    have:t.isQuant=false:=by simpa using hn
    exact this
   obtain ⟨T,x,rfl,hT⟩:=h.notQuant HN.out;clear h hn;have hlen:=t.kids_len;have HLT:=Lib.hid HR.out.lt;go_enter Tryz.func78,Tryz.ntmps78;go_wp2_with fail;refine (jae t H.out).mono ?_;rintro e w2 ⟨s2,rfl,hs,hf,hx⟩;obtain ⟨A,c,rfl⟩:=hs.len;have HX:Hid (Ext W w2):=by
    have:Ext W w2:=((Ext.refl W).alloc _).trans hx;exact this
   have HS:=Lib.hid hs;have HF:=Lib.hid hf;have hw2:=HX.out.size;clear hs hf hx;go_wp2_with fail
   go_loopw [1,23] (fun lv iv wr=>∃ k:Nat,k<=t.kids.length/\iv=.int .i64 k/\Hid (ug wr base lv (l ++ yx (t.kids.take k))/\xe (ownB s) w2 (ownB lv) wr)) (fun _ iv _=>t.kids.length - (intOf iv).toNat)
   case atStart=>exact ⟨0,Nat.zero_le _,rfl,⟨by simpa [yx] using HR.out.ext HX.out,xe.refl _ _⟩⟩
   case round =>
    obtain ⟨k,hk,rfl,⟨hR',hk'⟩⟩:=hrel;have HR':=Lib.hid hR';have HK':=Lib.hid hk';have hw':=hk'.size;clear hR' hk'
    by_cases hlt:k < t.kids.length
    · obtain ⟨ad,y,rfl,hc,hp⟩:=SlR.get_ (SlR.keeps HS.out HK'.out (fun ad n c e=>fun ho=>by
       have h1:=HF.out ad n c e;have h2:=(HLT.out _ ho).2
       simp at h1; omega)) k hlt
      have HP:=Lib.hid hp;obtain ⟨U,y,rfl⟩:=hp.iface;clear hp;have hkl:t.kids[k].sz < t.sz:=Fm.kids_lt _ _ (List.getElem_mem hlt);have HLE:Hid ((l ++ yx (t.kids.take k)).length+t.kids[k].sz<=1099511627776):=by
       have h1:=ja1 (t.kids.take k) (fun g _=>g.bound_len);have h2:uh (t.kids.take k)+t.kids[k].sz<=uh t.kids:=by
        have e1:uh (t.kids.take (k+1))=uh (t.kids.take k)+t.kids[k].sz:=by
         unfold uh; rw [List.take_succ_eq_append_getElem hlt,List.map_append,List.sum_append,List.map_singleton,List.sum_singleton]
        have e2:uh t.kids=uh (t.kids.take (k+1))+uh (t.kids.drop (k+1)):=by
         unfold uh; rw [<- List.sum_append,<- List.map_append,List.take_append_drop]
        omega
       have h3:=uar t;have:(l ++ yx (t.kids.take k)).length+t.kids[k].sz<=1099511627776:=by
        simp only [List.length_append];omega
       exact this
      go_wp2_with fail;refine (IH.out (t.kids[k]) _ (by omega) HP.out _ _ _ HR'.out (by omega) HLE.out).mono ?_;rintro e w3 ⟨s3,rfl,hR3,hk3⟩;have HR3:=Lib.hid hR3;have HK3:=Lib.hid hk3;clear hR3 hk3 hc;go_wp2_with fail
      go_roundw
      case rel=>exact ⟨k+1,by omega,by go_num,⟨by rw [jaz _ _ hlt,<- List.append_assoc]; exact HR3.out,HK'.out.trans HK3.out⟩⟩
      case measure=>simp [intOf]; omega
    · have HKE:Hid (k=t.kids.length):=by
       have:k=t.kids.length:=by omega
       exact this
      go_wp2_with fail;go_ret;refine ⟨_,rfl,?_,(xe.of_ext HX.out).trans HK'.out⟩;have:=HR'.out;rw [HKE.out,List.take_length,<- Fm.bound_kids t HN.out] at this;exact this
def yax (l:List ByteArray) (w:World) (e:Ending) (w':World):Prop:=∃ s,e=.returned s/\ug w' w.heap.size s l/\Ext w w'
theorem gbh {w0 w:World} {L:Nat} (t:Fm) {v:Value} (h:FmV w0 L t v) (hl:t.sz<=1099511627776):Calls Tryz.prog 30 #[v] w (yax t.bound w):=by
 go_enter Tryz.func30,Tryz.ntmps30;go_wp2_with fail;refine (xbc (t.sz+1) t v (Nat.lt_succ_self _) h w _ [] (ug.nil w w.heap.size) (Nat.le_refl _) (by simpa using hl)).mono ?_;rintro e w1 ⟨s1,rfl,hR,hk⟩;have hx:Ext w w1:=hk.ext (Ext.refl w) (fun i ho=>by unfold ownB at ho; simp [Value.ownBlock] at ho);have HX:=Lib.hid hx;have HR:=Lib.hid hR;clear hx hk hR h;go_wp2_with fail;go_ret;exact ⟨_,rfl,by simpa using HR.out,HX.out⟩
end Go.Proofs.YtaedbimbbeploaaGreatDoor

/- Layer 34: formula.Free: the names that occur free. -/
set_option maxRecDepth 100000
set_option maxHeartbeats 8000000
namespace Go.Proofs.YtaedbimbbeploaaGreatDoor
open Go.RowKit
def has (l:List ByteArray) (s:ByteArray):Bool:=l.any fun t=>decide (t=s)
theorem gbp (l:List ByteArray) (s t:ByteArray):has (l ++ [s]) t=(has l t || decide (s=t)):=by simp [has]
structure zao (base Ma Ms ba bs bl : Nat) : Prop where
 h1:ba ≠ bl
 h2:ba ≠ Ms
 h3:bs ≠ bl
 h4:bs ≠ Ms
 h5:Ma ≠ bl
 h6:Ma ≠ Ms
 h7:bl ≠ Ms
 h8:ba ≠ Ma
 h9:bs ≠ Ma
 k1:ba < base
 k2:bs < base
 k3:bl < base
 k4:Ma < base
 k5:Ms < base
def uap (base Ma Ms ba bs bl N:Nat) (b:Nat) (W:World) (own:Nat->Prop) (acc:List ByteArray):Prop:=
 ∃ v ls,W.cell? ⟨ba,0,none⟩=some (.map (some Ma))/\W.cell? ⟨bs,0,none⟩=some (.map (some Ms))/\W.heap[bl]?=some (.cells #[v] 39 (0,0))/\zq W Ms ls/\(∀ s,(qaa ls s).getD (.bool false)=.bool (has acc s)) /\
   ug W base v acc/\acc.length+b<=N/\(own=fun i=>i=bl\/i=Ms\/v.ownBlock=some i)/\base<=W.heap.size
def yj (a:ByteArray->Int) (s:ByteArray) (acc:List ByteArray):List ByteArray:=if a s=0/\has acc s=false then acc ++ [s] else acc
section
variable {base Ma Ms ba bs bl N:Nat}
theorem uap.turn {b b' : Nat} {W W' : World} {own : Nat -> Prop} {acc : List ByteArray} (h : uap base Ma Ms ba bs bl N b W own acc) (hb : b' <= b) (hs : W.heap.size <= W'.heap.size) (h1 : W'.heap[ba]? = W.heap[ba]?) (h2 : W'.heap[bs]? = W.heap[bs]?) (h3 : W'.heap[bl]? = W.heap[bl]?) (h4 : W'.heap[Ms]? = W.heap[Ms]?)
 (h5:∀ v acc,ug W base v acc->ug W' base v acc):uap base Ma Ms ba bs bl N b' W' own acc:=by
 obtain ⟨v,ls,c1,c2,c3,c4,c5,c6,c7,c8,c9⟩:=h;exact ⟨v,ls,(World.cell?_of_block h1).trans c1,(World.cell?_of_block h2).trans c2,h3.trans c3,c4.block h4,c5,h5 _ _ c6,by omega,c8,Nat.le_trans c9 hs⟩
theorem uap.lts {b:Nat} {W:World} {own:Nat->Prop} {acc:List ByteArray} (h:uap base Ma Ms ba bs bl N b W own acc):ba < W.heap.size/\bs < W.heap.size/\bl < W.heap.size/\Ms < W.heap.size:=by
 obtain ⟨v,ls,c1,c2,c3,c4,c5,c6,c7,c8,c9⟩:=h;have lt:∀ {g:Nat} {x:Value},W.cell? ⟨g,0,none⟩=some x->g < W.heap.size:=fun {g x} hc=>by
  rcases Nat.lt_or_ge g W.heap.size with hlt | hge
  · exact hlt
  · simp [World.cell?,Array.getElem?_eq_none hge] at hc
 exact ⟨lt c1,lt c2,lt_of_block c3,c4.lt⟩
theorem ug.only {w w':World} {base g:Nat} {v:Value} {l:List ByteArray} (h:ug w base v l) (hx:Only g w w') (hg:g < base):ug w' base v l:=
 World.ownsRow.kept h hx.g (.inr (fun e=>by have:=(h.lt g e).1; omega))
theorem zbh:(Tryz.prog.info? 4).map (·.zero)=some (some (.bool false)):=by kernel_rfl
def qbs (base Ma Ms ba bs bl N b:Nat) (W:World) (own:Nat->Prop) (acc:List ByteArray) (e:Ending) (W':World):Prop:=
 (∃ v,e=.returned v)/\∃ own',uap base Ma Ms ba bs bl N b W' own' acc/\xe own W own' W'
theorem vb3 (hd : zao base Ma Ms ba bs bl) {b : Nat} {W W1 w2 : World} {own : Nat -> Prop} {acc : List ByteArray} {s : ByteArray} {v v' : Value} {ls : List (ByteArray × Value)} {o : Obj}
 (c1:W.cell? ⟨ba,0,none⟩=some (.map (some Ma))) (c2:W.cell? ⟨bs,0,none⟩=some (.map (some Ms))) (c3:W.heap[bl]?=some (.cells #[v] 39 (0,0))) (c5:∀ s,(qaa ls s).getD (.bool false)=.bool (has acc s)) (c6:ug W base v acc) (c8:own=fun i=>i=bl\/i=Ms\/v.ownBlock=some i)
 (hM1:zq W1 Ms (qai ls s (.bool true))) (ho1:Only Ms W W1) (hb:base<=W.heap.size) (hN:acc.length+1+b<=N) (hg:(W1.alloc o).grownBy w2 v.ownBlock) (hown:w2.ownsRow base 9 1 v' (acc.length+1) (strs acc ++ [.string s])) (hat:v'.ownBlock=v.ownBlock\/v'.ownBlock=some (W1.alloc o).heap.size) :
 qbs base Ma Ms ba bs bl N b W own (acc ++ [s]) (.returned (.tuple #[])) (w2.setCell ⟨bl,0,none⟩ v')/\w2.cell? ⟨bl,0,none⟩=some v/\w2.frozen? ⟨bl,0,none⟩=false:=by
 have hs1:=ho1.size;have k1:=hd.k1;have k2:=hd.k2;have k3:=hd.k3;have k5:=hd.k5;have hx1:Ext W1 (W1.alloc o):=(Ext.refl W1).alloc o;have hr0:=c6.lt;have low:∀ i,i < base->i ≠ Ms->w2.heap[i]?=W.heap[i]?:=fun i hi hne=>by
  rw [World.grownBy.block hg i (by simp; omega) (fun e=>by have:=(hr0 i e.symm).1; omega),hx1.below.block i (by omega)];exact ho1.block (by omega) hne
 have hMs:w2.heap[Ms]?=W1.heap[Ms]?:=by
  rw [World.grownBy.block hg Ms (by simp; omega) (fun e=>by have:=(hr0 Ms e.symm).1; omega),hx1.below.block Ms (by omega)]
 have hbl:w2.heap[bl]?=some (.cells #[v] 39 (0,0)):=by rw [low bl k3 hd.h7]; exact c3
 have hvlt:∀ k,v'.ownBlock=some k->base<=k/\k < w2.heap.size:=World.ownsRow.lt hown;have hs2:=World.grownBy.size hg;simp only [World.size_alloc] at hs2;refine ⟨⟨⟨_,rfl⟩,fun i=>i=bl\/i=Ms\/v'.ownBlock=some i,?_,?_⟩,cell_of_one hbl,free_of_one hbl⟩
 · refine ⟨v',qai ls s (.bool true),?_,?_,one_setCell hbl,?_,?_,?_,?_,rfl,?_⟩
   · rw [World.cell?_of_block ((Below.heap_setCell w2 ⟨bl,0,none⟩ v' ba hd.h1).trans (low ba k1 hd.h2))]; exact c1
   · rw [World.cell?_of_block ((Below.heap_setCell w2 ⟨bl,0,none⟩ v' bs hd.h3).trans (low bs k2 hd.h4))]; exact c2
   · exact (hM1.block hMs).setCell _ _ (fun e=>hd.h7 e.symm)
   · intro t;rw [ga0,gbp]
     by_cases ht:t=s
     · rw [if_pos ht]; simp [ht]
     · have ht':¬ s=t:=fun e=>ht e.symm
       rw [if_neg ht,c5]; simp [ht']
   · unfold ug;rw [waz];have:=ownsRow_setCell_other hown (a:=⟨bl,0,none⟩) (fun e=>by have:=(hvlt bl e).1; omega) v';simpa using this
   · simp; omega
   · simp; omega
 · rw [c8];have q1:w2.os=W.os:=(World.grownBy.os hg).trans (hx1.below.os.trans (World.grownBy.os ho1));have q2:w2.tape=W.tape:=(World.grownBy.tape hg).trans (hx1.below.tape.trans (World.grownBy.tape ho1));have q3:w2.output=W.output:=(World.grownBy.output hg).trans (hx1.below.output.trans (World.grownBy.output ho1));refine ⟨q1,q2,q3,by simp; omega,fun i hi hn=>?_,fun i hi ho=>?_⟩
   · have n1:i ≠ bl:=fun e=>hn (.inl e)
     have n2:i ≠ Ms:=fun e=>hn (.inr (.inl e))
     have n3:¬ v.ownBlock=some i:=fun e=>hn (.inr (.inr e))
     rw [Below.heap_setCell w2 ⟨bl,0,none⟩ v' i n1,World.grownBy.block hg i (by simp; omega) (fun e=>n3 e.symm),hx1.below.block i (by omega)];exact ho1.block hi n2
   · rcases ho with h | h | h
     · exact .inl h
     · exact .inr (.inl h)
     · refine .inr (.inr ?_);rcases hat with k | k
       · rw [<- k]; exact h
       · rw [k] at h; injection h with e; simp at e; omega
theorem kcb (hd:zao base Ma Ms ba bs bl) (hN:N<=1099511627776) (b:Nat) (a:ByteArray->Int) (W:World) (own:Nat->Prop) (acc:List ByteArray) (s:ByteArray) (hJ:uap base Ma Ms ba bs bl N (b+1) W own acc) (hA:vab W Ma a) :
 Calls Tryz.prog 77 #[.string s,.pointer (some ⟨ba,0,none⟩),.pointer (some ⟨bs,0,none⟩),.pointer (some ⟨bl,0,none⟩)] W (qbs base Ma Ms ba bs bl N b W own (yj a s acc)):=by
 have HJ:=Lib.hid hJ;have HD:=Lib.hid hd;have hbd:=hJ.lts;obtain ⟨v,ls,c1,c2,c3,c4,c5,c6,c7,c8,c9⟩:=hJ;have hl:=hA.look s;have hls:(Instr.lookup 106 (.map (some Ms)) (.string s) false).run Tryz.prog W=.ok (.bool (has acc s)) W:=by
  have:=c4.look (P:=Tryz.prog) Tryz.underlying106 Tryz.underlying9 zbh s false;rw [this,if_neg (by simp),c5]
 obtain ⟨hbd1,hbd2,hbd3,hbd4⟩:=hbd;have C3:=Lib.hid c3;have C4:=Lib.hid c4;have C5:=Lib.hid c5;have C6:=Lib.hid c6;have C8:=Lib.hid c8;have C2:=Lib.hid c2;have C1:=Lib.hid c1;have cl:=cell_of_one c3;have HA:=Lib.hid hA;clear c3 c4 c5 c6 c8 hA hd
 by_cases ha:a s=0
 · by_cases hh:has acc s=true
   · have hfin:yj a s acc=acc:=by unfold yj; rw [if_neg (by rw [hh]; simp)]
     rw [hfin];rw [ha] at hl;rw [hh] at hls;clear hfin ha hh cl;go_enter Tryz.func77,Tryz.ntmps77;go_wp2_with fail
     go_end0
     exact ⟨⟨_,rfl⟩,own,HJ.out.turn (by omega) (Nat.le_refl _) rfl rfl rfl rfl (fun _ _ h=>h),xe.refl _ _⟩
   · have hh':has acc s=false:=by simpa using hh
     have hfin:yj a s acc=acc ++ [s]:=by unfold yj; rw [if_pos ⟨ha,hh'⟩]
     rw [hfin];rw [ha] at hl;rw [hh'] at hls;have HH:=Lib.hid hh';obtain ⟨W1,hput,hM1,ho1⟩:=C4.out.put (P:=Tryz.prog) Tryz.underlying106 Tryz.underlying9 s (.bool true);have cl1:W1.cell? ⟨bl,0,none⟩=some v:=by rw [ho1.cell (p:=⟨bl,0,none⟩) hbd3 HD.out.h7]; exact cl
     have c21:W1.cell? ⟨bs,0,none⟩=some (.map (some Ms)):=by rw [ho1.cell (p:=⟨bs,0,none⟩) hbd2 HD.out.h4]; exact c2
     have HM1:=Lib.hid hM1;have HO1:=Lib.hid ho1;have hw1:=ho1.size;obtain ⟨i0,hi,hz0,hz1,hz2⟩:=info_parts wa7;have HI0:Hid (Tryz.prog.info? 9=some i0/\i0.zero=some (.string ByteArray.empty)/\i0.size=1/\i0.bytes=16):=by
      have:Tryz.prog.info? 9=some i0/\i0.zero=some (.string ByteArray.empty)/\i0.size=1/\i0.bytes=16:=⟨hi,hz0,hz1,hz2⟩;exact this
     have HR1:Hid (ug W1 base v acc):=by
      have:ug W1 base v acc:=C6.out.only ho1 HD.out.k5;exact this
     clear hfin ha hh hh' hM1 ho1 hi hz0 hz1 hz2;go_enter Tryz.func77,Tryz.ntmps77
     go_wp2_with (at_builtin
                  refine wpList_append_own_at _ rfl (.tmp 17) (.tmp 19) _ rfl base 9 i0 (.string ByteArray.empty) 1 16 Tryz.underlying39 HI0.out.1 HI0.out.2.1 HI0.out.2.2.1 HI0.out.2.2.2 rfl (by omega) _ acc.length (strs acc) rfl (World.ownsRow.alloc HR1.out _) ⟨W1.heap.size,0,none⟩ 1 1 [.string s] rfl rfl (uco ?_) ?_ ?_ ?_ ?_ ?_)
     · simp [go_sem]
     · simp [Value.oneCell']
     · unfold maxLen; omega
     · omega
     · simp; omega
     · intro v' w2 hown' hg' _ hat';obtain ⟨g',cap',rfl⟩:=ownsRow_succ hown';have hat2:(Value.slice (some ⟨g',0,none⟩) (acc.length+1) cap').ownBlock=v.ownBlock\/(Value.slice (some ⟨g',0,none⟩) (acc.length+1) cap').ownBlock=some (W1.alloc (Obj.cells #[.string s] 9)).heap.size:=by simpa using hat'
       obtain ⟨HF,hcl,hfl⟩:=vb3 (b:=b) (N:=N) HD.out C1.out C2.out C3.out C5.out C6.out C8.out HM1.out HO1.out c9 (by omega) hg' hown' hat2;have HFIN:=Lib.hid HF;clear HF hown' hg' hat' hat2 hput hl hls cl1 c21;go_wp2_with fail
       go_end0
       exact HFIN.out
 · have hfin:yj a s acc=acc:=by unfold yj; rw [if_neg (fun e=>ha e.1)]
   have hab:(a s == 0)=false:=by simpa using ha
   rw [hfin];clear hfin ha cl;go_enter Tryz.func77,Tryz.ntmps77;go_wp2_with fail
   go_end0
   exact ⟨⟨_,rfl⟩,own,HJ.out.turn (by omega) (Nat.le_refl _) rfl rfl rfl rfl (fun _ _ h=>h),xe.refl _ _⟩
theorem jba (hd : zao base Ma Ms ba bs bl) (hN : N <= 1099511627776) : gar 77 #[.pointer (some ⟨ba, 0, none⟩), .pointer (some ⟨bs, 0, none⟩), .pointer (some ⟨bl, 0, none⟩)] Ma (uap base Ma Ms ba bs bl N) yj where
 enter:=fun args W=>by simp [go_sem]
 ext:=fun b W W' own acc h hx=>by
  obtain ⟨h1,h2,h3,h4⟩:=h.lts;exact h.turn (Nat.le_refl _) hx.size (hx.below.block _ h1) (hx.below.block _ h2) (hx.below.block _ h3) (hx.below.block _ h4) (fun v acc hr=>hr.ext hx)
 less:=fun b b' W own acc h hb=>h.turn hb (Nat.le_refl _) rfl rfl rfl rfl (fun _ _ h=>h)
 map:=fun b W W' own acc h ho=>by
  obtain ⟨h1,h2,h3,h4⟩:=h.lts;exact h.turn (Nat.le_refl _) ho.size (ho.block h1 hd.h8) (ho.block h2 hd.h9) (ho.block h3 (fun e=>hd.h5 e.symm)) (ho.block h4 (fun e=>hd.h6 e.symm)) (fun v acc hr=>hr.only ho hd.k4)
 lt:=fun b W own acc h i hi=>by
  obtain ⟨h1,h2,h3,h4⟩:=h.lts;obtain ⟨v,ls,c1,c2,c3,c4,c5,c6,c7,c8,c9⟩:=h;rw [c8] at hi;rcases hi with rfl | rfl | hi
  · exact h3
  · exact h4
  · exact (c6.lt i hi).2
 ne:=fun b W own acc h hi=>by
  obtain ⟨v,ls,c1,c2,c3,c4,c5,c6,c7,c8,c9⟩:=h;rw [c8] at hi;rcases hi with hi | hi | hi
  · exact hd.h5 hi
  · exact hd.h6 hi
  · have:=(c6.lt _ hi).1; have:=hd.k4; omega
 call:=fun b a W own acc s h hA=>kcb hd hN b a W own acc s h hA
end
def Fm.free (t:Fm):List ByteArray:=t.fold yj (fun _=>0) []
theorem jbq {w0 w:World} {L:Nat} (t:Fm) {v:Value} (h:FmV w0 L t v) (hl:t.sz<=1099511627776):Calls Tryz.prog 29 #[v] w (yax t.free w):=by
 have hmm:=@run_makeMap Tryz.prog;go_enter Tryz.func29,Tryz.ntmps29;go_wp2_with fail;obtain ⟨W,hW⟩:∃ W,((((w.alloc (Obj.cells #[.slice none 0 0] 39)).alloc (Obj.map #[] 0)).alloc (Obj.map #[] 0)).alloc (Obj.cells #[.map (some (w.heap.size+1))] 105)).alloc (Obj.cells #[.map (some (w.heap.size+1+1))] 106)=W:=⟨_,rfl⟩;rw [hW];have hsz:W.heap.size=w.heap.size+5:=by rw [<- hW]; simp
 have hx:Ext w W:=by rw [<- hW]; exact (((((Ext.refl w).alloc _).alloc _).alloc _).alloc _).alloc _
 have hd:zao (w.heap.size+5) (w.heap.size+1) (w.heap.size+1+1) (w.heap.size+1+1+1) (w.heap.size+1+1+1+1) w.heap.size:=by
  constructor <;> omega
 have m1:zq W (w.heap.size+1) []:=by
  rw [<- hW];have:=zq.made (w.alloc (Obj.cells #[.slice none 0 0] 39));rw [World.size_alloc] at this;exact ((this.alloc _).alloc _).alloc _
 have m2:zq W (w.heap.size+1+1) []:=by
  rw [<- hW];have:=zq.made ((w.alloc (Obj.cells #[.slice none 0 0] 39)).alloc (Obj.map #[] 0));rw [World.size_alloc,World.size_alloc] at this;exact (this.alloc _).alloc _
 have hJ:uap (w.heap.size+5) (w.heap.size+1) (w.heap.size+1+1) (w.heap.size+1+1+1) (w.heap.size+1+1+1+1) w.heap.size t.sz (0+t.sz) W (fun i=>i=w.heap.size\/i=w.heap.size+1+1\/(Value.slice none 0 0).ownBlock=some i) []:=by
  refine ⟨.slice none 0 0,[],?_,?_,?_,m2,fun s=>by simp [qaa,has],ug.nil _ _,by simp,rfl,by omega⟩
  · rw [<- hW]; simp [go_sem]
  · rw [<- hW]; simp [go_sem]
  · rw [<- hW,Below.heap_alloc _ _ _ (by simp; omega),Below.heap_alloc _ _ _ (by simp; omega),Below.heap_alloc _ _ _ (by simp; omega),Below.heap_alloc _ _ _ (by simp)];exact heap_alloc_new w _
 refine (xbw (jba hd hl) (t.sz+1) t v (Nat.lt_succ_self _) h 0 W _ (fun _=>0) [] hJ ⟨[],m1,fun s=>by simp [qaa]⟩ (fun s=>by omega)).mono ?_;rintro e w1 ⟨⟨v1,rfl⟩,own',hJ',hA',hk'⟩;have hx1:Ext w w1:=hk'.ext hx (fun i hi=>by
  rcases hi with (hi | hi | hi) | hi
  · omega
  · omega
  · simp [Value.ownBlock] at hi
  · omega)
 obtain ⟨v2,ls,c1,c2,c3,c4,c5,c6,c7,c8,c9⟩:=hJ';have cl:=cell_of_one c3;have HR:Hid (ug w1 w.heap.size v2 t.free):=by
  have:ug w1 w.heap.size v2 t.free:=by
   have h6:=c6;unfold ug World.ownsRow at h6 ⊢;refine ⟨h6.1,?_⟩;rcases h6.2 with h | ⟨g,cap,cur,h1,h2,h3⟩
   · exact .inl h
   · exact .inr ⟨g,cap,cur,h1,by omega,h3⟩
  exact this
 have HX1:=Lib.hid hx1;clear hW hx m1 m2 hJ hA' hk' hd c1 c2 c3 c4 c5 c6 c8 hx1;go_wp2_with fail;go_ret;exact ⟨_,rfl,HR.out,HX1.out⟩
theorem ug.slr {w:World} {base:Nat} {v:Value} {l:List ByteArray} (h:ug w base v l):SlR (fun _ (s:ByteArray) x=>x=.string s) w v l:=by
 have h':=h;obtain ⟨h1,h2⟩:=h;rcases h2 with ⟨rfl,h0⟩ | ⟨g,cap,cur,rfl,hb,hg,hc,hm,-⟩
 · have:l=[]:=List.eq_nil_of_length_eq_zero h0;subst this;exact SlR.nil _ _
 · refine ⟨_,cap,rfl,hc,by unfold maxLen at hm; omega,fun j hj=>⟨_,_,rfl,(Array.getElem?_eq_some_iff.1 hg).1,?_,rfl⟩⟩;rw [gp,Nat.zero_add,World.ownsRow.cellAt h' j (by omega)];simp [strs,hj]
end Go.Proofs.YtaedbimbbeploaaGreatDoor
