/- Layer 40: evaluate.Formula, evaluate.Term. -/
import Derived.Test.YtopddaabiinboaaGreatMp31
import Derived.Test.YtopddaabiinboaaGreatMp23
import Derived.Test.YtopddaabiinboaaGreatMp20
import Derived.Test.YtopddaabiinboaaGreatMp26
import Derived.Test.YtopddaabiinboaaGreatMp19
import Derived.Test.YtopddaabiinboaaGreatMp29
import Derived.Test.YtopddaabiinboaaGreatMp13
import Derived.Test.YtopddaabiinboaaGreatMp18
import Derived.Test.YtopddaabiinboaaGreatMp24
import Derived.Test.YtopddaabiinboaaGreatMp16
set_option linter.unusedSimpArgs false
set_option linter.unusedVariables false

set_option maxRecDepth 100000
set_option maxHeartbeats 8000000
namespace Go.Proofs.YtopddaabiinboaaGreat
open Go.RowKit Go.Shelf
attribute [local go_sem] Oper.semAt_some
attribute [local go_sem] gdg jde jdh vdg ydh zdh udg gdb kde wdg qdh wgt uc9 xdh wdb
def Fm.bad : Fm -> Bool
 | .atom l _ k=>l.large || k.large
 | _=>false
def udj (f:Fm) (vals:List (ByteArray × Rat)):Bool × Int:=
 if 0 < f.bound.length then (false,9) else if zdd (vc8 vals) f.free=false then (false,7) else if f.pre.any Fm.bad then (false,8) else (f.tv (vc8 vals),0)
def qhl (r:Bool × Int) (w:World) (e:Ending) (w':World):Prop:=e=.returned (.tuple #[.bool r.1,.int .i64 r.2])/\Ext w w'
theorem VsV.rlen {w:World} {L:Nat} {v:Value} {l:List (ByteArray × Rat)} (h:VsV w L v l) (hL:1<=L):∀ s q,vc8 l s=some q->rlen q<=L:=by
 obtain ⟨A,c,-,-,-,h3⟩:=h;have key:∀ x ∈ l,Go.Proofs.YtopddaabiinboaaGreat.rlen x.2<=L:=fun x hx=>by
  obtain ⟨j,hj,rfl⟩:=List.getElem_of_mem hx;obtain ⟨ad,bb,A1,n1,c1,A2,n2,c2,-,-,-,hr⟩:=h3 j hj;exact hr.rlen_le hL
 clear h3
 induction l with
 | nil=>intro s q h; cases h
 | cons x r ih =>
   intro s q h;obtain ⟨k,q'⟩:=x;unfold vc8 at h
   by_cases hs:s=k
   · rw [if_pos hs] at h;injection h with h
     rw [<- h];exact key (k,q') List.mem_cons_self
   · rw [if_neg hs] at h;exact ih (fun y hy=>key y (List.mem_cons_of_mem _ hy)) s q h
theorem KeepsOthers.of_ext {W W':World} (h:Ext W W'):KeepsOthers W W':=KeepsOthers.of_grownBy h.grownN (fun j o e=>by cases e)
def Fm.atomB : Fm -> Bool
 | .atom _ _ _=>true
 | _=>false
theorem FmV.notAtom {w:World} {L:Nat} {t:Fm} {v:Value} (h:FmV w L t v) (hn:t.atomB=false):∃ T x,v=.iface T x/\¬ T=67:=by
 cases t <;> (simp only [FmV] at h) <;> first | (cases hn; done) | exact ⟨_,_,h,by decide⟩ | (obtain ⟨_,e,_⟩:=h; exact ⟨_,_,e,by decide⟩) | (obtain ⟨_,_,e,_⟩:=h; exact ⟨_,_,e,by decide⟩)
def xhl {w0:World} {L:Nat} (w w5:World) (cc:Code) (pre:List (It w0 L)) (W:World):Prop:=
 cc=.ret/\(∃ y ∈ pre,y.f.bad=true)/\Ext w W/\w5.heap.size<=W.heap.size/\W.heap[w.heap.size]?=some (.cells #[.bool false] 4 (0,0))/\W.heap[w.heap.size+1]?=some (.cells #[.int .i64 8] 45 (0,0))
theorem xhl.own {w0:World} {L:Nat} {w w5:World} (cc:Code) (h:w.heap.size+1 < w5.heap.size):OwnFrom w5.heap.size (fun (pre:List (It w0 L)) W=>xhl w w5 cc pre W):=by
 rintro s W W' row ⟨h1,h2,h3,h4,h5,h6⟩ hg hr;refine ⟨h1,h2,h3.grown hg (fun k e=>by have:=(hr k e).1; omega),Nat.le_trans h4 hg.size,?_,?_⟩
 · rw [hg.block _ (by omega) (fun e=>by have:=(hr _ e.symm).1; omega)]; exact h5
 · rw [hg.block _ (by omega) (fun e=>by have:=(hr _ e.symm).1; omega)]; exact h6
theorem xhk {w : World} {L : Nat} (hL1 : 1 <= L) (hL : L <= 1000000000) (f : Fm) {v s : Value} {vals : List (ByteArray × Rat)} (h : FmV w L f v) (hvs : VsV w L s vals) (hn : f.norm = f) (hsz : f.sz <= 1000000000)
 (hfine:f.bound.length=0->zdd (vc8 vals) f.free=true->f.pre.any Fm.bad=false->f.fine (vc8 vals) L) :
 Calls Tryz.prog 20 #[v,s] w (qhl (udj f vals) w):=by
 have H:=Lib.hid h;have HVS:=Lib.hid hvs;have HN:=Lib.hid hn;have HFINE:=Lib.hid hfine;obtain ⟨T,x,rfl⟩:=h.iface;obtain ⟨A,c,rfl,-⟩:=hvs;clear h hn hfine;have hdd:∀ k:Nat,(Fence.wide.depth.isSome=true->1<=k):=fun k h=>by cases h
 refine (callsIn_wide (n:=5)).1 ?_;refine callsIn_of_wp_marks Tryz.func20 rfl trivial ?_ rfl;simp only [Tryz.ntmps20,List.size_toArray,List.length_cons,List.length_nil,Nat.reduceAdd,Nat.reduceSub,Array.replicate_succ,Array.replicate_zero,List.push_toArray,List.append_toArray,List.nil_append,List.cons_append]
 gi_wp2_with fail
 obtain ⟨W,hW⟩:=n_m ((w.alloc (.cells #[.bool false] 4)).alloc (.cells #[.int .i64 0] 45));have hWx:Ext w W:=by rw [<- hW]; exact ((Ext.refl w).alloc _).alloc _
 have hWs:W.heap.size=w.heap.size+1+1:=by rw [<- hW]; simp
 have hb0:W.heap[w.heap.size]?=some (.cells #[.bool false] 4 (0,0)):=by
  rw [<- hW,Below.heap_alloc _ _ _ (by simp)]; exact heap_alloc_new w _
 have hb1:W.heap[w.heap.size+1]?=some (.cells #[.int .i64 0] 45 (0,0)):=by
  rw [<- hW];have:=heap_alloc_new (w.alloc (.cells #[.bool false] 4)) (.cells #[.int .i64 0] 45)
  rwa [World.size_alloc] at this
 rw [hW];clear hW;refine ⟨trivial,?_⟩;refine (callsIn_wide.2 (kil (w0:=w) f H.out (by omega))).mono ?_;rintro e w1 ⟨s1,rfl,hr1,x1⟩;obtain ⟨A1,c1,rfl⟩:=hr1.slr.len;have X1:=Lib.hid (hWx.trans x1);have hs1:=x1.size;have B0:=Lib.hid ((x1.below.block _ (by omega)).trans hb0);have B1:=Lib.hid ((x1.below.block _ (by omega)).trans hb1);clear hr1 x1 hb0 hb1 hWx
 by_cases hbd:0 < f.bound.length
 · have c0:=cell_of_one B0.out;have c1':=cell_of_one B1.out;have f0:=free_of_one B0.out;have f1:=free_of_one B1.out;have HR:Hid (udj f vals=(false,9)):=by
    have:udj f vals=(false,9):=if_pos hbd;exact this
   gi_wp2_with fail
   exact ⟨.tuple #[.bool false,.int .i64 9],by simp [results,Tryz.results20,go_sem,c0,c1'],by rw [HR.out],(X1.out.setCell (Nat.le_refl _) _).setCell (Nat.le_succ _) _⟩
 · have HB0:Hid (f.bound.length=0):=by
    have:f.bound.length=0:=by omega
    exact this
   gi_wp2_with fail
   refine ⟨trivial,?_⟩;refine (callsIn_wide.2 (first_any (HVS.out.ext X1.out))).mono ?_;rintro e w2 ⟨b,rfl,hm2,x2⟩;have M2:=Lib.hid hm2;have X2:=Lib.hid (X1.out.trans x2);have hs2:=x2.size;have B02:=Lib.hid ((x2.below.block _ (by omega)).trans B0.out);have B12:=Lib.hid ((x2.below.block _ (by omega)).trans B1.out);clear hm2 x2 B0 B1
   gi_wp2_with fail
   refine ⟨trivial,?_⟩;refine (callsIn_wide.2 (qiu f H.out (by omega))).mono ?_;rintro e w3 ⟨s3,rfl,hr3,x3⟩;obtain ⟨A3,c3,rfl⟩:=hr3.slr.len;have R3:=Lib.hid hr3.slr;have M3:=Lib.hid (M2.out.ext x3);have X3:=Lib.hid (X2.out.trans x3);have hs3:=x3.size;have B03:=Lib.hid ((x3.below.block _ (by omega)).trans B02.out);have B13:=Lib.hid ((x3.below.block _ (by omega)).trans B12.out);clear hr3 x3 B02 B12 M2 X1 X2
   gi_wp2_with fail
   refine ⟨trivial,?_⟩;refine (callsIn_wide.2 (qic M3.out R3.out)).mono ?_;rintro e w4 ⟨rfl,x4⟩;have M4:=Lib.hid (M3.out.ext x4);have X4:=Lib.hid (X3.out.trans x4);have hs4:=x4.size;have B04:=Lib.hid ((x4.below.block _ (by omega)).trans B03.out);have B14:=Lib.hid ((x4.below.block _ (by omega)).trans B13.out);clear x4 B03 B13 M3 X3 R3
   by_cases hcv:zdd (vc8 vals) f.free=false
   · rw [hcv];have c0:=cell_of_one B04.out;have c1':=cell_of_one B14.out;have f0:=free_of_one B04.out;have f1:=free_of_one B14.out;have HR:Hid (udj f vals=(false,7)):=by
      have:udj f vals=(false,7):=by unfold udj; rw [if_neg hbd,if_pos hcv]
      exact this
     clear hcv
     gi_wp2_with fail
     exact ⟨.tuple #[.bool false,.int .i64 7],by simp [results,Tryz.results20,go_sem,c0,c1'],by rw [HR.out],(X4.out.setCell (Nat.le_refl _) _).setCell (Nat.le_succ _) _⟩
   · have hcv':zdd (vc8 vals) f.free=true:=by simpa using hcv
     rw [hcv'];have HCV:=Lib.hid hcv';clear hcv hcv'
     gi_wp2_with fail
     refine ⟨trivial,?_⟩;refine (callsIn_wide.2 (uih (by omega) f (H.out.ext X4.out))).mono ?_;rintro e w5 ⟨B5,v5,rfl,hc5,hB5,hf5,x5⟩;rw [HN.out] at hf5;have M5:=Lib.hid (M4.out.ext x5);have X5:=Lib.hid (X4.out.trans x5);have hs5:=x5.size;have B05:=Lib.hid ((x5.below.block _ (by omega)).trans B04.out);have B15:=Lib.hid ((x5.below.block _ (by omega)).trans B14.out);have HSEQ:=Lib.hid (fun n=>qh2 f hf5 B5 hB5 hc5 (by omega) n);clear x5 B04 B14 M4 X4 hc5 hB5 hf5
     gi_wp2_with fail
     refine wpIn_rangeFunc_ownF rfl (by omega) (gf := 83) (lb := #[.pointer (some ⟨B5, 0, none⟩)]) rfl trivial (enters_of Tryz.func83 (by kernel_rfl) rfl) (HSEQ.out _) xc5.trans (fun W l o o' _ h1 h2 _ => xc5.putObj W l o o' h1 h2) (Below.refl _ _) (fun _ => rfl)
      (fun pre W=>Ext w5 W/\∀ y ∈ pre,y.f.bad=false) (fun cc pre W=>xhl w w5 cc pre W)
      (fun s W W' row hs hg hr=>⟨hs.1.grown hg (fun k e=>(hr k e).1),hs.2⟩) (fun cc=>xhl.own cc (by omega)) ⟨Ext.refl _,fun y hy=>by cases hy⟩
      (fun y=>{ tmps:=#[.iface T x,.slice A vals.length c,undef,undef,.pointer (some ⟨w.heap.size,0,none⟩),.pointer (some ⟨w.heap.size+1,0,none⟩),.map (some b),undef,y.v,undef,undef,.iface T x,.slice A1 f.bound.length c1,.int .i64 f.bound.length,.bool false,.slice A vals.length c,.map (some b),.map (some b),.iface T x,.slice A3 f.free.length c3,.bool true,.bool false,.iface T x,.func (.func 83) #[] #[.pointer (some ⟨B5,0,none⟩)],.int .i64 y.depth,y.v,undef,undef,undef,undef,undef,undef,undef,undef,undef,undef,undef,undef,undef,undef,undef,undef,undef,undef,undef],defers:=[] }) ?assign ?body ?done ?stop
     case assign =>
      intro l y W K hK;simp only [It.enc]
      gi_wp2
      exact hK
     case body =>
      rintro l pre y W ⟨hxW,hbad⟩ hlen;have hyv:=y.h;have HBAD:=Lib.hid hbad;have HXW:=Lib.hid hxW;clear hbad hxW hlen;obtain ⟨dep,fy,vy,hfy⟩:=y;dsimp only at hyv ⊢;have HYV:=Lib.hid hyv;clear hyv;cases fy with
      | atom la ra ka =>
        obtain ⟨xl,xk,rfl,hxl,hxk⟩:=HYV.out;have HXL:=Lib.hid hxl;have HXK:=Lib.hid hxk;obtain ⟨TL,xl,rfl⟩:=hxl.iface;obtain ⟨TK,xk,rfl⟩:=hxk.iface;clear hxl hxk;obtain ⟨Wb,hWb⟩:=n_m (W.alloc (.cells #[.iface TL xl,.int .i64 ra,.iface TK xk] 67));have hxb:Ext W Wb:=by rw [<- hWb]; exact (Ext.refl W).alloc _
        have hsb:W.heap.size < Wb.heap.size:=by rw [<- hWb]; simp
        have d0:Wb.cell? ⟨W.heap.size,0,none⟩=some (.iface TL xl):=by rw [<- hWb]; simp [go_sem]
        have D2:Hid (Wb.cell? ⟨W.heap.size,2,none⟩=some (.iface TK xk)):=by
         have:Wb.cell? ⟨W.heap.size,2,none⟩=some (.iface TK xk):=by rw [<- hWb]; simp [go_sem]
         exact this
        have HL:=Lib.hid (yhb (w0:=w5) (by omega) la (HXW.out.trans hxb) HXL.out);have HXB:=Lib.hid hxb;clear hxb
        by_cases hl:la.large=true
        · rw [hl] at HL;have HBADY:Hid ((Fm.atom la ra ka).bad=true):=by
           have:(Fm.atom la ra ka).bad=true:=by simp [Fm.bad,hl]
           exact this
          clear hl
          gi_wp2_with fail
          refine ⟨trivial,?_⟩;refine (CallsIn.inRound l (callsIn_wide.2 HL.out)).mono ?_;rintro e W6 ⟨rfl,x6⟩;have X6:=Lib.hid (HXB.out.trans x6);clear x6 d0 hWb HL;have Q0:Hid (W6.heap[w.heap.size]?=some (.cells #[.bool false] 4 (0,0))):=((HXW.out.trans X6.out).below.block _ (by omega)).trans B05.out;have Q1:Hid (W6.heap[w.heap.size+1]?=some (.cells #[.int .i64 0] 45 (0,0))):=((HXW.out.trans X6.out).below.block _ (by omega)).trans B15.out;have c0:=cell_of_one Q0.out;have c1':=cell_of_one Q1.out;have f0:=free_of_one Q0.out;have f1:=free_of_one Q1.out
          gi_wp2_with fail
          refine ⟨trivial,?_⟩
          gi_wp2_with fail
          refine ⟨(KeepsOthers.of_ext X6.out).trans ((KeepsOthers.setCell _ _ _).trans (KeepsOthers.setCell _ _ _)),rfl,⟨⟨dep,.atom la ra ka,_,hfy⟩,List.mem_append_right _ List.mem_cons_self,HBADY.out⟩,?_,?_,?_,?_⟩
          · exact ((X5.out.trans (HXW.out.trans X6.out)).setCell (Nat.le_refl _) _).setCell (Nat.le_succ _) _
          · have:=X6.out.size; have:=HXW.out.size; simp; omega
          · rw [Below.heap_setCell _ _ _ _ (by simp)]; exact one_setCell Q0.out
          · exact one_setCell ((Below.heap_setCell _ _ _ _ (by simp)).trans Q1.out)
        · have hl':la.large=false:=by simpa using hl
          rw [hl'] at HL
          by_cases hk:ka.large=true
          · have HBADY:Hid ((Fm.atom la ra ka).bad=true):=by
             have:(Fm.atom la ra ka).bad=true:=by simp [Fm.bad,hk]
             exact this
            clear hl hl'
            gi_wp2_with fail
            refine ⟨trivial,?_⟩;refine (CallsIn.inRound l (callsIn_wide.2 HL.out)).mono ?_;rintro e W6 ⟨rfl,x6⟩;have d2:W6.cell? ⟨W.heap.size,2,none⟩=some (.iface TK xk):=(x6.cell (p:=⟨W.heap.size,2,none⟩) hsb).trans D2.out;have X6:=Lib.hid (HXB.out.trans x6);have HKL:=Lib.hid (yhb (w0:=w5) (by omega) ka (HXW.out.trans X6.out) HXK.out);rw [hk] at HKL;clear x6 d0 hWb HL hk
            gi_wp2_with fail
            refine ⟨trivial,?_⟩;refine (CallsIn.inRound l (callsIn_wide.2 HKL.out)).mono ?_;rintro e W7 ⟨rfl,x7⟩;have X7:=Lib.hid (X6.out.trans x7);clear x7 d2 HKL;have Q0:Hid (W7.heap[w.heap.size]?=some (.cells #[.bool false] 4 (0,0))):=((HXW.out.trans X7.out).below.block _ (by omega)).trans B05.out;have Q1:Hid (W7.heap[w.heap.size+1]?=some (.cells #[.int .i64 0] 45 (0,0))):=((HXW.out.trans X7.out).below.block _ (by omega)).trans B15.out;have c0:=cell_of_one Q0.out;have c1':=cell_of_one Q1.out;have f0:=free_of_one Q0.out;have f1:=free_of_one Q1.out
            gi_wp2_with fail
            refine ⟨(KeepsOthers.of_ext X7.out).trans ((KeepsOthers.setCell _ _ _).trans (KeepsOthers.setCell _ _ _)),rfl,⟨⟨dep,.atom la ra ka,_,hfy⟩,List.mem_append_right _ List.mem_cons_self,HBADY.out⟩,?_,?_,?_,?_⟩
            · exact ((X5.out.trans (HXW.out.trans X7.out)).setCell (Nat.le_refl _) _).setCell (Nat.le_succ _) _
            · have:=X7.out.size; have:=HXW.out.size; simp; omega
            · rw [Below.heap_setCell _ _ _ _ (by simp)]; exact one_setCell Q0.out
            · exact one_setCell ((Below.heap_setCell _ _ _ _ (by simp)).trans Q1.out)
          · have hk':ka.large=false:=by simpa using hk
            have HGOOD:Hid ((Fm.atom la ra ka).bad=false):=by
             have:(Fm.atom la ra ka).bad=false:=by simp [Fm.bad,hl',hk']
             exact this
            clear hl hl'
            gi_wp2_with fail
            refine ⟨trivial,?_⟩;refine (CallsIn.inRound l (callsIn_wide.2 HL.out)).mono ?_;rintro e W6 ⟨rfl,x6⟩;have d2:W6.cell? ⟨W.heap.size,2,none⟩=some (.iface TK xk):=(x6.cell (p:=⟨W.heap.size,2,none⟩) hsb).trans D2.out;have X6:=Lib.hid (HXB.out.trans x6);have HKL:=Lib.hid (yhb (w0:=w5) (by omega) ka (HXW.out.trans X6.out) HXK.out);rw [hk'] at HKL;clear x6 d0 hWb HL hk hk'
            gi_wp2_with fail
            refine ⟨trivial,?_⟩;refine (CallsIn.inRound l (callsIn_wide.2 HKL.out)).mono ?_;rintro e W7 ⟨rfl,x7⟩;have X7:=Lib.hid (X6.out.trans x7);clear x7 d2 HKL
            gi_wp2_with fail
            refine ⟨KeepsOthers.of_ext X7.out,xc5.of_ext X7.out,HXW.out.trans X7.out,fun z hz=>?_⟩;rcases List.mem_append.1 hz with hz | hz
            · exact HBAD.out z hz
            · rw [List.mem_singleton.1 hz]; exact HGOOD.out
      | _ =>
        obtain ⟨TY,xy,e1,hT⟩:=HYV.out.notAtom rfl;subst e1
        gi_wp2_with fail
        refine ⟨trivial,?_⟩
        gi_wp2_with fail
        all_goals first
          | (exfalso; rename_i h1 h2; exact absurd h1 (by unfold undef; simp))
          | skip
        refine ⟨trivial,?_⟩
        gi_wp2_with fail
        refine ⟨KeepsOthers.alloc _ _,xc5.of_ext ((Ext.refl W).alloc _),HXW.out.alloc _,fun z hz=>?_⟩;rcases List.mem_append.1 hz with hz | hz
        · exact HBAD.out z hz
        · rw [List.mem_singleton.1 hz]; rfl
     case done =>
      rintro D xs W hD hxs ⟨hxW,hbad⟩ hK;have hgood:f.pre.any Fm.bad=false:=by
       rw [<- hxs,List.any_map,List.any_eq_false];intro y hy;simp only [Function.comp_apply];rw [hbad y hy]; simp
      have HR:Hid (udj f vals=(f.tv (vc8 vals),0)):=by
       have:udj f vals=(f.tv (vc8 vals),0):=by unfold udj; rw [if_neg (by have:=HB0.out; omega),if_neg (by rw [HCV.out]; simp),if_neg (by rw [hgood]; simp)]
       exact this
      have HF:=Lib.hid (qh3 (M5.out.ext hxW) hL1 (HVS.out.rlen hL1) f (HFINE.out HB0.out HCV.out hgood) _ W (Ext.refl W) (H.out.ext (X5.out.trans hxW)));have HXW:=Lib.hid hxW;have HKD:=Lib.hid hK;have hWD:=(Array.getElem?_eq_some_iff.1 hK).1;clear hgood hbad hxs hxW hK
      gi_wp2_with fail
      refine ⟨trivial,?_⟩;refine (callsIn_wide.2 HF.out).mono ?_;rintro e W6 ⟨rfl,x6⟩;have X6:=Lib.hid (HXW.out.trans x6);have hs6:=X6.out.size;have Q0:Hid (W6.heap[w.heap.size]?=some (.cells #[.bool false] 4 (0,0))):=(X6.out.below.block _ (by omega)).trans B05.out;have Q1:Hid (W6.heap[w.heap.size+1]?=some (.cells #[.int .i64 0] 45 (0,0))):=(X6.out.below.block _ (by omega)).trans B15.out;have hD6:W6.heap[D]?=some (.deferred (some [])):=(x6.below.block _ hWD).trans HKD.out;have HD6:=Lib.hid hD6;have c0:=cell_of_one Q0.out;have c1':=cell_of_one Q1.out;have f0:=free_of_one Q0.out;have f1:=free_of_one Q1.out;clear x6 hD6 HF HKD
      gi_wp2_with fail
      have hD7:((W6.setCell ⟨w.heap.size,0,none⟩ (.bool (f.tv (vc8 vals)))).setCell ⟨w.heap.size+1,0,none⟩ (.int .i64 0)).heap[D]?=some (.deferred (some [])):=by
       rw [Below.heap_setCell _ _ _ _ (by simp; omega),Below.heap_setCell _ _ _ _ (by simp; omega)]; exact HD6.out
      refine ⟨by simp,.inl ⟨_,_,rfl,run_takeDeferred hD7,?_⟩⟩;have hx7:Ext w ((W6.setCell ⟨w.heap.size,0,none⟩ (.bool (f.tv (vc8 vals)))).setCell ⟨w.heap.size+1,0,none⟩ (.int .i64 0)):=((X5.out.trans X6.out).setCell (Nat.le_refl _) _).setCell (Nat.le_succ _) _;have k0:(((W6.setCell ⟨w.heap.size,0,none⟩ (.bool (f.tv (vc8 vals)))).setCell ⟨w.heap.size+1,0,none⟩ (.int .i64 0)).putObj D (.deferred none)).cell? ⟨w.heap.size,0,none⟩=some (.bool (f.tv (vc8 vals))):=by
       rw [World.cell?_of_block (World.putObj_heap_other (by simp; omega))];exact cell_of_one ((Below.heap_setCell _ _ _ _ (by simp)).trans (one_setCell Q0.out))
      have k1:(((W6.setCell ⟨w.heap.size,0,none⟩ (.bool (f.tv (vc8 vals)))).setCell ⟨w.heap.size+1,0,none⟩ (.int .i64 0)).putObj D (.deferred none)).cell? ⟨w.heap.size+1,0,none⟩=some (.int .i64 0):=by
       rw [World.cell?_of_block (World.putObj_heap_other (by simp; omega))];exact cell_of_one (one_setCell ((Below.heap_setCell _ _ _ _ (by simp)).trans Q1.out))
      exact ⟨.tuple #[.bool (f.tv (vc8 vals)),.int .i64 0],by simp [results,Tryz.results20,go_sem,k0,k1],by rw [HR.out],hx7.grown (grownBy_putObj' _ D _) (fun k e=>by injection e with e; omega)⟩
     case stop =>
      rintro D cc pre W hD hxs ⟨rfl,hy,hxw,hsz5,q0,q1⟩ hK;have HR:Hid (udj f vals=(false,8)):=by
       have hany:f.pre.any Fm.bad=true:=by
        obtain ⟨r,hr⟩:=hxs;obtain ⟨y,hy,hb⟩:=hy;rw [<- hr,List.any_append,List.any_map,Bool.or_eq_true];exact .inl (List.any_eq_true.2 ⟨y,hy,hb⟩)
       have:udj f vals=(false,8):=by unfold udj; rw [if_neg (by have:=HB0.out; omega),if_neg (by rw [HCV.out]; simp),if_pos hany]
       exact this
      have HKD:=Lib.hid hK;have HXW:=Lib.hid hxw;have Q0:=Lib.hid q0;have Q1:=Lib.hid q1;have hWD:=(Array.getElem?_eq_some_iff.1 hK).1;clear hy hxs hxw q0 q1 hK
      gi_wp2_with fail
      refine ⟨by simp,.inl ⟨_,_,rfl,run_takeDeferred HKD.out,?_⟩⟩;have k0:(W.putObj D (.deferred none)).cell? ⟨w.heap.size,0,none⟩=some (.bool false):=by
       rw [World.cell?_of_block (World.putObj_heap_other (by simp; omega))]; exact cell_of_one Q0.out
      have k1:(W.putObj D (.deferred none)).cell? ⟨w.heap.size+1,0,none⟩=some (.int .i64 8):=by
       rw [World.cell?_of_block (World.putObj_heap_other (by simp; omega))]; exact cell_of_one Q1.out
      exact ⟨.tuple #[.bool false,.int .i64 8],by simp [results,Tryz.results20,go_sem,k0,k1],by rw [HR.out],HXW.out.grown (grownBy_putObj' _ D _) (fun k e=>by injection e with e; omega)⟩
end Go.Proofs.YtopddaabiinboaaGreat

/- Layer 40: evaluate.At, Poly. -/
set_option maxRecDepth 100000
set_option maxHeartbeats 8000000
namespace Go.Proofs.YtopddaabiinboaaGreat
open Go.RowKit
theorem zjb {p:Pl} {D L K:Nat} (hdm:p.dm<=D) (hs:p.sz * (D+L+4)<=K):p.eb L<=K:=by
 have:=Pl.eb_sz L p D hdm;omega
theorem xi2 {w:World} {q:Nat->Prop} {L:Nat} {xv:Value} {xs:List Rat} (hL:1<=L) (hL2:L<=1099511627776) (hxs:RsV w L xv xs) (t:Mx) (v:Value) (hbig:t.sz<=1000000) (hsm:t.each uhc) (heach:t.each (fun p=>p.eb L<=1099511627776)) (h:MxV w q t v) :
 Calls Tryz.prog 18 #[v,xv] w (qhl (if t.lvl<=xs.length then (t.tv (rho xs),0) else (false,4)) w):=by
 have HH:=Lib.hid h;have HXS:=Lib.hid hxs;obtain ⟨A0,n0,c0,A,n1,c1,K,c,rfl,hp,hl1,hl2,h4⟩:=h.open_;obtain ⟨XA,Xc,rfl,-⟩:=id hxs;obtain ⟨W,hW⟩:=n_m ((w.alloc (.cells #[.int .i64 t.kind,.int .i64 t.rel,.int .i64 t.p.lv,.bool t.p.neg,.slice A0 n0 c0,.slice A n1 c1,.slice K t.ks.length c] 50)).alloc (.cells #[.slice XA xs.length Xc] 53));have hWx:Ext w W:=by rw [<- hW]; exact ((Ext.refl w).alloc _).alloc _
 have hWs:W.heap.size=w.heap.size+1+1:=by rw [<- hW]; simp
 have hbx:udd W w.heap.size t (.slice A0 n0 c0) (.slice A n1 c1) (.slice K t.ks.length c):=by rw [<- hW]; exact (udd.new w t _ _ _ _).ext ((Ext.refl _).alloc _) (by simp)
 have hxc:W.cell? ⟨w.heap.size+1,0,none⟩=some (.slice XA xs.length Xc):=by rw [<- hW]; simp [go_sem]
 have HWX:=Lib.hid hWx;have HBX:=Lib.hid hbx;have HXC:=Lib.hid hxc;have HLV:Hid (∀ W',Ext W W'->Calls Tryz.prog 31 #[mxV t (.slice A0 n0 c0) (.slice A n1 c1) (.slice K t.ks.length c)] W' (vc5 t.lvl W')):=by
  have:∀ W',Ext W W'->Calls Tryz.prog 31 #[mxV t (.slice A0 n0 c0) (.slice A n1 c1) (.slice K t.ks.length c)] W' (vc5 t.lvl W'):=fun W' hx=>qhw t _ W' hbig hsm (HH.out.ext (HWX.out.trans hx))
  exact this
 have HTR:Hid (∀ W',Ext W W'->Calls Tryz.prog 33 #[mxV t (.slice A0 n0 c0) (.slice A n1 c1) (.slice K t.ks.length c),.func (.func 39) #[] #[.pointer (some ⟨w.heap.size+1,0,none⟩)]] W' (ydd (t.tv (rho xs)) W')):=by
  have:∀ W',Ext W W'->Calls Tryz.prog 33 #[mxV t (.slice A0 n0 c0) (.slice A n1 c1) (.slice K t.ks.length c),.func (.func 39) #[] #[.pointer (some ⟨w.heap.size+1,0,none⟩)]] W' (ydd (t.tv (rho xs)) W'):=fun W' hx =>
   zi2 (w0:=W) hL hL2 HXC.out (by omega) (HXS.out.ext HWX.out) (t.sz+1) t _ W' (Nat.lt_succ_self _) hbig heach (HH.out.ext HWX.out) hx
  exact this
 have HB:Hid (∀ W',Ext W W'->(Ext W W'/\W'.cell? ⟨w.heap.size,0,none⟩=some (.int .i64 t.kind)/\W'.cell? ⟨w.heap.size,1,none⟩=some (.int .i64 t.rel)/\W'.cell? ⟨w.heap.size,2,none⟩=some (.int .i64 t.p.lv)/\W'.cell? ⟨w.heap.size,3,none⟩=some (.bool t.p.neg)/\W'.cell? ⟨w.heap.size,4,none⟩=some (.slice A0 n0 c0)/\W'.cell? ⟨w.heap.size,5,none⟩=some (.slice A n1 c1)/\W'.cell? ⟨w.heap.size,6,none⟩=some (.slice K t.ks.length c)/\W'.cell? ⟨w.heap.size+1,0,none⟩=some (.slice XA xs.length Xc))):=by
  have:∀ W',Ext W W'->(Ext W W'/\W'.cell? ⟨w.heap.size,0,none⟩=some (.int .i64 t.kind)/\W'.cell? ⟨w.heap.size,1,none⟩=some (.int .i64 t.rel)/\W'.cell? ⟨w.heap.size,2,none⟩=some (.int .i64 t.p.lv)/\W'.cell? ⟨w.heap.size,3,none⟩=some (.bool t.p.neg)/\W'.cell? ⟨w.heap.size,4,none⟩=some (.slice A0 n0 c0)/\W'.cell? ⟨w.heap.size,5,none⟩=some (.slice A n1 c1)/\W'.cell? ⟨w.heap.size,6,none⟩=some (.slice K t.ks.length c)/\W'.cell? ⟨w.heap.size+1,0,none⟩=some (.slice XA xs.length Xc)):=fun W' hx=>by
   obtain ⟨c0,c1,c2,c3,c4,c5,c6⟩:=HBX.out.ext hx (by omega);exact ⟨hx,c0,c1,c2,c3,c4,c5,c6,(hx.cell (p:=⟨w.heap.size+1,0,none⟩) (by show w.heap.size+1 < _; omega)).trans HXC.out⟩
  exact this
 obtain ⟨b0,b1,b2,b3,b4,b5,b6⟩:=hbx;clear h hp h4 hWx hxs heach hsm;unfold mxV at HLV HTR;unfold mxV;generalize t.lvl=lv at *;generalize t.tv (rho xs)=tv at *;generalize hlen:xs.length=N at *;obtain ⟨rr,hrr⟩:∃ rr:Bool × Int,(if lv<=(N:Int) then (tv,(0:Int)) else (false,4))=rr:=⟨_,rfl⟩;rw [hrr];have HRR:=Lib.hid hrr;clear hrr;go_enter Tryz.func18,Tryz.ntmps18;go_wp2_with fail;clear hW b0 b1 b2 b3 b4 b5 b6 hxc;have y0:Ext W W.drew:=(Ext.refl W).drew;have Y0:=Lib.hid y0;clear y0
 go_region_held3 (fun W' => Ext W W' /\ W'.cell? ⟨w.heap.size, 0, none⟩ = some (.int .i64 t.kind) /\ W'.cell? ⟨w.heap.size, 1, none⟩ = some (.int .i64 t.rel) /\ W'.cell? ⟨w.heap.size, 2, none⟩ = some (.int .i64 t.p.lv) /\ W'.cell? ⟨w.heap.size, 3, none⟩ = some (.bool t.p.neg) /\ W'.cell? ⟨w.heap.size, 4, none⟩ = some (.slice A0 n0 c0) /\ W'.cell? ⟨w.heap.size, 5, none⟩ = some (.slice A n1 c1) /\ W'.cell? ⟨w.heap.size, 6, none⟩ = some (.slice K t.ks.length c) /\ W'.cell? ⟨w.heap.size + 1, 0, none⟩ = some (.slice XA N Xc))
  (first | with_reducible exact HB.out _ Y0.out | with_reducible exact HB.out _ y1)
  ((go_at_call 31
    refine (HLV.out _ Y0.out).mono ?_;rintro e v1 ⟨rfl,x1⟩
    have y1:Ext W v1:=Ext.trans Y0.out x1))
 all_goals
  have Y1:=Lib.hid y1;obtain ⟨-,b0,b1,b2,b3,b4,b5,b6,xc⟩:=HB.out _ Y1.out;clear y1 x1 HB Y0 HLV
  by_cases hle:lv<=N
  · have hgt:¬ ((N:Int) < lv):=by omega
    have HR:Hid (rr=(tv,0)):=Lib.hid (HRR.out.symm.trans (if_pos hle));clear hle HRR;go_wp2_with fail;refine (HTR.out _ Y1.out).mono ?_;rintro e w2 ⟨rfl,x2⟩;have X2:=Lib.hid ((HWX.out.trans Y1.out).trans x2);clear x2;go_wp2_with fail;exact bodyPost_ret (v:=.tuple #[.bool tv,.int .i64 0]) (by simp [results,Tryz.results18,go_sem]) rfl ⟨by rw [HR.out],X2.out⟩
  · have hgt:(N:Int) < lv:=by omega
    have HR:Hid (rr=(false,4)):=Lib.hid (HRR.out.symm.trans (if_neg hle));clear hle HRR;go_wp2_with fail;exact bodyPost_ret (v:=.tuple #[.bool false,.int .i64 4]) (by simp [results,Tryz.results18,go_sem]) rfl ⟨by rw [HR.out],HWX.out.trans Y1.out⟩
theorem qi2 {w:World} {q:Nat->Prop} {L:Nat} {xv:Value} {xs:List Rat} (hL:1<=L) (hL2:L<=1099511627776) (hxs:RsV w L xv xs) (t:Mx) (v:Value) (hbig:t.sz<=1000000) (hsm:t.small) (heach:t.each (fun p=>p.eb L<=1099511627776)) (h:MxV w q t v) :
 Calls Tryz.prog 18 #[v,xv] w (qhl (if t.lvl<=xs.length then (t.tv (rho xs),0) else (false,4)) w):=
 xi2 hL hL2 hxs t v hbig (Mx.small_bigN hsm) heach h
end Go.Proofs.YtopddaabiinboaaGreat

/- Small matrices: what their polynomials cost. -/
namespace Go.Proofs.YtopddaabiinboaaGreat
open Go.RowKit
theorem Mx.small_fit {t:Mx} (hs:t.small):t.each (fun p=>p.eb 3<=1099511627776):=
 Mx.each_mono (fun p hp=>zjb (D:=4) hp.2 (by have:=hp.1; omega)) t (t.small_each hs)
end Go.Proofs.YtopddaabiinboaaGreat

/- Plain: a matrix with values for its first variables has the same truth value, and its polynomials are those with the values. -/
namespace Go.Proofs.YtopddaabiinboaaGreat
open Go.RowKit
theorem zh8 {c q:Rat} (hc:0 < c):sgQ (c * q)=sgQ q:=by
 have h1:(c * q < 0) ↔ q < 0:=by
  constructor
  · intro h
    by_cases hq:0<=q
    · have:=Rat.mul_nonneg (Rat.le_of_lt hc) hq; grind
    · grind
  · intro h;have:=Rat.mul_pos hc (show 0 < -q by grind)
    grind
 have h2:(0 < c * q) ↔ 0 < q:=by
  constructor
  · intro h
    by_cases hq:q<=0
    · have:=Rat.mul_nonneg (Rat.le_of_lt hc) (show 0<=-q by grind); grind
    · grind
  · intro h;exact Rat.mul_pos hc h
 unfold sgQ vg2;simp only [h1,h2]
end Go.Proofs.YtopddaabiinboaaGreat

/- Layer 40: evaluate.AtPoint at rational coordinates. -/
set_option maxRecDepth 100000
set_option maxHeartbeats 8000000
namespace Go.Proofs.YtopddaabiinboaaGreat
open Go.RowKit
theorem vi6 (xs:List Rat) (i:Nat):rho xs ((i:Int)+1)=xs.getD i 0:=by
 unfold rho;rw [show ((i:Int)+1 - 1).toNat=i by omega]
theorem yip (z:Int):sgQ ((z:Int):Rat)=sgI z:=by
 have h:((z:Int):Rat)=mkRat z 1:=by simp [Rat.mkRat_one]
 rw [h,uif (by omega)]
def PtN (p:Pl):Prop:=uhc p/\Fit p.nf 40 5
theorem zhr {w:World} {base F L B:Nat} {xs:List Rat} {va vd vt vl:Value} {nd nt nl:Nat} {q:Nat->Prop} {p:Pl} {v:Value} (hf:ydc base F w xs va vd vt vl nd nt nl) (hB:w.cell? ⟨B,0,none⟩=some (.pointer (some ⟨F,0,none⟩))) (hBl:B < w.heap.size) (hn:xs.length<=4) (h1:1<=L) (hL:L<=1000000) (hxl:∀ x ∈ xs,rlen x<=L) (hp:PtN p) (hlv:p.nf.lv<=xs.length) (h:PlV w q p v) :
 Calls Tryz.prog 34 #[v,.pointer (some ⟨B,0,none⟩)] w (vc5 (sgQ (p.val (rho xs))) w):=by
 have hsg:sgI (xc9 xs p.nf xs.length).z=sgQ (p.val (rho xs)):=by
  obtain ⟨c,hc,e⟩:=xhx (xs:=xs) (ρ:=rho xs) p.nf_can xs.length (fun i hi=>vi6 xs i);have e2:=yi6 (qhj (xs:=xs) p.nf_can hn hlv) (rho xs);rw [Pl.nf_val] at e;rw [e2] at e;rw [<- zh8 hc,<- e];exact (yip _).symm
 rw [<- hsg];have HF:=Lib.hid hf;have HP:=Lib.hid h;obtain ⟨A0,n0,c0,A,c,rfl,-,-,-,-⟩:=h.open_;obtain ⟨W,hW⟩:=n_m (w.alloc (.cells #[.int .i64 p.lv,.bool p.neg,.slice A0 n0 c0,.slice A p.cs.length c] 30));have hWx:Ext w W:=by rw [<- hW]; exact (Ext.refl w).alloc _
 have hWs:W.heap.size=w.heap.size+1:=by rw [<- hW]; simp
 have hbx:yc3 W w.heap.size p (.slice A0 n0 c0) (.slice A p.cs.length c):=by rw [<- hW]; exact yc3.new w p _ _ _
 have HWX:=Lib.hid hWx;have HSS:Hid (∀ W',Ext W W'->W'.cell? ⟨B,0,none⟩=some (.pointer (some ⟨F,0,none⟩))/\yc3 W' w.heap.size p (.slice A0 n0 c0) (.slice A p.cs.length c)):=Lib.hid (fun W' hx=>⟨((hWx.trans hx).cell (p:=⟨B,0,none⟩) hBl).trans hB,hbx.ext hx (by omega)⟩);have HNO:=Lib.hid (fun (W':World) (hx:Ext W W')=>hp.1.2.2 W' q _ (HP.out.ext (HWX.out.trans hx)));have HSI:=Lib.hid (fun (W':World) (q':Nat->Prop) (v':Value) (hx:Ext W W') (hv:PlV W' q' p.nf v')=>yik (L:=L) (D:=5) p.nf v' (HF.out.ext (HWX.out.trans hx)) hn h1 hL hxl hp.2 (by omega) hlv hv);have Y0:=Lib.hid ((Ext.refl W).drew);clear hbx hWx hf h hsg hp hlv hB;generalize sgI (xc9 xs p.nf xs.length).z=sg at *;unfold plV;unfold plV at HNO;go_enter Tryz.func34,Tryz.ntmps34;go_upto_region 1 with fail
 try rw [hW]
 clear hW;refine wp_region_held_drew (S:=fun W'=>Ext W W') (by kernel_rfl) Y0.out (fun hHeld=>?_);refine tk 0 ?_ (hy:=Or.inl ⟨by rfl,by intro w' hSw; obtain ⟨k,b0,b1,b2,b3⟩:=HSS.out w' hSw; go_simp; (try (with_reducible rfl))⟩);refine tk 1 ?_ (hy:=Or.inl ⟨by rfl,by intro w' hSw; obtain ⟨k,b0,b1,b2,b3⟩:=HSS.out w' hSw; go_simp; (try (with_reducible rfl))⟩);refine r_1 2 fun K hK=>?_
 go_simp
 go_at_call 36
 refine (HNO.out _ Y0.out).mono ?_;rintro e w1 ⟨v1,rfl,hv1,x1⟩;have Y1:=Lib.hid (Y0.out.trans x1);have HS1:=Lib.hid (HSI.out _ _ _ Y1.out hv1);clear x1 hv1 HSI HNO;refine k_t hK Y1.out fun hHeld=>?_
 clear hK K;refine r_1 3 fun K hK=>?_
 go_simp
 go_at_call 35
 refine HS1.out.mono ?_;rintro e w2 ⟨rfl,x2⟩;have Y2:=Lib.hid (Y1.out.trans x2);clear x2 HS1;refine k_t hK Y2.out fun hHeld=>?_
 clear hK K;refine tk 4 ?_;refine w_d ?_;have X2:=Lib.hid (HWX.out.trans Y2.out);go_wp2_with fail;go_ret;exact ⟨rfl,X2.out⟩
theorem vh4 {w:World} {q:Nat->Prop} {base L:Nat} {xv:Value} {xs:List Rat} (h1:1<=L) (hL:L<=1000000) (hn:xs.length<=4) (hq:∀ x ∈ xs,rlen x<=L) (hxs:gc8 base w xv xs) (t:Mx) (v:Value) (hbig:t.sz<=1000000) (hP:t.each PtN) (h:MxV w q t v) :
 Calls Tryz.prog 14 #[v,xv] w (qhl (if t.lvl<=xs.length then (t.tv (rho xs),0) else (false,1)) w):=by
 have HH:=Lib.hid h;have HXS:=Lib.hid hxs;obtain ⟨Ax,cx,rfl,hx1,hx2⟩:=hxs.len;obtain ⟨A0,n0,c0,A,n1,c1,K,c,rfl,-,hl1,hl2,-⟩:=h.open_;obtain ⟨W,hW⟩:=n_m (w.alloc (.cells #[.int .i64 t.kind,.int .i64 t.rel,.int .i64 t.p.lv,.bool t.p.neg,.slice A0 n0 c0,.slice A n1 c1,.slice K t.ks.length c] 50));have hWx:Ext w W:=by rw [<- hW]; exact (Ext.refl w).alloc _
 have hWs:W.heap.size=w.heap.size+1:=by rw [<- hW]; simp
 have hbx:udd W w.heap.size t (.slice A0 n0 c0) (.slice A n1 c1) (.slice K t.ks.length c):=by rw [<- hW]; exact udd.new w t _ _ _ _
 have HBX:=Lib.hid hbx;have HWX:=Lib.hid hWx;obtain ⟨b0,b1,b2,b3,b4,b5,b6⟩:=hbx;have HLV:=Lib.hid (qhw t _ W hbig (Mx.each_mono (fun p hp=>hp.1) t hP) (HH.out.ext hWx));have HCK:=Lib.hid (fun (W':World) (hx:Ext W W')=>viv h1 hL hn hq (HXS.out.ext (HWX.out.trans hx)))
 have HTR:=Lib.hid (fun (w0:World) (B F:Nat) (va vd vt vl:Value) (nd nt nl base:Nat) (hxw:Ext w w0) (hf:ydc base F w0 xs va vd vt vl nd nt nl) (hB:w0.cell? ⟨B,0,none⟩=some (.pointer (some ⟨F,0,none⟩))) (hBl:B < w0.heap.size) (hlv:t.lvl<=(xs.length:Int)) =>
  kir (w0:=w0) (q:=q) (B:=B) (P:=PtN) (N:=xs.length) (ρ:=rho xs) (fun p v W' hp hl hv hx=>zhr (hf.ext hx) ((hx.cell (p:=⟨B,0,none⟩) hBl).trans hB) (Nat.lt_of_lt_of_le hBl hx.size) hn h1 hL hq hp hl (hv.ext hx)) (t.sz+1) t _ w0 (Nat.lt_succ_self _) hbig hP hlv (HH.out.ext hxw) (Ext.refl w0))
 clear h hxs hWx hq hP;unfold mxV at HLV HTR ⊢
 by_cases hlv:t.lvl<=(xs.length:Int)
 case neg =>
  have hgt:(xs.length:Int) < t.lvl:=by omega
  rw [if_neg hlv];clear hlv HTR HCK;go_enter Tryz.func14,Tryz.ntmps14;go_wp2_with fail;clear hW b0 b1 b2 b3 b4 b5 b6;refine HLV.out.mono ?_;rintro e w1 ⟨rfl,x1⟩;have X1:=Lib.hid x1;clear x1 HLV;have HX:=Lib.hid (HWX.out.trans X1.out);go_wp2_with fail
  go_ret2
  exact ⟨rfl,HX.out⟩
 rw [if_pos hlv];have hle:¬ (xs.length:Int) < t.lvl:=by omega
 have HT2:=Lib.hid (fun w0 B F va vd vt vl nd nt nl base a b c d=>HTR.out w0 B F va vd vt vl nd nt nl base a b c d hlv);have hd:decide ((xs.length:Int) < t.lvl)=false:=decide_eq_false hle;clear hlv HTR;go_enter Tryz.func14,Tryz.ntmps14;go_wp2_with fail;clear hW b0 b1 b2 b3 b4 b5 b6;refine HLV.out.mono ?_;rintro e w1 ⟨rfl,x1⟩;have X1:=Lib.hid x1;clear x1 HLV;go_wp2_with fail;refine (HCK.out _ X1.out).mono ?_;rintro e w2 ⟨F,va,vd,vt,vl,rfl,hfr,x2⟩;have hxa:Ext w2 (w2.alloc (.cells #[.pointer (some ⟨F,0,none⟩)] 80)):=(Ext.refl w2).alloc _;obtain ⟨V,hV⟩:=n_m (w2.alloc (.cells #[.pointer (some ⟨F,0,none⟩)] 80));have hVs:V.heap.size=w2.heap.size+1:=by rw [<- hV]; simp
 have hB:V.cell? ⟨w2.heap.size,0,none⟩=some (.pointer (some ⟨F,0,none⟩)):=by rw [<- hV]; simp [go_sem]
 rw [hV] at hxa;have HXV:=Lib.hid ((X1.out.trans x2).trans hxa);have HTV:=Lib.hid (HT2.out V _ _ _ _ _ _ _ _ _ _ (HWX.out.trans HXV.out) (hfr.ext hxa) hB (by omega));obtain ⟨b0,b1,b2,b3,b4,b5,b6⟩:=HBX.out.ext HXV.out (by omega);clear x2 hxa hfr HT2 HCK;generalize t.tv (rho xs)=tv at *;go_wp2_with fail
 try clear hV
 clear b0 b1 b2 b3 b4 b5 b6;refine HTV.out.mono ?_;rintro e w3 ⟨rfl,x3⟩;have X3:=Lib.hid (HWX.out.trans (HXV.out.trans x3));clear x3 HTV;go_wp2_with fail
 go_ret2
 exact ⟨rfl,X3.out⟩
end Go.Proofs.YtopddaabiinboaaGreat

/- Reference 40: Short, FewAt: points of a size that is looked at. -/
set_option maxRecDepth 100000
set_option maxHeartbeats 8000000
namespace Go.Proofs.YtopddaabiinboaaGreat
open Go.RowKit
structure Fr where
 neg:Bool
 ds:List Nat
 es:List Nat
def Fr.q (x:Fr):Rat:=mkRat (sgn x.neg (val x.ds)) (val x.es)
def khc (w:World) (v:Value) (l:List Fr):Prop:=
 ∃ A c,v=.slice A l.length c/\l.length<=c/\c<=9223372036854775807/\∀ j (h:j < l.length),∃ ad A1 c1 A2 c2,A=some ad/\ad.block < w.heap.size/\(w.cell? (ad.add (j * 3))=some (.bool l[j].neg)/\w.cell? ⟨(ad.add (j * 3)).block,(ad.add (j * 3)).off+1,none⟩=some (.slice A1 l[j].ds.length c1)/\w.cell? ⟨(ad.add (j * 3)).block,(ad.add (j * 3)).off+2,none⟩=some (.slice A2 l[j].es.length c2))/\vc2 w (.slice A1 l[j].ds.length c1) l[j].ds/\vc2 w (.slice A2 l[j].es.length c2) l[j].es
def Fr.short (x:Fr):Bool:=decide (x.ds.length<=3) && decide (x.es.length<=3)
def ydg (l:List Fr):Bool:=decide (l.length<=8) && l.all Fr.short
theorem khc.ext {w w':World} {v:Value} {l:List Fr} (h:khc w v l) (hx:Ext w w'):khc w' v l:=by
 obtain ⟨A,c,e,h1,h2,h3⟩:=h;refine ⟨A,c,e,h1,h2,fun j hj=>?_⟩;obtain ⟨ad,A1,c1,A2,c2,e,hb,⟨k0,k1,k2⟩,hr,hs⟩:=h3 j hj;have hb':(ad.add (j * 3)).block < w.heap.size:=by rw [uc2]; exact hb
 exact ⟨ad,A1,c1,A2,c2,e,Nat.lt_of_lt_of_le hb hx.size,⟨(hx.cell hb').trans k0,(hx.cell (p:=⟨(ad.add (j * 3)).block,(ad.add (j * 3)).off+1,none⟩) hb').trans k1,(hx.cell (p:=⟨(ad.add (j * 3)).block,(ad.add (j * 3)).off+2,none⟩) hb').trans k2⟩,hr.ext hx,hs.ext hx⟩
theorem khc.few {w:World} {v:Value} {l:List Fr} (h:khc w v l) (hf:ydg l=true):RsV w 3 v (l.map Fr.q):=by
 obtain ⟨A,c,e,h1,h2,h3⟩:=h;refine ⟨A,c,by rw [List.length_map]; exact e,by rw [List.length_map]; exact h1,h2,fun j hj=>?_⟩;rw [List.length_map] at hj;obtain ⟨ad,A1,c1,A2,c2,e,hb,hv,hr,hs⟩:=h3 j hj;have hall:l[j].short=true:=by
  unfold ydg at hf;simp only [Bool.and_eq_true,List.all_eq_true] at hf;exact hf.2 l[j] (List.getElem_mem hj)
 simp only [Fr.short,Bool.and_eq_true,decide_eq_true_eq] at hall;refine ⟨ad,_,A1,_,c1,A2,_,c2,e,hb,hv,?_⟩;rw [List.getElem_map];exact ⟨_,_,_,_,_,rfl,hr,hs,rfl,hall.1,hall.2⟩
theorem wiy (neg:Bool) (A1 A2:Option Addr) (n1 c1 n2 c2:Nat) (w:World):Calls Tryz.prog 38 #[.agg #[.bool neg,.slice A1 n1 c1,.slice A2 n2 c2]] w (ydd (decide (n1<=3) && decide (n2<=3)) w):=by
 by_cases h1:n1<=3
 · have hv:(decide (n1<=3) && decide (n2<=3))=decide (n2<=3):=by simp [h1]
   rw [hv];have hd:decide ((n1:Int)<=3)=true:=by simp; omega
   have hd2:decide ((n2:Int)<=3)=decide (n2<=3):=by simp; omega
   have HD:=Lib.hid hd2;clear hv hd2;go_enter Tryz.func38,Tryz.ntmps38;go_wp2_with fail;go_ret;exact ⟨by first | rfl | (rw [<- HD.out]; rfl),(Ext.refl w).alloc _⟩
 · have hv:(decide (n1<=3) && decide (n2<=3))=false:=by simp [h1]
   rw [hv];have hd:decide ((n1:Int)<=3)=false:=by simp; omega
   clear hv;go_enter Tryz.func38,Tryz.ntmps38;go_wp2_with fail;go_ret;exact ⟨rfl,(Ext.refl w).alloc _⟩
theorem uik (l:List Fr) (k:Nat) (hk:k < l.length) (h:l[k].short=false):ydg l=false:=by
 unfold ydg;rw [Bool.and_eq_false_iff];refine .inr (List.all_eq_false.2 ⟨l[k],List.getElem_mem hk,?_⟩);rw [h]; simp
theorem gik {w:World} {v:Value} {l:List Fr} (h:khc w v l):Calls Tryz.prog 17 #[v] w (ydd (ydg l) w):=by
 have H:=Lib.hid h;obtain ⟨A,c,rfl,h1,h2,-⟩:=h;have hlen:l.length<=9223372036854775807:=by omega
 go_enter Tryz.func17,Tryz.ntmps17;go_wp2_with fail
 go_loopw [6] (fun iv wr=>∃ k:Nat,k<=l.length/\k<=8/\iv=.int .i64 k/\Hid ((l.take k).all Fr.short=true/\Ext w wr)) (fun iv _=>l.length - (intOf iv).toNat)
 case atStart=>exact ⟨0,Nat.zero_le _,by omega,rfl,⟨by simp,Ext.refl w⟩⟩
 case round =>
  obtain ⟨k,hk,hk8,rfl,⟨hall,hx⟩⟩:=hrel;have HA:=Lib.hid hall;have HX:=Lib.hid hx;clear hall hx
  by_cases hlt:k < l.length
  · by_cases h8:8<=k
    · have hd8:decide ((8:Int)<=(k:Int))=true:=by simp; omega
      have HF:Hid (ydg l=false):=by
       have:ydg l=false:=by unfold ydg; simp; omega
       exact this
      go_wp2_with fail;go_ret;exact ⟨by rw [HF.out]; rfl,HX.out⟩
    · have hd8:decide ((8:Int)<=(k:Int))=false:=by simp; omega
      obtain ⟨A',c',e',-,-,h3⟩:=H.out.ext HX.out;injection e' with e1 e2 e3
      obtain ⟨ad,A1,c1,A2,c2,e4,hb,⟨a0,a1,a2⟩,hr1,hr2⟩:=h3 k hlt;obtain rfl:A=some ad:=e1.trans e4;clear h3 e1 e3 e4 hr1 hr2;have HOK:Hid (l[k].short=(decide (l[k].ds.length<=3) && decide (l[k].es.length<=3))):=rfl;have HBAD:Hid (l[k].short=false->ydg l=false):=uik l k hlt;have HTK:Hid ((l.take (k+1)).all Fr.short=((l.take k).all Fr.short && l[k].short)):=by
       have:(l.take (k+1)).all Fr.short=((l.take k).all Fr.short && l[k].short):=by rw [List.take_succ_eq_append_getElem hlt,List.all_append]; simp
       exact this
      generalize l[k].neg=ng at *;generalize l[k].ds.length=n1 at *;generalize l[k].es.length=n2 at *;generalize l[k].short=okk at *;have HS:=Lib.hid (wiy ng A1 A2 n1 c1 n2 c2 wr)
      by_cases hs:(decide (n1<=3) && decide (n2<=3))=true
      · rw [hs] at HS;have hok:okk=true:=by rw [HOK.out,hs]
        have HN:Hid ((l.take (k+1)).all Fr.short=true):=by
         have:(l.take (k+1)).all Fr.short=true:=by rw [HTK.out,HA.out,hok]; rfl
         exact this
        clear hs hok;go_wp2_with fail;refine HS.out.mono ?_;rintro e w2 ⟨rfl,x2⟩;have X2:=Lib.hid x2;clear x2 a0 a1 a2 HS;go_wp2_with fail
        go_roundw
        case rel=>exact ⟨k+1,by omega,by omega,by go_num,⟨HN.out,HX.out.trans X2.out⟩⟩
        case measure=>simp [intOf]; omega
      · have hs':(decide (n1<=3) && decide (n2<=3))=false:=by simpa using hs
        rw [hs'] at HS;have HF:Hid (ydg l=false):=by
         have:ydg l=false:=HBAD.out (by rw [HOK.out,hs']);exact this
        clear hs hs';go_wp2_with fail;refine HS.out.mono ?_;rintro e w2 ⟨rfl,x2⟩;have X2:=Lib.hid x2;clear x2 a0 a1 a2 HS;go_wp2_with fail;go_ret;exact ⟨by rw [HF.out]; rfl,HX.out.trans X2.out⟩
  · have HF:Hid (ydg l=true):=by
     have hke:k=l.length:=by omega
     have hA:=HA.out;rw [hke,List.take_length] at hA;have:ydg l=true:=by
      unfold ydg;rw [Bool.and_eq_true];exact ⟨by simp; omega,hA⟩
     exact this
    go_wp2_with fail;go_ret;exact ⟨by rw [HF.out]; rfl,HX.out⟩
end Go.Proofs.YtopddaabiinboaaGreat

/- Layer 40: awake: x < 3 at x = 2. -/
set_option maxRecDepth 100000
set_option maxHeartbeats 8000000
namespace Go.Proofs.YtopddaabiinboaaGreat
open Go.RowKit
def xx:ByteArray:=⟨#[120]⟩
def f3:Fm:=.atom (.name xx) 1 (.num 3)
theorem yi3:f3.free=[xx]:=by simp [f3,Fm.free,Fm.fold,Tm.fold,zdg,has]
theorem jiu:zdd (vc8 [(xx,2)]) f3.free=true:=by rw [yi3]; simp [zdd,vc8]
theorem ui8:f3.pre.any Fm.bad=false:=by
 have h:ygu 3=1:=whc (by decide);simp [f3,Fm.pre,Fm.bad,Tm.large,Tm.deg,Tm.wt,h,qdb]
theorem wja:f3.tv (vc8 [(xx,2)])=true:=by
 simp [f3,Fm.tv,Tm.val,vc8,jdg,vg2]
 decide
theorem xi3:udj f3 [(xx,2)]=(true,0):=by
 unfold udj;rw [if_neg (by simp [f3,Fm.bound]),if_neg (by rw [jiu]; simp),if_neg (by rw [ui8]; simp),wja]
theorem qip:rlen (2:Rat)<=1:=by
 have h:(dg 2).length=1:=by rw [ugy (by decide) (by decide)]; rfl
 have:=zdi 2 (L:=1) (by show (dg 2).length<=1; omega) (by omega);simpa using this
theorem gib {W:World} {v:Value} {b1:Bool} {A1 B1:Option Addr} {n1 c1 k1 d1:Nat} (m1:uc7 W (.agg #[.bool b1,.slice A1 n1 c1,.slice B1 k1 d1]) ((2:Int):Rat)) (hf:FmV W 1 f3 v) :
 Calls Tryz.prog 20 #[v,.slice (some ⟨W.heap.size,0,none⟩) 1 1] (W.alloc (.cells #[.string ⟨#[120]⟩,.bool b1,.slice A1 n1 c1,.slice B1 k1 d1] 70)) (qhl (true,0) (W.alloc (.cells #[.string ⟨#[120]⟩,.bool b1,.slice A1 n1 c1,.slice B1 k1 d1] 70))):=by
 rw [<- xi3];have hx:Ext W (W.alloc (.cells #[.string ⟨#[120]⟩,.bool b1,.slice A1 n1 c1,.slice B1 k1 d1] 70)):=(Ext.refl W).alloc _;refine xhk (L:=1) (vals:=[(xx,2)]) (by omega) (by omega) f3 (hf.ext hx) ?_ rfl (by simp [f3,Fm.sz,Tm.sz]) (fun _ _ _=>?_)
 · refine ⟨_,1,rfl,by simp,by simp,fun j hj=>?_⟩;have:j=0:=by simp at hj; omega
   subst this;refine ⟨_,b1,A1,n1,c1,B1,k1,d1,rfl,by simp,?_,?_⟩
   · rw [zc9];refine ⟨?_,?_,?_,?_⟩ <;> simp [go_sem,xx]
   · have h2:(((2:Int):Rat))=2:=by rfl
     rw [h2] at m1;exact (m1.raw.mono qip).ext hx
 · refine ⟨⟨?_,?_⟩,⟨trivial,?_⟩⟩
   · simp [Tm.covered,vc8]
   · simp [Tm.bt]
   · simp [Tm.bt]
theorem yg4 (w:World):Calls Tryz.prog 5 #[] w (ydd true w):=by
 go_enter Tryz.func5,Tryz.ntmps5;go_wp2_with fail;obtain ⟨W,hW⟩:=n_m ((w.alloc (.cells #[.int .u32 3] 61)).alloc (.cells #[.iface 60 (.agg #[.string ⟨#[120]⟩]),.int .i64 1,.iface 63 (.agg #[.bool false,.slice (some ⟨w.heap.size,0,none⟩) 1 1])] 67));have hWx:Ext w W:=by rw [<- hW]; exact ((Ext.refl w).alloc _).alloc _
 have hWs:W.heap.size=w.heap.size+1+1:=by rw [<- hW]; simp
 have hd:W.cell? ⟨w.heap.size,0,none⟩=some (.int .u32 3):=by rw [<- hW]; simp [go_sem]
 have HB:Hid (∀ W',Ext W W'->(Ext W W'/\W'.cell? ⟨w.heap.size+1,0,none⟩=some (.iface 60 (.agg #[.string ⟨#[120]⟩]))/\W'.cell? ⟨w.heap.size+1,1,none⟩=some (.int .i64 1)/\W'.cell? ⟨w.heap.size+1,2,none⟩=some (.iface 63 (.agg #[.bool false,.slice (some ⟨w.heap.size,0,none⟩) 1 1])))):=by
  intro W' hx;obtain ⟨hc,hf⟩:=hx.cells;refine ⟨hx,?_,?_,?_⟩ <;> (rw [hc _ _ (by omega),<- hW]; simp [go_sem])
 have HFV:Hid (FmV W 1 f3 (.iface 67 (.agg #[.iface 60 (.agg #[.string ⟨#[120]⟩]),.int .i64 1,.iface 63 (.agg #[.bool false,.slice (some ⟨w.heap.size,0,none⟩) 1 1])]))):=by
  refine ⟨_,_,rfl,rfl,⟨_,rfl,false,_,[3],rfl,⟨some ⟨w.heap.size,0,none⟩,1,rfl,by simp,by simp,?_,?_⟩,?_,by simp⟩⟩
  · exact uc3.cons (by decide) uc3.nil
  · intro _;refine ⟨_,rfl,by show w.heap.size < _; omega,fun j hj=>?_⟩;have:j=0:=by simp at hj; omega
    subst this;rw [zc9]; exact hd
  · simp [sgn,val]
 have HWX:=Lib.hid hWx;rw [hW];clear hW hd hWx hWs;have y0:Ext W W.drew:=(Ext.refl W).drew;have Y0:=Lib.hid y0;clear y0
 go_region_held3 (fun W' => Ext W W' /\ W'.cell? ⟨w.heap.size + 1, 0, none⟩ = some (.iface 60 (.agg #[.string ⟨#[120]⟩])) /\ W'.cell? ⟨w.heap.size + 1, 1, none⟩ = some (.int .i64 1) /\ W'.cell? ⟨w.heap.size + 1, 2, none⟩ = some (.iface 63 (.agg #[.bool false, .slice (some ⟨w.heap.size, 0, none⟩) 1 1])))
  (first | with_reducible exact HB.out _ Y0.out | with_reducible exact HB.out _ y1 | with_reducible exact HB.out _ (y1.alloc _) | with_reducible exact HB.out _ y2)
  (first
    | (go_at_call 11
       refine (gg5 2 _ (by omega) (by omega)).mono ?_;rintro e v1 ⟨z1,rfl,m1,x1⟩;obtain ⟨b1,A1,n1,c1,B1,k1,d1,rfl⟩:=m1.unpack
       have y1:Ext W v1:=Ext.trans Y0.out x1)
    | (go_at_call 20
       refine (gib m1 (HFV.out.ext y1)).mono ?_;rintro e v2 ⟨rfl,x2⟩
       have y2:Ext W v2:=Ext.trans (y1.alloc _) x2))
 all_goals
  have X2:=Lib.hid (HWX.out.trans y2);clear y1 y2 x1 x2 m1 HB HWX Y0 HFV;go_wp2_with fail;refine (vg4 1 (-5) _).mono ?_;rintro e w3 ⟨rfl,rfl⟩;go_wp2_with fail;go_ret;exact ⟨rfl,X2.out⟩
end Go.Proofs.YtopddaabiinboaaGreat

/- Law 40: EvaluatePoints answers true. -/
set_option maxRecDepth 100000
set_option maxHeartbeats 8000000
namespace Go.Proofs.YtopddaabiinboaaGreat
open Go.RowKit
theorem qhr {w:World} {q:Nat->Prop} {xv:Value} {l:List Fr} (t:Mx) (v:Value) (h:MxV w q t v) (hx:khc w xv l):Calls Tryz.prog 4 #[v,xv] w (ydd true w):=by
 have HT:=Lib.hid h;have HXS:=Lib.hid hx;obtain ⟨A0,n0,c0,A,n1,c1,K,c,rfl,-,hl1,hl2,-⟩:=h.open_;obtain ⟨XA,Xc,rfl,hx1,hx2,-⟩:=id hx;clear h hx;unfold mxV;unfold mxV at HT;obtain ⟨W,hW⟩:=n_m (w.alloc (.cells #[.int .i64 t.kind,.int .i64 t.rel,.int .i64 t.p.lv,.bool t.p.neg,.slice A0 n0 c0,.slice A n1 c1,.slice K t.ks.length c] 50));have hWx:Ext w W:=by rw [<- hW]; exact (Ext.refl w).alloc _
 have hWs:W.heap.size=w.heap.size+1:=by rw [<- hW]; simp
 have hbx:udd W w.heap.size t (.slice A0 n0 c0) (.slice A n1 c1) (.slice K t.ks.length c):=by rw [<- hW]; exact udd.new w t _ _ _ _
 have HBX:=Lib.hid hbx;have HWX:=Lib.hid hWx;clear hWx hbx;go_enter Tryz.func4,Tryz.ntmps4;go_wp2_with fail;clear hW;refine (yg4 _).mono ?_;rintro e w1 ⟨rfl,x1⟩;have hx1':=HWX.out.trans x1;obtain ⟨b0,b1,b2,b3,b4,b5,b6⟩:=HBX.out.ext x1 (by omega);have HB1:=Lib.hid (HBX.out.ext x1 (by omega));have hz1:=x1.size;have HFE:=Lib.hid (vik 60 (by omega) t _ w1 (HT.out.ext hx1'));have X1:=Lib.hid hx1';clear x1 hx1';go_wp2_with fail;clear b0 b1 b2 b3 b4 b5 b6;refine HFE.out.mono ?_;rintro e w2 ⟨rfl,x2⟩;have hz2:=x2.size;have HB2:=Lib.hid (HB1.out.ext x2 (by omega));have X2:=Lib.hid (X1.out.trans x2);have HFA:=Lib.hid (gik (HXS.out.ext (X1.out.trans x2)));clear x2 HFE
 by_cases hf:t.few 60=true
 case neg =>
  have hf':t.few 60=false:=by simpa using hf
  rw [hf'];clear hf hf' HFA;go_wp2_with fail;refine (yg4 _).mono ?_;rintro e w9 ⟨rfl,x9⟩;have X9:=Lib.hid (X2.out.trans x9);clear x9;go_wp2_with fail;go_ret;exact ⟨rfl,X9.out⟩
 rw [hf];go_wp2_with fail;refine HFA.out.mono ?_;rintro e w3 ⟨rfl,x3⟩;have hz3:=x3.size;have HB3:=Lib.hid (HB2.out.ext x3 (by omega));have X3:=Lib.hid (X2.out.trans x3);clear x3 HFA
 by_cases hg:ydg l=true
 case neg =>
  have hg':ydg l=false:=by simpa using hg
  rw [hg'];clear hf hg hg';go_wp2_with fail;refine (yg4 _).mono ?_;rintro e w9 ⟨rfl,x9⟩;have X9:=Lib.hid (X3.out.trans x9);clear x9;go_wp2_with fail;go_ret;exact ⟨rfl,X9.out⟩
 rw [hg]
 by_cases hn4:(4:Int) < (l.length:Int)
 case pos =>
  clear hf hg;go_wp2_with fail;refine (yg4 _).mono ?_;rintro e w9 ⟨rfl,x9⟩;have X9:=Lib.hid (X3.out.trans x9);clear x9;go_wp2_with fail;go_ret;exact ⟨rfl,X9.out⟩
 have hn4':(l.length:Int)<=4:=by omega
 obtain ⟨hsz,hsm⟩:=Mx.few_le hf;have hdig:=HT.out.dig;obtain ⟨xs,hxs⟩:=n_m (l.map Fr.q);have hlen:xs.length=l.length:=by rw [<- hxs,List.length_map]
 have hrs:RsV w 3 (.slice XA l.length Xc) xs:=by rw [<- hxs]; exact HXS.out.few hg
 have hrl:∀ x ∈ xs,rlen x<=3:=fun x hx=>by
  obtain ⟨i,hi,rfl⟩:=List.getElem_of_mem hx;obtain ⟨A',c',-,-,-,h3⟩:=hrs;obtain ⟨ad,bb,A1,n1,c1,A2,n2,c2,-,-,-,hr⟩:=h3 i hi;exact hr.rlen_le (by omega)
 have hpn:t.each PtN:=Mx.each_mono (fun p hp=>⟨hp.2,Fit.of_raw hp.1.2 hp.1.1.1 hp.1.1.2 (by decide)⟩) t (t.each_and (t.each_and (t.small_each hsm) hdig) (Mx.small_bigN hsm));have HRS:=Lib.hid hrs;have hat:=fun (W':World) (hx:Ext w W')=>qi2 (L:=3) (by omega) (by omega) (hrs.ext hx) t _ (by omega) hsm (Mx.small_fit hsm) (HT.out.ext hx)
 have hof:=fun (W':World) (hx:Ext w W')=>uip (L:=3) (by omega) (by omega) (by omega) (hrs.ext hx)
 have hap:=fun (W':World) (base:Nat) (pv:Value) (hx:Ext w W') (hc:gc8 base W' pv xs)=>vh4 (L:=3) (by omega) (by omega) (by omega) hrl hc t _ (by omega) hpn (HT.out.ext hx)
 obtain ⟨ra,ha,rb,hb,hok⟩:∃ ra,(if t.lvl<=(xs.length:Int) then (t.tv (rho xs),(0:Int)) else (false,4))=ra/\∃ rb,(if t.lvl<=(xs.length:Int) then (t.tv (rho xs),(0:Int)) else (false,1))=rb/\((ra.2=0/\rb.2=0/\rb.1=ra.1)\/(ra.2=4/\rb.2=1/\rb.1=false)):=by
  refine ⟨_,rfl,_,rfl,?_⟩
  split
  · exact .inl ⟨rfl,rfl,rfl⟩
  · exact .inr ⟨rfl,rfl,rfl⟩
 rw [ha] at hat;rw [hb] at hap;have HAT:=Lib.hid hat;have HOF:=Lib.hid hof;have HAP:=Lib.hid hap;have HOK:=Lib.hid hok;clear hf hg hn4 hxs hrs hdig hrl hpn hat hof hap ha hb hok hlen;obtain ⟨a1,a2⟩:=ra;obtain ⟨r1,r2⟩:=rb;obtain ⟨b0,b1,b2,b3,b4,b5,b6⟩:=HB3.out;go_wp2_with fail;clear b0 b1 b2 b3 b4 b5 b6;refine (HAT.out _ X3.out).mono ?_;rintro e w5 ⟨rfl,x5⟩;have hz5:=x5.size;have HB5:=Lib.hid (HB3.out.ext x5 (by omega));have X5:=Lib.hid (X3.out.trans x5);have HSB:Hid (∀ W',Ext w5 W'->udd W' w.heap.size t (.slice A0 n0 c0) (.slice A n1 c1) (.slice K t.ks.length c)):=Lib.hid (fun W' hx=>HB5.out.ext hx (by omega));have Y0:=Lib.hid ((Ext.refl w5).drew);clear x5 HAT;go_upto_region 4 with fail;refine wp_region_held_drew (S:=fun W'=>Ext w5 W') (by kernel_rfl) Y0.out (fun hHeld=>?_);refine tk 0 ?_ (hy:=Or.inl ⟨by rfl,by intro w' hSw; obtain ⟨b0,b1,b2,b3,b4,b5,b6⟩:=HSB.out w' hSw; go_simp; (try (with_reducible rfl))⟩);refine tk 1 ?_;refine r_1 2 fun K hK=>?_
 go_simp
 go_at_call 19
 refine (HOF.out _ (X5.out.trans Y0.out)).mono ?_;rintro e w6 ⟨v6,rfl,hc6,x6⟩;have Y1:=Lib.hid (Y0.out.trans x6);have HA6:=Lib.hid (HAP.out _ _ _ (X5.out.trans Y1.out) hc6);clear x6 hc6 HAP HOF;refine k_t hK Y1.out fun hHeld=>?_
 clear hK K;refine r_1 3 fun K hK=>?_
 go_simp
 go_at_call 14
 refine HA6.out.mono ?_;rintro e w7 ⟨rfl,x7⟩;have Y2:=Lib.hid (Y1.out.trans x7);clear x7 HA6;refine k_t hK Y2.out fun hHeld=>?_
 clear hK K;refine tk 4 ?_;refine tk 5 ?_;refine tk 6 ?_;refine tk 7 ?_;refine tk 8 ?_;refine w_d ?_;have X7:=Lib.hid (X5.out.trans Y2.out);clear hHeld Y1 Y2 Y0 HSB;rcases HOK.out with ⟨e1,e2,e3⟩ | ⟨e1,e2,e3⟩
 · try simp only at e1 e2 e3
   subst e1 e2 e3;go_wp2_with fail;go_ret;exact ⟨by simp,X7.out⟩
 · try simp only at e1 e2 e3
   subst e1 e2 e3;go_wp2_with fail;go_ret;exact ⟨by first | rfl | simp,X7.out⟩
end Go.Proofs.YtopddaabiinboaaGreat

/- Reading the arguments: a row of fractions that came in. -/
set_option maxRecDepth 100000
set_option maxHeartbeats 8000000
namespace Go.Proofs.YtopddaabiinboaaGreat
open Go.ChangeShapes Go.WideShapes Go.RowKit
section
variable {H:Type} {enc:TypeId × Value->H} {w:World} {sp:Nat->Bool} {held:Bool}
theorem zin {fuel:Nat} {cs:List Value} {x:DataW H × List MemPlace} (h:DataW.trod enc Tryz.prog w 0 sp held fuel 37 cs=some x):∃ neg A ds c B es d,cs=[.bool neg,.slice A ds.length c,.slice B es.length d]/\vc2 w (.slice A ds.length c) ds/\vc2 w (.slice B es.length d) es:=by
 obtain ⟨xs,n,rfl,-,hl,hx,hf⟩:=DataW.trod_struct Tryz.underlying37 h;have hl2:cs.length=3:=hl.trans (by kernel_rfl);have hx2:xs.length=2:=hx;obtain ⟨c0,c1,c2,rfl⟩:=jia hl2;obtain ⟨x0,x1,rfl⟩:=kia hx2;have f0:DataW.trod enc Tryz.prog w 0 sp held n 27 ((List.drop 0 [c0,c1,c2]).take (Tryz.prog.cellsOf 27))=some x0:=hf 0 _ rfl;have f1:DataW.trod enc Tryz.prog w 0 sp held n 25 ((List.drop 2 [c0,c1,c2]).take (Tryz.prog.cellsOf 25))=some x1:=hf 1 _ rfl;rw [show Tryz.prog.cellsOf 27=2 by kernel_rfl] at f0;rw [show Tryz.prog.cellsOf 25=1 by kernel_rfl] at f1;simp only [List.drop_zero,List.drop_succ_cons,List.take_succ_cons,List.take_zero,List.getElem?_cons_zero,List.getElem?_cons_succ] at f0 f1;obtain ⟨neg,A,ds,c,e,hn⟩:=zho f0;obtain ⟨B,es,d,e1,hn1⟩:=whr f1;simp only [List.cons.injEq,and_true] at e e1;exact ⟨neg,A,ds,c,B,es,d,by rw [e.1,e.2,e1],hn,hn1⟩
theorem kh9 {r:Reach} {b0:Nat} {v:Value} {d:DataW H} {ps:List MemPlace} (hval:Value.okWide Tryz.prog w r b0 53 v) (h:DataW.Trod enc Tryz.prog w 0 sp held 53 v d ps):∃ l,khc w v l:=by
 obtain ⟨fuel,h⟩:=h;obtain ⟨A,n,c,rfl⟩:=okWide_slice Tryz.underlying53 hval;simp only [Value.cells] at h;rcases DataW.trod_slice Tryz.underlying53 h with ⟨e8,-⟩ | ⟨a,len,cap,elems,rest,n',hfu,e8,-,-,hlc,hcm,hel,hat,-⟩
 · simp only [List.cons.injEq,and_true] at e8;rw [e8];exact ⟨[],none,0,rfl,by simp,by omega,fun j hj=>absurd hj (by simp)⟩
 · simp only [List.cons.injEq,and_true] at e8;rw [e8];rw [show Tryz.prog.cellsOf 37=3 by kernel_rfl] at hat;have each:∀ i:Nat,∃ r:Fr,i < len->∃ A1 c1 A2 c2,a.block < w.heap.size/\(w.cell? (a.add (i * 3))=some (.bool r.neg)/\w.cell? ⟨(a.add (i * 3)).block,(a.add (i * 3)).off+1,none⟩=some (.slice A1 r.ds.length c1)/\w.cell? ⟨(a.add (i * 3)).block,(a.add (i * 3)).off+2,none⟩=some (.slice A2 r.es.length c2))/\vc2 w (.slice A1 r.ds.length c1) r.ds/\vc2 w (.slice A2 r.es.length c2) r.es:=by
    intro i
    by_cases hi:i < len
    · have h1:=hat i hi;rw [List.getElem?_eq_getElem (by omega)] at h1;obtain ⟨cs',hc,ht⟩:=Option.bind_eq_some_iff.1 h1;obtain ⟨neg,A1,ds,c1,A2,es,c2,rfl,h2,h3⟩:=zin ht;have hcc:=(World.cells?_some hc).2.2;have k0:=hcc 0 (by omega);have k1:=hcc 1 (by omega);have k2:=hcc 2 (by omega);rw [xg4] at k0;rw [xhc] at k1 k2;have hb:=cell_lt k0;rw [uc2] at hb;exact ⟨⟨neg,ds,es⟩,fun _=>⟨A1,c1,A2,c2,hb,⟨k0,k1,k2⟩,h2,h3⟩⟩
    · exact ⟨⟨false,[],[]⟩,fun h=>absurd h hi⟩
   refine ⟨(List.range len).map (fun i=>Classical.choose (each i)),some a,cap,by simp,by simpa using hlc,by unfold maxLen at hcm; omega,fun j hj=>?_⟩;simp only [List.length_map,List.length_range] at hj;obtain ⟨A1,c1,A2,c2,h1,h2,h3,h4⟩:=Classical.choose_spec (each j) hj;simp only [List.getElem_map,List.getElem_range];exact ⟨a,A1,c1,A2,c2,rfl,h1,h2,h3,h4⟩
end
end Go.Proofs.YtopddaabiinboaaGreat
