/- The builtin append where the two slices' types have different names. -/
import Derived.Test.YtopddaabiinboaaGreatMp0
import Derived.Maps.AppendAt
import Derived.Deep.RegionLawGrows
import Derived.RangeFuncBox
import Derived.Test.YtopddaabiinboaaGreatMp1
set_option linter.unusedSimpArgs false
set_option linter.unusedVariables false

namespace Go.Proofs.YtopddaabiinboaaGreat
open Go.RowKit
section
variable {P:Program} {w:World}
theorem wpList_append_run {ops : Array Oper} {rest : List Oper} {o : Oper} {a : Act} {Q : Exit -> Act -> World -> Prop} (hgd : o.guard = none) (s x : Operand) (t t' : TypeId)
 (ho:o.op=.call { callee:=.builtin .append,args:=#[s,x],argTypes:=#[t,t'] }) (vs vx v':Value) (w':World) (hs:a.eval s=vs) (hx:a.eval x=vx) (hr:(Builtin.append_ #[t,t'] o.type #[vs,vx]).run P w=.ok v' w')
 (h:wpList P ops Q rest (a.put o.dst v') w'):wpList P ops Q (o :: rest) a w:=by
 refine wpList_plain hgd fun K hK=>?_
 unfold Oper.wp execOp;simp only [ho,resolve,invoke,builtin,Sem.run_bind,Sem.run_pure,Result.andThen_ok,List.map_toArray,List.map_cons,List.map_nil,hs,hx,hr];exact hK _ _ h
theorem kgw {ops : Array Oper} {o : Oper} {a : Act} {K : Act -> World -> Prop} {Q : Exit -> Act -> World -> Prop} {E : Prop} (hg : o.guard = none) (s x : Operand) (t t' : TypeId)
 (hop:o.op=.call { callee:=.builtin .append,args:=#[s,x],argTypes:=#[t,t'] }) (vs vx v':Value) (w':World) (hs:a.eval s=vs) (hx:a.eval x=vx) (hr:(Builtin.append_ #[t,t'] o.type #[vs,vx]).run P w=.ok v' w')
 (hK:K (a.put o.dst v') w'):if Region.wanted o (yielded ops a.tmps)=true then Oper.wp P o a w K Q else E:=by
 have hw:Region.wanted o (yielded ops a.tmps)=true:=by simp [Region.wanted,hg]
 rw [if_pos hw];unfold Oper.wp;simp [execOp,hop,resolve,invoke,builtin,hs,hx,hr,Result.andThen];exact hK
end
end Go.Proofs.YtopddaabiinboaaGreat

/- Growing rows of the call's own, of any type of element that holds no digits. -/
set_option maxRecDepth 100000
set_option maxHeartbeats 8000000
namespace Go.Proofs.YtopddaabiinboaaGreat
open Go.RowKit
theorem whv {w:World} {base base' size n:Nat} {e:TypeId} {v:Value} {xs:List Value} (h:w.ownsRow base e size v n xs) (hb:base'<=base):w.ownsRow base' e size v n xs:=by
 obtain ⟨h1,h2⟩:=h;refine ⟨h1,?_⟩;rcases h2 with h2 | ⟨g,cap,cur,e1,e2,e3⟩
 · exact .inl h2
 · exact .inr ⟨g,cap,cur,e1,Nat.le_trans hb e2,e3⟩
def jhd (W:World) (v:Value):Prop:=∀ R cur T fr,v.ownBlock=some R->W.heap[R]?=some (.cells cur T fr)->∀ u ∈ cur.toList,gc6 u=false
theorem zhj {W W':World} {v s:Value} {ds:List Nat} (h:vc2 W s ds) (hg:W.grownBy W' v.ownBlock) (hn:jhd W v) (hr:∀ R,v.ownBlock=some R->∃ cur T fr,W.heap[R]?=some (.cells cur T fr)):vc2 W' s ds:=by
 obtain ⟨A,c,e,h1,h2,h3,h4⟩:=h;refine ⟨A,c,e,h1,h2,h3,fun hd=>?_⟩;obtain ⟨ad,e4,hlt,hc⟩:=h4 hd;refine ⟨ad,e4,Nat.lt_of_lt_of_le hlt hg.size,fun j hj=>?_⟩;have hne:v.ownBlock ≠ some ad.block:=fun e=>by
  obtain ⟨cur,T,fr,hb⟩:=hr _ e;have h0:=hc 0 hd;rw [World.cell?,uc2,hb] at h0;have hmem:∃ k:Nat,cur[k]?=some (.int .u32 (ds[0]:Nat)):=by
   revert h0
   simp only
   split <;> intro h0
   · cases h0
   · exact ⟨_,h0⟩
  obtain ⟨k,hk⟩:=hmem;have:=hn _ _ _ _ e hb (.int .u32 (ds[0]:Nat)) (by
   obtain ⟨hk1,hk2⟩:=Array.getElem?_eq_some_iff.1 hk
   rw [<- hk2]; simp)
  cases this
 exact (World.cell?_of_block (a:=ad.add j) (by rw [uc2]; exact World.grownBy.block hg _ hlt (fun e=>hne e.symm))).trans (hc j hj)
theorem qhf {W:World} {base size n:Nat} {e:TypeId} {v:Value} {xs:List Value} (h:W.ownsRow base e size v n xs):∀ R,v.ownBlock=some R->∃ cur T fr,W.heap[R]?=some (.cells cur T fr):=by
 intro R hR;obtain ⟨-,⟨rfl,-⟩ | ⟨g,cap,cur,rfl,-,hg,-⟩⟩:=h
 · cases hR
 · have:g=R:=by simpa [Value.ownBlock] using hR
   subst this;exact ⟨cur,_,_,hg⟩
theorem jhd.ext {W W':World} {v:Value} (h:jhd W v) (hx:∀ R,v.ownBlock=some R->W'.heap[R]?=W.heap[R]?):jhd W' v:=fun R cur T fr e hb=>h R cur T fr e ((hx R e).symm.trans hb)
structure jg4 (S T : TypeId) (k bytes : Nat) (Z : Value) : Prop where
 und:Tryz.prog.underlying S=some (.slice T)
 info:(Tryz.prog.info? T).map (fun i=>(i.zero,i.size,i.bytes))=some (some Z,k,bytes)
 cells:Z.cells.size=k
 pos:0 < k
 nodig:∀ u ∈ Z.cells.toList,gc6 u=false
theorem kh0 {S T:TypeId} {k bytes:Nat} {Z:Value} (R:jg4 S T k bytes Z) (n:Nat):∀ u ∈ (Builtin.zeroCells Z.cells n).toList,gc6 u=false:=by
 intro u hu;unfold Builtin.zeroCells at hu;simp only [Array.toList_map,List.mem_map] at hu;obtain ⟨i,-,rfl⟩:=hu;have hp:=R.pos;have hlt:i % Z.cells.size < Z.cells.size:=Nat.mod_lt _ (by rw [R.cells]; exact hp);rw [getElem!_pos Z.cells (i % Z.cells.size) hlt];exact R.nodig _ (by simp)
def zc8 (T k base:Nat) (W:World) (v:Value) (n:Nat) (xs:List Value):Prop:=W.ownsRow base T k v n xs/\jhd W v
theorem zc8.nil (T k base:Nat) (W:World):zc8 T k base W (.slice none 0 0) 0 []:=⟨World.ownsRow_nil _ _ _ _,fun R _ _ _ e=>by cases e⟩
section
variable {T k base base':Nat} {W W':World} {v:Value} {n:Nat} {xs:List Value}
theorem zc8.own (h:zc8 T k base W v n xs) {R:Nat} (hR:v.ownBlock=some R):base<=R/\R < W.heap.size:=World.ownsRow.lt h.1 R hR
theorem zc8.less (h:zc8 T k base W v n xs) (hb:base'<=base):zc8 T k base' W v n xs:=⟨whv h.1 hb,h.2⟩
theorem zc8.len (h:zc8 T k base W v n xs):∃ A c,v=.slice A n c/\n<=c/\c<=9223372036854775807:=by
 obtain ⟨h3,⟨rfl,h0⟩ | ⟨g,cap,cur,rfl,hb,hg,hc,hm,-⟩⟩:=h.1
 · exact ⟨none,0,by rw [h0],by omega,by omega⟩
 · exact ⟨some ⟨g,0,none⟩,cap,rfl,hc,by unfold maxLen at hm; omega⟩
theorem zc8.pos (h:zc8 T k base W v n xs) (hn:0 < n):∃ g c,v=.slice (some ⟨g,0,none⟩) n c/\n<=c/\c<=9223372036854775807/\base<=g/\g < W.heap.size/\∀ i,W.frozen? ⟨g,i,none⟩=false:=by
 obtain ⟨h3,⟨rfl,h0⟩ | ⟨g,cap,cur,rfl,hb,hg,hc,hm,-⟩⟩:=h.1
 · omega
 · exact ⟨g,cap,rfl,hc,by unfold maxLen at hm; omega,hb,(Array.getElem?_eq_some_iff.1 hg).1,fun i=>by simp [World.frozen?,hg]⟩
theorem zc8.turn (h:zc8 T k base W v n xs) (hb:∀ R,v.ownBlock=some R->W'.heap[R]?=W.heap[R]?):zc8 T k base W' v n xs:=by
 obtain ⟨⟨h1,h2⟩,h3⟩:=h;refine ⟨⟨h1,?_⟩,h3.ext hb⟩;rcases h2 with h2 | ⟨g,cap,cur,rfl,hbg,hg,h6⟩
 · exact .inl h2
 · exact .inr ⟨g,cap,cur,rfl,hbg,(hb g rfl).trans hg,h6⟩
theorem zc8.ext (h:zc8 T k base W v n xs) (hx:Ext W W'):zc8 T k base W' v n xs:=h.turn fun R hR=>hx.below.block R (h.own hR).2
theorem zc8.cell {g c:Nat} (h:zc8 T k base W (.slice (some ⟨g,0,none⟩) n c) n xs) (j:Nat) (hj:j < n * k):W.cell? ⟨g,j,none⟩=xs[j]?:=World.ownsRow.cellAt h.1 j hj
end
theorem zc8.append {S T : TypeId} {k bytes : Nat} {Z : Value} (R : jg4 S T k bytes Z) {base : Nat} {W : World} {ov : Value} {n : Nat} {xs : List Value} (h : zc8 T k base W ov n xs) (hbase : base <= W.heap.size) (a : Addr) (m c : Nat) (news : List Value)
 (hnl:news.length=m * k) (hnc:∀ j u,news[j]?=some u->W.cell? (a.add j)=some u) (h1:∀ u ∈ news,u.oneCell'=true/\gc6 u=false) (hm:0 < m) (hlen:(n+m) * bytes<=140737488355328) (hlen2:n+m<=140737488355328) (ty:TypeId) :
 ∃ v4 w4,(Builtin.append_ #[S,S] ty #[ov,.slice (some a) m c]).run Tryz.prog W=.ok v4 w4/\zc8 T k base w4 v4 (n+m) (xs ++ news)/\W.grownBy w4 ov.ownBlock/\(∀ v ds,vc2 W v ds->vc2 w4 v ds)/\(v4.ownBlock=ov.ownBlock\/v4.ownBlock=some W.heap.size):=by
 obtain ⟨o1,hnd⟩:=h;obtain ⟨i0,hi,hz0,hz1,hz2⟩:=info_parts R.info;have hk:=R.pos;obtain ⟨v4,w4,hrun,r1,r2,-,r3⟩:=run_append_own_at (P:=Tryz.prog) W base S ty T i0 Z k bytes R.und hi hz0 hz1 hz2 R.cells hk ov n xs o1 a m c news hnl hnc (fun u hu=>(h1 u hu).1) (by unfold maxLen; omega) hlen hbase;refine ⟨v4,w4,hrun,⟨r1,?_⟩,r2,fun v ds hv=>zhj hv r2 hnd (qhf o1),r3⟩;have fin:∀ (xs:List Value) (q:Nat) (w5:World) (l cap:Nat),(∀ u ∈ xs,gc6 u=false)->w5.heap.size=W.heap.size->jhd (w5.alloc (.cells (xs.toArray ++ news.toArray ++ Builtin.zeroCells Z.cells q) T)) (.slice (some ⟨W.heap.size,0,none⟩) l cap):=by
  intro xs q w5 l cap hxs h5 R' cur T' fr hR hb u hu;have hR':W.heap.size=R':=by simpa [Value.ownBlock] using hR
  rw [<- hR',<- h5,heap_alloc_new] at hb;injection hb with hb
  injection hb with hb
  rw [<- hb] at hu;simp only [Array.toList_append,List.mem_append] at hu;rcases hu with (hu | hu) | hu
  · exact hxs u hu
  · exact (h1 u hu).2
  · exact kh0 R q u hu
 have hold:∀ g cur,ov.ownBlock=some g->W.heap[g]?=some (.cells cur T (0,0))->∀ u ∈ cur.toList,gc6 u=false:=fun g cur e hb=>hnd g cur _ _ e hb
 have hone:m<=m * bytes\/bytes=0:=by
  rcases Nat.eq_zero_or_pos bytes with h | h
  · exact .inr h
  · exact .inl (Nat.le_mul_of_pos_right _ h)
 rcases o1.2 with ⟨rfl,hn0⟩ | ⟨g,cap,cur,rfl,hbg,hg,hncap,hcm,hcs,htake⟩
 · subst hn0;have hr:=run_append_nil (P:=Tryz.prog) W S ty T i0 _ R.und hi hz0 a m c news (by rw [hz1]; exact hnl) hnc hm (by omega) (by rw [hz2]; rw [Nat.zero_add] at hlen; omega);rw [hrun] at hr;injection hr with e1 e2
   subst e1 e2;have:=fin [] (grownCap W m 0 T - m) W.drew m (grownCap W m 0 T) (by simp) rfl;simpa using this
 · by_cases hroom:n+m<=cap
   · have hfit:n * k+news.length<=cur.size:=by
      rw [hcs,hnl,<- Nat.add_mul];exact Nat.mul_le_mul_right _ hroom
     have hr:=run_append_room (P:=Tryz.prog) W S ty T i0 R.und hi g n cap cur hg a m c news (by rw [hz1]; exact hnl) hnc (fun u hu=>(h1 u hu).1) hroom (by rw [hz1]; exact hfit);rw [hrun] at hr;injection hr with e1 e2
     subst e1 e2;intro R' cur' T' fr hR hb u hu;have hR':g=R':=by simpa [Value.ownBlock] using hR
     rw [<- hR',setRow_heap W g cur _ _ _ hg] at hb;injection hb with hb
     injection hb with hb
     rw [<- hb] at hu;simp only [List.mem_append] at hu;rcases hu with (hu | hu) | hu
     · exact hold g cur rfl hg u (List.mem_of_mem_take hu)
     · exact (h1 u hu).2
     · exact hold g cur rfl hg u (List.mem_of_mem_drop hu)
   · have hr:=run_append_grow (P:=Tryz.prog) W S ty T i0 _ R.und hi hz0 ⟨g,0,none⟩ n cap xs (by rw [hz1]; exact o1.1) (o1.cells (g:=g) rfl) a m c news (by rw [hz1]; exact hnl) hnc (by omega) (by omega) (growslice_fits (by omega) (by rw [hz2]; exact hlen));rw [hrun] at hr;injection hr with e1 e2
     subst e1 e2;exact fin xs _ W.drew _ _ (fun u hu=>hold g cur rfl hg u (List.mem_of_mem_take (by rw [htake]; exact hu))) rfl
theorem zc8.push {S T : TypeId} {k bytes : Nat} {Z : Value} (R : jg4 S T k bytes Z) {base : Nat} {W : World} {ov : Value} {n : Nat} {xs : List Value} (h : zc8 T k base W ov n xs) (hbase : base <= W.heap.size) (news : List Value)
 (hnl:news.length=k) (h1:∀ u ∈ news,u.oneCell'=true/\gc6 u=false) (hlen:(n+1) * bytes<=140737488355328) (hlen2:n+1<=140737488355328) (ty:TypeId) :
 ∃ v4 w4,(Builtin.append_ #[S,S] ty #[ov,.slice (some ⟨W.heap.size,0,none⟩) 1 1]).run Tryz.prog (W.alloc (.cells news.toArray T))=.ok v4 w4/\zc8 T k base w4 v4 (n+1) (xs ++ news)/\W.grownBy w4 ov.ownBlock/\(∀ v ds,vc2 W v ds->vc2 w4 v ds)/\(v4.ownBlock=ov.ownBlock\/v4.ownBlock=some (W.heap.size+1)):=by
 have hx:Ext W (W.alloc (.cells news.toArray T)):=(Ext.refl W).alloc _;obtain ⟨v4,w4,e,h2,h3,h4,h5⟩:=zc8.append R (h.ext hx) (by have:=hx.size; omega) ⟨W.heap.size,0,none⟩ 1 1 news (by omega) (fun j u hu=>by
  rw [zc9,Nat.zero_add,cell_of_row _ _ j _ _ (0,0) (heap_alloc_new W _)]; simpa using hu) h1 (by omega) hlen hlen2 ty
 refine ⟨v4,w4,e,h2,⟨h3.os.trans hx.below.os,h3.tape.trans hx.below.tape,h3.output.trans hx.below.output,Nat.le_trans hx.size h3.size,fun i hi hne=>(World.grownBy.block h3 i (Nat.lt_of_lt_of_le hi hx.size) hne).trans (hx.below.block i hi)⟩,fun v ds hv=>h4 v ds (hv.ext hx),?_⟩
 rwa [World.size_alloc] at h5
end Go.Proofs.YtopddaabiinboaaGreat

/- Layer 1 (natural): division by one digit, shifts. -/
set_option maxRecDepth 100000
set_option maxHeartbeats 8000000
namespace Go.Proofs.YtopddaabiinboaaGreat
open Go.RowKit
theorem uiu (d r x q:Nat) (hq:q=(r * B32+x) / d) (V Z X:Nat) (h:V=d * Z+r) (hX:X=x+B32 * V):X=d * (q+B32 * Z)+(r * B32+x) % d:=by
 have e:=Nat.div_add_mod (r * B32+x) d;rw [<- hq] at e;have e2:B32 * V=d * (B32 * Z)+r * B32:=by rw [h,Nat.mul_add,Nat.mul_left_comm,Nat.mul_comm B32 r]
 rw [hX,Nat.mul_add];omega
def jh0 (w0:World) (g:Nat) (E:List Nat) (d k r:Nat) (wr:World):Prop:=
 ∃ zs:List Nat,Row wr g zs/\zs.length=E.length/\uc3 zs/\val (E.drop k)=d * val (zs.drop k)+r/\Ext w0 wr
def gi9 (q r:Nat) (w:World) (e:Ending) (w':World):Prop:=∃ v,e=.returned (.tuple #[v,.int .u32 (r:Nat),.bool true])/\vc2 w' v (dg q)/\wc6 w.heap.size v/\Ext w w'
theorem zhc (u:Value) (ds:List Nat) (d:Nat) (w:World) (h:vc2 w u ds) (hs:ds.length<=35184372088832) (hd:0 < d) (hd1:d < 4294967296) :
 Calls Tryz.prog 237 #[u,.int .u32 (d:Nat)] w (gi9 (val ds / d) (val ds % d) w):=by
 have hls:(dg (val ds)).length<=ds.length:=vc3 h.digs;have hdb:((d:Int) == 0)=false:=by simp; omega
 go_enter Tryz.func237,Tryz.ntmps237;go_wp2_with fail;refine (jc9 u ds _ h).mono ?_;rintro e w' ⟨u',rfl,hu,rfl⟩;obtain ⟨A,c,rfl,h1,h2,h3⟩:=hu;have G5:=Lib.hid h3;have HVD:=Lib.hid (jc3 (val ds));clear h3 h;generalize hE:dg (val ds)=E at *;have HE:=Lib.hid hE;clear hE;have hmk:=fun W=>gda (E.length:Int) (by omega) (by omega) W
 go_wp2_with fail
 have hinv:jh0 w w.heap.size E d E.length 0 (w.alloc (Obj.cells (jc8 (List.replicate E.length 0)).toArray 61)):=
  ⟨List.replicate E.length 0,Row.new w _,by simp,uc3.replicate _,by simp,(Ext.refl _).alloc _⟩
 have HINV:=Lib.hid hinv;clear hinv
 go_loopw [8,9] (fun rv iv wr=>∃ k r:Nat,k<=E.length/\iv=.int .i64 ((k:Int) - 1)/\rv=.int .u32 r/\r < d/\Hid (jh0 w w.heap.size E d k r wr)) (fun _ iv _=>(intOf iv+1).toNat)
 case atStart=>exact ⟨E.length,0,Nat.le_refl _,rfl,rfl,hd,HINV⟩
 case round =>
  clear HINV;obtain ⟨k,r,hk,rfl,rfl,hr,HI⟩:=hrel;obtain ⟨zs,hrow,hzl,hzd,hval,hext⟩:=HI.out;rcases k with _ | k
  · have HN:Hid (vc2 wr (.slice (some ⟨w.heap.size,0,none⟩) E.length E.length) zs):=hrow.natVn hzd _ _ hzl (Nat.le_refl _) (by omega);have hq:val zs=val ds / d/\r=val ds % d:=by
     rw [List.drop_zero,List.drop_zero,HVD.out] at hval;rw [hval];exact ⟨by rw [Nat.mul_add_div hd,Nat.div_eq_of_lt hr,Nat.add_zero],by rw [Nat.mul_add_mod,Nat.mod_eq_of_lt hr]⟩
    have HQ:=Lib.hid hq;have HX:=Lib.hid hext;clear HI hrow hzl hzd hval hext hq;go_wp2_with fail;refine (yha w.heap.size _ _ _ HN.out (wc6.mk _ _ _ _ (Nat.le_refl _))).mono ?_;rintro e w' ⟨v',rfl,hv,hfr,rfl⟩;have HV2:=Lib.hid hv;have HFR:=Lib.hid hfr;clear hv hfr;go_wp2_with fail
    go_ret3
    refine ⟨v',by rw [<- HQ.out.2]; rfl,?_,HFR.out,HX.out⟩;rw [<- HQ.out.1];exact HV2.out
  · obtain ⟨ad,x,rfl,hb,hcell,hx1,HX⟩:=(G5.out.ext hext).get_ k (by omega);obtain ⟨z,hzc,hzf,_⟩:=hrow.get_ k (by omega);have hcur:r * B32+x < d * B32:=by
     have:(r+1) * B32<=d * B32:=Nat.mul_le_mul_right _ hr;rw [Nat.add_mul,Nat.one_mul] at this;rw [gc3] at *; omega
    have hqlt:(r * B32+x) / d < B32:=Nat.div_lt_of_lt_mul hcur;have HS:Hid (∀ wq,Ext wr wq->jh0 w w.heap.size E d k ((r * B32+x) % d) (wq.setCell ⟨w.heap.size,k,none⟩ (.int .u32 (((r * B32+x) / d:Nat):Int)))):=by
     intro wq hx;refine ⟨zs.set k ((r * B32+x) / d),(hrow.ext hx).set_ _ _,by rw [List.length_set]; exact hzl,hzd.set _ _ hqlt,?_,(hext.trans hx).setCell (by simp) _⟩;obtain ⟨hkl,hxe⟩:=List.getElem?_eq_some_iff.1 HX.out;rw [List.drop_eq_getElem_cons hkl,val_cons,hxe,List.drop_set,if_neg (by omega),Nat.sub_self];have hkz:k < zs.length:=by omega
     rw [List.drop_eq_getElem_cons hkz,List.set_cons_zero,val_cons];exact uiu d r x _ rfl _ _ _ hval rfl
    clear HI hrow hzl hzd hval hext;go_wp2_with fail;refine (giw _ _ _ _ (by omega) (by omega) (by omega) (by omega) (by omega)).mono ?_;rintro e w2 ⟨rfl,n2,rfl⟩;have hx2:Ext wr (wr.drewN n2):=(Ext.refl wr).drewN n2;have HS2:=Lib.hid (HS.out _ hx2);clear hx2 HS;go_wp2_with fail
    go_roundw
    case rel =>
     have e1:((r:Int) * 4294967296+x) % d=(((r * B32+x) % d:Nat):Int):=by rw [gc3]; simp
     have e2:((r:Int) * 4294967296+x) / d=(((r * B32+x) / d:Nat):Int):=by rw [gc3]; simp
     rw [e1,e2];exact ⟨k,_,by omega,by go_num,rfl,Nat.mod_lt _ hd,HS2⟩
    case measure=>simp [intOf]
end Go.Proofs.YtopddaabiinboaaGreat

/- Layer 1 (natural): shifts. -/
set_option maxRecDepth 100000
set_option maxHeartbeats 8000000
namespace Go.Proofs.YtopddaabiinboaaGreat
open Go.RowKit
def yh0 (w0:World) (g words s:Nat) (E:List Nat) (k:Nat) (wr:World):Prop:=
 ∃ (ys:List Nat) (cy:Nat),Row wr g (List.replicate words 0 ++ ys)/\ys.length=E.length+1/\uc3 ys/\Hid (ys[k]?=some cy)/\cy < 2 ^ s/\val (ys.take k)+B32 ^ k * cy=val (E.take k) * 2 ^ s/\Ext w0 wr
theorem yh5 (u:Value) (ds:List Nat) (n:Nat) (w:World) (h:vc2 w u ds) (hs:ds.length<=35184371500000) (hn:n<=16777216) :
 Calls Tryz.prog 146 #[u,.int .i64 (n:Nat)] w (ugz (val ds * 2 ^ n) w):=by
 have hmn:min (n:Int) 16777216=n:=by omega
 have hls:(dg (val ds)).length<=ds.length:=vc3 h.digs;go_enter Tryz.func146,Tryz.ntmps146;go_wp2_with fail;refine (jc9 u ds _ h).mono ?_;rintro e w' ⟨u',rfl,hu,rfl⟩;obtain ⟨A,c,rfl,h1,h2,h3⟩:=hu;have G5:=Lib.hid h3;have HVD:=Lib.hid (jc3 (val ds));clear h3 h;generalize hE:dg (val ds)=E at *;have HE:=Lib.hid hE;clear hE;obtain ⟨words,s,hs1,hnw⟩:∃ words s:Nat,s < 32/\n=32 * words+s:=⟨n / 32,n % 32,by omega,by omega⟩;have HNW:=Lib.hid hnw;have e1:(n:Int) / 32=words:=by omega
 have e2:(n:Int) % 32=s:=by omega
 have hw1:32 * words+s<=16777216:=by omega
 have hmk:=fun W=>gda ((words:Int)+E.length+1) (by omega) (by omega) W
 clear hnw
 by_cases h0:E.length=0
 · have h0b:((E.length:Int) == 0)=true:=beq_iff_eq.2 (by omega);have HV:Hid (val ds=0):=by
    have:=HVD.out;rw [List.eq_nil_of_length_eq_zero h0] at this;exact this.symm
   clear h0 hmk e1 e2;go_wp2_with fail;go_ret;exact ⟨_,rfl,by rw [HV.out,Nat.zero_mul,uc5]; exact vc2.nil w,Ext.refl w⟩
 · have h0b:((E.length:Int) == 0)=false:=beq_eq_false_iff_ne.2 (by omega);go_wp2_with fail;have HINV:Hid (yh0 w w.heap.size words s E 0 (w.alloc (Obj.cells (jc8 (List.replicate (words+E.length+1) 0)).toArray 61))):=by
    refine ⟨List.replicate (E.length+1) 0,0,?_,by simp,uc3.replicate _,Lib.hid (by simp),Nat.pow_pos (by omega),by simp,(Ext.refl _).alloc _⟩;have:=Row.new w (List.replicate (words+E.length+1) 0);rw [Nat.add_assoc,<- List.replicate_append_replicate] at this;rw [Nat.add_assoc,<- List.replicate_append_replicate];exact this
   have hbl:words+E.length+1 - words=E.length+1:=by omega
   rw [hbl];clear hbl e1 e2 hmk
   go_loopw [36] (fun iv wr=>∃ k:Nat,k<=E.length/\iv=.int .i64 k/\Hid (yh0 w w.heap.size words s E k wr)) (fun iv _=>E.length - (intOf iv).toNat)
   case atStart=>exact ⟨0,by omega,rfl,HINV⟩
   case round =>
    clear HINV;obtain ⟨k,hk,rfl,HI⟩:=hrel;obtain ⟨ys,cy,hrow,hyl,hyd,HCY,hcy,hval,hext⟩:=HI.out
    by_cases hlt:k < E.length
    · obtain ⟨ad,x,rfl,hb,hcell,hx1,HX⟩:=(G5.out.ext hext).get_ k hlt;have hc1:wr.cell? ⟨w.heap.size,words+k,none⟩=some (.int .u32 (cy:Nat)):=by
       rw [hrow.cell (words+k) (by simp; omega)];have:=HCY.out;rw [List.getElem_append_right (by simp)];simp at this ⊢;obtain ⟨_,h⟩:=List.getElem?_eq_some_iff.1 this;rw [h]
      have hc2:wr.frozen? ⟨w.heap.size,words+k,none⟩=false:=hrow.frozen _;obtain ⟨z,hz1,hz2,_⟩:=hrow.get_ (words+(k+1)) (by simp; omega);have hxe:=wc3 HX;have hp31:2 ^ s<=2147483648:=Nat.pow_le_pow_right (n:=2) (by omega) (show s<=31 by omega);have hpd:∃ q,4294967296=2 ^ s * q:=⟨2 ^ (32 - s),by rw [<- Nat.pow_add,show s+(32 - s)=32 from by omega]⟩;have hp0:x * 2 ^ s<=4294967295 * 2147483648:=Nat.mul_le_mul (by omega) hp31;have hi0:(0:Int)<=(x:Int) * 2 ^ s:=by (have:(x:Int) * 2 ^ s=((x * 2 ^ s:Nat):Int):=by simp); omega
      have hi1:(x:Int) * 2 ^ s<=4294967295 * 2147483648:=by (have:(x:Int) * 2 ^ s=((x * 2 ^ s:Nat):Int):=by simp); omega
      obtain ⟨q,hq⟩:=hpd;have hlow:x * 2 ^ s % 4294967296 % 2 ^ s=0:=by
       rw [hq,Nat.mod_mul_right_mod,Nat.mul_mod_left]
      have hlow2:x * 2 ^ s % 4294967296+cy < 4294967296:=by
       have h1:x * 2 ^ s % 4294967296 < 2 ^ s * q:=by rw [<- hq]; exact Nat.mod_lt _ (by omega)
       obtain ⟨m,hm⟩:=Nat.dvd_of_mod_eq_zero hlow;rw [hm] at h1 ⊢;have h2:=Nat.lt_of_mul_lt_mul_left h1;have h3:2 ^ s * (m+1)<=2 ^ s * q:=Nat.mul_le_mul_left _ h2;rw [Nat.mul_add,Nat.mul_one] at h3;omega
      have hor:bits .or .u32 (cy:Int) ((x:Int) * 2 ^ s % 4294967296)=((x * 2 ^ s % B32+cy:Nat):Int):=by
       have e:(x:Int) * 2 ^ s % 4294967296=((x * 2 ^ s % 4294967296:Nat):Int):=by simp
       rw [e,u32_or_nat _ _ (by omega) (by omega),Nat.or_comm,nat_join s _ _ hlow hcy,gc3]
      have HS:Hid (yh0 w w.heap.size words s E (k+1) ((wr.setCell ⟨w.heap.size,words+k,none⟩ (.int .u32 ((x * 2 ^ s % B32+cy:Nat):Int))).setCell ⟨w.heap.size,words+(k+1),none⟩ (.int .u32 ((x * 2 ^ s / B32:Nat):Int)))):=by
       have r1:=(hrow.set_ (words+k) (x * 2 ^ s % B32+cy)).set_ (words+(k+1)) (x * 2 ^ s / B32);rw [List.set_append_right _ _ (by simp),List.set_append_right _ _ (by simp),List.length_replicate,Nat.add_sub_cancel_left,Nat.add_sub_cancel_left] at r1;refine ⟨_,x * 2 ^ s / B32,r1,by rw [List.length_set,List.length_set,hyl],(hyd.set _ _ (by rw [gc3]; exact hlow2)).set _ _ (by rw [gc3]; omega),Lib.hid (by rw [List.getElem?_set_self (by rw [List.length_set]; omega)]),?_,?_,(hext.setCell (by simp) _).setCell (by simp) _⟩
       · rw [gc3];exact Nat.div_lt_of_lt_mul (Nat.mul_lt_mul_of_pos_right hx1 (Nat.pow_pos (by omega)))
       · rw [List.take_set_of_le (Nat.le_refl _),yda ys k _ (by omega),wdf,List.length_take,Nat.min_eq_left (by omega),hxe,Nat.add_mul,Nat.pow_succ,<- hval];have e:=Nat.mod_add_div (x * 2 ^ s) B32;have e2:B32 ^ k * (x * 2 ^ s)=B32 ^ k * (x * 2 ^ s % B32)+B32 ^ k * B32 * (x * 2 ^ s / B32):=by
          rw [Nat.mul_assoc (B32 ^ k) B32,<- Nat.mul_add,e]
         rw [Nat.mul_assoc (B32 ^ k) x,e2,Nat.mul_add];omega
      have he:(x:Int) * 2 ^ s / 4294967296=((x * 2 ^ s / B32:Nat):Int):=by rw [gc3]; simp
      have HEE:=Lib.hid he;have hbd:(x:Int) * 2 ^ s / 4294967296 < 4294967296:=by omega
      clear HI hrow hyl hyd HCY hval hext hxe hq hlow he;go_wp2_with fail
      go_roundw
      case rel =>
       refine ⟨k+1,by omega,by go_num,?_⟩;rw [HEE.out,show ((x:Int) * 2 ^ s % B32+cy)=((x * 2 ^ s % B32+cy:Nat):Int) from by simp];exact HS
      case measure=>simp [intOf]; omega
    · obtain rfl:k=E.length:=by omega
      have hyt:ys=ys.take E.length ++ [cy]:=by
       obtain ⟨h,e⟩:=List.getElem?_eq_some_iff.1 HCY.out;have:=jg9 ys E.length h;rw [List.take_of_length_le (by omega),e] at this;exact this
      have hvy:val ys=val ds * 2 ^ s:=by
       rw [hyt,wdf,List.length_take,Nat.min_eq_left (by omega),hval,List.take_of_length_le (Nat.le_refl _),HVD.out]
      have HV:Hid (val (List.replicate words 0 ++ ys)=val ds * 2 ^ n):=by
       have:val (List.replicate words 0 ++ ys)=val ds * 2 ^ n:=by
        rw [val_append,jdc,List.length_replicate,Nat.zero_add,hvy,HNW.out,show B32=2 ^ 32 from rfl,<- Nat.pow_mul,Nat.pow_add,Nat.mul_left_comm]
       exact this
      have HN:Hid (vc2 wr (.slice (some ⟨w.heap.size,0,none⟩) (words+E.length+1) (words+E.length+1)) (List.replicate words 0 ++ ys)):=
       hrow.natVn ((uc3.replicate _).append hyd) _ _ (by simp; omega) (Nat.le_refl _) (by omega)
      have HX:=Lib.hid hext;clear HI hrow hyl hyd HCY hval hext hyt hvy;go_wp2_with fail;refine (jc9 _ _ _ HN.out).mono ?_;rintro e w' ⟨v',rfl,hv,rfl⟩;rw [HV.out] at hv;have HV2:=Lib.hid hv;clear hv;go_wp2_with fail;go_ret;exact ⟨v',rfl,HV2.out,HX.out⟩
end Go.Proofs.YtopddaabiinboaaGreat

/- Layer 1 (natural): shifts to the right. -/
set_option maxRecDepth 100000
set_option maxHeartbeats 8000000
namespace Go.Proofs.YtopddaabiinboaaGreat
open Go.RowKit
def wg1 (s : Nat) : List Nat -> List Nat
 | []=>[]
 | d :: r=>((d+B32 * r.headD 0) / 2 ^ s) % B32 :: wg1 s r
theorem xh1 (s:Nat) (T:List Nat):(wg1 s T).length=T.length:=by
 induction T with
 | nil=>rfl
 | cons d r ih=>simp [wg1,ih]
theorem uio (s:Nat) (T:List Nat) (k:Nat) (hk:k < T.length):(wg1 s T)[k]?=some (((T.getD k 0+B32 * T.getD (k+1) 0) / 2 ^ s) % B32):=by
 induction T generalizing k with
 | nil=>simp at hk
 | cons d r ih =>
   rcases k with _ | k
   · simp only [wg1,List.getElem?_cons_zero,List.getD_cons_zero,List.getD_cons_succ];cases r <;> rfl
   · simp only [wg1,List.getElem?_cons_succ,List.getD_cons_succ];exact ih k (by simpa using hk)
theorem kif (d h P Q:Nat) (hP:0 < P) (hd:d < P * Q):((d+P * Q * h) / P) % (P * Q)=d / P+Q * (h % P):=by
 have e1:(d+P * Q * h) / P=d / P+Q * h:=by rw [Nat.mul_assoc,Nat.add_mul_div_left _ _ hP]
 have hdq:d / P < Q:=Nat.div_lt_of_lt_mul hd;have hm:=Nat.mod_lt h hP;have e2:d / P+Q * h=(d / P+Q * (h % P))+P * Q * (h / P):=by
  have e3:Q * h=Q * (h % P)+P * Q * (h / P):=by
   have:Q * (h % P+P * (h / P))=Q * h:=by rw [Nat.mod_add_div]
   rw [Nat.mul_add,<- Nat.mul_assoc,Nat.mul_comm Q P] at this;omega
  omega
 rw [e1,e2,Nat.add_mul_mod_self_left,Nat.mod_eq_of_lt];have:Q * (h % P+1)<=Q * P:=Nat.mul_le_mul_left _ hm;rw [Nat.mul_add,Nat.mul_one,Nat.mul_comm Q P] at this;omega
theorem vio (s:Nat) (hs:s < 32) (T:List Nat) (hT:uc3 T):val (wg1 s T)=val T / 2 ^ s:=by
 have hB:B32=2 ^ s * 2 ^ (32 - s):=by rw [<- Nat.pow_add,show s+(32 - s)=32 from by omega]; rfl
 have hP:0 < 2 ^ s:=Nat.pow_pos (by omega)
 induction T with
 | nil=>simp [wg1]
 | cons d r ih =>
   have hmod:r.headD 0 % 2 ^ s=val r % 2 ^ s:=by
    cases r with
    | nil=>rfl
    | cons h t=>rw [List.headD_cons,val_cons,hB,Nat.mul_assoc,Nat.add_mul_mod_self_left]
   have hd:=hT.head;rw [wg1,val_cons,val_cons,ih hT.tail];generalize hq:2 ^ (32 - s)=Q at *;generalize hp:2 ^ s=P at *;rw [hB] at hd ⊢;rw [kif d _ P Q hP hd,hmod,Nat.mul_assoc P Q (val r),Nat.add_mul_div_left _ _ hP,Nat.mul_assoc P Q,Nat.mul_left_comm P Q,Nat.add_assoc,<- Nat.mul_add,Nat.mod_add_div]
theorem ghz (a:Addr) (k:Nat):a.add (k+1)=⟨a.block,a.off+(k+1),none⟩:=by simp [Addr.add]
def vg6 (w0:World) (g s:Nat) (T:List Nat) (k:Nat) (wr:World):Prop:=
 ∃ zs:List Nat,Row wr g zs/\zs.length=T.length/\uc3 zs/\zs.take k=(wg1 s T).take k/\Ext w0 wr
theorem vg6.step {w0 wr : World} {g s : Nat} {T zs : List Nat} {k z : Nat} (hr : Row wr g zs) (hl : zs.length = T.length) (hd : uc3 zs) (ht : zs.take k = (wg1 s T).take k) (hx : Ext w0 wr) (hg : w0.heap.size <= g)
 (hk:k < T.length) (hz:z=((T.getD k 0+B32 * T.getD (k+1) 0) / 2 ^ s) % B32):vg6 w0 g s T (k+1) (wr.setCell ⟨g,k,none⟩ (.int .u32 (z:Int))):=by
 refine ⟨zs.set k z,hr.set_ _ _,by rw [List.length_set,hl],hd.set _ _ (by rw [hz]; exact Nat.mod_lt _ zc5),?_,hx.setCell (by simpa using hg) _⟩;rw [yda zs k z (by omega),ht,List.take_add_one,uio s T k hk,<- hz]
 rfl
theorem giy (u:Value) (ds:List Nat) (n:Nat) (w:World) (h:vc2 w u ds) (hs:ds.length<=35184372088832) (hn:n<=9223372036854775807) :
 Calls Tryz.prog 242 #[u,.int .i64 (n:Nat)] w (ugz (val ds / 2 ^ n) w):=by
 have hls:(dg (val ds)).length<=ds.length:=vc3 h.digs;go_enter Tryz.func242,Tryz.ntmps242;go_wp2_with fail;refine (jc9 u ds _ h).mono ?_;rintro e w' ⟨u',rfl,hu,rfl⟩;obtain ⟨A,c,rfl,h1,h2,h3⟩:=hu;have G5:=Lib.hid h3;have HVD:=Lib.hid (jc3 (val ds));clear h3 h;generalize hE:dg (val ds)=E at *;have HE:=Lib.hid hE;clear hE;obtain ⟨words,s,hs1,hnw⟩:∃ words s:Nat,s < 32/\n=32 * words+s:=⟨n / 32,n % 32,by omega,by omega⟩;have HNW:=Lib.hid hnw;have e1:(n:Int) / 32=words:=by omega
 have e2:(n:Int) % 32=s:=by omega
 have hB:B32 ^ words=2 ^ (32 * words):=by rw [show B32=2 ^ 32 from rfl,<- Nat.pow_mul]
 have HB:=Lib.hid hB;clear hnw hB
 by_cases h0:E.length<=words
 · have HV:Hid (val ds / 2 ^ n=0):=by
    have:val ds / 2 ^ n=0:=by
     apply Nat.div_eq_of_lt;have h4:=gc9 G5.out.1;rw [HVD.out] at h4;refine Nat.lt_of_lt_of_le h4 (Nat.le_trans (Nat.pow_le_pow_right zc5 h0) ?_);rw [HB.out,HNW.out];exact Nat.pow_le_pow_right (by omega) (by omega)
    exact this
   go_wp2_with fail;go_ret;exact ⟨_,rfl,by rw [HV.out,uc5]; exact vc2.nil w,Ext.refl w⟩
 · obtain ⟨ad,rfl,-,-⟩:=G5.out.2 (by omega);have hcw:¬ (c=words):=by omega
   have GT:=Lib.hid (G5.out.drop words c (by omega) h1);rw [if_neg hcw] at GT;have HTL:Hid ((E.drop words).length=E.length - words):=by
    have:(E.drop words).length=E.length - words:=List.length_drop;exact this
   have HTV:Hid (val (E.drop words) / 2 ^ s=val ds / 2 ^ n):=by
    have:val (E.drop words) / 2 ^ s=val ds / 2 ^ n:=by
     have e:=wc5 E words (by omega);have h4:=gc9 (G5.out.1.take words);rw [List.length_take,Nat.min_eq_left (by omega)] at h4;rw [HVD.out] at e;rw [HNW.out,Nat.pow_add,<- Nat.div_div_eq_div_mul,<- HB.out,e,Nat.add_mul_div_left _ _ (Nat.pow_pos zc5),Nat.div_eq_of_lt h4,Nat.zero_add]
    exact this
   obtain ⟨m,hm⟩:∃ m,m=E.length - words:=⟨_,rfl⟩;have hm1:m<=35184372088832:=by omega
   have hm2:0 < m:=by omega
   rw [<- hm] at HTL;have hmk:=fun W=>gda (m:Int) (by omega) (by omega) W
   generalize E.drop words=T at *;rw [hm] at hmk;go_wp2_with fail;rw [<- hm];have hcm:m<=c - words:=by omega
   have hcm2:c - words<=9223372036854775807:=by omega
   generalize c - words=c2 at *;clear hm hmk e1 e2 h0 hcw
   have HINV:Hid (vg6 w w.heap.size s T 0 (w.alloc (Obj.cells (jc8 (List.replicate m 0)).toArray 61))):=
    ⟨List.replicate m 0,Row.new w _,by simp; exact HTL.out.symm,uc3.replicate _,by simp,(Ext.refl _).alloc _⟩
   change Hid (wc4 w (some (ad.add words)) T) at GT
   generalize ad.add words=bd at *;have hP:0 < 2 ^ s:=Nat.pow_pos (by omega)
   go_loopw [33] (fun iv wr=>∃ k:Nat,k<=m/\iv=.int .i64 k/\Hid (vg6 w w.heap.size s T k wr)) (fun iv _=>m - (intOf iv).toNat)
   case atStart=>exact ⟨0,by omega,rfl,HINV⟩
   case round =>
    clear HINV;obtain ⟨k,hk,rfl,HI⟩:=hrel;obtain ⟨zs,hrow,hzl,hzd,htk,hext⟩:=HI.out;have hTm:=HTL.out
    by_cases hlt:k < m
    · obtain ⟨_,x,e0,hb,hcell,hx1,HX⟩:=(GT.out.ext hext).get_ k (by omega);injection e0 with e0
      subst e0;obtain ⟨z,hz1,hz2,_⟩:=hrow.get_ k (by omega);have hxD:T.getD k 0=x:=by rw [List.getD_eq_getElem?_getD,HX.out]; rfl
      by_cases hlt2:k+1 < m
      · obtain ⟨_,y,e0,hb',hcell',hy1,HY⟩:=(GT.out.ext hext).get_ (k+1) (by omega);injection e0 with e0
        subst e0;rw [ghz] at hcell';have hyD:T.getD (k+1) 0=y:=by rw [List.getD_eq_getElem?_getD,HY.out]; rfl
        have HS:=Lib.hid (vg6.step (z:=((x+B32 * y) / 2 ^ s) % B32) hrow hzl hzd htk hext (Nat.le_refl _) (by omega) (by rw [hxD,hyD]));have hor:bits .or .u64 (x:Int) ((y:Int) * 4294967296)=(x:Int)+y * 4294967296:=by
         have:=u64_or_nat x (y * 4294967296) (by omega) (by omega);rw [Nat.or_comm,nat_join 32 (y * 4294967296) x (by omega) (by omega)] at this;simp at this;omega
        have he:((x:Int)+y * 4294967296) / 2 ^ s % 4294967296=((((x+B32 * y) / 2 ^ s) % B32:Nat):Int):=by
         rw [Nat.mul_comm B32 y,gc3]; simp
        have HEE:=Lib.hid he;clear HI hrow hzl hzd htk hext hTm hxD hyD he;go_wp2_with fail
        go_roundw
        case rel =>
         refine ⟨k+1,by omega,by go_num,?_⟩;rw [HEE.out];exact HS
        case measure=>simp [intOf]; omega
      · have hyD:T.getD (k+1) 0=0:=by rw [List.getD_eq_getElem?_getD,List.getElem?_eq_none (by omega)]; rfl
        have HS:=Lib.hid (vg6.step (z:=((x+B32 * 0) / 2 ^ s) % B32) hrow hzl hzd htk hext (Nat.le_refl _) (by omega) (by rw [hxD,hyD]));have he:(x:Int) / 2 ^ s % 4294967296=((((x+B32 * 0) / 2 ^ s) % B32:Nat):Int):=by
         rw [Nat.mul_zero,Nat.add_zero,gc3]; simp
        have HEE:=Lib.hid he;clear HI hrow hzl hzd htk hext hTm hxD hyD he;go_wp2_with fail
        go_roundw
        case rel =>
         refine ⟨k+1,by omega,by go_num,?_⟩;rw [HEE.out];exact HS
        case measure=>simp [intOf]; omega
    · obtain rfl:k=m:=by omega
      have HV:Hid (val zs=val ds / 2 ^ n):=by
       have:val zs=val ds / 2 ^ n:=by
        rw [List.take_of_length_le (by omega),List.take_of_length_le (by rw [xh1]; omega)] at htk;rw [htk,vio s hs1 T GT.out.1];exact HTV.out
       exact this
      have HN:Hid (vc2 wr (.slice (some ⟨w.heap.size,0,none⟩) k k) zs):=hrow.natVn hzd _ _ (by omega) (Nat.le_refl _) (by omega);have HX:=Lib.hid hext;clear HI hrow hzl hzd htk hext hTm;go_wp2_with fail;refine (jc9 _ _ _ HN.out).mono ?_;rintro e w' ⟨v',rfl,hv,rfl⟩;rw [HV.out] at hv;have HV2:=Lib.hid hv;clear hv;go_wp2_with fail;go_ret;exact ⟨v',rfl,HV2.out,HX.out⟩
end Go.Proofs.YtopddaabiinboaaGreat

/- Plain arithmetic of long division. No program in sight. -/
namespace Go.Proofs.YtopddaabiinboaaGreat
def jdj (B U V:Nat):Nat:=min (B - 1) (U / V)
theorem qi3 {B:Nat} (hB:0 < B) (U V:Nat):jdj B U V < B:=by
 unfold jdj; omega
theorem zic {B:Nat} (hB:0 < B) {u v U V K r r':Nat} (hK:0 < K) (hu:u=U * K+r) (hr:r < K) (hv:v=V * K+r') (hr':r' < K) (hV:B<=V) (hq:u < v * B) :
 u / v<=jdj B U V/\jdj B U V<=u / v+1:=by
 have hV0:0 < V:=Nat.lt_of_lt_of_le hB hV;have hv0:0 < v:=by rw [hv]; have:=Nat.mul_pos hV0 hK; omega
 have hqB:u / v < B:=Nat.div_lt_of_lt_mul hq
 constructor
 · have h1:u / v * v<=u:=Nat.div_mul_le_self u v;have h2:u / v * V * K<=u / v * v:=by rw [hv,Nat.mul_assoc]; exact Nat.mul_le_mul_left _ (by omega)
   have h3:u / v * V * K < (U+1) * K:=by rw [Nat.add_mul,Nat.one_mul]; omega
   have h4:u / v * V < U+1:=Nat.lt_of_mul_lt_mul_right h3;have h5:u / v<=U / V:=(Nat.le_div_iff_mul_le hV0).2 (by omega);unfold jdj; omega
 · rcases Nat.lt_or_ge (u / v+1) (U / V) with h | h
   · exfalso
     generalize hQ:u / v=Q at *;have h1:(Q+2) * V<=U:=(Nat.le_div_iff_mul_le hV0).1 h;have h2:(Q+2) * V * K<=u:=by
      have:=Nat.mul_le_mul_right K h1;omega
     have h3:u < (Q+1) * v:=by
      rw [Nat.add_mul,Nat.one_mul,Nat.mul_comm,<- hQ];have h7:=Nat.mod_lt u hv0;have h8:=Nat.div_add_mod u v;omega
     have h4:(Q+1) * v < (Q+1) * ((V+1) * K):=Nat.mul_lt_mul_of_pos_left (by rw [hv,Nat.add_mul,Nat.one_mul]; omega) (by omega);have h5:(Q+2) * V * K < (Q+1) * (V+1) * K:=by rw [Nat.mul_assoc (Q+1)]; omega
     have h6:=Nat.lt_of_mul_lt_mul_right h5;rw [Nat.add_mul,Nat.add_mul,Nat.one_mul,Nat.mul_add,Nat.mul_one] at h6;omega
   · unfold jdj; omega
def ug6 (B U2 U V v1 q r o:Nat):Prop:=q < B/\r < B/\o<=1/\r+B * o+q * v1=U2/\jdj B U V<=q
theorem jhy {B:Nat} (hB:0 < B) {u2 u1 u0 v1 v2:Nat} (h1:u1 < B) (hv1:v1 < B) (he:u2=v1):ug6 B (u2 * B+u1) (u2 * B * B+u1 * B+u0) (v1 * B+v2) v1 (B - 1) ((u1+v1) % B) ((u1+v1) / B):=by
 refine ⟨by omega,Nat.mod_lt _ hB,by have:=(Nat.div_lt_iff_lt_mul hB).2 (show u1+v1 < 2 * B by omega); omega,?_,by unfold jdj; omega⟩;rw [Nat.mod_add_div,he,Nat.sub_mul,Nat.one_mul,Nat.mul_comm B v1];have:v1<=v1 * B:=Nat.le_mul_of_pos_right _ hB;omega
theorem viu {B:Nat} (hB:0 < B) {u2 u1 u0 v1 v2:Nat} (h1:u1 < B) (h0:u0 < B) (hv1:v1 < B) (hlt:u2 < v1) :
 ug6 B (u2 * B+u1) (u2 * B * B+u1 * B+u0) (v1 * B+v2) v1 ((u2 * B+u1) / v1) ((u2 * B+u1) % v1) 0:=by
 have hv0:0 < v1:=by omega
 have hm:=Nat.mod_lt (u2 * B+u1) hv0;have hq:u2 * B+u1 < v1 * B:=by
  have:(u2+1) * B<=v1 * B:=Nat.mul_le_mul_right _ hlt;rw [Nat.add_mul,Nat.one_mul] at this; omega
 refine ⟨Nat.div_lt_of_lt_mul hq,by omega,by omega,?_,?_⟩
 · rw [Nat.mul_zero,Nat.add_zero,Nat.mul_comm _ v1,Nat.add_comm]; exact Nat.div_add_mod _ _
 · have hV0:0 < v1 * B+v2:=by have:=Nat.mul_pos hv0 hB; omega
   have h2:(u2 * B * B+u1 * B+u0) / (v1 * B+v2)<=(u2 * B+u1) / v1:=by
    rw [Nat.le_div_iff_mul_le hv0];have h3:=Nat.div_mul_le_self (u2 * B * B+u1 * B+u0) (v1 * B+v2);generalize (u2 * B * B+u1 * B+u0) / (v1 * B+v2)=t at *;have h4:t * v1 * B<=t * (v1 * B+v2):=by rw [Nat.mul_assoc]; exact Nat.mul_le_mul_left _ (by omega)
    have h5:t * v1 * B < (u2 * B+u1+1) * B:=by rw [Nat.add_mul,Nat.add_mul,Nat.one_mul]; omega
    have:=Nat.lt_of_mul_lt_mul_right h5;omega
   unfold jdj; omega
theorem khy {B:Nat} (hB:0 < B) {u2 u1 u0 v1 v2 q r o:Nat} (h:ug6 B (u2 * B+u1) (u2 * B * B+u1 * B+u0) (v1 * B+v2) v1 q r o) (hv1:0 < v1) (hstop:o=1\/q * v2<=r * B+u0) (hv2:v2 < B) :
 q=jdj B (u2 * B * B+u1 * B+u0) (v1 * B+v2):=by
 obtain ⟨hq,hr,ho,he,hle⟩:=h;have hV0:0 < v1 * B+v2:=by have:=Nat.mul_pos hv1 hB; omega
 have hU:u2 * B * B+u1 * B+u0=(r+B * o) * B+q * v1 * B+u0:=by
  rw [<- Nat.add_mul,<- he,Nat.add_mul]
 have hqv:q * v2<=(r+B * o) * B+u0:=by
  rcases hstop with ho1 | h1
  · subst ho1;have h2:q * v2<=B * B:=Nat.mul_le_mul (by omega) (by omega);rw [Nat.add_mul,Nat.mul_one]; omega
  · rw [Nat.add_mul]; omega
 have h3:q<=(u2 * B * B+u1 * B+u0) / (v1 * B+v2):=by
  rw [Nat.le_div_iff_mul_le hV0,hU,Nat.mul_add,<- Nat.mul_assoc];omega
 unfold jdj at *; omega
theorem qhy {B:Nat} (hB:0 < B) {u2 u1 u0 v1 v2 q r:Nat} (h:ug6 B (u2 * B+u1) (u2 * B * B+u1 * B+u0) (v1 * B+v2) v1 q r 0) (hv1:0 < v1) (hv1B:v1 < B) (hgo:r * B+u0 < q * v2) :
 0 < q/\ug6 B (u2 * B+u1) (u2 * B * B+u1 * B+u0) (v1 * B+v2) v1 (q - 1) ((r+v1) % B) ((r+v1) / B):=by
 obtain ⟨hq,hr,ho,he,hle⟩:=h;have hV0:0 < v1 * B+v2:=by have:=Nat.mul_pos hv1 hB; omega
 have hq0:0 < q:=by
  rcases Nat.eq_zero_or_pos q with e | e
  · rw [e,Nat.zero_mul] at hgo; omega
  · exact e
 have hU:u2 * B * B+u1 * B+u0=r * B+q * v1 * B+u0:=by
  rw [<- Nat.add_mul,<- he,Nat.mul_zero,Nat.add_zero,Nat.add_mul]
 have h3:(u2 * B * B+u1 * B+u0) / (v1 * B+v2) < q:=by
  rw [Nat.div_lt_iff_lt_mul hV0,hU,Nat.mul_add,<- Nat.mul_assoc];omega
 refine ⟨hq0,by omega,Nat.mod_lt _ hB,by have:=(Nat.div_lt_iff_lt_mul hB).2 (show r+v1 < 2 * B by omega); omega,?_,by unfold jdj; omega⟩;rw [Nat.mod_add_div,Nat.sub_mul,Nat.one_mul];have:v1<=q * v1:=Nat.le_mul_of_pos_left _ hq0;omega
end Go.Proofs.YtopddaabiinboaaGreat

/- Layer 3 (division): the parts of long division. -/
set_option maxRecDepth 100000
set_option maxHeartbeats 8000000
namespace Go.Proofs.YtopddaabiinboaaGreat
open Go.RowKit
def xim (B U2 U V v1:Nat) (w:World) (s11 s12 s13:Value) (wx:World):Prop:=
 ∃ q r o:Nat,s11=.int .u32 (q:Nat)/\s12=.int .u32 (r:Nat)/\s13=.int .u32 (o:Nat)/\ug6 B U2 U V v1 q r o/\∃ n,wx=w.drewN n
theorem xhy (u2 u1 u0 v1 v2:Nat) (w:World) (hu2:u2<=v1) (hu1:u1 < 4294967296) (hu0:u0 < 4294967296) (hv1:v1 < 4294967296) (hv2:v2 < 4294967296) (hv10:2147483648<=v1) :
 Calls Tryz.prog 239 #[.int .u32 (u2:Nat),.int .u32 (u1:Nat),.int .u32 (u0:Nat),.int .u32 (v1:Nat),.int .u32 (v2:Nat)] w fun e w' =>
  e=.returned (.int .u32 (jdj B32 (u2 * B32 * B32+u1 * B32+u0) (v1 * B32+v2):Nat))/\∃ n,w'=w.drewN n:=by
 go_enter Tryz.func239,Tryz.ntmps239
 go_upto_if 18 with (fail)
 go_cut [11,12,13] (fun s11 s12 s13 wx=>xim B32 (u2 * B32+u1) (u2 * B32 * B32+u1 * B32+u0) (v1 * B32+v2) v1 w s11 s12 s13 wx)
 case first =>
  by_cases h:u2 < v1
  · have hi:=Lib.hid (viu (u0:=u0) (v2:=v2) zc5 (show u1 < B32 from hu1) (show u0 < B32 from hu0) (show v1 < B32 from hv1) h);go_wp2_with fail;refine (giw _ _ _ _ (by omega) (by omega) (by omega) (by omega) (by omega)).mono ?_;rintro e w2 ⟨rfl,n2,rfl⟩;go_wp2_with fail
    go_meet
    refine ⟨_,_,0,?_,?_,rfl,hi.out,n2,rfl⟩
    · rw [gc3]; simp
    · rw [gc3]; simp
  · have he:u2=v1:=by omega
    have hi:=Lib.hid (jhy (u0:=u0) (v2:=v2) zc5 (show u1 < B32 from hu1) (show v1 < B32 from hv1) he);clear he;go_wp2_with fail;refine (add32 _ _ 0 _ (by omega) (by omega) (by omega) (by omega) (by omega) (by omega)).mono ?_;rintro e w2 ⟨rfl,rfl⟩;go_wp2_with fail
    go_meet
    refine ⟨_,_,_,?_,?_,?_,hi.out,0,rfl⟩
    · rfl
    · rw [gc3]; simp
    · rw [gc3]; simp
 case rest =>
  obtain ⟨q,r,o,rfl,rfl,rfl,hinv,n,rfl⟩:=hcut;have HI0:=Lib.hid hinv;clear hinv;go_wp2_with fail
  go_loopw [11,12,13] (fun s11 s12 s13 wx=>xim B32 (u2 * B32+u1) (u2 * B32 * B32+u1 * B32+u0) (v1 * B32+v2) v1 w s11 s12 s13 wx) (fun s11 _ _ _=>(intOf s11).toNat)
  case atStart=>exact ⟨q,r,o,rfl,rfl,rfl,HI0.out,n,rfl⟩
  case round =>
   clear HI0;obtain ⟨q,r,o,rfl,rfl,rfl,hinv,n,rfl⟩:=hrel;have hq:=hinv.1;have hr:=hinv.2.1;have ho:=hinv.2.2.1;have HI:=Lib.hid hinv;rw [gc3] at hq hr;clear hinv
   by_cases ho0:o=0
   · subst ho0;go_wp2_with fail;refine (uh9 _ _ _ (by omega) (by omega) (by omega) (by omega)).mono ?_;rintro e w2 ⟨rfl,rfl⟩;obtain ⟨H,hH⟩:∃ H:Nat,H=q * v2 / 4294967296:=⟨_,rfl⟩;obtain ⟨Lo,hLo⟩:∃ Lo:Nat,Lo=q * v2 % 4294967296:=⟨_,rfl⟩;have e1:(q:Int) * v2 / 4294967296=H:=by rw [hH]; simp
     have e2:(q:Int) * v2 % 4294967296=Lo:=by rw [hLo]; simp
     have hdec:q * v2=H * 4294967296+Lo:=by omega
     have hLo1:Lo < 4294967296:=by omega
     have HDEC:=Lib.hid hdec;rw [e1,e2];clear e1 e2 hH hLo hdec;have hdone:q * v2<=r * B32+u0->q=jdj B32 (u2 * B32 * B32+u1 * B32+u0) (v1 * B32+v2):=fun h=>khy zc5 HI.out (by omega) (.inr h) hv2
     have HDONE:=Lib.hid hdone;clear hdone;rcases Nat.lt_trichotomy H r with hlt | heq | hgt
     · have b1:decide (H < r)=true:=by simp [hlt]
       go_wp2_with fail;go_ret;refine ⟨?_,_,rfl⟩;have:=HDONE.out (by rw [gc3]; have:=HDEC.out; omega);rw [<- this]
       rfl
     · subst heq;have b1:decide (H < H)=false:=by simp
       have b2:((H:Int) == (H:Int))=true:=by simp
       by_cases hl:Lo<=u0
       · have b3:decide (Lo<=u0)=true:=by simp [hl]
         go_wp2_with fail;go_ret;refine ⟨?_,_,rfl⟩;have:=HDONE.out (by rw [gc3]; have:=HDEC.out; omega);rw [<- this]
         rfl
       · have b3:decide (Lo<=u0)=false:=by simp [hl]
         obtain ⟨hq0,hst⟩:=qhy zc5 HI.out (by omega) (show v1 < B32 from hv1) (by rw [gc3]; have:=HDEC.out; omega);have HST:=Lib.hid hst;clear hst;go_wp2_with fail;refine (add32 _ _ 0 _ (by omega) (by omega) (by omega) (by omega) (by omega) (by omega)).mono ?_;rintro e w2 ⟨rfl,rfl⟩;go_wp2_with fail
         go_roundw
         case rel=>exact ⟨q - 1,_,_,by congr 1; omega,by rw [gc3]; simp,by rw [gc3]; simp,HST.out,_,rfl⟩
         case measure=>simp [intOf]; omega
     · have b1:decide (H < r)=false:=by simp; omega
       have b2:((H:Int) == (r:Int))=false:=beq_eq_false_iff_ne.2 (by omega);obtain ⟨hq0,hst⟩:=qhy zc5 HI.out (by omega) (show v1 < B32 from hv1) (by rw [gc3]; have:=HDEC.out; omega);have HST:=Lib.hid hst;clear hst;go_wp2_with fail;refine (add32 _ _ 0 _ (by omega) (by omega) (by omega) (by omega) (by omega) (by omega)).mono ?_;rintro e w2 ⟨rfl,rfl⟩;go_wp2_with fail
       go_roundw
       case rel=>exact ⟨q - 1,_,_,by congr 1; omega,by rw [gc3]; simp,by rw [gc3]; simp,HST.out,_,rfl⟩
       case measure=>simp [intOf]; omega
   · obtain rfl:o=1:=by omega
     have hd:=khy zc5 HI.out (by omega) (.inl rfl) hv2;have HD:=Lib.hid hd;clear hd;go_wp2_with fail;go_ret;refine ⟨?_,_,rfl⟩;rw [<- HD.out]
     rfl
end Go.Proofs.YtopddaabiinboaaGreat

/- Layer 3 (division): subtracting a multiple, adding back, in place. -/
set_option maxRecDepth 100000
set_option maxHeartbeats 8000000
namespace Go.Proofs.YtopddaabiinboaaGreat
open Go.RowKit
def seg (zs:List Nat) (off k:Nat):List Nat:=(zs.drop off).take k
theorem zg7 {zs:List Nat} {off k r:Nat} (h:Hid (zs[off+k]?=some r)):val (seg zs off (k+1))=val (seg zs off k)+B32 ^ k * r:=by
 have h1:Hid ((zs.drop off)[k]?=some r):=by
  have:=h.out;rw [<- List.getElem?_drop] at this;exact this
 exact wc3 h1
theorem ziz {zs:List Nat} {off k d:Nat} (h:off+k < zs.length):val (seg (zs.set (off+k) d) off (k+1))=val (seg zs off k)+B32 ^ k * d:=by
 unfold seg;have hlk:k < (zs.drop off).length:=by rw [List.length_drop]; omega
 rw [List.drop_set,if_neg (by omega),Nat.add_sub_cancel_left,yda _ _ _ hlk,wdf,List.length_take,Nat.min_eq_left (by omega)]
theorem jhr {zs:List Nat} {i d:Nat}:(zs.set i d).drop (i+1)=zs.drop (i+1):=by
 rw [List.drop_set,if_pos (by omega)]
def vgs (g off:Nat) (zs:List Nat) (k:Nat) (w0 wr:World) (ys:List Nat):Prop:=
 Row wr g ys/\ys.length=zs.length/\uc3 ys/\ys.take off=zs.take off/\ys.drop (off+k)=zs.drop (off+k)/\Only g w0 wr
theorem vgs.get {g off k:Nat} {zs ys:List Nat} {w0 wr:World} (h:vgs g off zs k w0 wr ys) (hk:off+k < zs.length) :
 ∃ r:Nat,wr.cell? ⟨g,off+k,none⟩=some (.int .u32 (r:Nat))/\wr.frozen? ⟨g,off+k,none⟩=false/\r < 4294967296/\Hid (zs[off+k]?=some r):=by
 obtain ⟨h1,h2,h3,h4,h5,h6⟩:=h;obtain ⟨r,c1,c2,c3⟩:=h1.get_ (off+k) (by omega);refine ⟨r,c1,c2,h3 _ (List.mem_of_getElem? c3.out),?_⟩;have e1:ys[off+k]?=(ys.drop (off+k))[0]?:=by rw [List.getElem?_drop]; simp
 have e2:zs[off+k]?=(zs.drop (off+k))[0]?:=by rw [List.getElem?_drop]; simp
 have:=c3.out;rw [e1,h5,<- e2] at this;exact this
theorem vgs.set {g off k d:Nat} {zs ys:List Nat} {w0 wr:World} (h:vgs g off zs k w0 wr ys) (hk:off+k < zs.length) (hd:d < B32) :
 vgs g off zs (k+1) w0 (wr.setCell ⟨g,off+k,none⟩ (.int .u32 (d:Nat))) (ys.set (off+k) d)/\val (seg (ys.set (off+k) d) off (k+1))=val (seg ys off k)+B32 ^ k * d:=by
 obtain ⟨h1,h2,h3,h4,h5,h6⟩:=h;refine ⟨⟨h1.set_ _ _,by rw [List.length_set,h2],h3.set _ _ hd,by rw [List.take_set_of_le (by omega),h4],?_,h6.setCell _ _⟩,ziz (by omega)⟩;rw [show off+(k+1)=(off+k)+1 from by omega,jhr,<- List.drop_drop (i:=1) (j:=off+k),h5,List.drop_drop]
theorem yif (Sy Sz P c b d low c' b' p z D X:Nat) (h:Sy+D * X=Sz+P * (c+b)) (y:Nat) (hp:p=D * y) (h1:p+c=low+B32 * c') (h2:d+low+b=z+B32 * b') :
 (Sy+P * d)+D * (X+P * y)=(Sz+P * z)+P * B32 * (c'+b'):=by
 have e1:D * (X+P * y)=D * X+P * p:=by rw [Nat.mul_add,hp,Nat.mul_left_comm]
 have e2:P * (d+p+c+b)=P * (z+B32 * (c'+b')):=by congr 1; rw [Nat.mul_add]; omega
 rw [Nat.mul_add,Nat.mul_add,Nat.mul_add,Nat.mul_add,<- Nat.mul_assoc] at e2;rw [Nat.mul_add] at h;omega
def vhn (g off:Nat) (zs xs:List Nat) (D k c b:Nat) (w0 wr:World):Prop:=
 ∃ ys,vgs g off zs k w0 wr ys/\val (seg ys off k)+D * val (xs.take k)=val (seg zs off k)+B32 ^ k * (c+b)
def vh6 (g off n:Nat) (zs xs:List Nat) (D:Nat) (w:World) (e:Ending) (w':World):Prop:=
 ∃ (ys:List Nat) (b:Nat),b<=1/\e=.returned (.bool ((b:Int) != 0))/\vgs g off zs (n+1) w w' ys/\val (seg ys off (n+1))+D * val xs=val (seg zs off (n+1))+B32 ^ (n+1) * b
theorem vin (g off zc n xc D : Nat) (zs xs : List Nat) (X : Option Addr) (w : World) (hrow : Row w g zs) (hzd : uc3 zs) (hzl : off + n + 1 <= zs.length) (hzc : n + 1 <= zc) (hzc' : zc <= 35184372088832)
 (hx:wc4 w X xs) (hxn:xs.length=n) (hxa:∀ ad,X=some ad->ad.block ≠ g) (hxc:n<=xc) (_hxc':xc<=9223372036854775807) (hD:D < 4294967296) :
 Calls Tryz.prog 240 #[.slice (some ⟨g,off,none⟩) (n+1) zc,.slice X n xc,.int .u32 (D:Nat)] w (vh6 g off n zs xs D w):=by
 have HINV:Hid (vhn g off zs xs D 0 0 0 w w):=⟨zs,⟨hrow,rfl,hzd,rfl,rfl,Only.refl _ _⟩,by simp [seg]⟩;have HX:=Lib.hid hx;have HXN:=Lib.hid hxn;have HXA:=Lib.hid hxa;clear hx hxa hrow hzd hxn;go_enter Tryz.func240,Tryz.ntmps240;go_wp2_with fail
 go_loopw [7,8,17] (fun cv bv iv wr=>∃ k c b:Nat,k<=n/\iv=.int .i64 k/\cv=.int .u32 c/\bv=.int .u32 b/\c < 4294967296/\b<=1/\Hid (vhn g off zs xs D k c b w wr)) (fun _ _ iv _=>n - (intOf iv).toNat)
 case atStart=>exact ⟨0,0,0,by omega,rfl,rfl,rfl,by omega,by omega,HINV⟩
 case round =>
  clear HINV;obtain ⟨k,c,b,hk,rfl,rfl,rfl,hc,hb,HI⟩:=hrel;obtain ⟨ys,hseg,hval⟩:=HI.out;obtain ⟨r,hrc,hrf,hr1,HR⟩:=hseg.get (by omega)
  by_cases hlt:k < n
  · obtain ⟨ad,y,rfl,hbk,hcell,hy1,HY⟩:=(HX.out.only hseg.2.2.2.2.2 HXA.out).get_ k (by have:=HXN.out; omega);have hp0:(0:Int)<=(y:Int) * D:=Int.mul_nonneg (by omega) (by omega);have hp1:(y:Int) * D<=4294967295 * 4294967295:=Int.mul_le_mul (by omega) (by omega) (by omega) (by omega);have HSEG:=Lib.hid hseg;have HVAL:=Lib.hid hval;clear HI hseg hval;go_wp2_with fail;refine (uh9 _ _ _ (by omega) (by omega) (by omega) (by omega)).mono ?_;rintro e w2 ⟨rfl,rfl⟩;go_wp2_with fail;refine (add32 _ _ 0 _ (by omega) (by omega) (by omega) (by omega) (by omega) (by omega)).mono ?_;rintro e w2 ⟨rfl,rfl⟩;go_wp2_with fail;obtain ⟨p,hp⟩:∃ p:Nat,p=D * y:=⟨_,rfl⟩;have hpI:(y:Int) * D=(p:Int):=by rw [hp]; simp [Int.mul_comm]
    rw [hpI] at hp1 ⊢;obtain ⟨low,hlow⟩:∃ low:Nat,low=(p+c) % 4294967296:=⟨_,rfl⟩;obtain ⟨cc,hcc⟩:∃ cc:Nat,cc=(p+c) / 4294967296:=⟨_,rfl⟩;have e1:((p:Int)+c) % 4294967296=low:=by omega
    have e2:(p:Int) / 4294967296+((p:Int) % 4294967296+c) / 4294967296=cc:=by omega
    have hcc1:cc < 4294967296:=by omega
    have hl1:low < 4294967296:=by omega
    rw [e1,e2];have HPC:Hid (p+c=low+B32 * cc):=by
     have:p+c=low+B32 * cc:=by rw [gc3]; omega
     exact this
    have HP:=Lib.hid hp;clear hlow hcc e1 e2 hpI hp0 hp1 hp;refine (uh7 _ _ _ _ (by omega) (by omega) (by omega) (by omega) (by omega) (by omega)).mono ?_;rintro e w2 ⟨rfl,rfl⟩;obtain ⟨d,hd1⟩:=Int.eq_ofNat_of_zero_le (show 0<=((r:Int) - low - b) % 4294967296 by omega);obtain ⟨b',hb'⟩:=Int.eq_ofNat_of_zero_le (jg6 r low b).1;have hb2:=(jg6 r low b).2;rw [hb'] at hb2;have hdc:d+low+b=r+B32 * b':=by
     rw [gc3];unfold bor at hb'
     split at hb' <;> omega
    have hdlt:d < B32:=by rw [gc3]; omega
    rw [hd1,hb'];have HS:Hid (vhn g off zs xs D (k+1) cc b' w (wr.setCell ⟨g,off+k,none⟩ (.int .u32 (d:Nat)))):=by
     obtain ⟨s1,s2⟩:=HSEG.out.set (d:=d) (by omega) hdlt;refine ⟨_,s1,?_⟩;rw [s2,wc3 HY,zg7 HR,Nat.pow_succ];exact yif _ _ _ _ _ _ _ _ _ _ _ _ _ HVAL.out y HP.out HPC.out hdc
    clear hd1 hb' hdc HSEG HVAL HR;go_wp2_with fail
    go_roundw
    case rel=>exact ⟨k+1,cc,b',by omega,by go_num,rfl,rfl,hcc1,by omega,HS⟩
    case measure=>simp [intOf]; omega
  · obtain rfl:k=n:=by omega
    have HSEG:=Lib.hid hseg;have HVAL:=Lib.hid hval;clear HI hseg hval;go_wp2_with fail;refine (uh7 _ _ _ _ (by omega) (by omega) (by omega) (by omega) (by omega) (by omega)).mono ?_;rintro e w2 ⟨rfl,rfl⟩;obtain ⟨d,hd1⟩:=Int.eq_ofNat_of_zero_le (show 0<=((r:Int) - c - b) % 4294967296 by omega);obtain ⟨b',hb'⟩:=Int.eq_ofNat_of_zero_le (jg6 r c b).1;have hb2:=(jg6 r c b).2;rw [hb'] at hb2;have hdc:d+c+b=r+B32 * b':=by
     rw [gc3];unfold bor at hb'
     split at hb' <;> omega
    have hdlt:d < B32:=by rw [gc3]; omega
    rw [hd1,hb'];have hbb:b'<=1:=by omega
    have HF:Hid (vh6 g off k zs xs D w (.returned (.bool ((b':Int) != 0))) (wr.setCell ⟨g,off+k,none⟩ (.int .u32 (d:Nat)))):=by
     obtain ⟨s1,s2⟩:=HSEG.out.set (d:=d) (by omega) hdlt;refine ⟨_,b',hbb,rfl,s1,?_⟩;rw [s2,zg7 HR,Nat.pow_succ];have h3:=HVAL.out;rw [List.take_of_length_le (by have:=HXN.out; omega)] at h3;have e2:B32 ^ k * (d+c+b)=B32 ^ k * (r+B32 * b'):=by rw [hdc]
     rw [Nat.mul_add,Nat.mul_add,Nat.mul_add,<- Nat.mul_assoc] at e2;rw [Nat.mul_add] at h3;omega
    clear hd1 hb' hdc HSEG HVAL HR;go_wp2_with fail;go_ret;exact HF.out
theorem uhq (Sy Sz P c d r y c' X:Nat) (h:Sy+P * c=Sz+X) (h1:r+y+c=d+B32 * c'):(Sy+P * d)+P * B32 * c'=(Sz+P * r)+(X+P * y):=by
 have e2:P * (r+y+c)=P * (d+B32 * c'):=by rw [h1]
 rw [Nat.mul_add,Nat.mul_add,Nat.mul_add,<- Nat.mul_assoc] at e2;omega
def ghn (g off:Nat) (zs xs:List Nat) (k c:Nat) (w0 wr:World):Prop:=
 ∃ ys,vgs g off zs k w0 wr ys/\val (seg ys off k)+B32 ^ k * c=val (seg zs off k)+val (xs.take k)
def wh6 (g off n:Nat) (zs xs:List Nat) (w:World) (e:Ending) (w':World):Prop:=
 ∃ (ys:List Nat) (c:Nat),e=.returned (.tuple #[])/\vgs g off zs (n+1) w w' ys/\val (seg ys off (n+1))+B32 ^ (n+1) * c=val (seg zs off (n+1))+val xs
theorem xiw (g off zc n xc : Nat) (zs xs : List Nat) (X : Option Addr) (w : World) (hrow : Row w g zs) (hzd : uc3 zs) (hzl : off + n + 1 <= zs.length) (hzc : n + 1 <= zc) (hzc' : zc <= 35184372088832)
 (hx:wc4 w X xs) (hxn:xs.length=n) (hxa:∀ ad,X=some ad->ad.block ≠ g) (hxc:n<=xc) (_hxc':xc<=9223372036854775807) :
 Calls Tryz.prog 241 #[.slice (some ⟨g,off,none⟩) (n+1) zc,.slice X n xc] w (wh6 g off n zs xs w):=by
 have HINV:Hid (ghn g off zs xs 0 0 w w):=⟨zs,⟨hrow,rfl,hzd,rfl,rfl,Only.refl _ _⟩,by simp [seg]⟩;have HX:=Lib.hid hx;have HXN:=Lib.hid hxn;have HXA:=Lib.hid hxa;clear hx hxa hrow hzd hxn;go_enter Tryz.func241,Tryz.ntmps241;go_wp2_with fail
 go_loopw [4,9] (fun cv iv wr=>∃ k c:Nat,k<=n/\iv=.int .i64 k/\cv=.int .u32 c/\c<=1/\Hid (ghn g off zs xs k c w wr)) (fun _ iv _=>n - (intOf iv).toNat)
 case atStart=>exact ⟨0,0,by omega,rfl,rfl,by omega,HINV⟩
 case round =>
  clear HINV;obtain ⟨k,c,hk,rfl,rfl,hc,HI⟩:=hrel;obtain ⟨ys,hseg,hval⟩:=HI.out;obtain ⟨r,hrc,hrf,hr1,HR⟩:=hseg.get (by omega)
  by_cases hlt:k < n
  · obtain ⟨ad,y,rfl,hbk,hcell,hy1,HY⟩:=(HX.out.only hseg.2.2.2.2.2 HXA.out).get_ k (by have:=HXN.out; omega);have HS:Hid (ghn g off zs xs (k+1) ((r+y+c) / B32) w (wr.setCell ⟨g,off+k,none⟩ (.int .u32 (((r+y+c) % B32:Nat):Int)))):=by
     obtain ⟨s1,s2⟩:=hseg.set (d:=(r+y+c) % B32) (by omega) (Nat.mod_lt _ zc5);refine ⟨_,s1,?_⟩;rw [s2,wc3 HY,zg7 HR,Nat.pow_succ];exact uhq _ _ _ _ _ _ _ _ _ hval (Nat.mod_add_div _ _).symm
    clear HI hseg hval;go_wp2_with fail;refine (add32 _ _ _ _ (by omega) (by omega) (by omega) (by omega) (by omega) (by omega)).mono ?_;rintro e w2 ⟨rfl,rfl⟩;go_wp2_with fail
    go_roundw
    case rel =>
     refine ⟨k+1,(r+y+c) / B32,by omega,by go_num,by rw [gc3]; congr 1,by rw [gc3]; omega,?_⟩;rw [show (((r:Int)+y+c) % 4294967296)=(((r+y+c) % B32:Nat):Int) from by rw [gc3]; omega];exact HS
    case measure=>simp [intOf]; omega
  · obtain rfl:k=n:=by omega
    have HF:Hid (wh6 g off k zs xs w (.returned (.tuple #[])) (wr.setCell ⟨g,off+k,none⟩ (.int .u32 (((r+c) % B32:Nat):Int)))):=by
     obtain ⟨s1,s2⟩:=hseg.set (d:=(r+c) % B32) (by omega) (Nat.mod_lt _ zc5);refine ⟨_,(r+c) / B32,rfl,s1,?_⟩;rw [s2,zg7 HR,Nat.pow_succ];have h3:=hval;rw [List.take_of_length_le (by have:=HXN.out; omega)] at h3;have:=uhq _ _ _ _ _ _ 0 _ _ h3 (Nat.mod_add_div (r+0+c) _).symm;simpa using this
    clear HI hseg hval;go_wp2_with fail
    go_end0
    rw [show (((r:Int)+c) % 4294967296)=(((r+c) % B32:Nat):Int) from by rw [gc3]; omega];exact HF.out
end Go.Proofs.YtopddaabiinboaaGreat
