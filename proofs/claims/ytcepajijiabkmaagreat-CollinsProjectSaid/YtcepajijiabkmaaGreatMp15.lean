/- Rows of polynomials that grow. -/
import Derived.Test.YtcepajijiabkmaaGreatMp14
set_option linter.unusedSimpArgs false
set_option linter.unusedVariables false

namespace Go.Proofs.YtcepajijiabkmaaGreat
open Lib (hid)
open Go.RowKit
theorem wbv : jao 31 33 4 64 (.agg #[.int .i64 0, .bool false, .slice none 0 0, .slice none 0 0]) where
 und:=Tryz.underlying31
 info:=kax
 cells:=rfl
 pos:=by omega
 nodig:=by
  intro u hu;simp only [Value.cells] at hu;simp only [pQ,sM,or_false] at hu;rcases hu with rfl | rfl | rfl | rfl <;> rfl
theorem yl.qaQ {S T:TypeId} {k bytes:Nat} {Z:Value} (R:jao S T k bytes Z) {base:Nat} {W:World} {ov:Value} {n:Nat} {xs:List Value} (h:yl T k base W ov n xs) (A:Option Addr) (c:Nat) (ty:TypeId):(Builtin.append_ #[S,S] ty #[ov,.slice A 0 c]).run Tryz.prog W=.ok ov W:=by
 obtain ⟨o1,bP⟩:=h;obtain ⟨i0,hi,iV,iI,iH⟩:=info_parts R.info;have hu:=R.und;rcases o1.2 with ⟨rfl,rfl⟩ | ⟨g,cap,cur,rfl,FK,hg,Cc,gU,fB,wM⟩
 · cases A <;> simp [Builtin.append_,run_underlying hu,sizeOf,typeInfo,hi,Builtin.lenOf,Builtin.firstCells,loadCells,loadCellsFrom]
 · cases A <;> simp [Builtin.append_,run_underlying hu,sizeOf,typeInfo,hi,Builtin.lenOf,Builtin.firstCells,loadCells,loadCellsFrom,storeCells,Cc]
def plC (r:Pl × Value × Value):List Value:=[.int .i64 r.1.lv,.bool r.1.neg,r.2.1,r.2.2]
def uo (rs:List (Pl × Value × Value)):List Value:=rs.flatMap plC
theorem vav (a b:List (Pl × Value × Value)):uo (a ++ b)=uo a ++ uo b:=by simp [uo]
theorem jaa (a:List (Pl × Value × Value)):(uo a).length=a.length * 4:=by
 induction a with
 | nil=>rfl
 | cons r rs ih=>simp only [uo,th,ra,pL] at *; rw [ih]; simp [plC]; omega
theorem xam (rs:List (Pl × Value × Value)) (k:Nat) (hk:k < rs.length) (j:Nat) (hj:j < 4):(uo rs)[k * 4+j]?=(plC rs[k])[j]?:=by
 induction rs generalizing k with
 | nil=>simp at hk
 | cons r rs ih =>
   have hl:(plC r).length=4:=rfl;simp only [uo,th];cases k with
   | zero=>simp only [sY,rh,tT]; rw [List.getElem?_append_left (by omega)]
   | succ k =>
     rw [List.getElem?_append_right (by omega),hl,show (k+1) * 4+j - 4=k * 4+j by omega];exact ih k (by simpa using hk)
def jg (base:Nat) (q:Nat->Prop) (W:World) (v:Value) (l:List Pl):Prop:=
 ∃ rs:List (Pl × Value × Value),rs.map (fun r=>r.1)=l/\yl 33 4 base W v rs.length (uo rs)/\∀ r ∈ rs,(∃ A0 n0 c0 A1 n1 c1,r.2=(.slice A0 n0 c0,.slice A1 n1 c1))/\PlV W (fun b=>v.ownBlock ≠ some b/\q b) r.1 (plV r.1 r.2.1 r.2.2)
section
variable {base:Nat} {q:Nat->Prop} {W W':World} {v:Value} {l:List Pl}
theorem jg.nil (base:Nat) (q:Nat->Prop) (W:World):jg base q W (.slice none 0 0) []:=⟨[],rfl,yl.nil _ _ _ _,by simp⟩
theorem jg.own (h:jg base q W v l) {R:Nat} (hR:v.ownBlock=some R):base<=R/\R < W.heap.size:=by
 obtain ⟨rs,-,h2,-⟩:=h;exact h2.own hR
theorem jg.len (h:jg base q W v l):∃ A c,v=.slice A l.length c/\l.length<=c/\c<=9223372036854775807:=by
 obtain ⟨rs,rfl,h2,-⟩:=h;rw [px];exact h2.len
theorem jg.ext (h:jg base q W v l) (hx:Ext W W'):jg base q W' v l:=by
 obtain ⟨rs,e,h2,h3⟩:=h;exact ⟨rs,e,h2.ext hx,fun r hr=>⟨(h3 r hr).1,(h3 r hr).2.ext hx⟩⟩
theorem jg.less {base':Nat} (h:jg base q W v l) (hb:base'<=base):jg base' q W v l:=by
 obtain ⟨rs,e,h2,h3⟩:=h;exact ⟨rs,e,h2.less hb,h3⟩
theorem jg.at_ {A:Option Addr} {n c:Nat} (h:jg base q W (.slice A n c) l):jd W (fun b=>base<=b\/q b) l A 0:=by
 obtain ⟨rs,rfl,h2,h3⟩:=h;refine jd.of _ _ 0 fun i hi=>?_
 rw [px] at hi;obtain ⟨g,c',e',-,-,FK,af,-⟩:=h2.pos (by omega);injection e' with e1 e2 e3
 subst e1 e2 e3;have aj:∀ j,j < 4->W.cell? ⟨g,i * 4+j,none⟩=(plC rs[i])[j]?:=by
  intro j hj;rw [h2.cell (i * 4+j) (by omega)];exact xam rs i hi j hj
 refine ⟨⟨g,0,none⟩,rs[i].2.1,rs[i].2.2,rfl,af,.inl FK,?_,?_⟩
 · rw [zu,rh,rh,rK];exact ⟨aj 0 (by omega),aj 1 (by omega),aj 2 (by omega),aj 3 (by omega)⟩
 · rw [rK]; exact (h3 rs[i] (pt hi)).2.mono fun b hb=>.inr hb.2
end
theorem jd.rows {W:World} {p:Nat->Prop} {A:Option Addr} (l:List Pl):∀ (j:Nat),jd W p l A j->∃ rs:List (Pl × Value × Value),rs.map (fun r=>r.1)=l/\(∀ r ∈ rs,(∃ A0 n0 c0 A1 n1 c1,r.2=(.slice A0 n0 c0,.slice A1 n1 c1))/\PlV W p r.1 (plV r.1 r.2.1 r.2.2))/\∀ ad,A=some ad->∀ i (hi:i < rs.length),zx W (ad.add ((j+i) * 4)) rs[i].1 rs[i].2.1 rs[i].2.2:=by
 induction l with
 | nil=>intro j h; exact ⟨[],rfl,by simp,fun ad _ i hi=>by simp at hi⟩
 | cons x r ih =>
   intro j h;unfold jd at h;obtain ⟨⟨ad,s,K,e,hb,hq,h1,h2⟩,h3⟩:=h;obtain ⟨rs,e1,e2,e3⟩:=ih (j+1) h3;obtain ⟨A0,n0,c0,A1,c1,ee,-⟩:=id h2.open_;have ee2:s=.slice A0 n0 c0/\K=.slice A1 x.cs.length c1:=by
    unfold plV at ee;simpa using ee
   refine ⟨(x,s,K) :: rs,by simp [e1],fun r hr=>?_,fun ad' ha i hi=>?_⟩
   · rcases pQ.1 hr with rfl | hr
     · exact ⟨⟨_,_,_,_,_,_,by rw [ee2.1,ee2.2]⟩,h2⟩
     · exact e2 r hr
   · cases i with
     | zero=>rw [e] at ha; injection ha with ha; subst ha; exact h1
     | succ i =>
       have:=e3 ad' ha i (by simpa using hi);rw [show j+(i+1)=j+1+i by omega];exact this
theorem uce (a:Addr) (n:Nat):(a.add n).off=a.off+n:=by unfold Addr.add; split <;> simp_all
theorem xc9 (a:Addr) (n:Nat) (h:0 < n):a.add n=⟨a.block,a.off+n,none⟩:=by unfold Addr.add; rw [if_neg (by omega)]
theorem zx.cells {W:World} {ad:Addr} {r:Pl × Value × Value} {i:Nat} (h:zx W (ad.add (i * 4)) r.1 r.2.1 r.2.2) (j:Nat) (hj:j < 4) (u:Value) (hu:(plC r)[j]?=some u):W.cell? (ad.add (i * 4+j))=some u:=by
 obtain ⟨h0,h1,h2,h3⟩:=h;rw [ja,uce] at h1 h2 h3;rcases (show j=0\/j=1\/j=2\/j=3 by omega) with rfl | rfl | rfl | rfl
 · simp only [plC,Ra,Option.some.injEq] at hu;subst hu; exact h0
 all_goals
  rw [xc9 _ _ (by omega)];simp only [plC,Ra,Sk,Option.some.injEq] at hu;subst hu
  first | exact h1 | exact h2 | exact h3
theorem jg.append_ {base:Nat} {q:Nat->Prop} {W:World} {ov:Value} {l:List Pl} {ad:Addr} (h:jg base q W ov l) (dh:base<=W.heap.size) (rO:List (Pl × Value × Value)) (e2:∀ r ∈ rO,(∃ A0 n0 c0 A1 n1 c1,r.2=(.slice A0 n0 c0,.slice A1 n1 c1))/\PlV W (fun b=>ov.ownBlock ≠ some b/\q b) r.1 (plV r.1 r.2.1 r.2.2)) (e3:∀ i (hi:i < rO.length),zx W (ad.add (i * 4)) rO[i].1 rO[i].2.1 rO[i].2.2) (di:0 < rO.length) (hlen:l.length+rO.length<=1000000000) (c:Nat) (ty:TypeId) :
 ∃ v4 w4,(Builtin.append_ #[31,31] ty #[ov,.slice (some ad) rO.length c]).run Tryz.prog W=.ok v4 w4/\W.grownBy w4 ov.ownBlock/\(∀ v ds,jc W v ds->jc w4 v ds)/\jg base q w4 v4 (l ++ rO.map (fun r=>r.1))/\(v4.ownBlock=ov.ownBlock\/v4.ownBlock=some W.heap.size):=by
 obtain ⟨rs,rfl,h2,h3⟩:=h;rw [px] at hlen;obtain ⟨v4,w4,ak,r1,r2,r3,r4⟩:=h2.append wbv dh ad rO.length c (uo rO) (jaa rO) (by
  intro j u hu;have hj:j < rO.length * 4:=by rw [<- jaa]; exact (wh.1 hu).1
  have hd:j / 4 * 4+j % 4=j:=by omega
  have hm:=e3 (j / 4) (by omega);have hg:=xam rO (j / 4) (by omega) (j % 4) (by omega);rw [hd,hu] at hg;have:=hm.cells (j % 4) (by omega) u hg.symm
  rwa [hd] at this) (by
  intro u hu;simp only [uo,tg] at hu;obtain ⟨r,hr,hu⟩:=hu;obtain ⟨⟨A0,n0,c0,A1,n1,c1,er⟩,-⟩:=e2 r hr;simp only [plC,er,pQ,sM,or_false] at hu
  rcases hu with rfl | rfl | rfl | rfl <;> exact ⟨rfl,rfl⟩) di (by omega) (by omega) ty
 refine ⟨v4,w4,ak,r2,r3,⟨rs ++ rO,by simp,?_,fun r hr=>?_⟩,r4⟩
 · rw [vav,ra]; exact r1
 · have uP:∀ b,b < W.heap.size->ov.ownBlock ≠ some b->v4.ownBlock ≠ some b:=by
    intro b hb ax e;rcases r4 with r4 | r4
    · exact ax (by rw [<- r4]; exact e)
    · rw [r4] at e; injection e with e; omega
   have hblk:∀ b,b < W.heap.size->ov.ownBlock ≠ some b->w4.heap[b]?=W.heap[b]?:=fun b hb ax=>rr r2 b hb (fun e=>ax e.symm)
   rcases rj.1 hr with hr | hr
   · exact ⟨(h3 r hr).1,PlV.zd r2.size r3 (fun b hb hp=>⟨⟨uP b hb hp.1,hp.2⟩,hblk b hb hp.1⟩) (h3 r hr).2⟩
   · exact ⟨(e2 r hr).1,PlV.zd r2.size r3 (fun b hb hp=>⟨⟨uP b hb hp.1,hp.2⟩,hblk b hb hp.1⟩) (e2 r hr).2⟩
theorem jg.append {base:Nat} {q:Nat->Prop} {W:World} {ov:Value} {l l2:List Pl} {A:Option Addr} (h:jg base q W ov l) (dh:base<=W.heap.size) (ha:jd W (fun b=>ov.ownBlock ≠ some b/\q b) l2 A 0) (hlen:l.length+l2.length<=1000000000) (c:Nat) (ty:TypeId) :
 ∃ v4 w4,(Builtin.append_ #[31,31] ty #[ov,.slice A l2.length c]).run Tryz.prog W=.ok v4 w4/\W.grownBy w4 ov.ownBlock/\(∀ v ds,jc W v ds->jc w4 v ds)/\jg base q w4 v4 (l ++ l2)/\(v4.ownBlock=ov.ownBlock\/v4.ownBlock=some W.heap.size):=by
 by_cases dC:l2=[]
 · subst dC;have hh:=h;obtain ⟨rs,rfl,h2,h3⟩:=h;refine ⟨ov,W,yl.qaQ wbv h2 A c ty,⟨rfl,rfl,rfl,pj _,fun _ _ _=>rfl⟩,fun _ _ h=>h,by simpa using hh,.inl rfl⟩
 have di:0 < l2.length:=rA.2 dC;obtain ⟨ad,-,-,rfl,-⟩:=jd.xS l2 A 0 ha 0 di;obtain ⟨rO,rfl,e2,e3⟩:=jd.rows l2 0 ha;rw [px] at hlen di ⊢;exact h.append_ dh rO e2 (fun i hi=>by have:=e3 ad rfl i hi; rwa [rh] at this) di hlen c ty
theorem jg.push {base:Nat} {q:Nat->Prop} {W:World} {ov:Value} {l:List Pl} (h:jg base q W ov l) (dh:base<=W.heap.size) {x:Pl} {A0 A1:Option Addr} {n0 c0 n1 c1:Nat} (hx:PlV W (fun b=>ov.ownBlock ≠ some b/\q b) x (plV x (.slice A0 n0 c0) (.slice A1 n1 c1))) (hlen:l.length+1<=1000000000) (ty:TypeId) :
 ∃ v4 w4,(Builtin.append_ #[31,31] ty #[ov,.slice (some ⟨W.heap.size,0,none⟩) 1 1]).run Tryz.prog (W.alloc (.cells #[.int .i64 x.lv,.bool x.neg,.slice A0 n0 c0,.slice A1 n1 c1] 33))=.ok v4 w4/\W.grownBy w4 ov.ownBlock/\(∀ v ds,jc W v ds->jc w4 v ds)/\jg base q w4 v4 (l ++ [x])/\(v4.ownBlock=ov.ownBlock\/v4.ownBlock=some (W.heap.size+1)):=by
 have eU:Ext W (W.alloc (.cells #[.int .i64 x.lv,.bool x.neg,.slice A0 n0 c0,.slice A1 n1 c1] 33)):=(Ext.refl W).alloc _;obtain ⟨v4,w4,ak,h2,h3,h4,h5⟩:=(h.ext eU).append_ (ad:=⟨W.heap.size,0,none⟩) (by have:=eU.size; omega) [(x,.slice A0 n0 c0,.slice A1 n1 c1)] (by
  intro r hr;obtain rfl:=pD.1 hr;exact ⟨⟨_,_,_,_,_,_,rfl⟩,hx.ext eU⟩) (by
  intro i hi;obtain rfl:i=0:=by simpa using hi
  rw [sY,zu,rh]
  refine ⟨?_,?_,?_,?_⟩ <;> simp [go_sem]) (by simp) (by simpa using hlen) 1 ty
 refine ⟨v4,w4,ak,⟨h2.os.trans eU.below.os,h2.tape.trans eU.below.tape,h2.output.trans eU.below.output,py eU.size h2.size,fun i hi ax=>(rr h2 i (pw hi eU.size) ax).trans (eU.below.block i hi)⟩,fun v ds hv=>h3 v ds (hv.ext eU),h4,?_⟩
 rwa [tL] at h5
def xaz (W:World) (R:Nat) (l:List Int):Prop:=
 R < W.heap.size/\(∀ i,W.frozen? ⟨R,i,none⟩=false)/\∀ i (h:i < l.length),∃ A n c,W.cell? ⟨R,i * 2,none⟩=some (.bool (decide (l[i] < 0)))/\W.cell? ⟨R,i * 2+1,none⟩=some (.slice A n c)/\jc W (.slice A n c) (dg l[i].natAbs)
section
variable {W W':World} {R:Nat} {l:List Int}
theorem xaz.ext (h:xaz W R l) (hx:Ext W W'):xaz W' R l:=by
 obtain ⟨h1,h2,h3⟩:=h;refine ⟨pw h1 hx.size,fun i=>(hx.frozen (p:=⟨R,i,none⟩) h1).trans (h2 i),fun i hi=>?_⟩;obtain ⟨A,n,c,h4,h5,h6⟩:=h3 i hi;exact ⟨A,n,c,(hx.cell (p:=⟨R,i * 2,none⟩) h1).trans h4,(hx.cell (p:=⟨R,i * 2+1,none⟩) h1).trans h5,h6.ext hx⟩
theorem xaz.fin (h:xaz W R l) (c:Nat) (h1:l.length<=c) (h2:c<=9223372036854775807):IsV W (.slice (some ⟨R,0,none⟩) l.length c) l:=by
 obtain ⟨h3,-,h4⟩:=h;refine ⟨_,c,rfl,h1,h2,fun k hk=>?_⟩;obtain ⟨A,n,d,h5,h6,h7⟩:=h4 k hk;refine ⟨⟨R,0,none⟩,A,n,d,rfl,h3,?_,?_,h7⟩
 · rw [zu,rh]; exact h5
 · rw [zu,rh]; exact h6
theorem xaz.xD (h:xaz W R l) (k:Nat) (hk:k < l.length) (z:Int) {A:Option Addr} {n c:Nat} (hz:jc W (.slice A n c) (dg z.natAbs)) :
 xaz ((W.setCell ⟨R,k * 2,none⟩ (.bool (decide (z < 0)))).setCell ⟨R,k * 2+1,none⟩ (.slice A n c)) R (l.set k z):=by
 obtain ⟨h1,h2,h3⟩:=h;obtain ⟨B,m,d,g0,g1,-⟩:=h3 k hk;have q1:(W.setCell ⟨R,k * 2,none⟩ (.bool (decide (z < 0)))).cell? ⟨R,k * 2+1,none⟩=some (.slice B m d):=by rw [ph _ _ _ _ (by intro e; injection e; omega)]; exact g1
 have au:∀ v ds,jc W v ds->jc ((W.setCell ⟨R,k * 2,none⟩ (.bool (decide (z < 0)))).setCell ⟨R,k * 2+1,none⟩ (.slice A n c)) v ds:=fun v ds hv=>(hv.box g0 rfl _).box q1 rfl _
 refine ⟨by simpa [World.setCell] using h1,fun i=>by rw [rm,rm]; exact h2 i,fun i hi=>?_⟩;rw [pH] at hi
 by_cases nG:i=k
 · subst nG;rw [rR];refine ⟨A,n,c,?_,pN _ _ _ q1,au _ _ hz⟩;rw [ph _ _ _ _ (by intro e; injection e; omega)];exact pN _ _ _ g0
 · rw [sX (Ne.symm nG)];obtain ⟨C,j,f,h4,h5,h6⟩:=h3 i hi;refine ⟨C,j,f,?_,?_,au _ _ h6⟩
   · rw [ph _ _ _ _ (by intro e; injection e; omega),ph _ _ _ _ (by intro e; injection e; omega)]; exact h4
   · rw [ph _ _ _ _ (by intro e; injection e; omega),ph _ _ _ _ (by intro e; injection e; omega)]; exact h5
end
theorem xco:(Tryz.prog.info? 30).map (fun i=>(i.zero,i.size,i.bytes))=some (some (.agg #[.bool false,.slice none 0 0]),2,32):=by kernel_rfl
theorem wbu (n:Int) (h0:0<=n) (h1:n<=1099511627776) (w:World) :
 ∃ w',(Instr.makeSlice 92 (.int .i64 n) (.int .i64 n)).run Tryz.prog w=.ok (.slice (some ⟨w.heap.size,0,none⟩) n.toNat n.toNat) w'/\Ext w w'/\w'.heap.size=w.heap.size+1/\xaz w' w.heap.size (List.replicate n.toNat 0):=by
 obtain ⟨i0,hi,iV,iI,iH⟩:=info_parts xco;refine ⟨_,run_make w 92 30 i0 _ Tryz.underlying92 hi iV .i64 .i64 n n h0 (by omega) (by rw [iH]; omega) (by omega),(Ext.refl w).alloc _,by simp,⟨by simp,fun i=>by simp [go_sem],fun i KA=>?_⟩⟩;rw [p8] at KA;have hc:∀ j,j < 2->(w.alloc (.cells (madeCells (Value.agg #[.bool false,.slice none 0 0]).cells (n.toNat * i0.size)) 30)).cell? ⟨w.heap.size,i * 2+j,none⟩=#[Value.bool false,.slice none 0 0][j]?:=by
  intro j hj;have af:i * 2+j < n.toNat * 2:=by omega
  have Ci:(i * 2+j) % 2=j:=by omega
  rw [cell_of_row _ _ (i * 2+j) _ _ (0,0) (heap_alloc_new w _)];rw [iI];unfold madeCells;rw [Sq,RW,if_pos af];show some ((#[Value.bool false,.slice none 0 0]:Array Value)[(i * 2+j) % 2]!)=_;rw [Ci];rcases (show j=0\/j=1 by omega) with rfl | rfl <;> rfl
 rw [u7];exact ⟨none,0,0,hc 0 (by omega),hc 1 (by omega),by rw [Ta,qm]; exact jc.nil _⟩
end Go.Proofs.YtcepajijiabkmaaGreat

set_option maxRecDepth 100000
set_option maxHeartbeats 8000000
namespace Go.Proofs.YtcepajijiabkmaaGreat
open Lib (hid)
open Go.RowKit
theorem jd.take {w:World} {q:Nat->Prop} {l:List Pl} {A:Option Addr} (h:jd w q l A 0) (n:Nat):jd w q (l.take n) A 0:=by
 refine jd.of _ _ _ fun i hi=>?_
 rw [pA] at hi;obtain ⟨ad,s,K,e,h1,h2,h3,h4⟩:=h.xS l A 0 i (by omega);refine ⟨ad,s,K,e,h1,h2,?_,?_⟩
 · rw [tz]; exact h3
 · rw [tz]; exact h4
theorem qbo {w:World} {q:Nat->Prop} (l:Int) (cs:List Pl) (A:Option Addr) (c:Nat) (h:jd w q cs A 0) (dP:cs.length<=c) (dC:c<=9223372036854775807) :
 Calls Tryz.prog 63 #[.int .i64 l,.slice A cs.length c] w (uf q (vaa l cs) w):=by
 have hh:jd w (fun b=>q b/\b < w.heap.size) cs A 0:=jd.xl (pj _) (fun _ _ h=>h) (fun b hb hq=>⟨⟨hq,hb⟩,rfl⟩) cs A 0 h;have HH:=hid hh;obtain ⟨W,hW⟩:=n_m (w.alloc (.cells #[.int .i64 0,.bool false,.slice none 0 0,.slice none 0 0] 33));have ai:Ext w W:=by rw [<- hW]; exact (Ext.refl w).alloc _
 have dG:W.heap.size=w.heap.size+1:=by rw [<- hW]; simp
 have hz:jf W w.heap.size:=by rw [<- hW]; exact jf.new w _
 have aG:=hid ai;have HZ:=hid hz;clear h hh ai hz;go_enter Tryz.func63,Tryz.ntmps63;go_wp2_with fail;clear hW
 go_loopw [5] (fun nv wr=>∃ n:Nat,n<=cs.length/\nv=.int .i64 n/\Hid (zk cs=zk (cs.take n)/\Ext W wr)) (fun nv _=>(intOf nv).toNat)
 case atStart=>exact ⟨cs.length,pj _,rfl,⟨by rw [pP],Ext.refl W⟩⟩
 case round =>
  obtain ⟨n,hn,rfl,⟨dV,hx⟩⟩:=hrel;have dS:=hid dV;have HX:=hid hx;have oz:=hx.size;clear dV hx;cases n with
  | zero =>
    have HT:Hid (vaa l cs=Pl.zero):=hid (by
     rw [gbc (pS _) (by rw [dS.out]; rfl),if_pos rfl])
    have aQ:=HZ.out.ext HX.out (by omega);have HF:Hid (uf q (vaa l cs) w (.returned (plV Pl.zero (.slice none 0 0) (.slice none 0 0))) ((((wr.setCell ⟨w.heap.size,0,none⟩ (.int .i64 0)).setCell ⟨w.heap.size,1,none⟩ (.bool false)).setCell ⟨w.heap.size,2,none⟩ (.slice none 0 0)).setCell ⟨w.heap.size,3,none⟩ (.slice none 0 0))):=by
     rw [HT.out];exact qf (p:=Pl.zero) (q:=fun _=>False) (aG.out.trans HX.out) (pj _) aQ (Pl.xt _ _ none 0 (by omega)) (fun b _ h=>h.elim)
    obtain ⟨⟨z0,z1,z2,z3⟩,zf⟩:=aQ;clear hn;go_wp2_with fail;exact bodyPost_ret (v:=plV Pl.zero (.slice none 0 0) (.slice none 0 0)) (by simp [results,Tryz.results63,go_sem,z0,z1,z2,z3,plV,Pl.zero,Pl.lv,Pl.neg]) rfl HF.out
  | succ n =>
    have af:n < cs.length:=by omega
    obtain ⟨ad,C0,j0,g0,C1,j1,g1,rfl,ah,bP,bC⟩:=jd.ym HH.out n af;have bQ:=aG.out.trans HX.out;obtain ⟨a0,a1,a2,a3⟩:=bP.ext bQ (by rw [ja]; exact ah);have fZ:=hid (jae _ _ (bC.ext bQ));have WR:IntKind.i64.wrap (((n+1:Nat):Int) - 1)=(n:Int):=by rw [rk]; omega
    have xO:Hid (cs.take (n+1)=cs.take n ++ [cs[n]]):=hid (pC af);have DJ:Hid (cs[n].zp=false->zk cs=cs.take (n+1)):=hid (fun hz=>by rw [dS.out,xO.out,ucj hz]);have ado:Hid (cs[n].zp=true->zk cs=zk (cs.take n)):=hid (fun hz=>by rw [dS.out,xO.out,ub3 hz]);have di:(0:Int) < ((n+1:Nat):Int):=by omega
    unfold plV at fZ;generalize cs[n].zp=bz at *;generalize cs[n]=cn at *;clear bP bC ah;go_wp2_with fail;clear a0 a1 a2 a3;refine fZ.out.mono ?_;rintro e w2 ⟨rfl,x2⟩;have X2:=hid (HX.out.trans x2);clear x2 fZ;cases bz
    · have HS:=hid (DJ.out rfl);have aQ:=HZ.out.ext X2.out (by omega);cases n with
      | zero =>
        have HT:Hid (vaa l cs=cs[0]):=hid (by
         rw [gbc (show 0+1<=cs.length by omega) HS.out,if_neg (by omega),dif_pos ⟨rfl,af⟩])
        obtain ⟨ad',D0,i0,h0,D1,i1,h1,e4,ah,bP,bC⟩:=jd.ym HH.out 0 af;injection e4 with e4
        subst e4;have JE:=aG.out.trans X2.out;obtain ⟨a0,a1,a2,a3⟩:=bP.ext JE (by rw [ja]; exact ah);have HF:Hid (uf q (vaa l cs) w (.returned (plV cs[0] (.slice D0 i0 h0) (.slice D1 i1 h1))) ((((w2.setCell ⟨w.heap.size,0,none⟩ (.int .i64 cs[0].lv)).setCell ⟨w.heap.size,1,none⟩ (.bool cs[0].neg)).setCell ⟨w.heap.size,2,none⟩ (.slice D0 i0 h0)).setCell ⟨w.heap.size,3,none⟩ (.slice D1 i1 h1))):=by
         rw [HT.out];exact qf JE (pj _) aQ (bC.ext JE) (fun b _ hb=>⟨by omega,hb.1⟩)
        rw [show ad.add (0 * 4)=ad by simp [Addr.add]] at a0 a1 a2 a3;have bF:=ah;obtain ⟨⟨z0,z1,z2,z3⟩,zf⟩:=aQ;clear bP bC hn WR;generalize cs[0]=c0' at *;go_wp2_with fail;exact bodyPost_ret (v:=plV c0' (.slice D0 i0 h0) (.slice D1 i1 h1)) (by simp [results,Tryz.results63,go_sem,z0,z1,z2,z3,plV]) rfl HF.out
      | succ n =>
        have HT:Hid (vaa l cs=.mk l false [] (cs.take (n+2))):=hid (by
         rw [gbc (show n+2<=cs.length by omega) HS.out,if_neg (by omega),dif_neg (by omega)])
        have jQ:(cs.take (n+2)).length=n+2:=by rw [pA]; omega
        have HF:Hid (uf q (vaa l cs) w (.returned (plV (.mk l false [] (cs.take (n+2))) (.slice none 0 0) (.slice (some ad) (n+2) (n+2)))) ((((w2.setCell ⟨w.heap.size,0,none⟩ (.int .i64 l)).setCell ⟨w.heap.size,1,none⟩ (.bool false)).setCell ⟨w.heap.size,2,none⟩ (.slice none 0 0)).setCell ⟨w.heap.size,3,none⟩ (.slice (some ad) (n+2) (n+2)))):=by
         rw [HT.out];have h1:=PlV.mk (t:=.mk l false [] (cs.take (n+2))) (c:=n+2) (jc.nil w2) (by simp only [Pl.cs]; omega) (by omega) ((HH.out.take (n+2)).ext (aG.out.trans X2.out));rw [show (Pl.mk l false [] (cs.take (n+2))).cs.length=n+2 from jQ] at h1;exact qf (p:=.mk l false [] (cs.take (n+2))) (aG.out.trans X2.out) (pj _) aQ h1 (fun b _ hb=>⟨by omega,hb.1⟩)
        obtain ⟨⟨z0,z1,z2,z3⟩,zf⟩:=aQ;have sF:((((n+1+1:Nat):Int)) == 0)=false:=by simp; omega
        have Om:((((n+1+1:Nat):Int)) == 1)=false:=by simp; omega
        clear WR;go_wp2_with fail;exact bodyPost_ret (v:=plV (.mk l false [] (cs.take (n+2))) (.slice none 0 0) (.slice (some ad) (n+2) (n+2))) (by simp [results,Tryz.results63,go_sem,z0,z1,z2,z3,plV,Pl.lv,Pl.neg]) rfl HF.out
    · have HS:=hid (ado.out rfl);go_wp2_with fail
      go_roundw
      case rel=>exact ⟨n,by omega,by go_num,⟨HS.out,X2.out⟩⟩
      case measure=>simp [intOf]
end Go.Proofs.YtcepajijiabkmaaGreat
