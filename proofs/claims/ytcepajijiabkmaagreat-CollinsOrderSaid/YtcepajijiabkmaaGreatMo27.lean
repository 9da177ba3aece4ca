/- Layer 23: mainvar.coefs. -/
import Derived.Test.YtcepajijiabkmaaGreatMo26
set_option linter.all false
set_option maxRecDepth 100000
set_option maxHeartbeats 8000000
namespace Go.Proofs.YtcepajijiabkmaaGreat
open Lib (hid)
open Go.RowKit
theorem ybb : ∀ (n : Nat) (cs : List Pl), cs.length <= n + 1 -> wac n cs = cs ++ List.replicate (n + 1 - cs.length) Pl.zero
 | 0,[],_=>rfl
 | 0,[c],_=>rfl
 | n+1,[],_=>by
   rw [wac,ybb n [] (by simp)];simp [Sn]
 | n+1,c :: r,h=>by
   rw [wac,ybb n r (by simpa using h)];simp
theorem gc2 (n:Nat) (p:Pl):(List.replicate (n+1) Pl.zero).set 0 p=wac n [p]:=by
 rw [ybb n [p] (by simp)];simp [Sn]
def kc9 (q:Nat->Prop) (L:List Pl) (w:World) (e:Ending) (w':World):Prop:=∃ R,e=.returned (.slice (some ⟨R,0,none⟩) L.length L.length)/\w.heap.size<=R/\jh w' (fun b=>q b\/w.heap.size<=b) R L/\Ext w w'
theorem jh.xl {W W':World} {q q':Nat->Prop} {R:Nat} {l:List Pl} (h:jh W q R l) (hs:W.heap.size<=W'.heap.size) (hn:∀ v ds,jc W v ds->jc W' v ds) (hb:W'.heap[R]?=W.heap[R]?) (hc:∀ b,b < W.heap.size->q b->b ≠ R->q' b/\W'.heap[b]?=W.heap[b]?):jh W' q' R l:=by
 obtain ⟨h1,h2,h3⟩:=h;have k:∀ i,W'.cell? ⟨R,i,none⟩=W.cell? ⟨R,i,none⟩:=fun i=>pB (a:=⟨R,i,none⟩) hb
 refine ⟨by omega,fun i=>(sP (a:=⟨R,i,none⟩) hb).trans (h2 i),fun i hi=>?_⟩;obtain ⟨A0,n0,c0,A1,n1,c1,h4,h5⟩:=h3 i hi;exact ⟨A0,n0,c0,A1,n1,c1,h4.same (k _) (fun n _=>k _),PlV.zd hs hn (fun b eP hq=>⟨⟨(hc b eP hq.1 hq.2).1,hq.2⟩,(hc b eP hq.1 hq.2).2⟩) h5⟩
structure CfS (W : World) (base : Nat) (q : Nat -> Prop) (lv : Int) (m : Nat) (R : Nat) (bs : List Nat) (LL : List (List Pl)) : Prop where
 len:bs.length=LL.length
 rlt:R < W.heap.size
 rb:base<=R
 bb:∀ b ∈ bs,R < b/\b < W.heap.size
 dist:bs.Pairwise (· ≠ ·)
 hd:∀ i (h:i < LL.length) (h':i < bs.length),W.cell? ⟨R,i * 4,none⟩=some (.int .i64 lv)/\W.cell? ⟨R,i * 4+1,none⟩=some (.bool false)/\W.cell? ⟨R,i * 4+2,none⟩=some (.slice none 0 0)/\W.cell? ⟨R,i * 4+3,none⟩=some (.slice (some ⟨bs[i],0,none⟩) m m)
 row:∀ i (h:i < LL.length) (h':i < bs.length),LL[i].length=m/\jh W (fun b=>q b/\b ≠ R/\b ∉ bs) bs[i] LL[i]
theorem CfS.ext {W W' : World} {base : Nat} {q : Nat -> Prop} {lv : Int} {m R : Nat} {bs : List Nat} {LL : List (List Pl)} (h : CfS W base q lv m R bs LL) (hx : Ext W W') : CfS W' base q lv m R bs LL where
 len:=h.len
 rlt:=px h.rlt hx.size
 rb:=h.rb
 bb b hb:=⟨(h.bb b hb).1,px (h.bb b hb).2 hx.size⟩
 dist:=h.dist
 hd i h1 h2:=by
  have k:∀ j,W'.cell? ⟨R,j,none⟩=W.cell? ⟨R,j,none⟩:=fun j=>hx.cell (p:=⟨R,j,none⟩) h.rlt
  obtain ⟨a,b,c,d⟩:=h.hd i h1 h2;exact ⟨(k _).trans a,(k _).trans b,(k _).trans c,(k _).trans d⟩
 row i h1 h2:=⟨(h.row i h1 h2).1,(h.row i h1 h2).2.ext hx⟩
theorem CfS.push {W W' : World} {base : Nat} {q : Nat -> Prop} {lv : Int} {m R B : Nat} {bs : List Nat} {LL : List (List Pl)} {L : List Pl} (h : CfS W base q lv m R bs LL) (hq : ∀ b, q b -> b < W.heap.size -> b < B) (hB : ∀ b ∈ bs, b < B) (hRB : R < B) (hBs : B < W'.heap.size) (hs : W.heap.size <= W'.heap.size) (hn : ∀ v ds, jc W v ds -> jc W' v ds) (hc : ∀ b, b ≠ R -> b < W.heap.size -> W'.heap[b]? = W.heap[b]?)
 (aj:∀ j,j < LL.length * 4->W'.cell? ⟨R,j,none⟩=W.cell? ⟨R,j,none⟩)
 (hL:L.length=m) (ae:jh W' (fun b=>q b/\b ≠ R/\b ∉ bs ++ [B]) B L)
 (Rq:W'.cell? ⟨R,LL.length * 4,none⟩=some (.int .i64 lv)/\W'.cell? ⟨R,LL.length * 4+1,none⟩=some (.bool false)/\W'.cell? ⟨R,LL.length * 4+2,none⟩=some (.slice none 0 0)/\W'.cell? ⟨R,LL.length * 4+3,none⟩=some (.slice (some ⟨B,0,none⟩) m m)) :
 CfS W' base q lv m R (bs ++ [B]) (LL ++ [L]) where
 len:=by simp [h.len]
 rlt:=px h.rlt hs
 rb:=h.rb
 bb b hb:=by
  rcases pT.1 hb with hb | hb
  · exact ⟨(h.bb b hb).1,px (h.bb b hb).2 hs⟩
  · rw [pD.1 hb]; exact ⟨hRB,hBs⟩
 dist:=by
  rw [List.pairwise_append];refine ⟨h.dist,by simp,fun a ha b hb=>?_⟩;rw [pD.1 hb];have:=hB a ha;omega
 hd i h1 h2:=by
  have hlen:=h.len
  by_cases hi:i < LL.length
  · obtain ⟨a,b,c,d⟩:=h.hd i hi (by omega);rw [uL (by omega)];exact ⟨(aj _ (by omega)).trans a,(aj _ (by omega)).trans b,(aj _ (by omega)).trans c,(aj _ (by omega)).trans d⟩
  · obtain rfl:i=LL.length:=by simp at h1; omega
    rw [tE (by omega)];simpa using Rq
 row i h1 h2:=by
  have hlen:=h.len
  by_cases hi:i < LL.length
  · rw [uL hi,uL (show i < bs.length by omega)];obtain ⟨a,b⟩:=h.row i hi (by omega);have hbi:=h.bb _ (pt (by omega:i < bs.length));refine ⟨a,b.xl hs hn (hc _ (by omega) hbi.2) fun c bY dP _=>⟨⟨dP.1,dP.2.1,fun hm=>?_⟩,hc c dP.2.1 bY⟩⟩;rcases pT.1 hm with hm | hm
    · exact dP.2.2 hm
    · have:=hq c dP.1 bY;rw [pD.1 hm] at this;omega
  · obtain rfl:i=LL.length:=by simp at h1; omega
    rw [tE (pj LL.length),tE (show bs.length<=LL.length by omega)];simp only [hlen,Pw,ua];exact ⟨hL,ae⟩
theorem CfS.xD {W:World} {base:Nat} {q:Nat->Prop} {lv:Int} {m R:Nat} {bs:List Nat} {LL:List (List Pl)} (h:CfS W base q lv m R bs LL) (i k:Nat) (hi:i < LL.length) (jG:i < bs.length) (hk:k < m) (p:Pl) {A0 A1:Option Addr} {n0 c0 n1 c1:Nat} (hp:PlV W (fun b=>q b/\b ≠ R/\b ∉ bs) p (plV p (.slice A0 n0 c0) (.slice A1 n1 c1))) :
 CfS ((((W.setCell ⟨bs[i],k * 4,none⟩ (.int .i64 p.lv)).setCell ⟨bs[i],k * 4+1,none⟩ (.bool p.neg)).setCell ⟨bs[i],k * 4+2,none⟩ (.slice A0 n0 c0)).setCell ⟨bs[i],k * 4+3,none⟩ (.slice A1 n1 c1)) base q lv m R bs (LL.set i (LL[i].set k p))/\(∀ v ds,jc W v ds->jc ((((W.setCell ⟨bs[i],k * 4,none⟩ (.int .i64 p.lv)).setCell ⟨bs[i],k * 4+1,none⟩ (.bool p.neg)).setCell ⟨bs[i],k * 4+2,none⟩ (.slice A0 n0 c0)).setCell ⟨bs[i],k * 4+3,none⟩ (.slice A1 n1 c1)) v ds):=by
 obtain ⟨Xn,ae⟩:=h.row i hi jG;have hbi:=h.bb _ (pt jG);obtain ⟨aV,ax⟩:=ae.xD k (by omega) p (hp.mono fun b hb=>⟨hb,fun e=>hb.2.2 (e ▸ pt jG)⟩);obtain ⟨W',bJ⟩:=n_m (((((W.setCell ⟨bs[i],k * 4,none⟩ (.int .i64 p.lv)).setCell ⟨bs[i],k * 4+1,none⟩ (.bool p.neg)).setCell ⟨bs[i],k * 4+2,none⟩ (.slice A0 n0 c0)).setCell ⟨bs[i],k * 4+3,none⟩ (.slice A1 n1 c1)));have cO:∀ b,b ≠ bs[i]->W'.heap[b]?=W.heap[b]?:=fun b hb=>by
  rw [<- bJ];rw [Below.heap_setCell _ _ _ b hb,Below.heap_setCell _ _ _ b hb,Below.heap_setCell _ _ _ b hb,Below.heap_setCell _ _ _ b hb]
 have hsz:W'.heap.size=W.heap.size:=by rw [<- bJ]; simp [World.setCell]
 rw [bJ] at aV ax ⊢;have hRb:R ≠ bs[i]:=by omega
 have TM:∀ j (hj:j < bs.length),j ≠ i->bs[j] ≠ bs[i]:=fun j hj au=>by
  have:=T2.1 h.dist;rcases Nat.lt_or_gt_of_ne au with af | af
  · exact this j i hj jG af
  · exact fun e=>this i j jG hj af e.symm
 refine ⟨?_,ax⟩
 exact {
  len:=by rw [pL]; exact h.len
  rlt:=by rw [hsz]; exact h.rlt
  rb:=h.rb
  bb:=fun b hb=>by rw [hsz]; exact h.bb b hb
  dist:=h.dist
  hd:=fun j h1 h2=>by
   rw [pL] at h1;have kk:∀ j,W'.cell? ⟨R,j,none⟩=W.cell? ⟨R,j,none⟩:=fun j=>pB (a:=⟨R,j,none⟩) (cO R hRb)
   obtain ⟨a,b,c,d⟩:=h.hd j h1 h2;exact ⟨(kk _).trans a,(kk _).trans b,(kk _).trans c,(kk _).trans d⟩
  row:=fun j h1 h2=>by
   rw [pL] at h1
   by_cases hj:j=i
   · subst hj;rw [r6];exact ⟨by rw [pL]; exact Xn,aV⟩
   · rw [sY (Ne.symm hj)];obtain ⟨a,b⟩:=h.row j h1 h2
     exact ⟨a,b.xl (by omega) ax (cO _ (TM j h2 hj)) fun c _ hc _=>⟨hc,cO c fun e=>hc.2.2 (e ▸ pt jG)⟩⟩ }
theorem CfS.fin {W:World} {base:Nat} {q q':Nat->Prop} {lv:Int} {m R:Nat} {bs:List Nat} {LL:List (List Pl)} (h:CfS W base q lv m R bs LL) (bG:∀ i,W.frozen? ⟨R,i,none⟩=false) (hm:m<=9223372036854775807) (hq:∀ b,(q b\/base<=b)->q' b):jh W q' R (LL.map fun ks=>.mk lv false [] ks):=by
 refine ⟨h.rlt,bG,fun i hi=>?_⟩;rw [pw] at hi;have jG:i < bs.length:=by rw [h.len]; exact hi
 obtain ⟨a,b,c,d⟩:=h.hd i hi jG;obtain ⟨hl,hr⟩:=h.row i hi jG;have hbi:=h.bb _ (pt jG);have J6:=h.rb;rw [rN];refine ⟨none,0,0,some ⟨bs[i],0,none⟩,m,m,⟨a,b,c,d⟩,?_⟩;have kE:jd W (fun b=>q' b/\b ≠ R) LL[i] (some ⟨bs[i],0,none⟩) 0:=(hr.mono (q':=fun b=>q' b/\b ≠ R) fun b hb=>⟨hq b (.inl hb.1),hb.2.1⟩).fin ⟨hq _ (.inr (by omega)),by omega⟩;have:=PlV.mk (t:=.mk lv false [] LL[i]) (s:=.slice none 0 0) (A:=some ⟨bs[i],0,none⟩) (c:=m) (jc.nil W) (by show LL[i].length<=m; omega) hm kE;unfold plV at this ⊢;simp only [Pl.lv,Pl.neg,Pl.cs] at this ⊢;rw [hl] at this;exact this
theorem Pl.qbF {l:Int} {p:Pl} (h:p.lv=l):p.yq l=p.cs.length - 1:=by
 cases p; simp only [Pl.lv,Pl.cs] at *; rw [Pl.yq,if_neg (by omega),if_pos h]
theorem Pl.qaF {l:Int} {n:Nat} {p:Pl} (h:p.lv < l):p.zm l n=wac n [p]:=by cases p; simp only [Pl.lv] at h; rw [Pl.zm,if_pos h]
theorem Pl.qaQ {l:Int} {n:Nat} {p:Pl} (h:p.lv=l):p.zm l n=wac n p.cs:=by cases p; simp only [Pl.lv,Pl.cs] at *; rw [Pl.zm,if_neg (by omega),if_pos h]
theorem Pl.qaP {l:Int} {n:Nat} {p:Pl} (h:l < p.lv):p.zm l n=(List.range (n+1)).map fun i=>.mk p.lv false [] (p.cs.map fun c=>(c.zm l n).getD i Pl.zero):=by
 cases p; simp only [Pl.lv,Pl.cs] at *; rw [Pl.zm,if_neg (by omega),if_neg (by omega)]; simp only [xak]
theorem qcg (N:Nat):∀ u ∈ ul (List.replicate N waa),uo u=false:=fun u hu=>by
 simp only [ul,rL] at hu;obtain ⟨r,hr,hu⟩:=hu;rw [St hr] at hu;simp only [plC,waa,pN,sr,or_false] at hu;rcases hu with rfl | rfl | rfl | rfl <;> rfl
def CfJ (base:Nat) (W:World) (Q:Nat->Prop) (lv:Int) (mm R n k:Nat) (wr:World):Prop:=Ext W wr/\(∀ i,wr.frozen? ⟨R,i,none⟩=false)/\(∀ j,j < (n+1) * 4->∃ u,wr.cell? ⟨R,j,none⟩=some u/\uo u=false)/\∃ bs,CfS wr base Q lv mm R bs (List.replicate k (List.replicate mm Pl.zero))
theorem ya5 {V:World} {R k:Nat} {u0 u1 u2 u3:Value} (h0:V.cell? ⟨R,k,none⟩=some u0) (h1:V.cell? ⟨R,k+1,none⟩=some u1) (h2:V.cell? ⟨R,k+2,none⟩=some u2) (h3:V.cell? ⟨R,k+3,none⟩=some u3) (d0:uo u0=false) (d1:uo u1=false) (d2:uo u2=false) (d3:uo u3=false) (x0 x1 x2 x3:Value) :
 let V':=(((V.setCell ⟨R,k,none⟩ x0).setCell ⟨R,k+1,none⟩ x1).setCell ⟨R,k+2,none⟩ x2).setCell ⟨R,k+3,none⟩ x3
 (V'.cell? ⟨R,k,none⟩=some x0/\V'.cell? ⟨R,k+1,none⟩=some x1/\V'.cell? ⟨R,k+2,none⟩=some x2/\V'.cell? ⟨R,k+3,none⟩=some x3)/\(∀ j,(j < k\/k+3 < j)->V'.cell? ⟨R,j,none⟩=V.cell? ⟨R,j,none⟩)/\(∀ b,b ≠ R->V'.heap[b]?=V.heap[b]?)/\(∀ a,V'.frozen? a=V.frozen? a)/\V'.heap.size=V.heap.size/\∀ v ds,jc V v ds->jc V' v ds:=by
 intro V';have e1:(V.setCell ⟨R,k,none⟩ x0).cell? ⟨R,k+1,none⟩=some u1:=by rw [ph _ _ _ _ (by simp)]; exact h1
 have e2:((V.setCell ⟨R,k,none⟩ x0).setCell ⟨R,k+1,none⟩ x1).cell? ⟨R,k+2,none⟩=some u2:=by rw [ph _ _ _ _ (by simp),ph _ _ _ _ (by simp)]; exact h2
 have e3:(((V.setCell ⟨R,k,none⟩ x0).setCell ⟨R,k+1,none⟩ x1).setCell ⟨R,k+2,none⟩ x2).cell? ⟨R,k+3,none⟩=some u3:=by rw [ph _ _ _ _ (by simp),ph _ _ _ _ (by simp),ph _ _ _ _ (by simp)]; exact h3
 refine ⟨⟨?_,?_,?_,pP _ _ _ e3⟩,fun j hj=>?_,fun b hb=>?_,fun a=>?_,?_,fun v ds hv=>(((hv.box h0 d0 _).box e1 d1 _).box e2 d2 _).box e3 d3 _⟩
 · rw [ph _ _ _ _ (by simp),ph _ _ _ _ (by simp),ph _ _ _ _ (by simp)]; exact pP _ _ _ h0
 · rw [ph _ _ _ _ (by simp),ph _ _ _ _ (by simp)]; exact pP _ _ _ e1
 · rw [ph _ _ _ _ (by simp)]; exact pP _ _ _ e2
 · iterate 4 rw [ph _ _ _ _ (by intro e; injection e; omega)]
 · rw [Below.heap_setCell _ _ _ b hb,Below.heap_setCell _ _ _ b hb,Below.heap_setCell _ _ _ b hb,Below.heap_setCell _ _ _ b hb]
 · simp only [V',rm]
 · simp [V',World.setCell]
theorem CfJ.step {base:Nat} {W:World} {Q:Nat->Prop} {lv:Int} {mm R n k:Nat} {wr V2:World} (h:CfJ base W Q lv mm R n k wr) (hk:k < n+1) (hW:W.heap.size<=R) (hx:Ext wr V2) (hs:V2.heap.size=wr.heap.size+1) (ae:∀ q,jh V2 q wr.heap.size (List.replicate mm Pl.zero)) :
 (∃ u0 u1 u2 u3,V2.cell? ⟨R,k * 4,none⟩=some u0/\V2.cell? ⟨R,k * 4+1,none⟩=some u1/\V2.cell? ⟨R,k * 4+2,none⟩=some u2/\V2.cell? ⟨R,k * 4+3,none⟩=some u3)/\(∀ i,V2.frozen? ⟨R,i,none⟩=false) /\
 CfJ base W Q lv mm R n (k+1) ((((V2.setCell ⟨R,k * 4,none⟩ (.int .i64 lv)).setCell ⟨R,k * 4+1,none⟩ (.bool false)).setCell ⟨R,k * 4+2,none⟩ (.slice none 0 0)).setCell ⟨R,k * 4+3,none⟩ (.slice (some ⟨wr.heap.size,0,none⟩) mm mm)):=by
 obtain ⟨h1,h2,h3,bs,h4⟩:=h;have hc:∀ j,V2.cell? ⟨R,j,none⟩=wr.cell? ⟨R,j,none⟩:=fun j=>hx.cell (p:=⟨R,j,none⟩) h4.rlt
 have hf:∀ i,V2.frozen? ⟨R,i,none⟩=false:=fun i=>(hx.frozen (p:=⟨R,i,none⟩) h4.rlt).trans (h2 i)
 obtain ⟨u0,c0,d0⟩:=h3 (k * 4) (by omega);obtain ⟨u1,c1,d1⟩:=h3 (k * 4+1) (by omega);obtain ⟨u2,c2,d2⟩:=h3 (k * 4+2) (by omega);obtain ⟨u3,c3,d3⟩:=h3 (k * 4+3) (by omega);have lY:=ya5 ((hc _).trans c0) ((hc _).trans c1) ((hc _).trans c2) ((hc _).trans c3) d0 d1 d2 d3 (.int .i64 lv) (.bool false) (.slice none 0 0) (.slice (some ⟨wr.heap.size,0,none⟩) mm mm);refine ⟨⟨u0,u1,u2,u3,(hc _).trans c0,(hc _).trans c1,(hc _).trans c2,(hc _).trans c3⟩,hf,?_⟩;obtain ⟨V3,LX⟩:=n_m (((((V2.setCell ⟨R,k * 4,none⟩ (.int .i64 lv)).setCell ⟨R,k * 4+1,none⟩ (.bool false)).setCell ⟨R,k * 4+2,none⟩ (.slice none 0 0)).setCell ⟨R,k * 4+3,none⟩ (.slice (some ⟨wr.heap.size,0,none⟩) mm mm)));have aA:Ext W V3:=by rw [<- LX]; exact ((((h1.trans hx).setCell hW _).setCell hW _).setCell hW _).setCell hW _
 simp only [LX] at lY ⊢;obtain ⟨f1,f2,f3,f4,f5,f6⟩:=lY;refine ⟨aA,fun i=>(f4 _).trans (hf i),fun j hj=>?_,bs ++ [wr.heap.size],?_⟩
 · by_cases lK:j < k * 4\/k * 4+3 < j
   · rw [f2 j lK,hc]; exact h3 j hj
   · rcases (show j=k * 4\/j=k * 4+1\/j=k * 4+2\/j=k * 4+3 by omega) with rfl | rfl | rfl | rfl
     · exact ⟨_,f1.1,rfl⟩
     · exact ⟨_,f1.2.1,rfl⟩
     · exact ⟨_,f1.2.2.1,rfl⟩
     · exact ⟨_,f1.2.2.2,rfl⟩
 · have wM:=h4.rlt
   have := h4.push (W' := V3) (B := wr.heap.size) (L := List.replicate mm Pl.zero) (fun b _ hb => hb) (fun b hb => (h4.bb b hb).2) h4.rlt (by omega) (by omega) (fun v ds hv => f6 v ds (hv.ext hx)) (fun b hb af => (f3 b hb).trans (hx.below.block b af))
    (fun j hj=>by rw [ra] at hj; exact (f2 j (.inl hj)).trans (hc j)) ra
    ((ae (fun b=>Q b/\b ≠ R/\b ∉ bs ++ [wr.heap.size])).xl (by omega) f6 (f3 _ (by omega)) (fun b _ hq _=>⟨hq,f3 b hq.2.1⟩))
    (by rw [ra]; exact f1)
   rw [show List.replicate (k+1) (List.replicate mm Pl.zero)=List.replicate k (List.replicate mm Pl.zero) ++ [List.replicate mm Pl.zero] from List.replicate_succ'];exact this
structure CfK (base D : Nat) (W : World) (Q : Nat -> Prop) (p : Pl) (l : Int) (n R k i : Nat) (wr : World) : Prop where
 ext:Ext W wr
 fr:∀ j,wr.frozen? ⟨R,j,none⟩=false
 rd:R < D/\D<=wr.heap.size
 rows:∃ bs LL,CfS wr base Q p.lv p.cs.length R bs LL/\LL.length=n+1/\(∀ b ∈ bs,b < D)/\∀ r (h:r < LL.length) j (h':j < LL[r].length),(j < k\/(j=k/\r < i))->LL[r][j]=((p.cs.getD j Pl.zero).zm l n).getD r Pl.zero
theorem CfK.Kc {base D:Nat} {W:World} {Q:Nat->Prop} {p:Pl} {l:Int} {n R k i:Nat} {wr W':World} (h:CfK base D W Q p l n R k i wr) (hx:Ext wr W'):CfK base D W Q p l n R k i W':=by
 obtain ⟨bs,LL,h1,h2⟩:=h.rows;exact ⟨h.ext.trans hx,fun j=>(hx.frozen (p:=⟨R,j,none⟩) h1.rlt).trans (h.fr j),⟨h.rd.1,py h.rd.2 hx.size⟩,bs,LL,h1.ext hx,h2⟩
theorem CfK.next {base D:Nat} {W:World} {Q:Nat->Prop} {p:Pl} {l:Int} {n R k:Nat} {wr:World} (h:CfK base D W Q p l n R k (n+1) wr):CfK base D W Q p l n R (k+1) 0 wr:=by
 obtain ⟨bs,LL,h1,h2,h3,h4⟩:=h.rows;exact ⟨h.ext,h.fr,h.rd,bs,LL,h1,h2,h3,fun r hr j hj hc=>h4 r hr j hj (by omega)⟩
theorem CfK.step {base D:Nat} {W:World} {Q:Nat->Prop} {p:Pl} {l:Int} {n R k i:Nat} {wr:World} (h:CfK base D W Q p l n R k i wr) (hW:W.heap.size<=R) (hi:i < n+1) (hk:k < p.cs.length):∃ B,wr.cell? ⟨R,i * 4+3,none⟩=some (.slice (some ⟨B,0,none⟩) p.cs.length p.cs.length)/\R < B/\B < D /\
 (∃ u0 u1 u2 u3,wr.cell? ⟨B,k * 4,none⟩=some u0/\wr.cell? ⟨B,k * 4+1,none⟩=some u1/\wr.cell? ⟨B,k * 4+2,none⟩=some u2/\wr.cell? ⟨B,k * 4+3,none⟩=some u3)/\(∀ j,wr.frozen? ⟨B,j,none⟩=false) /\
 ∀ (x:Pl) (A0 A1:Option Addr) (n0 c0 n1 c1:Nat),x=((p.cs.getD k Pl.zero).zm l n).getD i Pl.zero->PlV wr (fun b=>Q b/\b ≠ R/\(b < base\/D<=b)) x (plV x (.slice A0 n0 c0) (.slice A1 n1 c1)) ->
   CfK base D W Q p l n R k (i+1) ((((wr.setCell ⟨B,k * 4,none⟩ (.int .i64 x.lv)).setCell ⟨B,k * 4+1,none⟩ (.bool x.neg)).setCell ⟨B,k * 4+2,none⟩ (.slice A0 n0 c0)).setCell ⟨B,k * 4+3,none⟩ (.slice A1 n1 c1)) /\
   ∀ v ds,jc wr v ds->jc ((((wr.setCell ⟨B,k * 4,none⟩ (.int .i64 x.lv)).setCell ⟨B,k * 4+1,none⟩ (.bool x.neg)).setCell ⟨B,k * 4+2,none⟩ (.slice A0 n0 c0)).setCell ⟨B,k * 4+3,none⟩ (.slice A1 n1 c1)) v ds:=by
 obtain ⟨bs,LL,h1,h2,h3,h4⟩:=h.rows;have Ef:i < LL.length:=by omega
 have wU:i < bs.length:=by rw [h1.len]; exact Ef
 obtain ⟨-,-,-,hd⟩:=h1.hd i Ef wU;have CU:=h1.bb _ (pt wU);obtain ⟨Xn,ae⟩:=h1.row i Ef wU;obtain ⟨C0,j0,f0,C1,j1,f1,⟨r0,r1,r2,r3⟩,-⟩:=ae.2.2 k (by omega);refine ⟨bs[i],hd,CU.1,h3 _ (pt wU),⟨_,_,_,_,r0,r1,r2,r3⟩,ae.2.1,fun x A0 A1 n0 c0 n1 c1 hx hp=>?_⟩;have J6:=h1.rb;obtain ⟨aV,ax⟩:=h1.xD i k Ef wU hk x (hp.mono fun b hb=>⟨hb.1,hb.2.1,fun hm=>by
  have e1:=h3 b hm;have e2:=(h1.bb b hm).1
  rcases hb.2.2 with e | e <;> omega⟩)
 have XH:W.heap.size<=bs[i]:=by omega
 refine ⟨⟨(((h.ext.setCell XH _).setCell XH _).setCell XH _).setCell XH _,fun j=>by simp only [rm]; exact h.fr j,⟨h.rd.1,by have:=h.rd.2; simpa [World.setCell] using this⟩,bs,_,aV,by rw [pL]; exact h2,h3,fun r hr j hj hc=>?_⟩,ax⟩;have EX:r < LL.length:=by rw [pL] at hr; exact hr
 by_cases Om:r=i
 · subst Om
   by_cases lK:j=k
   · subst lK;simp only [r6];exact hx
   · simp only [r6,sY (Ne.symm lK)];simp only [r6,pL] at hj;exact h4 r EX j hj (by omega)
 · simp only [sY (Ne.symm Om)] at hj ⊢;exact h4 r EX j hj (by omega)
def qdj (w0:World) (q:Nat->Prop) (l:Int) (n m:Nat):Prop:=∀ (p:Pl) (v:Value) (w:World),p.sz < m->p.Can->p.sz<=1099511627776->p.yq l<=n->PlV w0 q p v->Ext w0 w->Calls Tryz.prog 152 #[v,.int .i64 l,.int .i64 n] w (kc9 (fun b=>q b/\b < w0.heap.size) (p.zm l n) w)
theorem ydh (w0:World) (q:Nat->Prop) (l:Int) (hl:1<=l) (n:Nat) (hn:n<=1000000000) (m:Nat):qdj w0 q l n m:=by
 induction m with
 | zero=>intro p v w h; omega
 | succ m ih =>
 intro p v w hsz dD zC ik h aC;have Kr:PlV w (fun b=>q b/\b < w0.heap.size) p v:=(PlV.zd (pj _) (fun _ _ h=>h) (fun b hb hq=>⟨⟨hq,hb⟩,rfl⟩) h).ext aC;have IH:=hid ih;have HP:=hid Kr;obtain ⟨A0,n0,c0,A,c,rfl,ax,fC,dK,h4⟩:=h.open_;have H4:=hid h4;have ay:=hid aC;obtain ⟨W,hW⟩:=n_m (w.alloc (.cells #[.int .i64 p.lv,.bool p.neg,.slice A0 n0 c0,.slice A p.cs.length c] 33));have ai:Ext w W:=by rw [<- hW]; exact (Ext.refl w).alloc _
 have dG:W.heap.size=w.heap.size+1:=by rw [<- hW]; simp
 have bV:jb W w.heap.size p (.slice A0 n0 c0) (.slice A p.cs.length c):=by rw [<- hW]; exact jb.new w p _ _ _
 obtain ⟨V,dA,eQ,xB,nX⟩:=ga7 (n+1) (by omega) W;rw [dG] at dA nX;have sG:((n+1:Nat):Int)=(n:Int)+1:=by omega
 rw [sG] at dA;have kJ:=hid (fun (W':World) (hx:Ext W W')=>bV.ext hx (by omega));have lM:=hid eQ;have aG:=hid ai;have Gs:=hid nX;obtain ⟨b0,b1,b2,b3⟩:=id bV;obtain ⟨d0,d1,d2,d3⟩:=kJ.out V eQ;have hsx:=aC.size;clear h aC ih bV ai eQ nX ax h4 Kr;unfold plV
 by_cases k1:p.lv < l
 · have aU:=Gs.out.qaM (q:=fun b=>(q b/\b < w0.heap.size)\/w.heap.size<=b) (qa3 V _ (n+1));rw [Sw] at aU;have aV:=(aU.xD 0 (by simp) p ((HP.out.ext (aG.out.trans lM.out)).mono fun b hb=>⟨.inl hb,by omega⟩)).1;rw [show (List.replicate (n+1) waa.1).set 0 p=p.zm l n by rw [Pl.qaF k1]; exact gc2 n p] at aV;have dS:=hid aV;obtain ⟨C0,j0,f0,C1,j1,f1,⟨r0,r1,r2,r3⟩,-⟩:=aU.2.2 0 (by simp);have bG:=aU.2.1;simp only [s8,ri] at r0 r1 r2 r3 dS;have hlen:=p.xz l n;have vX:=hid hlen;have q1:decide (p.lv < l)=true:=by simpa using k1
   clear k1 aU aV hlen;go_enter Tryz.func152,pbe;go_wp2_with fail;go_ret;exact ⟨w.heap.size+1,by rw [vX.out]; rfl,by omega,dS.out,(((((aG.out.trans lM.out).setCell (by show w.heap.size<=w.heap.size+1; omega) _).setCell (by show w.heap.size<=w.heap.size+1; omega) _).setCell (by show w.heap.size<=w.heap.size+1; omega) _).setCell (by show w.heap.size<=w.heap.size+1; omega) _)⟩
 by_cases k2:p.lv=l
 · have nY:p.cs.length<=n+1:=by have:=Pl.qbF k2; omega
   have Dc:jd V (fun b=>q b/\b < w0.heap.size) p.cs A 0:=jd.xl (by have:=(ay.out.trans (aG.out.trans lM.out)).size; omega) (fun _ _ h=>h.ext (ay.out.trans (aG.out.trans lM.out))) (fun b hb hq=>⟨⟨hq,hb⟩,(ay.out.trans (aG.out.trans lM.out)).below.block b hb⟩) p.cs A 0 H4.out;obtain ⟨W',TT,-,QG,aA,-,BO⟩:=kbc (q':=fun b=>(q b/\b < w0.heap.size)\/w.heap.size<=b) (dc:=n+1) (sc:=c) Gs.out Dc (fun b hb=>⟨.inl hb,by omega⟩) nY 3;rw [<- ybb n _ nY,<- Pl.qaQ k2] at BO;have dS:=hid BO;have mJ:=hid (aA w (aG.out.trans lM.out) (by omega));have vX:=hid (p.xz l n);have q1:decide (p.lv < l)=false:=by simp; omega
   have q2:(p.lv == l)=true:=by simpa using k2
   clear k1 k2 aA BO Dc nY ik;go_enter Tryz.func152,pbe
   go_wp2_with (at_builtin
                refine wpList_copy_run rfl (.tmp 73) (.tmp 75) _ _ rfl _ _ _ _ rfl rfl TT ?_)
   go_ret;exact ⟨w.heap.size+1,by rw [vX.out]; rfl,by omega,dS.out,mJ.out⟩
 · have k3:l < p.lv:=by omega
   have q1:decide (p.lv < l)=false:=by simp; omega
   have q2:(p.lv == l)=false:=by simpa using k2
   obtain ⟨mm,Ov⟩:=n_m (p.cs.length);have hmb:mm<=1099511627776:=by have:=Pl.kj p; omega
   have lN:Hid (∀ k (hk:k < p.cs.length),p.cs[k].sz < m/\p.cs[k].Can/\p.cs[k].sz<=1099511627776/\p.cs[k].yq l<=n):=hid (fun k hk=>by
    have hm:=pt hk;have h1:=Pl.jn hm;obtain ⟨lv,ng,ds,cs⟩:=p;simp only [Pl.lv,Pl.cs] at *;have hkk:=dD.kids (by omega);have h2:=vay l cs 0 _ hm;rw [Pl.yq,if_neg (by omega),if_neg (by omega)] at ik
    exact ⟨by omega,(hkk.2.2.2.1.mem _ hm).2,by omega,by omega⟩)
   have oG:=hid (Pl.qaP (n:=n) k3);obtain ⟨Q,hQ⟩:∃ Q:Nat->Prop,Q=fun b=>(q b/\b < w0.heap.size)\/w.heap.size<=b:=⟨_,rfl⟩
   have aU:=Gs.out.qaM (q:=Q) (qa3 V _ (n+1));rw [Sw] at aU;have hJ0:CfJ w.heap.size W Q p.lv mm (w.heap.size+1) n 0 V:=by
    refine ⟨lM.out,aU.2.1,fun j hj=>?_,[],⟨rfl,aU.1,by omega,by simp,by simp,fun i h=>by simp at h,fun i h=>by simp at h⟩⟩;have hf:V.heap[w.heap.size+1]?=some (.cells (ul (List.replicate (n+1) waa)).toArray 33 (0,0)):=Gs.out;rw [cell_of_row _ _ j _ _ (0,0) hf,WD];have qQ:j < (ul (List.replicate (n+1) waa)).length:=by rw [ku,ra]; exact hj
    rw [pr qQ];refine ⟨_,rfl,?_⟩;exact qcg _ _ (pt qQ)
   have VW:=hid hJ0;have HQ:=hid hQ;rw [Ov] at d3 b3;have EC:=hid Ov;have NS:Hid (∀ W',Ext W W'->jb W' (w.heap.size) p (.slice A0 n0 c0) (.slice A mm c)):=hid (fun W' hx=>by rw [<- EC.out]; exact kJ.out W' hx);have bJ:w.alloc (.cells #[.int .i64 p.lv,.bool p.neg,.slice A0 n0 c0,.slice A mm c] 33)=W:=by rw [<- Ov]; exact hW
   have HHW:=hid bJ;clear aU hJ0 hQ k1 k2 ik hW dD hsz zC;rw [Ov];clear Ov;have hW:=HHW.out;clear bJ;go_enter Tryz.func152,pbe;go_wp2_with fail;clear b0 b1 b2 b3 d0 d1 d2 d3 hW dA
   go_loopw [18] (fun iv wr=>∃ k:Nat,k<=n+1/\iv=.int .i64 k/\Hid (CfJ w.heap.size W Q p.lv mm (w.heap.size+1) n k wr)) (fun iv _=>n+1 - (intOf iv).toNat)
   case atStart=>exact ⟨0,pZ _,rfl,VW⟩
   case round =>
    obtain ⟨k,hk,rfl,HJ⟩:=hrel
    by_cases af:k < n+1
    · obtain ⟨V2,sH,aN,jF,dI⟩:=xy (mm:Int) (by omega) (by omega) wr.drew;rw [sX] at sH dI;rw [World.size_drew] at sH jF dI;have JO:Ext wr V2:=((Ext.refl wr).drew).trans aN;obtain ⟨⟨u0,u1,u2,u3,c0',c1',c2',c3'⟩,jW,IV⟩:=HJ.out.step af (by omega) JO jF dI;have Be:=hid IV;have En:=jW (k * 4);have f1':=jW (k * 4+1);have f2':=jW (k * 4+2);have f3':=jW (k * 4+3);have Y0:=hid (HJ.out.1.drew);have Y2:=hid (HJ.out.1.trans JO);have Cm:(k:Int) < (n:Int)+1:=by omega
      clear aN JO jF dI IV jW;go_upto_region 5 with fail;refine wp_region_held_drew (S:=fun W'=>Ext W W') (by kernel_rfl) Y0.out (fun hHeld=>?_);refine tk 0 ?_;refine tk 1 ?_;refine tk 2 ?_;refine tk 3 ?_ (hy:=Or.inl ⟨by rfl,by intro w' aO; obtain ⟨b0,b1,b2,b3⟩:=NS.out w' aO; go_simp; (try (with_reducible rfl))⟩);refine tk 4 ?_;refine tk 5 ?_ (hy:=Or.inl ⟨by rfl,by intro w' aO; obtain ⟨b0,b1,b2,b3⟩:=NS.out w' aO; go_simp; (try (with_reducible rfl))⟩);refine tk 6 ?_;refine r_1 7 fun K hK=>?_
      go_simp;refine k_t hK Y2.out fun hHeld=>?_
      clear hK K sH;refine tk 8 ?_;refine tk 9 ?_;refine r_1 10 fun K hK=>?_
      go_simp;refine k_t hK Be.out.1 fun hHeld=>?_
      clear hK K c0' c1' c2' c3' En f1' f2' f3';refine w_d ?_;clear hHeld;go_wp2_with fail
      go_roundw
      case rel=>exact ⟨k+1,by omega,by go_num,Be⟩
      case measure=>simp only [intOf]; omega
    · have dh:k=n+1:=by omega
      have hJe:=HJ.out;rw [dh] at hJe
      replace HJ:=hid hJe
      clear hJe dh;obtain ⟨kk0,rfl⟩:∃ kk0,kk0=k:=⟨k,rfl⟩;obtain ⟨wd,rfl⟩:∃ wd,wd=wr:=⟨wr,rfl⟩;have hK0:CfK w.heap.size wd.heap.size W Q p l n (w.heap.size+1) 0 0 wd:=by
       obtain ⟨j1,j2,j3,bs,j4⟩:=HJ.out;exact ⟨j1,j2,⟨j4.rlt,pj _⟩,bs,_,by rw [EC.out]; exact j4,ra,fun b hb=>(j4.bb b hb).2,fun r hr j hj hc=>by omega⟩
      have HK0:=hid hK0;obtain ⟨b0,b1,b2,b3⟩:=NS.out _ HJ.out.1;clear hK0 HJ VW;go_wp2_with fail;clear b0 b1 b2 b3
      go_loopw [35] (fun iv wr=>∃ k:Nat,k<=mm/\iv=.int .i64 k/\Hid (CfK w.heap.size wd.heap.size W Q p l n (w.heap.size+1) k 0 wr)) (fun iv _=>mm - (intOf iv).toNat)
      case atStart=>exact ⟨0,pZ _,rfl,HK0⟩
      case round =>
       obtain ⟨k,hk,rfl,HK⟩:=hrel
       by_cases af:k < mm
       · have AU:k < p.cs.length:=by rw [EC.out]; exact af
         obtain ⟨ad,C0,oM,oO,C1,uG,oN,hA,ah,aK,bu⟩:=jd.ym H4.out k AU;subst hA;have bQ:Ext w0 wr:=ay.out.trans (aG.out.trans HK.out.ext);obtain ⟨a0,a1,a2,a3⟩:=aK.ext bQ (by rw [ja]; exact ah);obtain ⟨s1,s2,s3,s4⟩:=lN.out k AU;have HC:=hid (fun (W':World) (hx:Ext wr W')=>IH.out p.cs[k] _ W' s1 s2 s3 s4 bu (bQ.trans hx));have YO:Hid (p.cs.getD k Pl.zero=p.cs[k]):=hid (by rw [po,pr AU]; rfl);have YL:=hid AU;generalize p.cs[k]=ck at *;unfold plV at HC;clear aK bu ah bQ s1 s2 s3 s4 AU;go_wp2_with fail;clear a0 a1 a2 a3;refine (HC.out _ ((Ext.refl _).alloc _)).mono ?_;rintro e w5 ⟨R5,rfl,hR5,rW,x5⟩;rw [Pl.xz];have yC:Ext wr w5:=((Ext.refl wr).alloc _).trans x5;have hD:=HK.out.rd;have ajY:wd.heap.size<=R5:=by have:=hR5; simp at this; omega
         have df:jh w5 (fun b=>Q b/\b ≠ w.heap.size+1/\(b < w.heap.size\/wd.heap.size<=b)) R5 (ck.zm l n):=rW.mono fun b hb=>by
          rw [HQ.out];rcases hb with hb | hb
          · exact ⟨.inl hb,by omega,.inl (by omega)⟩
          · have eP:=hb;simp at eP;exact ⟨.inr (by omega),by omega,.inr (by omega)⟩
         have kH:=hid (And.intro (HK.out.Kc yC) df);clear rW df x5 yC HC hR5;go_wp2_with fail
         go_loopw [45] (fun iv wi=>∃ i:Nat,i<=n+1/\iv=.int .i64 i/\Hid (CfK w.heap.size wd.heap.size W Q p l n (w.heap.size+1) k i wi/\jh wi (fun b=>Q b/\b ≠ w.heap.size+1/\(b < w.heap.size\/wd.heap.size<=b)) R5 (ck.zm l n))) (fun iv _=>n+1 - (intOf iv).toNat)
         case atStart=>exact ⟨0,pZ _,rfl,kH⟩
         case round =>
          obtain ⟨i,hi,rfl,HI⟩:=hrel
          by_cases RY:i < n+1
          · obtain ⟨D0,dX,dZ,D1,lg,dY,⟨r0,r1,r2,r3⟩,uX⟩:=HI.out.2.2.2 i (by rw [Pl.xz]; exact RY);have ou:Hid ((ck.zm l n).getD i Pl.zero=(ck.zm l n)[i]'(by rw [Pl.xz]; exact RY)):=hid (by rw [po,pr (by rw [Pl.xz]; exact RY)]; rfl);have Dw:=hid (uX.mono (q:=fun b=>Q b/\b ≠ w.heap.size+1/\(b < w.heap.size\/wd.heap.size<=b)) fun b hb=>hb.1);generalize (ck.zm l n)[i]'(by rw [Pl.xz]; exact RY)=x at *;obtain ⟨V6,zI⟩:=n_m (wr.alloc (.cells #[.int .i64 x.lv,.bool x.neg,.slice D0 dX dZ,.slice D1 lg dY] 33));have Ea:Ext wr V6:=by rw [<- zI]; exact (Ext.refl wr).alloc _
            have zB:jb V6 wr.heap.size x (.slice D0 dX dZ) (.slice D1 lg dY):=by rw [<- zI]; exact jb.new wr x _ _ _
            have hs6:V6.heap.size=wr.heap.size+1:=by rw [<- zI]; simp
            have hK6:=HI.out.1.Kc Ea;have df:=HI.out.2.ext Ea;obtain ⟨B,Xq,hRB,hBD,⟨u0,u1,u2,u3,g0,g1,g2,g3⟩,UT,gU⟩:=hK6.step (by omega) RY YL.out;obtain ⟨dV,ax⟩:=gU x _ _ _ _ _ _ (by rw [YO.out,ou.out]) (Dw.out.ext Ea);rw [EC.out] at Xq;have hDw:=HI.out.1.rd;have tY:Hid (∀ V7,V7=((((V6.setCell ⟨B,k * 4,none⟩ (.int .i64 x.lv)).setCell ⟨B,k * 4+1,none⟩ (.bool x.neg)).setCell ⟨B,k * 4+2,none⟩ (.slice D0 dX dZ)).setCell ⟨B,k * 4+3,none⟩ (.slice D1 lg dY))->CfK w.heap.size wd.heap.size W Q p l n (w.heap.size+1) k (i+1) V7/\jh V7 (fun b=>Q b/\b ≠ w.heap.size+1/\(b < w.heap.size\/wd.heap.size<=b)) R5 (ck.zm l n)/\(V7.cell? ⟨w.heap.size+1,i * 4+3,none⟩=some (.slice (some ⟨B,0,none⟩) mm mm)/\jb V7 (wr.heap.size) x (.slice D0 dX dZ) (.slice D1 lg dY))):=hid (by
             intro V7 mg;have cO:∀ b,b ≠ B->V7.heap[b]?=V6.heap[b]?:=fun b hb=>by
              rw [mg,Below.heap_setCell _ _ _ b hb,Below.heap_setCell _ _ _ b hb,Below.heap_setCell _ _ _ b hb,Below.heap_setCell _ _ _ b hb]
             have aiu:V7.heap.size=V6.heap.size:=by rw [mg]; simp [World.setCell]
             have kc:∀ b j,b ≠ B->V7.cell? ⟨b,j,none⟩=V6.cell? ⟨b,j,none⟩:=fun b j hb=>pB (a:=⟨b,j,none⟩) (cO b hb)
             rw [<- mg] at dV ax
             refine ⟨dV,df.xl (by omega) ax (cO _ (by omega)) (fun b _ hb _=>⟨hb,cO b (by omega)⟩),(kc _ _ (by omega)).trans Xq,(kc _ _ (by omega)).trans zB.1,(kc _ _ (by omega)).trans zB.2.1,(kc _ _ (by omega)).trans zB.2.2.1,(kc _ _ (by omega)).trans zB.2.2.2⟩)
            have f0:=UT (k * 4);have f1:=UT (k * 4+1);have f2:=UT (k * 4+2);have f3:=UT (k * 4+3);have HX6:=hid hK6.ext;have Jf:Hid (∀ W',Ext V6 W'->(W'.cell? ⟨w.heap.size+1,i * 4+3,none⟩=some (.slice (some ⟨B,0,none⟩) mm mm)/\jb W' (wr.heap.size) x (.slice D0 dX dZ) (.slice D1 lg dY))):=hid (fun W' hx=>by
             obtain ⟨c0,c1,c2,c3⟩:=zB.ext hx (by omega)
             exact ⟨(hx.cell (p:=⟨w.heap.size+1,i * 4+3,none⟩) (by show w.heap.size+1 < _; omega)).trans Xq,c0,c1,c2,c3⟩)
            have qA:(i:Int) < (n:Int)+1:=by omega
            have H8:(k:Int) < (mm:Int):=by omega
            clear dV ax gU df hK6 zB UT Xq uX Ea;go_upto_region 13 with fail
            try rw [zI]
            clear zI r0 r1 r2 r3;refine wp_region_held_drew (S:=fun W'=>(W'.cell? ⟨w.heap.size+1,i * 4+3,none⟩=some (.slice (some ⟨B,0,none⟩) mm mm)/\jb W' (wr.heap.size) x (.slice D0 dX dZ) (.slice D1 lg dY))) (by kernel_rfl) (Jf.out _ (Ext.refl V6).drew) (fun hHeld=>?_);refine tk 0 ?_;refine tk 1 ?_;refine tk 2 ?_;refine tk 3 ?_;refine tk 4 ?_ (hy:=Or.inl ⟨by rfl,by intro w' aO; obtain ⟨k0,k1,k2,k3,k4⟩:=aO; go_simp; (try (with_reducible rfl))⟩);refine tk 5 ?_;refine tk 6 ?_ (hy:=Or.inl ⟨by rfl,by intro w' aO; obtain ⟨k0,k1,k2,k3,k4⟩:=aO; go_simp; (try (with_reducible rfl))⟩);refine tk 7 ?_;refine r_1 8 fun K hK=>?_
            go_simp;refine (?g9:∀ V7,(CfK w.heap.size wd.heap.size W Q p l n (w.heap.size+1) k (i+1) V7/\jh V7 (fun b=>Q b/\b ≠ w.heap.size+1/\(b < w.heap.size\/wd.heap.size<=b)) R5 (ck.zm l n)/\(V7.cell? ⟨w.heap.size+1,i * 4+3,none⟩=some (.slice (some ⟨B,0,none⟩) mm mm)/\jb V7 (wr.heap.size) x (.slice D0 dX dZ) (.slice D1 lg dY)))->K _ V7.drew) _ (tY.out _ rfl);intro V7 mg;obtain ⟨k7,r7,c7⟩:=mg;have hd7:Ext V7 V7.drew:=(Ext.refl V7).drew;refine k_t hK c7 fun hHeld=>?_
            clear hK K g0 g1 g2 g3 f0 f1 f2 f3 c7;refine w_d ?_;have HV7:=hid (And.intro (k7.Kc hd7) (r7.ext hd7));clear hHeld tY Jf k7 r7 hd7;go_wp2_with fail
            go_roundw
            case rel=>exact ⟨i+1,by omega,by go_num,HV7⟩
            case measure=>simp only [intOf]; omega
          · have Ie:i=n+1:=by omega
            have hIe:=HI.out.1;rw [Ie] at hIe;have HN:=hid hIe.next;clear HI hIe Ie;go_wp2_with fail
            go_roundw
            case rel=>exact ⟨k+1,by omega,by go_num,HN⟩
            case measure=>simp only [intOf]; omega
       · have dh:k=mm:=by omega
         have hKe:=HK.out;rw [dh] at hKe
         replace HK:=hid hKe
         clear hKe dh;obtain ⟨bs,LL,h1,h2,h3,h4⟩:=HK.out.rows;have aT:=h1.fin (q':=fun b=>(q b/\b < w0.heap.size)\/w.heap.size<=b) HK.out.fr (by rw [EC.out]; omega) (fun b hb=>by
          rcases hb with hb | hb
          · rw [HQ.out] at hb; exact hb
          · exact .inr hb)
         have hLL:LL.map (fun ks=>Pl.mk p.lv false [] ks)=p.zm l n:=by
          rw [oG.out];refine sT (by simp [h2]) fun r nS eX=>?_
          simp only [pw] at nS;simp only [rN,tI]
          congr 1
          have wU:r < bs.length:=by rw [h1.len]; exact nS
          refine sT (by rw [(h1.row r nS wU).1,pw]) fun j SS oJ=>?_
          rw [pw] at oJ;rw [h4 r nS j SS (.inl (by rw [<- EC.out]; exact oJ)),rN,po (l:=p.cs),pr oJ]
          rfl
         rw [hLL] at aT;have bT:=hid aT;have vX:=hid (p.xz l n);have mJ:=hid (aG.out.trans HK.out.ext);clear h1 h2 h3 h4 aT hLL HK;go_wp2_with fail;go_ret;exact ⟨w.heap.size+1,by rw [vX.out]; rfl,by omega,bT.out,mJ.out⟩
theorem xde {w:World} {q:Nat->Prop} {l:Int} (hl:1<=l) (n:Nat) (hn:n<=1000000000) (p:Pl) (v:Value) (dD:p.Can) (hsz:p.sz<=1099511627776) (hd:p.yq l<=n) (h:PlV w q p v):Calls Tryz.prog 152 #[v,.int .i64 l,.int .i64 n] w (kc9 q (p.zm l n) w):=
 (ydh w q l hl n hn (p.sz+1) p v w (tx _) dD hsz hd h (Ext.refl w)).mono fun e w' ⟨R,h1,h2,h3,h4⟩=>⟨R,h1,h2,h3.mono fun b hb=>hb.imp (fun h=>h.1) id,h4⟩
end Go.Proofs.YtcepajijiabkmaaGreat
