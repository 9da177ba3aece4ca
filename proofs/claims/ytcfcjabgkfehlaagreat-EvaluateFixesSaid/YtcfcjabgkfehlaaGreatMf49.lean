/- Layer 22: recpoly.at. -/
import Derived.Test.YtcfcjabgkfehlaaGreatMf30
import Derived.Test.YtcfcjabgkfehlaaGreatMf48
import Derived.Test.YtcfcjabgkfehlaaGreatMf40
import Derived.Deep.CutBlock
import Derived.Test.YtcfcjabgkfehlaaGreatMf34
import Derived.Test.YtcfcjabgkfehlaaGreatDeg
import Derived.Lib.MinMax
import Derived.Test.YtcfcjabgkfehlaaGreatMf38
import Derived.Test.YtcfcjabgkfehlaaGreatRlen
import Derived.Test.YtcfcjabgkfehlaaGreatMf19
set_option linter.unusedSimpArgs false
set_option linter.unusedVariables false

set_option maxRecDepth 100000
set_option maxHeartbeats 8000000
namespace Go.Proofs.YtcfcjabgkfehlaaGreat
open Go.RowKit
theorem Fit.mulc {p:Pl} {E D K:Nat} (h:Fit p E D) {z:Int} (hz:z.natAbs<=B32 ^ K):Fit (p.mul (Pl.const z)) E (D+K):=by
 refine ⟨Pl.mul_can _ _,Pl.mul_const_ex h.can h.ex z,?_⟩;rw [Nat.pow_add];exact Nat.lt_of_le_of_lt (Nat.le_trans (Pl.mul_const_nr h.can z) (Nat.mul_le_mul_left _ hz)) (Nat.mul_lt_mul_of_pos_right h.nr (Nat.pow_pos (by decide)))
theorem xb5 (cs:List Pl) (j:Nat):yt (cs.drop j)<=yt cs:=by
 have:=wa3 (cs.take j) (cs.drop j);rw [List.take_append_drop] at this;omega
theorem waw {b:Int} {A:Nat} (hb:b.natAbs < B32 ^ A) (k:Nat):(b ^ k).natAbs<=B32 ^ (A * k):=by
 rw [<- vau];exact ual (Nat.le_of_lt hb) k
theorem gcg {l:Int} {ng:Bool} {ds:List Nat} {cs:List Pl} {E D A:Nat} (hp:Fit (.mk l ng ds cs) E D) (hl:0 < l) {a b:Int} (ha:a.natAbs < B32 ^ A) (hb:b.natAbs < B32 ^ A) {M:Nat} (hM:M=cs.length - 1) :
 (∀ j,Fit (horP a b (cs.drop j)) E (D+A * (M - j)))/\∀ i (hi:i+1 < cs.length),Fit cs[i] E D/\Fit ((horP a b (cs.drop (i+1))).mul (Pl.const a)) E (D+A * (M - i))/\Fit (cs[i].mul (Pl.const (b ^ (M - i)))) E (D+A * (M - i)):=by
 subst hM;have h1:∀ j,Fit (horP a b (cs.drop j)) E (D+A * (cs.length - 1 - j)):=fun j=>by
  have h:=Fit.horP (cs:=cs.drop j) (E:=E) (D:=D) (fun c hc=>⟨(hp.kid hl (List.mem_of_mem_drop hc)).can,(hp.kid hl (List.mem_of_mem_drop hc)).ex⟩) (by
   have h2:=hp.nr;rw [Pl.nr,if_neg (by omega)] at h2;have:=xb5 cs j
   omega) ha hb
  rw [List.length_drop] at h;exact h.mono (Nat.le_refl _) (Nat.add_le_add_left (Nat.mul_le_mul_left _ (by omega)) _)
 refine ⟨h1,fun i hi=>?_⟩;have h2:=hp.kid hl (List.getElem_mem (by omega:i < cs.length));refine ⟨h2,?_,h2.mulc (waw hb _)⟩;have h3:=(h1 (i+1)).mulc (Nat.le_of_lt ha);rw [Nat.add_assoc,<- Nat.mul_succ,show (cs.length - 1 - (i+1)).succ=cs.length - 1 - i by omega] at h3;exact h3
def jba (w:World) (pad:Addr) (b:Int) (A k:Nat):Prop:=pad.block < w.heap.size/\∃ bb B m d,w.cell? (pad.add (k * 2))=some (.bool bb)/\w.cell? ⟨(pad.add (k * 2)).block,(pad.add (k * 2)).off+1,none⟩=some (.slice B m d)/\yh w (.agg #[.bool bb,.slice B m d]) (b ^ k) (A * k+1)
theorem jba.ext {w W:World} {pad:Addr} {b:Int} {A k:Nat} (h:jba w pad b A k) (hx:Ext w W):jba W pad b A k:=by
 obtain ⟨h0,bb,B,m,d,h1,h2,h3⟩:=h;have hb:(pad.add (k * 2)).block < w.heap.size:=by rw [ja]; exact h0
 exact ⟨Nat.lt_of_lt_of_le h0 hx.size,bb,B,m,d,(hx.cell hb).trans h1,(hx.cell (p:=⟨(pad.add (k * 2)).block,(pad.add (k * 2)).off+1,none⟩) hb).trans h2,h3.ext hx⟩
def AtS (w:World) (p:Pl) (sp Ap an sa:Value) (W:World):Prop:=Ext w W/\w.heap.size+1+1 < W.heap.size/\uf W w.heap.size p sp Ap/\W.cell? ⟨w.heap.size+1,0,none⟩=some an/\W.cell? ⟨w.heap.size+1,1,none⟩=some sa
section
variable {w W W':World} {p p':Pl} {sp Ap an sa:Value}
theorem AtS.ext (h:AtS w p sp Ap an sa W) (hx:Ext W W'):AtS w p sp Ap an sa W':=by
 obtain ⟨h0,h1,h2,h3,h4⟩:=h;have hs:=hx.size;exact ⟨h0.trans hx,by omega,h2.ext hx (by omega),(hx.cell (p:=⟨w.heap.size+1,0,none⟩) (by show w.heap.size+1 < _; omega)).trans h3,(hx.cell (p:=⟨w.heap.size+1,1,none⟩) (by show w.heap.size+1 < _; omega)).trans h4⟩
theorem AtS.store (h:AtS w p sp Ap an sa W) {g:Nat} (hg:w.heap.size+1+1<=g) (a b c d:Value):AtS w p sp Ap an sa ((((W.setCell ⟨g,0,none⟩ a).setCell ⟨g,1,none⟩ b).setCell ⟨g,2,none⟩ c).setCell ⟨g,3,none⟩ d):=by
 obtain ⟨h0,h1,h2,h3,h4⟩:=h;have hh:=fun k (hk:k ≠ g)=>vag W g a b c d k hk
 exact ⟨(((h0.setCell (by show w.heap.size<=g; omega) _).setCell (by show w.heap.size<=g; omega) _).setCell (by show w.heap.size<=g; omega) _).setCell (by show w.heap.size<=g; omega) _,by simp [World.setCell]; omega,h2.turn (hh _ (by omega)),
  (World.cell?_of_block (a:=⟨w.heap.size+1,0,none⟩) (hh _ (by show w.heap.size+1 ≠ g; omega))).trans h3,(World.cell?_of_block (a:=⟨w.heap.size+1,1,none⟩) (hh _ (by show w.heap.size+1 ≠ g; omega))).trans h4⟩
end
def zav (W:World) (g:Nat) (p:Pl):Prop:=g < W.heap.size/\(∀ i,W.frozen? ⟨g,i,none⟩=false)/\∃ A0 n0 c0 A1 n1 c1,uf W g p (.slice A0 n0 c0) (.slice A1 n1 c1)/\PlV W (fun b=>b ≠ g) p (plV p (.slice A0 n0 c0) (.slice A1 n1 c1))
theorem zav.ext {W W':World} {g:Nat} {p:Pl} (h:zav W g p) (hx:Ext W W'):zav W' g p:=by
 obtain ⟨h0,h1,A0,n0,c0,A1,n1,c1,h2,h3⟩:=h;exact ⟨Nat.lt_of_lt_of_le h0 hx.size,fun i=>(hx.frozen (p:=⟨g,i,none⟩) h0).trans (h1 i),A0,n0,c0,A1,n1,c1,h2.ext hx h0,h3.ext hx⟩
theorem zav.store {W:World} {g:Nat} {p p':Pl} (h:zav W g p) {q:Nat->Prop} {A0 A1:Option Addr} {n0 c0 n1 c1:Nat} (hp:PlV W q p' (plV p' (.slice A0 n0 c0) (.slice A1 n1 c1))) (hq:∀ b,q b->b ≠ g) :
 zav ((((W.setCell ⟨g,0,none⟩ (.int .i64 p'.lv)).setCell ⟨g,1,none⟩ (.bool p'.neg)).setCell ⟨g,2,none⟩ (.slice A0 n0 c0)).setCell ⟨g,3,none⟩ (.slice A1 n1 c1)) g p':=by
 obtain ⟨h0,h1,B0,m0,d0,B1,m1,d1,h2,h3⟩:=h;exact ⟨by simpa [World.setCell] using h0,fun i=>by simp only [World.frozen?_setCell]; exact h1 i,_,_,_,_,_,_,h2.set,h2.keep _ _ _ _ hp fun b _ hb=>⟨hq b hb,hq b hb⟩⟩
theorem zav.new {W:World} {p:Pl} {q:Nat->Prop} {A0 A1:Option Addr} {n0 c0 n1 c1:Nat} (hp:PlV W q p (plV p (.slice A0 n0 c0) (.slice A1 n1 c1))) (T:TypeId):zav (W.alloc (.cells #[.int .i64 p.lv,.bool p.neg,.slice A0 n0 c0,.slice A1 n1 c1] T)) W.heap.size p:=by
 refine ⟨by simp,fun i=>by simp [go_sem],A0,n0,c0,A1,n1,c1,uf.new W p _ _ _,?_⟩;exact PlV.turn_ (W.size_alloc _ ▸ Nat.le_succ _) (fun _ _ h=>h.ext ((Ext.refl W).alloc _)) (fun b hb _=>⟨by omega,((Ext.refl W).alloc _).below.block b hb⟩) hp
theorem ql.set_ {W:World} {g0 g:Nat} (h:ql W g0) (hne:g0 ≠ g) (a b c d:Value):ql ((((W.setCell ⟨g,0,none⟩ a).setCell ⟨g,1,none⟩ b).setCell ⟨g,2,none⟩ c).setCell ⟨g,3,none⟩ d) g0:=by
 obtain ⟨⟨z0,z1,z2,z3⟩,zf⟩:=h;have hh:=vag W g a b c d g0 hne;exact ⟨⟨(World.cell?_of_block (a:=⟨g0,0,none⟩) hh).trans z0,(World.cell?_of_block (a:=⟨g0,1,none⟩) hh).trans z1,(World.cell?_of_block (a:=⟨g0,2,none⟩) hh).trans z2,(World.cell?_of_block (a:=⟨g0,3,none⟩) hh).trans z3⟩,fun i=>by simp only [World.frozen?_setCell]; exact zf i⟩
def AtR (w:World) (p:Pl) (sp Ap an sa:Value) (S:Pl) (V:World):Prop:=AtS w p sp Ap an sa V/\ql V (w.heap.size+1+1)/\zav V (w.heap.size+1+1+1) S
def ycz (w0:World) (q:Nat->Prop) (l a b:Int) (n E D:Nat) (av pv:Value) (m:Nat):Prop:=∀ (p:Pl) (v:Value) (w:World),p.sz < m->Fit p E D->p.dgL l<=n->PlV w0 q p v->Ext w0 w->Calls Tryz.prog 93 #[v,.int .i64 l,av,pv] w (qi (fun b=>w.heap.size<=b) (p.atL l a b n) w)
theorem vcy {w0:World} {q:Nat->Prop} {l a b:Int} {n A E D:Nat} {an:Bool} {Aa:Option Addr} {na ca pc:Nat} {pad:Addr} (hl:1<=l) (hE:E<=900) (hnE:n<=E) (hD:D+A * (n+1)+2<=1000000000000) (hA:yh w0 (.agg #[.bool an,.slice Aa na ca]) a A) (hb:b.natAbs < B32 ^ A) (hpc:n+1<=pc) (hpc2:pc<=9223372036854775807) (hP:∀ k,k<=n->jba w0 pad b A k) (m:Nat) :
 ycz w0 q l a b n E D (.agg #[.bool an,.slice Aa na ca]) (.slice (some pad) (n+1) pc) m:=by
 induction m with
 | zero=>intro p v w h; omega
 | succ m ih =>
 intro p v w hsz hfit hdg h hx0;have HH:=Lib.hid (h.ext hx0);obtain ⟨A0,n0,c0,A1,c1,rfl,-,hl1,hl2,h4⟩:=h.open_;have H4:=Lib.hid h4;have HX0:=Lib.hid hx0;have HP:=Lib.hid (fun k hk=>(hP k hk).ext hx0);have HA:=Lib.hid (hA.ext hx0);have hlen:p.cs.length<=902:=by
  rcases Int.lt_or_le 0 p.lv with h0 | h0
  · cases p; have:=hfit.len h0; simp only [Pl.cs] at *; omega
  · have h1:=hfit.can;obtain ⟨lv,ng,ds,cs⟩:=p;rw [Pl.Can] at h1;simp only [Pl.lv,Pl.cs] at *;rcases h1 with ⟨-,rfl,-⟩ | ⟨h1,-⟩
    · exact Nat.zero_le _
    · omega
 have han:A * n<=A * (n+1):=Nat.mul_le_mul_left _ (by omega);have haa:A<=A * (n+1):=Nat.le_mul_of_pos_right _ (by omega);obtain ⟨W,hW⟩:∃ W,((w.alloc (.cells #[.int .i64 p.lv,.bool p.neg,.slice A0 n0 c0,.slice A1 p.cs.length c1] 35)).alloc (.cells #[.bool an,.slice Aa na ca] 33)).alloc (.cells #[.int .i64 0,.bool false,.slice none 0 0,.slice none 0 0] 35)=W:=⟨_,rfl⟩;have hWx:Ext w W:=by rw [<- hW]; exact (((Ext.refl w).alloc _).alloc _).alloc _
 have hWs:W.heap.size=w.heap.size+1+1+1:=by rw [<- hW]; simp
 have hAS:AtS w p (.slice A0 n0 c0) (.slice A1 p.cs.length c1) (.bool an) (.slice Aa na ca) W:=by
  refine ⟨hWx,by omega,?_,?_,?_⟩
  · rw [<- hW]; exact (uf.new w p _ _ _).ext (((Ext.refl _).alloc _).alloc _) (by simp)
  · rw [<- hW]; simp [go_sem]
  · rw [<- hW]; simp [go_sem]
 have hz:ql W (w.heap.size+1+1):=by
  rw [<- hW];refine ⟨⟨?_,?_,?_,?_⟩,fun i=>?_⟩ <;> simp [go_sem]
 have HWX:=Lib.hid hWx;have HAS:=Lib.hid hAS;have HZ:=Lib.hid hz;have hwn:IntKind.i64.wrap (((n+1:Nat):Int) - 1)=(n:Int):=by rw [IntKind.wrap_i64]; omega
 have hin:(n:Int) < (n:Int)+1:=by omega
 obtain ⟨-,-,⟨b0,b1,b2,b3⟩,a0,a1⟩:=hAS;clear h h4 hx0 hWx hz hA hP;have HFIT:=Lib.hid hfit;unfold plV;unfold plV at HH
 by_cases k1:p.lv < l
 · have q1:decide (p.lv < l)=true:=by simpa using k1
   have HR:Hid (p.atL l a b n=p.mul (Pl.const (b ^ n))):=Lib.hid (by cases p; simp only [Pl.lv] at k1; rw [Pl.atL,if_pos k1]);obtain ⟨hpb,bb,B,mb,db,pw0,pw1,hpi⟩:=HP.out n (Nat.le_refl n);have HPW:Hid (∀ W',Ext w W'->W'.cell? (pad.add (n * 2))=some (.bool bb)/\W'.cell? ⟨(pad.add (n * 2)).block,(pad.add (n * 2)).off+1,none⟩=some (.slice B mb db)):=Lib.hid (fun W' hx=>by
    have hb':(pad.add (n * 2)).block < w.heap.size:=by rw [ja]; exact hpb
    exact ⟨(hx.cell hb').trans pw0,(hx.cell (p:=⟨(pad.add (n * 2)).block,(pad.add (n * 2)).off+1,none⟩) hb').trans pw1⟩)
   have HSC:=Lib.hid (fun (W':World) (hx:Ext w W')=>yau (z:=b ^ n) (L:=A * n+1) _ _ (HH.out.ext hx) (hpi.ext hx) hfit (by omega) (by omega));clear k1 hpi pw0 pw1 hpb H4 HP HA hfit hdg;have Y0:=Lib.hid ((Ext.refl W).drew);go_enter Tryz.func93,Tryz.ntmps93;go_upto_region 3 with fail;clear hW b0 b1 b2 b3 a0 a1;refine wp_region_held_drew (S:=AtS w p (.slice A0 n0 c0) (.slice A1 p.cs.length c1) (.bool an) (.slice Aa na ca)) (by kernel_rfl) (HAS.out.ext Y0.out) (fun hHeld=>?_);refine tk 0 ?_ (hy:=Or.inl ⟨by rfl,by intro w' hSw; obtain ⟨-,-,⟨b0,b1,b2,b3⟩,-,-⟩:=hSw; go_simp; (try (with_reducible rfl))⟩);refine tk 1 ?_;refine tk 2 ?_;refine tk 3 ?_;refine tk 4 ?_ (hy:=Or.inl ⟨by rfl,by intro w' hSw; obtain ⟨p0,p1⟩:=HPW.out w' hSw.1; go_simp; (try (with_reducible rfl))⟩);refine wpAnyH_ready (rs:=[5]) (by kernel_rfl) (by simp) ?_;refine AllReadyH.cons rfl (fun K hK=>?_) AllReadyH.nil;go_simp
   go_at_call 70
   refine (HSC.out _ (HWX.out.trans Y0.out)).mono ?_;rintro e w2 ⟨z2,rfl,m2,x2⟩;obtain ⟨C2,i2,j2,D2,k2,rfl,-⟩:=id m2.open_;have z1:Ext W w2:=Y0.out.trans x2;have hs2:=z1.size;refine hK.out _ _ (HAS.out.ext z1) (fun hHeld=>?_);clear hK K
   try simp only [Act.put,List.getElem_toArray,List.getElem_cons_zero,List.getElem_cons_succ,List.setIfInBounds_toArray,List.set_cons_zero,List.set_cons_succ]
   have hzn:=HZ.out.ext z1 (by omega);have HF:=Lib.hid (vk (q':=fun b=>w.heap.size<=b) (HWX.out.trans z1) (by omega:w.heap.size<=w.heap.size+1+1) hzn m2 (fun b _ hb=>by
    have hb2:W.drew.heap.size<=b:=hb;have:W.drew.heap.size=W.heap.size:=rfl
    exact ⟨by omega,by omega⟩))
   obtain ⟨⟨z00,z01,z02,z03⟩,zf⟩:=hzn;refine wpAnyH_ready (rs:=[6]) (by kernel_rfl) (by simp) ?_;refine AllReadyH.cons rfl (fun K hK=>?_) AllReadyH.nil;unfold plV;go_simp;refine hK.out _ _ ((HAS.out.ext z1).store (Nat.le_refl _) _ _ _ _) (fun hHeld=>?_);clear hK K
   try simp only [Act.put,List.getElem_toArray,List.getElem_cons_zero,List.getElem_cons_succ,List.setIfInBounds_toArray,List.set_cons_zero,List.set_cons_succ]
   refine wpAnyH_done (by kernel_rfl) ?_ _;clear x2 hHeld HSC HPW;go_wp2_with fail;rw [HR.out];exact bodyPost_ret (v:=plV _ (.slice C2 i2 j2) (.slice D2 _ k2)) (by simp [results,Tryz.results93,go_sem,z00,z01,z02,z03,plV]) rfl HF.out
 by_cases k2:l < p.lv
 · have q1:decide (p.lv < l)=false:=by simpa using k1
   have q2:decide (p.lv > l)=true:=by simpa using k2
   have hpos:0 < p.lv:=by omega
   have HR:Hid (p.atL l a b n=vac p.lv (p.cs.map (Pl.atL l a b n))):=Lib.hid (by
    obtain ⟨lv,ng,ds,cs⟩:=p;simp only [Pl.lv,Pl.cs] at *
    rw [Pl.atL,if_neg k1,if_neg (by omega),vap])
   have HSZ:Hid (∀ k (hk:k < p.cs.length),p.cs[k].sz < m/\Fit p.cs[k] E D/\p.cs[k].dgL l<=n):=Lib.hid (fun k hk=>by
    have hm:=List.getElem_mem hk;have h1:=Pl.sz_kid hm;refine ⟨by omega,?_,?_⟩
    · obtain ⟨lv,ng,ds,cs⟩:=p;exact hfit.kid hpos hm
    · obtain ⟨lv,ng,ds,cs⟩:=p;simp only [Pl.lv,Pl.cs] at *;rw [Pl.dgL,if_neg k1,if_neg (by omega)] at hdg
      exact Int.le_trans (qau l cs 0 _ hm) hdg)
   have IH:=Lib.hid ih;obtain ⟨V,hmk,hVx,hVs,hrow⟩:=jal (p.cs.length:Int) (by omega) (by omega) W;rw [Int.toNat_natCast] at hmk hrow;have HVX:=Lib.hid hVx;have hrow0:=hrow (fun b=>w.heap.size+1+1+1<=b);rw [hWs] at hmk hrow0;have HROW:=Lib.hid hrow0;obtain ⟨-,-,⟨d0,d1,d2,d3⟩,f0,f1⟩:=HAS.out.ext hVx;obtain ⟨cl,hcl⟩:∃ cl,p.cs.map (Pl.atL l a b n)=cl:=⟨_,rfl⟩;have hcll:cl.length=p.cs.length:=by rw [<- hcl,List.length_map]
   have HCL:Hid (∀ k (hk:k < p.cs.length),∃ h:k < cl.length,cl[k]=p.cs[k].atL l a b n):=Lib.hid (fun k hk=>⟨by omega,by subst hcl; rw [List.getElem_map]⟩);rw [hcl] at HR;have hcl1:cl.length<=p.cs.length:=by omega
   have hcl2:p.cs.length<=cl.length:=by omega
   have HCLL:=Lib.hid hcll;clear hcl hcll k1 k2 ih hfit hdg hVx hrow hrow0 HP HA;go_enter Tryz.func93,Tryz.ntmps93;go_wp2_with fail;clear hW hmk b0 b1 b2 b3 a0 a1 d0 d1 d2 d3 f0 f1
   go_loopw [42] (fun iv wr=>∃ k:Nat,k<=p.cs.length/\iv=.int .i64 k/\Hid ((∃ L:List Pl,L.length=p.cs.length/\L.take k=cl.take k/\qal wr (fun b=>w.heap.size+1+1+1<=b) (w.heap.size+1+1+1) L)/\Ext W wr)) (fun iv _=>p.cs.length - (intOf iv).toNat)
   case atStart=>exact ⟨0,Nat.zero_le _,rfl,⟨⟨_,List.length_replicate,by simp,HROW.out⟩,HVX.out⟩⟩
   case round =>
    obtain ⟨k,hk,rfl,⟨⟨L,hLl,hLt,hrow⟩,hx⟩⟩:=hrel;have HX:=Lib.hid hx;have HROWk:=Lib.hid hrow;have HLT:=Lib.hid hLt;have HLL:=Lib.hid hLl;have hL1:L.length<=p.cs.length:=by omega
    have hL2:p.cs.length<=L.length:=by omega
    obtain ⟨-,-,⟨b0,b1,b2,b3⟩,a0,a1⟩:=HAS.out.ext hx;have hRlt:w.heap.size+1+1+1 < wr.heap.size:=hrow.1;have hRlt1:w.heap.size+1 < wr.heap.size:=by omega
    clear hx hrow hLt HVX HROW hLl
    by_cases hlt:k < p.cs.length
    · obtain ⟨ad,B0,m0,e0,B1,m1,e1,rfl,hadb,hnd,hkt⟩:=jd.kid H4.out k hlt;have hxx:Ext w0 wr:=(HX0.out.trans HWX.out).trans HX.out;obtain ⟨g0,g1,g2,g3⟩:=hnd.ext hxx (by rw [ja]; exact hadb);obtain ⟨hsz1,hsz2,hsz3⟩:=HSZ.out k hlt;have HC:=Lib.hid (fun W' (hxW:Ext wr W')=>IH.out p.cs[k] _ W' hsz1 hsz2 hsz3 hkt (hxx.trans hxW));obtain ⟨hkc,hck⟩:=HCL.out k hlt;have HSET:Hid ((L.set k (p.cs[k].atL l a b n)).take (k+1)=cl.take (k+1)):=Lib.hid (by
       rw [<- hck]
       exact kae L cl k HLT.out (by omega) hkc)
      generalize p.cs[k].atL l a b n=rk at *;generalize p.cs[k]=ck at *;clear hnd hkt hadb hsz1 hsz2 hsz3 hxx HLT hck;go_wp2_with fail;refine (HC.out _ ((Ext.refl _).alloc _)).mono ?_;rintro e w2 ⟨v2,rfl,p2,x2⟩;have x2':Ext wr w2:=((Ext.refl wr).alloc _).trans x2;obtain ⟨C0,j0,f0,C1,f1,rfl,-⟩:=id p2.open_;have hr2:=HROWk.out.ext x2';obtain ⟨D0,n2,u0,D1,n3,u1,⟨r0,r1,r2,r3⟩,-⟩:=hr2.2.2 k (by omega);have hfr:=hr2.2.1;have hst:=(hr2.set_ k (by omega) rk (p2.mono fun b hb=>by
       have hb':wr.heap.size+1<=b:=by simpa using hb
       exact ⟨by omega,by omega⟩)).1
      simp only at r0 r1 r2 r3;have HST:=Lib.hid hst;have X2:=Lib.hid (HX.out.trans x2');have hkl:(k:Int) < (p.cs.length:Int):=by omega
      unfold plV;clear hr2 hst p2 x2 x2' HC HROWk g0 g1 g2 g3 b0 b1 b2 b3 a0 a1;go_wp2_with fail
      go_roundw
      case rel=>exact ⟨k+1,by omega,by go_num,⟨_,by rw [List.length_set]; exact HLL.out,HSET.out,HST.out⟩,(((X2.out.setCell (by show W.heap.size<=w.heap.size+1+1+1; omega) _).setCell (by show W.heap.size<=w.heap.size+1+1+1; omega) _).setCell (by show W.heap.size<=w.heap.size+1+1+1; omega) _).setCell (by show W.heap.size<=w.heap.size+1+1+1; omega) _⟩
      case measure=>simp only [intOf]; omega
    · have hke:k=p.cs.length:=by omega
      have hLe:L=cl:=by
       have h:=HLT.out;rw [hke,List.take_of_length_le (by omega),List.take_of_length_le (by omega)] at h;exact h
      have hfin:=HROWk.out.fin (Nat.le_refl _);rw [hLe] at hfin;have htr:=vbd p.lv cl (some ⟨w.heap.size+1+1+1,0,none⟩) p.cs.length hfin (by omega) (by omega);rw [HCLL.out] at htr;have HTR:=Lib.hid htr;clear hfin htr HROWk HLT hLe;go_wp2_with fail;refine HTR.out.mono ?_;rintro e w2 ⟨z2,rfl,m2,x2⟩;obtain ⟨C2,i2,j2,D2,k2,rfl,-⟩:=id m2.open_;have z1:Ext W w2:=HX.out.trans x2;have hzn:=HZ.out.ext z1 (by omega);have HF:=Lib.hid (vk (q':=fun b=>w.heap.size<=b) (HWX.out.trans z1) (by omega:w.heap.size<=w.heap.size+1+1) hzn m2 (fun b _ hb=>⟨by omega,by omega⟩));obtain ⟨⟨z00,z01,z02,z03⟩,zf⟩:=hzn;unfold plV;clear m2 x2 z1 HTR b0 b1 b2 b3 a0 a1;go_wp2_with fail;rw [HR.out];exact bodyPost_ret (v:=plV _ (.slice C2 i2 j2) (.slice D2 _ k2)) (by simp [results,Tryz.results93,go_sem,z00,z01,z02,z03,plV]) rfl HF.out
 · have q1:decide (p.lv < l)=false:=by simpa using k1
   have q2:decide (p.lv > l)=false:=by simpa using k2
   have hpos:0 < p.lv:=by omega
   obtain ⟨mm,hmm,hm1⟩:∃ mm,p.cs.length=mm+1/\1<=mm:=by
    have h1:=hfit.can;obtain ⟨lv,ng,ds,cs⟩:=p;have h2:=(h1.kids hpos).2.2.1;exact ⟨cs.length - 1,by simp only [Pl.cs]; omega,by omega⟩
   have hmn:mm<=n:=by
    obtain ⟨lv,ng,ds,cs⟩:=p;simp only [Pl.lv,Pl.cs] at *;rw [Pl.dgL,if_neg k1,if_pos (by omega)] at hdg;omega
   have HR:Hid (p.atL l a b n=(horP a b (p.cs.drop 0)).mul (Pl.const (b ^ (n - mm)))):=Lib.hid (by
    obtain ⟨lv,ng,ds,cs⟩:=p;simp only [Pl.lv,Pl.cs] at *
    rw [Pl.atL,if_neg k1,if_pos (by omega),List.drop_zero,hmm,Nat.add_sub_cancel])
   have hHS:(∀ j,Fit (horP a b (p.cs.drop j)) E (D+A * (mm - j)))/\∀ i (hi:i+1 < p.cs.length),Fit (p.cs[i]'(Nat.lt_of_succ_lt hi)) E D/\Fit ((horP a b (p.cs.drop (i+1))).mul (Pl.const a)) E (D+A * (mm - i))/\Fit ((p.cs[i]'(Nat.lt_of_succ_lt hi)).mul (Pl.const (b ^ (mm - i)))) E (D+A * (mm - i)):=by
    obtain ⟨lv,ng,ds,cs⟩:=p;simp only [Pl.lv,Pl.cs] at *;exact gcg hfit hpos (yh.lt HA.out) hb (M:=mm) (by have hmm2:cs.length=mm+1:=hmm; omega)
   have HHS:=Lib.hid hHS;obtain ⟨ad,hA1⟩:∃ ad,A1=some ad:=by
    obtain ⟨ad,B0,m0,d0,B1,m1,d1,e,-⟩:=jd.kid H4.out 0 (by omega);exact ⟨ad,e⟩
   subst hA1;have HKID:Hid (∀ i (hi:i < p.cs.length),∃ B0 m0 d0 B1 d1,(∀ W',Ext w W'->W'.cell? (ad.add (i * 4))=some (.int .i64 p.cs[i].lv)/\W'.cell? ⟨(ad.add (i * 4)).block,(ad.add (i * 4)).off+1,none⟩=some (.bool p.cs[i].neg)/\W'.cell? ⟨(ad.add (i * 4)).block,(ad.add (i * 4)).off+2,none⟩=some (.slice B0 m0 d0)/\W'.cell? ⟨(ad.add (i * 4)).block,(ad.add (i * 4)).off+3,none⟩=some (.slice B1 p.cs[i].cs.length d1))/\PlV w q p.cs[i] (plV p.cs[i] (.slice B0 m0 d0) (.slice B1 p.cs[i].cs.length d1))):=Lib.hid (fun i hi=>by
    obtain ⟨ad',B0,m0,d0,B1,m1,d1,e,hadb,hnd,hkt⟩:=jd.kid H4.out i hi;injection e with e
    subst e;obtain ⟨_,_,_,_,d9,e9,-⟩:=id hkt.open_;have em:m1=p.cs[i].cs.length:=by
     unfold plV at e9;simp only [Value.agg.injEq,Array.mk.injEq,List.cons.injEq,and_true,true_and,Value.slice.injEq] at e9;exact e9.2.2.1
    subst em
    exact ⟨B0,m0,d0,B1,d1,fun W' hx=>hnd.ext (HX0.out.trans hx) (by rw [ja]; exact hadb),hkt.ext HX0.out⟩)
   have hwm:IntKind.i64.wrap ((p.cs.length:Int) - 1)=(mm:Int):=by rw [IntKind.wrap_i64]; omega
   have hwm1:IntKind.i64.wrap ((mm:Int) - 1)=(mm:Int) - 1:=by rw [IntKind.wrap_i64]; omega
   have hin2:(mm:Int) < (p.cs.length:Int):=by omega
   have hmi:mm < p.cs.length:=by omega
   obtain ⟨B0,m0,d0,B1,d1,hkc,hkp⟩:=HKID.out mm hmi;obtain ⟨e0,e1,e2,e3⟩:=hkc W HWX.out;have HST0:Hid (∀ T,AtR w p (.slice A0 n0 c0) (.slice (some ad) p.cs.length c1) (.bool an) (.slice Aa na ca) (horP a b (p.cs.drop mm)) (W.alloc (.cells #[.int .i64 (p.cs[mm]'hmi).lv,.bool (p.cs[mm]'hmi).neg,.slice B0 m0 d0,.slice B1 (p.cs[mm]'hmi).cs.length d1] T))):=Lib.hid (fun T=>by
    have hx:=(Ext.refl W).alloc (.cells #[.int .i64 (p.cs[mm]'hmi).lv,.bool (p.cs[mm]'hmi).neg,.slice B0 m0 d0,.slice B1 (p.cs[mm]'hmi).cs.length d1] T);refine ⟨HAS.out.ext hx,HZ.out.ext hx (by omega),?_⟩;rw [jb7 p.cs mm hmm.symm,<- hWs]
    exact zav.new (hkp.ext HWX.out) T)
   have hmm1:p.cs.length<=mm+1:=by omega
   have hmm2:mm+1<=p.cs.length:=by omega
   have HMM:=Lib.hid hmm;clear k1 k2 hfit hdg hHS hkc hkp H4 hmm;generalize p.cs[mm]'hmi=km at *;go_enter Tryz.func93,Tryz.ntmps93;go_wp2_with fail;clear b0 b1 b2 b3 a0 a1 e0 e1 e2 e3
   go_loopw [15] (fun iv wr=>∃ j:Nat,j<=mm/\iv=.int .i64 ((j:Int) - 1)/\Hid (AtR w p (.slice A0 n0 c0) (.slice (some ad) p.cs.length c1) (.bool an) (.slice Aa na ca) (horP a b (p.cs.drop j)) wr)) (fun iv _=>(intOf iv+1).toNat)
   case atStart=>exact ⟨mm,Nat.le_refl _,rfl,HST0.out _⟩
   case round =>
    clear hW HST0;obtain ⟨j,hj,rfl,HI⟩:=hrel;have HI:=Lib.hid HI;have Y0:=Lib.hid ((Ext.refl wr).drew);cases j with
    | zero =>
      rw [show (((0:Nat):Int) - 1)=(-1:Int) by omega];obtain ⟨ee,hee⟩:∃ ee,n - mm=ee:=⟨_,rfl⟩;have hsub:IntKind.i64.wrap ((n:Int) - (mm:Int))=(ee:Int):=by rw [IntKind.wrap_i64]; omega
      have hin3:(ee:Int) < (n:Int)+1:=by omega
      obtain ⟨hpb,bb,B,mb,db,pw0,pw1,hpi⟩:=HP.out ee (by omega);have HPW:Hid (∀ W',Ext w W'->W'.cell? (pad.add (ee * 2))=some (.bool bb)/\W'.cell? ⟨(pad.add (ee * 2)).block,(pad.add (ee * 2)).off+1,none⟩=some (.slice B mb db)):=Lib.hid (fun W' hx=>by
       have hb':(pad.add (ee * 2)).block < w.heap.size:=by rw [ja]; exact hpb
       exact ⟨(hx.cell hb').trans pw0,(hx.cell (p:=⟨(pad.add (ee * 2)).block,(pad.add (ee * 2)).off+1,none⟩) hb').trans pw1⟩)
      have HPI:=Lib.hid hpi;have HS1:=Lib.hid (HHS.out.1 0);have hbe:A * ee<=A * (n+1):=Nat.mul_le_mul_left _ (by omega);have hbe2:A * (mm - 0)<=A * (n+1):=Nat.mul_le_mul_left _ (by omega);rw [hee] at HR;clear hpi pw0 pw1 hpb hee;obtain ⟨P0,hP0⟩:∃ P0,horP a b (p.cs.drop 0)=P0:=⟨_,rfl⟩;obtain ⟨P1,hP1⟩:∃ P1,P0.mul (Pl.const (b ^ ee))=P1:=⟨_,rfl⟩;rw [hP0] at HI HS1 HR;rw [hP1] at HR;have HSC1:Hid (∀ (W':World) (v:Value) (q':Nat->Prop),Ext w W'->PlV W' q' P0 v->Calls Tryz.prog 70 #[v,.agg #[.bool bb,.slice B mb db]] W' (qi (fun b=>W'.heap.size<=b) P1 W')):=Lib.hid (fun W' v q' hx hv=>by
       rw [<- hP1]
       exact yau (L:=A * ee+1) _ _ hv (HPI.out.ext hx) HS1.out (by omega) (by omega))
      clear hP0 hP1 HPI HS1;obtain ⟨-,-,hg0,hgf,G0,gn0,gc0,G1,gn1,gc1,⟨g0,g1,g2,g3⟩,hgp⟩:=HI.out;have HGP:=Lib.hid (hgp.ext Y0.out);have HGB:Hid (uf wr.drew (w.heap.size+1+1+1) P0 (.slice G0 gn0 gc0) (.slice G1 gn1 gc1)):=Lib.hid (uf.ext ⟨g0,g1,g2,g3⟩ Y0.out hg0);clear hgp hgf g0 g1 g2 g3;have hwx:Hid (Ext w wr):=Lib.hid HI.out.1.1;go_upto_region 18 with fail;refine wp_region_held_drew (S:=AtS w p (.slice A0 n0 c0) (.slice (some ad) p.cs.length c1) (.bool an) (.slice Aa na ca)) (by kernel_rfl) (HI.out.1.ext Y0.out) (fun hHeld=>?_);refine tk 1 ?_;refine tk 2 ?_;refine tk 3 ?_;refine tk 4 ?_;refine tk 5 ?_;refine tk 6 ?_ (hy:=Or.inl ⟨by rfl,by intro w' hSw; obtain ⟨p0,p1⟩:=HPW.out w' hSw.1; go_simp; (try (with_reducible rfl))⟩);refine wpAnyH_ready (rs:=[0]) (by kernel_rfl) (by simp) ?_;refine AllReadyH.cons rfl (fun K hK=>?_) AllReadyH.nil;obtain ⟨g0,g1,g2,g3⟩:=HGB.out;go_simp;refine hK.out _ _ (HI.out.1.ext Y0.out) (fun hHeld=>?_);clear hK K g0 g1 g2 g3
      try simp only [Act.put,List.getElem_toArray,List.getElem_cons_zero,List.getElem_cons_succ,List.setIfInBounds_toArray,List.set_cons_zero,List.set_cons_succ]
      refine wpAnyH_ready (rs:=[7]) (by kernel_rfl) (by simp) ?_;refine AllReadyH.cons rfl (fun K hK=>?_) AllReadyH.nil;go_simp
      go_at_call 70
      refine (HSC1.out _ _ _ (hwx.out.trans Y0.out) HGP.out).mono ?_;rintro e w2 ⟨z2,rfl,m2,x2⟩;obtain ⟨C2,i2,j2,D2,k2,rfl,-⟩:=id m2.open_;have z1:Ext wr w2:=Y0.out.trans x2;refine hK.out _ _ (HI.out.1.ext z1) (fun hHeld=>?_);clear hK K
      try simp only [Act.put,List.getElem_toArray,List.getElem_cons_zero,List.getElem_cons_succ,List.setIfInBounds_toArray,List.set_cons_zero,List.set_cons_succ]
      have hzn:=HI.out.2.1.ext z1 (by omega);have HF:=Lib.hid (vk (q':=fun b=>w.heap.size<=b) (hwx.out.trans z1) (by omega:w.heap.size<=w.heap.size+1+1) hzn m2 (fun b _ hb=>by
       have hb2:wr.drew.heap.size<=b:=hb;have:wr.drew.heap.size=wr.heap.size:=rfl
       exact ⟨by omega,by omega⟩))
      obtain ⟨⟨z00,z01,z02,z03⟩,zf⟩:=hzn;refine wpAnyH_ready (rs:=[8]) (by kernel_rfl) (by simp) ?_;refine AllReadyH.cons rfl (fun K hK=>?_) AllReadyH.nil;unfold plV;go_simp;refine hK.out _ _ ((HI.out.1.ext z1).store (Nat.le_refl _) _ _ _ _) (fun hHeld=>?_);clear hK K
      try simp only [Act.put,List.getElem_toArray,List.getElem_cons_zero,List.getElem_cons_succ,List.setIfInBounds_toArray,List.set_cons_zero,List.set_cons_succ]
      refine wpAnyH_done (by kernel_rfl) ?_ _;clear x2 hHeld HSC1 HPW;go_wp2_with fail;rw [HR.out];exact bodyPost_ret (v:=plV _ (.slice C2 i2 j2) (.slice D2 _ k2)) (by simp [results,Tryz.results93,go_sem,z00,z01,z02,z03,plV]) rfl HF.out
    | succ i =>
      rw [show (((i+1:Nat):Int) - 1)=(i:Int) by omega];have hi1:i+1 < p.cs.length:=by omega
      obtain ⟨ee,hee⟩:∃ ee,mm - i=ee:=⟨_,rfl⟩;have hsub:IntKind.i64.wrap ((mm:Int) - (i:Int))=(ee:Int):=by rw [IntKind.wrap_i64]; omega
      have hdec:IntKind.i64.wrap ((i:Int) - 1)=(i:Int) - 1:=by rw [IntKind.wrap_i64]; omega
      have hini:(i:Int) < (p.cs.length:Int):=by omega
      have hin3:(ee:Int) < (n:Int)+1:=by omega
      obtain ⟨B0,m0,d0,B1,d1,hkc,hkp⟩:=HKID.out i (by omega);have HKC:=Lib.hid hkc;have HKP:=Lib.hid hkp;obtain ⟨hpb,bb,B,mb,db,pw0,pw1,hpi⟩:=HP.out ee (by omega);have HPW:Hid (∀ W',Ext w W'->W'.cell? (pad.add (ee * 2))=some (.bool bb)/\W'.cell? ⟨(pad.add (ee * 2)).block,(pad.add (ee * 2)).off+1,none⟩=some (.slice B mb db)):=Lib.hid (fun W' hx=>by
       have hb':(pad.add (ee * 2)).block < w.heap.size:=by rw [ja]; exact hpb
       exact ⟨(hx.cell hb').trans pw0,(hx.cell (p:=⟨(pad.add (ee * 2)).block,(pad.add (ee * 2)).off+1,none⟩) hb').trans pw1⟩)
      have HPI:=Lib.hid hpi;obtain ⟨hf1,hf2,hf3⟩:=HHS.out.2 i hi1;have HS1:=Lib.hid (HHS.out.1 (i+1));have HF1:=Lib.hid hf1;have HF2:=Lib.hid hf2;have HF3:=Lib.hid hf3;have hbe:A * ee<=A * (n+1):=Nat.mul_le_mul_left _ (by omega);have hbe2:A * (mm - (i+1))<=A * (n+1):=Nat.mul_le_mul_left _ (by omega);have HST:Hid (horP a b (p.cs.drop i)=((horP a b (p.cs.drop (i+1))).mul (Pl.const a)).add ((p.cs[i]'(Nat.lt_of_succ_lt hi1)).mul (Pl.const (b ^ ee)))):=Lib.hid (by
       rw [kb7 p.cs i hi1,show p.cs.length - 1 - i=ee by omega])
      rw [hee] at HF2 HF3;clear hkc hkp hpi pw0 pw1 hpb hf1 hf2 hf3 hee;generalize p.cs[i]'_=ki at *;obtain ⟨P0,hP0⟩:∃ P0,horP a b (p.cs.drop (i+1))=P0:=⟨_,rfl⟩;obtain ⟨P1,hP1⟩:∃ P1,P0.mul (Pl.const a)=P1:=⟨_,rfl⟩;obtain ⟨P2,hP2⟩:∃ P2,ki.mul (Pl.const (b ^ ee))=P2:=⟨_,rfl⟩;rw [hP0] at HI HF2 HST HS1;rw [hP1] at HF2 HST;rw [hP2] at HF3 HST;have HSC1:Hid (∀ (W':World) (v:Value) (q':Nat->Prop),Ext w W'->PlV W' q' P0 v->Calls Tryz.prog 70 #[v,.agg #[.bool an,.slice Aa na ca]] W' (qi (fun b=>W'.heap.size<=b) P1 W')):=Lib.hid (fun W' v q' hx hv=>by
       rw [<- hP1]
       exact yau _ _ hv (HA.out.ext hx) HS1.out (by omega) (by omega))
      have HSC2:Hid (∀ (W':World),Ext w W'->Calls Tryz.prog 70 #[plV ki (.slice B0 m0 d0) (.slice B1 ki.cs.length d1),.agg #[.bool bb,.slice B mb db]] W' (qi (fun b=>W'.heap.size<=b) P2 W')):=Lib.hid (fun W' hx=>by
       rw [<- hP2]
       exact yau (L:=A * ee+1) _ _ (HKP.out.ext hx) (HPI.out.ext hx) HF1.out (by omega) (by omega))
      clear hP0 hP1 hP2 HPI HKP HF1 HS1;unfold plV at HSC2;obtain ⟨-,-,hg0,hgf,G0,gn0,gc0,G1,gn1,gc1,⟨g0,g1,g2,g3⟩,hgp⟩:=HI.out;have HGP:=Lib.hid (hgp.ext Y0.out);have HGB:Hid (uf wr.drew (w.heap.size+1+1+1) P0 (.slice G0 gn0 gc0) (.slice G1 gn1 gc1)):=Lib.hid (uf.ext ⟨g0,g1,g2,g3⟩ Y0.out hg0);clear hgp hgf g0 g1 g2 g3;have hwx:Hid (Ext w wr):=Lib.hid HI.out.1.1;go_upto_region 17 with fail;refine wp_region_held_drew (S:=AtS w p (.slice A0 n0 c0) (.slice (some ad) p.cs.length c1) (.bool an) (.slice Aa na ca)) (by kernel_rfl) (HI.out.1.ext Y0.out) (fun hHeld=>?_);refine tk 1 ?_ (hy:=Or.inl ⟨by rfl,by intro w' hSw; obtain ⟨-,-,-,a0,a1⟩:=hSw; go_simp; (try (with_reducible rfl))⟩);refine tk 3 ?_;refine tk 4 ?_ (hy:=Or.inl ⟨by rfl,by intro w' hSw; obtain ⟨-,-,⟨b0,b1,b2,b3⟩,-,-⟩:=hSw; go_simp; (try (with_reducible rfl))⟩);refine tk 5 ?_;refine tk 6 ?_;refine tk 7 ?_ (hy:=Or.inl ⟨by rfl,by intro w' hSw; obtain ⟨k0,k1,k2,k3⟩:=HKC.out w' hSw.1; go_simp; (try (with_reducible rfl))⟩);refine tk 8 ?_;refine tk 9 ?_;refine tk 10 ?_;refine tk 11 ?_;refine tk 12 ?_;refine tk 13 ?_ (hy:=Or.inl ⟨by rfl,by intro w' hSw; obtain ⟨p0,p1⟩:=HPW.out w' hSw.1; go_simp; (try (with_reducible rfl))⟩);refine wpAnyH_ready (rs:=[0]) (by kernel_rfl) (by simp) ?_;refine AllReadyH.cons rfl (fun K hK=>?_) AllReadyH.nil;obtain ⟨g0,g1,g2,g3⟩:=HGB.out;go_simp;refine hK.out _ _ (HI.out.1.ext Y0.out) (fun hHeld=>?_);clear hK K g0 g1 g2 g3
      try simp only [Act.put,List.getElem_toArray,List.getElem_cons_zero,List.getElem_cons_succ,List.setIfInBounds_toArray,List.set_cons_zero,List.set_cons_succ]
      refine wpAnyH_ready (rs:=[2]) (by kernel_rfl) (by simp) ?_;refine AllReadyH.cons rfl (fun K hK=>?_) AllReadyH.nil;go_simp
      go_at_call 70
      refine (HSC1.out _ _ _ (hwx.out.trans Y0.out) HGP.out).mono ?_;rintro e w2 ⟨z2,rfl,m2,x2⟩;obtain ⟨C2,i2,j2,D2,k2,rfl,-⟩:=id m2.open_;have z1:Ext wr w2:=Y0.out.trans x2;refine hK.out _ _ (HI.out.1.ext z1) (fun hHeld=>?_);clear hK K
      try simp only [Act.put,List.getElem_toArray,List.getElem_cons_zero,List.getElem_cons_succ,List.setIfInBounds_toArray,List.set_cons_zero,List.set_cons_succ]
      refine wpAnyH_ready (rs:=[14]) (by kernel_rfl) (by simp) ?_;refine AllReadyH.cons rfl (fun K hK=>?_) AllReadyH.nil;go_simp
      go_at_call 70
      refine (HSC2.out _ (hwx.out.trans z1)).mono ?_;rintro e w3 ⟨z3,rfl,m3,x3⟩;obtain ⟨C3,i3,j3,D3,k3,rfl,-⟩:=id m3.open_;have z2:Ext wr w3:=z1.trans x3;refine hK.out _ _ (HI.out.1.ext z2) (fun hHeld=>?_);clear hK K
      try simp only [Act.put,List.getElem_toArray,List.getElem_cons_zero,List.getElem_cons_succ,List.setIfInBounds_toArray,List.set_cons_zero,List.set_cons_succ]
      refine wpAnyH_ready (rs:=[15]) (by kernel_rfl) (by simp) ?_;refine AllReadyH.cons rfl (fun K hK=>?_) AllReadyH.nil;unfold plV;go_simp;refine hK.out _ _ (HI.out.1.ext (z2.alloc _)) (fun hHeld=>?_);clear hK K
      try simp only [Act.put,List.getElem_toArray,List.getElem_cons_zero,List.getElem_cons_succ,List.setIfInBounds_toArray,List.set_cons_zero,List.set_cons_succ]
      refine wpAnyH_ready (rs:=[16]) (by kernel_rfl) (by simp) ?_;refine AllReadyH.cons rfl (fun K hK=>?_) AllReadyH.nil;go_simp
      go_at_call 65
      refine (zcs HF2.out HF3.out (by omega) (by omega) (Nat.le_refl 2) (by decide) (vcm (m2.ext x3) m3 _)).mono ?_;rintro e w4 ⟨z4,rfl,m4,x4⟩;obtain ⟨C4,i4,j4,D4,k4,rfl,-⟩:=id m4.open_;have z3:Ext wr w4:=(z2.alloc _).trans x4;refine hK.out _ _ (HI.out.1.ext z3) (fun hHeld=>?_);clear hK K
      try simp only [Act.put,List.getElem_toArray,List.getElem_cons_zero,List.getElem_cons_succ,List.setIfInBounds_toArray,List.set_cons_zero,List.set_cons_succ]
      have hs4:=z3.size;have hs5:=z2.size;have hpb4:=HI.out.2.2.ext z3;obtain ⟨hg0',hgf',G0',gn0',gc0',G1',gn1',gc1',⟨g0,g1,g2,g3⟩,-⟩:=id hpb4;refine wpAnyH_ready (rs:=[17]) (by kernel_rfl) (by simp) ?_;refine AllReadyH.cons rfl (fun K hK=>?_) AllReadyH.nil;unfold plV;go_simp;refine (?atStored:∀ V,AtR w p (.slice A0 n0 c0) (.slice (some ad) p.cs.length c1) (.bool an) (.slice Aa na ca) (horP a b (p.cs.drop i)) V->K _ V) _ ⟨(HI.out.1.ext z3).store (Nat.le_succ _) _ _ _ _,(HI.out.2.1.ext z3 (by omega)).set_ (by omega) _ _ _ _,by
       rw [HST.out];refine hpb4.store m4 (fun b hb=>?_);have hb2:=hb;rw [World.size_alloc] at hb2
       omega⟩
      intro V hV;have HV:=Lib.hid hV;refine hK.out _ _ hV.1 (fun hHeld=>?_);clear hK K
      try simp only [Act.put,List.getElem_toArray,List.getElem_cons_zero,List.getElem_cons_succ,List.setIfInBounds_toArray,List.set_cons_zero,List.set_cons_succ]
      refine wpAnyH_done (by kernel_rfl) ?_ _;clear m2 x2 m3 x3 m4 x4 z1 z2 z3 hHeld hpb4 hV g0 g1 g2 g3 hgf';go_wp2_with fail
      go_roundw
      case rel=>exact ⟨i,by omega,rfl,HV.out⟩
      case measure=>simp only [intOf]; omega
theorem vcw {w:World} {q:Nat->Prop} {l a b:Int} {n A E D:Nat} {an:Bool} {Aa:Option Addr} {na ca pc:Nat} {pad:Addr} (hl:1<=l) (hE:E<=900) (hnE:n<=E) (hD:D+A * (n+1)+2<=1000000000000) (hA:yh w (.agg #[.bool an,.slice Aa na ca]) a A) (hb:b.natAbs < B32 ^ A) (hpc:n+1<=pc) (hpc2:pc<=9223372036854775807) (hP:∀ k,k<=n->jba w pad b A k) (p:Pl) (v:Value) (hp:Fit p E D) (hd:p.dgL l<=n) (h:PlV w q p v) :
 Calls Tryz.prog 93 #[v,.int .i64 l,.agg #[.bool an,.slice Aa na ca],.slice (some pad) (n+1) pc] w (qi (fun b=>w.heap.size<=b) (p.atL l a b n) w):=
 vcy hl hE hnE hD hA hb hpc hpc2 hP (p.sz+1) p v w (Nat.lt_succ_self _) hp hd h (Ext.refl w)
end Go.Proofs.YtcfcjabgkfehlaaGreat

/- Layer 22: recpoly.degree. -/
set_option maxRecDepth 100000
set_option maxHeartbeats 8000000
namespace Go.Proofs.YtcfcjabgkfehlaaGreat
open Go.RowKit
theorem Pl.dgL_lt {l:Int} {p:Pl} (h:p.lv < l):p.dgL l=0:=by cases p; simp only [Pl.lv] at h; rw [Pl.dgL,if_pos h]
theorem Pl.dgL_eq {l:Int} {p:Pl} (h:p.lv=l):p.dgL l=p.cs.length - 1:=by
 cases p; simp only [Pl.lv,Pl.cs] at *; rw [Pl.dgL,if_neg (by omega),if_pos h]
theorem Pl.dgL_gt {l:Int} {p:Pl} (h:l < p.lv):p.dgL l=qaa l 0 p.cs:=by
 cases p; simp only [Pl.lv,Pl.cs] at *; rw [Pl.dgL,if_neg (by omega),if_neg (by omega)]
def jcx (w0:World) (q:Nat->Prop) (l:Int) (n:Nat):Prop:=∀ (p:Pl) (v:Value) (w:World),p.sz < n->p.Can->p.cs.length<=1099511627776->(∀ c ∈ p.cs,c.sz<=1099511627776)->PlV w0 q p v->Ext w0 w->Calls Tryz.prog 91 #[v,.int .i64 l] w (jo (p.dgL l) w)
theorem xcr (w0:World) (q:Nat->Prop) (l:Int) (hl:1<=l) (n:Nat):jcx w0 q l n:=by
 induction n with
 | zero=>intro p v w h; omega
 | succ n ih =>
 intro p v w hn hcan hlen hks h hx0;obtain ⟨A0,n0,c0,A,c,rfl,-,hl1,hl2,h4⟩:=h.open_;have IH:=Lib.hid ih;have H4:=Lib.hid h4;have HX0:=Lib.hid hx0;have HSZ:Hid (∀ k (hk:k < p.cs.length),p.cs[k].sz < n/\p.cs[k].Can/\p.cs[k].cs.length<=1099511627776/\∀ c ∈ p.cs[k].cs,c.sz<=1099511627776):=by
  have:∀ k (hk:k < p.cs.length),p.cs[k].sz < n/\p.cs[k].Can/\p.cs[k].cs.length<=1099511627776/\∀ c ∈ p.cs[k].cs,c.sz<=1099511627776:=fun k hk=>by
   have hm:=List.getElem_mem hk;have h1:=Pl.sz_kid hm;have h2:=hks _ hm;have h3:=Pl.sz_len p.cs[k];refine ⟨by omega,?_,by omega,fun c hc=>by have:=Pl.sz_kid hc; omega⟩;obtain ⟨lv,ng,ds,cs⟩:=p;rcases Int.lt_or_le 0 lv with h0 | h0
   · exact ((hcan.kids h0).2.2.2.1.mem _ hm).2
   · have:cs=[]:=by
      have:=hcan;rw [Pl.Can] at this;rcases this with ⟨-,h,-⟩ | ⟨h,-⟩
      · exact h
      · omega
     subst this;cases hm
  exact this
 obtain ⟨W,hW⟩:∃ W,w.alloc (.cells #[.int .i64 p.lv,.bool p.neg,.slice A0 n0 c0,.slice A p.cs.length c] 35)=W:=⟨_,rfl⟩;have hWx:Ext w W:=by rw [<- hW]; exact (Ext.refl w).alloc _
 have hWs:W.heap.size=w.heap.size+1:=by rw [<- hW]; simp
 have hbx:uf W w.heap.size p (.slice A0 n0 c0) (.slice A p.cs.length c):=by rw [<- hW]; exact uf.new w p _ _ _
 have HWX:=Lib.hid hWx;have HBX:=Lib.hid hbx;obtain ⟨b0,b1,b2,b3⟩:=hbx;clear h h4 ih hx0 hks hWx;unfold plV
 by_cases k1:p.lv < l
 · rw [Pl.dgL_lt k1];have q1:decide (p.lv < l)=true:=by simpa using k1
   go_enter Tryz.func91,Tryz.ntmps91;go_wp2_with fail;go_ret;exact ⟨rfl,HWX.out⟩
 by_cases k2:p.lv=l
 · rw [Pl.dgL_eq k2];have q1:decide (p.lv < l)=false:=by simpa using k1
   have q2:(p.lv == l)=true:=by simpa using k2
   have hw:IntKind.i64.wrap ((p.cs.length:Int) - 1)=(p.cs.length:Int) - 1:=by simp [IntKind.wrap,IntKind.bits,IntKind.signed]; omega
   have HW1:=Lib.hid hw;clear k1 k2;clear HSZ HBX H4;generalize p.cs.length=N at *;go_enter Tryz.func91,Tryz.ntmps91;go_wp2_with fail;go_ret;exact ⟨by first | rfl | rw [HW1.out],HWX.out⟩
 · rw [Pl.dgL_gt (by omega)];have q1:decide (p.lv < l)=false:=by simpa using k1
   have q2:(p.lv == l)=false:=by simpa using k2
   clear k1 k2;go_enter Tryz.func91,Tryz.ntmps91;go_wp2_with fail;clear hW b0 b1 b2 b3
   go_loopw [25,5] (fun iv mv wr=>∃ k:Nat,k<=p.cs.length/\iv=.int .i64 k/\Hid (mv=.int .i64 (qaa l 0 (p.cs.take k))/\Ext W wr)) (fun iv _ _=>p.cs.length - (intOf iv).toNat)
   case atStart=>exact ⟨0,Nat.zero_le _,rfl,⟨by simp [qaa],Ext.refl W⟩⟩
   case round =>
    obtain ⟨k,hk,rfl,⟨rfl,hxw⟩⟩:=hrel;have HXW:=Lib.hid hxw
    by_cases hlt:k < p.cs.length
    · obtain ⟨ad,B0,m0,d0,B1,m1,d1,rfl,hadb,hnd,hkt⟩:=jd.kid H4.out k hlt;have hxx:Ext w0 wr:=(HX0.out.trans HWX.out).trans hxw;obtain ⟨e0,e1,e2,e3⟩:=hnd.ext hxx (by rw [ja]; exact hadb);obtain ⟨hsz1,hsz2,hsz3,hsz4⟩:=HSZ.out k hlt;have HC:=Lib.hid (fun W' (hxW:Ext wr W')=>IH.out p.cs[k] _ W' hsz1 hsz2 hsz3 hsz4 hkt (hxx.trans hxW));have HSTEP:Hid (qaa l 0 (p.cs.take (k+1))=max (qaa l 0 (p.cs.take k)) (p.cs[k].dgL l)):=by
       have:qaa l 0 (p.cs.take (k+1))=max (qaa l 0 (p.cs.take k)) (p.cs[k].dgL l):=qbx _ _ _ _ hlt;exact this
      generalize qaa l 0 (p.cs.take k)=mm at *;generalize p.cs[k]=ck at *;generalize ck.dgL l=dk at *;clear hnd hkt hadb hsz1 hsz2 hsz3 hsz4 hxx hxw;go_wp2_with fail;refine (HC.out _ ((Ext.refl _).alloc _)).mono ?_;rintro e w2 ⟨rfl,x2⟩;have X2:=Lib.hid ((HXW.out.alloc _).trans x2);clear x2 HC e0 e1 e2 e3;go_wp2_with fail
      go_roundw
      case rel=>exact ⟨k+1,by omega,by go_num,⟨by rw [HSTEP.out],X2.out⟩⟩
      case measure=>simp only [intOf]; omega
    · have hke:k=p.cs.length:=by omega
      rw [hke,List.take_length];clear hxw hke;generalize qaa l 0 p.cs=mm at *;go_wp2_with fail;go_ret;exact ⟨rfl,HWX.out.trans HXW.out⟩
theorem uci {w:World} {q:Nat->Prop} {l:Int} (hl:1<=l) (p:Pl) (v:Value) (hcan:p.Can) (hsz:p.sz<=1099511627776) (h:PlV w q p v):Calls Tryz.prog 91 #[v,.int .i64 l] w (jo (p.dgL l) w):=
 xcr w q l hl (p.sz+1) p v w (Nat.lt_succ_self _) hcan (by have:=Pl.sz_len p; omega) (fun c hc=>by have:=Pl.sz_kid hc; omega) h (Ext.refl w)
end Go.Proofs.YtcfcjabgkfehlaaGreat

/- Layer 22: recpoly.At. -/
set_option maxRecDepth 100000
set_option maxHeartbeats 8000000
namespace Go.Proofs.YtcfcjabgkfehlaaGreat
open Go.RowKit
def jaz (b:Int) (n:Nat):List Int:=(List.range n).map fun k=>b ^ k
theorem kcd (b:Int) (n:Nat):(jaz b n).length=n:=by unfold jaz; rw [List.length_map,List.length_range]
theorem vcd (b:Int) (n k:Nat) (h:k < (jaz b n).length):(jaz b n)[k]=b ^ k:=by simp [jaz]
theorem jcb {α:Type} {L l:List α} {i k:Nat} (h:L.take i=l.take i) (hk:k < i) (h1:k < L.length) (h2:k < l.length):L[k]=l[k]:=by
 have e1:L[k]=(L.take i)[k]'(by rw [List.length_take]; omega):=by rw [List.getElem_take]
 have e2:l[k]=(l.take i)[k]'(by rw [List.length_take]; omega):=by rw [List.getElem_take]
 rw [e1,e2];simp only [h]
theorem gb3 (W:World) (g:Nat) (a b c:Value) (k:Nat) (h:k ≠ g):(((W.setCell ⟨g,0,none⟩ a).setCell ⟨g,1,none⟩ b).setCell ⟨g,2,none⟩ c).heap[k]?=W.heap[k]?:=by
 rw [Below.heap_setCell _ _ _ k h,Below.heap_setCell _ _ _ k h,Below.heap_setCell _ _ _ k h]
theorem ql.turn {W W':World} {g:Nat} (h:ql W g) (hb:W'.heap[g]?=W.heap[g]?) (hf:∀ a,W'.frozen? a=W.frozen? a):ql W' g:=by
 obtain ⟨⟨z0,z1,z2,z3⟩,zf⟩:=h;exact ⟨⟨(World.cell?_of_block (a:=⟨g,0,none⟩) hb).trans z0,(World.cell?_of_block (a:=⟨g,1,none⟩) hb).trans z1,(World.cell?_of_block (a:=⟨g,2,none⟩) hb).trans z2,(World.cell?_of_block (a:=⟨g,3,none⟩) hb).trans z3⟩,fun i=>(hf _).trans (zf i)⟩
structure AtB (w : World) (p : Pl) (b : Bool) (A : Option Addr) (n c : Nat) (B : Option Addr) (m d : Nat) (V : World) : Prop where
 ext:Ext w V
 size:w.heap.size+1+1 < V.heap.size
 box:∃ A0 n0 c0 A1 c1,uf V w.heap.size p (.slice A0 n0 c0) (.slice A1 p.cs.length c1)/\PlV V (fun b=>b < w.heap.size\/w.heap.size+1+1 < b) p (plV p (.slice A0 n0 c0) (.slice A1 p.cs.length c1))
 pfr:∀ i,V.frozen? ⟨w.heap.size,i,none⟩=false
 r0:V.cell? ⟨w.heap.size+1,0,none⟩=some (.bool b)
 r1:V.cell? ⟨w.heap.size+1,1,none⟩=some (.slice A n c)
 r2:V.cell? ⟨w.heap.size+1,2,none⟩=some (.slice B m d)
 rfr:∀ i,V.frozen? ⟨w.heap.size+1,i,none⟩=false
 zero:ql V (w.heap.size+1+1)
namespace AtB
variable {w V V':World} {p:Pl} {b:Bool} {A B:Option Addr} {n c m d:Nat}
theorem ext_ (h:AtB w p b A n c B m d V) (hx:Ext V V'):AtB w p b A n c B m d V':=by
 obtain ⟨h0,h1,⟨A0,n0,c0,A1,c1,h2,h3⟩,h4,h5,h6,h7,h8,h9⟩:=h;have hs:=hx.size;exact ⟨h0.trans hx,by omega,⟨A0,n0,c0,A1,c1,h2.ext hx (by omega),h3.ext hx⟩,fun i=>(hx.frozen (p:=⟨w.heap.size,i,none⟩) (by show w.heap.size < _; omega)).trans (h4 i),(hx.cell (p:=⟨w.heap.size+1,0,none⟩) (by show w.heap.size+1 < _; omega)).trans h5,(hx.cell (p:=⟨w.heap.size+1,1,none⟩) (by show w.heap.size+1 < _; omega)).trans h6,(hx.cell (p:=⟨w.heap.size+1,2,none⟩) (by show w.heap.size+1 < _; omega)).trans h7,fun i=>(hx.frozen (p:=⟨w.heap.size+1,i,none⟩) (by show w.heap.size+1 < _; omega)).trans (h8 i),h9.ext hx (by omega)⟩
theorem pstore (h:AtB w p b A n c B m d V) {q:Nat->Prop} {C D:Option Addr} {i j k:Nat} (hp:PlV V q p (plV p (.slice C i j) (.slice D p.cs.length k))) (hq:∀ b,b < V.heap.size->q b->b < w.heap.size\/w.heap.size+1+1 < b) :
 AtB w p b A n c B m d ((((V.setCell ⟨w.heap.size,0,none⟩ (.int .i64 p.lv)).setCell ⟨w.heap.size,1,none⟩ (.bool p.neg)).setCell ⟨w.heap.size,2,none⟩ (.slice C i j)).setCell ⟨w.heap.size,3,none⟩ (.slice D p.cs.length k)):=by
 obtain ⟨h0,h1,⟨A0,n0,c0,A1,c1,h2,h3⟩,h4,h5,h6,h7,h8,h9⟩:=h;have hh:=fun k' (hk:k' ≠ w.heap.size)=>vag V w.heap.size (.int .i64 p.lv) (.bool p.neg) (.slice C i j) (.slice D p.cs.length k) k' hk
 exact ⟨(((h0.setCell (Nat.le_refl _) _).setCell (Nat.le_refl _) _).setCell (Nat.le_refl _) _).setCell (Nat.le_refl _) _,by simp [World.setCell]; omega,⟨C,i,j,D,k,h2.set,h2.keep _ _ _ _ hp fun b hb hqb=>⟨by rcases hq b hb hqb with h | h <;> omega,hq b hb hqb⟩⟩,fun i=>by simp only [World.frozen?_setCell]; exact h4 i,
  (World.cell?_of_block (a:=⟨w.heap.size+1,0,none⟩) (hh _ (by show w.heap.size+1 ≠ _; omega))).trans h5,(World.cell?_of_block (a:=⟨w.heap.size+1,1,none⟩) (hh _ (by show w.heap.size+1 ≠ _; omega))).trans h6,(World.cell?_of_block (a:=⟨w.heap.size+1,2,none⟩) (hh _ (by show w.heap.size+1 ≠ _; omega))).trans h7,fun i=>by simp only [World.frozen?_setCell]; exact h8 i,h9.turn (hh _ (by omega)) fun a=>by simp only [World.frozen?_setCell]⟩
theorem rstore (h:AtB w p b A n c B m d V) (b':Bool) (A':Option Addr) (n' c':Nat) (B':Option Addr) (m' d':Nat) :
 AtB w p b' A' n' c' B' m' d' (((V.setCell ⟨w.heap.size+1,0,none⟩ (.bool b')).setCell ⟨w.heap.size+1,1,none⟩ (.slice A' n' c')).setCell ⟨w.heap.size+1,2,none⟩ (.slice B' m' d')):=by
 obtain ⟨h0,h1,⟨A0,n0,c0,A1,c1,h2,h3⟩,h4,h5,h6,h7,h8,h9⟩:=h;have hh:=fun k' (hk:k' ≠ w.heap.size+1)=>gb3 V (w.heap.size+1) (.bool b') (.slice A' n' c') (.slice B' m' d') k' hk
 have k1:(V.setCell ⟨w.heap.size+1,0,none⟩ (.bool b')).cell? ⟨w.heap.size+1,1,none⟩=some (.slice A n c):=by rw [World.cell?_setCell_other _ _ _ _ (by simp)]; exact h6
 have k2:((V.setCell ⟨w.heap.size+1,0,none⟩ (.bool b')).setCell ⟨w.heap.size+1,1,none⟩ (.slice A' n' c')).cell? ⟨w.heap.size+1,2,none⟩=some (.slice B m d):=by
  rw [World.cell?_setCell_other _ _ _ _ (by simp),World.cell?_setCell_other _ _ _ _ (by simp)]; exact h7
 have hg:w.heap.size<=w.heap.size+1:=Nat.le_succ _;refine ⟨((h0.setCell hg _).setCell hg _).setCell hg _,by simp [World.setCell]; omega,⟨A0,n0,c0,A1,c1,h2.turn (hh _ (by omega)),?_⟩,fun i=>by simp only [World.frozen?_setCell]; exact h4 i,?_,?_,World.cell?_setCell_same _ _ _ k2,fun i=>by simp only [World.frozen?_setCell]; exact h8 i,h9.turn (hh _ (by omega)) fun a=>by simp only [World.frozen?_setCell]⟩
 · exact PlV.turn_ (by simp [World.setCell]) (fun v ds hv=>((hv.box h5 rfl _).box k1 rfl _).box k2 rfl _) (fun b _ hq=>⟨hq,hh _ (by rcases hq with h | h <;> omega)⟩) h3
 · rw [World.cell?_setCell_other _ _ _ _ (by simp),World.cell?_setCell_other _ _ _ _ (by simp)];exact World.cell?_setCell_same _ _ _ h5
 · rw [World.cell?_setCell_other _ _ _ _ (by simp)];exact World.cell?_setCell_same _ _ _ k1
theorem rat (h:AtB w p b A n c B m d V) (b':Bool) (A':Option Addr) (n' c':Nat) (B':Option Addr) (m' d':Nat) {x:Value} {qr:Rat} (hr:kab V x qr) :
 kab (((V.setCell ⟨w.heap.size+1,0,none⟩ (.bool b')).setCell ⟨w.heap.size+1,1,none⟩ (.slice A' n' c')).setCell ⟨w.heap.size+1,2,none⟩ (.slice B' m' d')) x qr:=by
 have k1:(V.setCell ⟨w.heap.size+1,0,none⟩ (.bool b')).cell? ⟨w.heap.size+1,1,none⟩=some (.slice A n c):=by rw [World.cell?_setCell_other _ _ _ _ (by simp)]; exact h.r1
 have k2:((V.setCell ⟨w.heap.size+1,0,none⟩ (.bool b')).setCell ⟨w.heap.size+1,1,none⟩ (.slice A' n' c')).cell? ⟨w.heap.size+1,2,none⟩=some (.slice B m d):=by
  rw [World.cell?_setCell_other _ _ _ _ (by simp),World.cell?_setCell_other _ _ _ _ (by simp)]; exact h.r2
 exact ((hr.box h.r0 rfl _).box k1 rfl _).box k2 rfl _
end AtB
theorem jbt {w:World} {q:Nat->Prop} {l:Int} {x:Value} {qr:Rat} {L E D:Nat} (p:Pl) (v:Value) (hl:1<=l) (hl4:l<=4) (hE:E<=60) (hL:1<=L) (hL2:L<=1000000) (hD:D<=100000000000) (hp:Fit p E D) (h:PlV w q p v) (hx:qw w x qr L) :
 Calls Tryz.prog 43 #[v,.int .i64 l,x] w (qi (fun b=>w.heap.size<=b) (p.atQ l qr.num qr.den) w):=by
 have HQ:=Lib.hid hx;have HP:=Lib.hid hp;have hpw:PlV w (fun b=>b < w.heap.size) p v:=PlV.turn_ (Nat.le_refl _) (fun _ _ h=>h) (fun b hb _=>⟨hb,rfl⟩) h;have HH:=Lib.hid hpw;obtain ⟨A0,n0,c0,A1,c1,rfl,-⟩:=h.open_;obtain ⟨ng,s1,s2,ds,es,rfl,⟨A,c,rfl,-⟩,⟨B,d,rfl,-⟩,-⟩:=hx;obtain ⟨W,hW⟩:∃ W,((w.alloc (.cells #[.int .i64 p.lv,.bool p.neg,.slice A0 n0 c0,.slice A1 p.cs.length c1] 35)).alloc (.cells #[.bool ng,.slice A ds.length c,.slice B es.length d] 65)).alloc (.cells #[.int .i64 0,.bool false,.slice none 0 0,.slice none 0 0] 35)=W:=⟨_,rfl⟩;have hWx:Ext w W:=by rw [<- hW]; exact (((Ext.refl w).alloc _).alloc _).alloc _
 have hWs:W.heap.size=w.heap.size+1+1+1:=by rw [<- hW]; simp
 have hAB:AtB w p ng A ds.length c B es.length d W:=by
  refine ⟨hWx,by omega,⟨A0,n0,c0,A1,c1,?_,(hpw.ext hWx).mono fun b hb=>.inl hb⟩,fun i=>?_,?_,?_,?_,fun i=>?_,⟨⟨?_,?_,?_,?_⟩,fun i=>?_⟩⟩
  · rw [<- hW]; exact (uf.new w p _ _ _).ext (((Ext.refl _).alloc _).alloc _) (by simp)
  all_goals
   rw [<- hW]; simp [go_sem]
 have HB:=Lib.hid hAB;have HWX:=Lib.hid hWx;have HRL:Hid (rlen qr<=L):=Lib.hid (qw.rlen_le HQ.out hL);have hdb:=Pl.dgL_bd hl p hp.can hp.ex;obtain ⟨n,hn⟩:∃ n:Nat,p.dgL l=n:=⟨(p.dgL l).toNat,by omega⟩;have hnE:n<=E:=by omega
 have HR:Hid (p.atQ l qr.num qr.den=p.atL l qr.num qr.den n):=Lib.hid (by unfold Pl.atQ; rw [hn]; rfl);have hdg:∀ k:Nat,(dg k).length<=L->k < B32 ^ L:=fun k hk=>by
  have h1:=qx (gah k);rw [je] at h1;exact Nat.lt_of_lt_of_le h1 (Nat.pow_le_pow_right (by decide) hk)
 have hdl:(dg (qr.den:Int).natAbs).length<=L:=Nat.le_trans (yam qr) HRL.out;have hnl:(dg qr.num.natAbs).length<=L:=Nat.le_trans (zat qr) HRL.out;have hden':=hdg _ hdl;have hnum':=hdg _ hnl;have HDN:=Lib.hid hden';have HNL:=Lib.hid hnl;have HDL:=Lib.hid hdl;have hfit:Fit (p.atL l qr.num qr.den n) E (D+L * n):=hp.atL hl hnum' hden' (Int.le_of_eq hn);clear hdg hdl hnl hden' hnum';have HFIT:=Lib.hid hfit;have HDG:=Lib.hid hn;have hlv:(decide (1<=l) && decide (l<=4))=true:=by simp [hl,hl4]
 obtain ⟨-,-,⟨E0,m0,e0,E1,e1,⟨b0,b1,b2,b3⟩,hpv⟩,-,-,-,-,-,-⟩:=id hAB;have HC:=Lib.hid (kay _ hpv hp.can);clear h hpw hp hAB hWx hn hdb hfit hpv HH;rw [HR.out];clear HR;obtain ⟨rp,hrp⟩:∃ rp,p.atL l qr.num qr.den n=rp:=⟨_,rfl⟩;have HRP:=Lib.hid hrp;rw [hrp];rw [hrp] at HFIT;clear hrp;unfold plV;unfold plV at HC;go_enter Tryz.func43,Tryz.ntmps43;go_wp2_with fail;clear hW b0 b1 b2 b3;refine HC.out.mono ?_;rintro e w1 ⟨z1,rfl,m1,x1⟩;obtain ⟨C1,i1,j1,D1,k1,rfl,-⟩:=id m1.open_;have hB1:=HB.out.ext_ x1;have hB2:=hB1.pstore m1 (fun b hb hq=>by
  rcases hq with h | h
  · exact h
  · exact .inr (by omega))
 obtain ⟨V1,hV1⟩:∃ V1,(((w1.setCell ⟨w.heap.size,0,none⟩ (.int .i64 p.lv)).setCell ⟨w.heap.size,1,none⟩ (.bool p.neg)).setCell ⟨w.heap.size,2,none⟩ (.slice C1 i1 j1)).setCell ⟨w.heap.size,3,none⟩ (.slice D1 p.cs.length k1)=V1:=⟨_,rfl⟩;obtain ⟨-,-,⟨_,_,_,_,_,⟨b0,b1,b2,b3⟩,-⟩,pfr,-,-,-,-,-⟩:=hB1;rw [hV1] at hB2;have HB2:=Lib.hid hB2;clear hB2 m1 x1 HC;unfold plV;go_upto_region 2 with fail
 try rw [hV1]
 clear hV1 b0 b1 b2 b3 pfr;obtain ⟨-,-,⟨E0,m0,e0,E1,e1,⟨b0,b1,b2,b3⟩,hpv⟩,-,r0,r1,r2,-,-⟩:=id HB2.out;have HPV:=Lib.hid hpv;clear hpv;go_wp2_with fail;refine (wau l _).mono ?_;rintro e w2 ⟨rfl,rfl⟩;rw [hlv];go_wp2_with fail;refine (zao _ _ HPV.out).mono ?_;rintro e w2 ⟨rfl,x2⟩;have HB3:=Lib.hid (HB2.out.ext_ x2);clear x2 HB2 HPV b0 b1 b2 b3 r0 r1 r2;obtain ⟨hB3x,-,⟨E0,m0,e0,E1,e1,⟨b0,b1,b2,b3⟩,hpv⟩,-,r0,r1,r2,rfr,hzero⟩:=id HB3.out;have HPV:=Lib.hid hpv;have HX3:=Lib.hid hB3x;clear hpv hB3x;cases hz:p.isZ
 case true =>
  have HRZ:Hid (rp=p):=Lib.hid (by
   rw [<- HRP.out,(Pl.zero_isZ HP.out.can).1 hz];unfold Pl.zero;rw [Pl.atL,if_pos (by omega)]
   exact Pl.mul_zero_l _)
  have HCP:=Lib.hid (jax p _ HP.out.can (HP.out.copy (by omega)) (Nat.le_trans HP.out.dm (by omega)) HPV.out);clear hz hzero rfr r0 r1 r2;unfold plV at HCP;go_wp2_with fail;refine HCP.out.mono ?_;rintro e w4 ⟨z4,rfl,m4,x4⟩;obtain ⟨C4,i4,j4,D4,k4,rfl,-⟩:=id m4.open_;have hzn:=HB3.out.zero.ext x4 (by have:=HB3.out.size; omega);have hs3:=HB3.out.size;have HF:=Lib.hid (vk (q':=fun b=>w.heap.size<=b) (HX3.out.trans x4) (by omega:w.heap.size<=w.heap.size+1+1) hzn m4 (fun b _ hb=>⟨by omega,by omega⟩));obtain ⟨⟨z00,z01,z02,z03⟩,zf⟩:=hzn;clear m4 x4 HCP b0 b1 b2 b3;unfold plV;go_wp2_with fail;rw [HRZ.out];exact bodyPost_ret (v:=plV _ (.slice C4 i4 j4) (.slice D4 _ k4)) (by simp [results,Tryz.results43,go_sem,z00,z01,z02,z03,plV]) rfl HF.out
 clear hz hzero;have HNR:=Lib.hid (ya8 _ qr L w2 (HQ.out.ext HX3.out) hL (by omega));go_wp2_with fail;refine HNR.out.mono ?_;rintro e w3 ⟨z3,rfl,n3,x3⟩;obtain ⟨s1,s2,rfl,⟨F1,f1,rfl,-⟩,⟨F2,f2,rfl,-⟩⟩:=id n3;have hB4:=HB3.out.ext_ x3;have hB5:=hB4.rstore (decide (qr.num < 0)) F1 (dg qr.num.natAbs).length f1 F2 (dg qr.den).length f2;have hR5:=hB4.rat (decide (qr.num < 0)) F1 (dg qr.num.natAbs).length f1 F2 (dg qr.den).length f2 n3;obtain ⟨V4,hV4⟩:∃ V4,(((w3.setCell ⟨w.heap.size+1,0,none⟩ (.bool (decide (qr.num < 0)))).setCell ⟨w.heap.size+1,1,none⟩ (.slice F1 (dg qr.num.natAbs).length f1)).setCell ⟨w.heap.size+1,2,none⟩ (.slice F2 (dg qr.den).length f2))=V4:=⟨_,rfl⟩;rw [hV4] at hB5 hR5;have HB5:=Lib.hid hB5;have HR5:=Lib.hid hR5;clear b0 b1 b2 b3 r0 r1 r2 rfr;obtain ⟨-,-,-,-,r0,r1,r2,rfr,-⟩:=hB4;clear HNR n3 x3 HB3 HPV hB5 hR5 HQ;go_upto_region 5 with fail
 try rw [hV4]
 clear hV4 r0 r1 r2 rfr;obtain ⟨-,-,-,-,r0,r1,r2,-,-⟩:=id HB5.out;have hden:sgn false (val (dg qr.den))=(qr.den:Int):=by rw [je]; simp [sgn]
 have hfr:=wai false (.slice F2 (dg qr.den).length f2) (dg qr.den) V4 (by
  obtain ⟨t1,t2,e,h1,h2⟩:=HR5.out;simp only [Value.agg.injEq,Array.mk.injEq,List.cons.injEq,and_true,true_and] at e;obtain ⟨rfl,rfl⟩:=e;exact h2) (by (have:=HRL.out); (have:=yam qr); omega)
 rw [hden] at hfr;have HFR:=Lib.hid hfr;clear hfr hden;go_wp2_with fail;refine HFR.out.mono ?_;rintro e w5 ⟨z5,rfl,⟨y5,rfl,n5⟩,x5⟩;obtain ⟨G1,g1,rfl,-⟩:=id n5;have HB6:=Lib.hid (HB5.out.ext_ x5);have HR6:=Lib.hid (HR5.out.ext x5);have N5:=Lib.hid n5;clear HFR n5 x5 HB5 HR5 r0 r1 r2;obtain ⟨U,hU⟩:∃ U,w5.alloc (.cells #[.bool (decide ((qr.den:Int) < 0)),.slice G1 (dg qr.den).length g1] 33)=U:=⟨_,rfl⟩;have hUx:Ext w5 U:=by rw [<- hU]; exact (Ext.refl _).alloc _
 have hUs:U.heap.size=w5.heap.size+1:=by rw [<- hU]; simp
 have HIB:Hid (qar U w5.heap.size (qr.den:Int)):=Lib.hid ⟨⟨G1,(dg qr.den).length,g1,by rw [<- hU]; simp [go_sem],by rw [<- hU]; simp [go_sem],N5.out.ext hUx⟩,fun i=>by rw [<- hU]; simp [go_sem]⟩;have HB7:=Lib.hid (HB6.out.ext_ hUx);have HR7:=Lib.hid (HR6.out.ext hUx);have HUS:=Lib.hid hUs;have HGL:=Lib.hid HB6.out.size;clear HB6 HR6 hUx hUs N5;obtain ⟨hB7x,-,⟨E0,m0,e0,E1,e1,⟨b0,b1,b2,b3⟩,hpv⟩,-,r0,r1,r2,-,-⟩:=id HB7.out;have HDEG:=Lib.hid (uci hl p _ HP.out.can (HP.out.copy (by omega)) hpv);have HX7:=Lib.hid hB7x;rw [HDG.out] at HDEG;clear hpv hB7x;unfold plV at HDEG;go_upto_region 6 with fail
 try rw [hU]
 clear hU;go_wp2_with fail;refine HDEG.out.mono ?_;rintro e w6 ⟨rfl,x6⟩;have HB8:=Lib.hid (HB7.out.ext_ x6);have HR8:=Lib.hid (HR7.out.ext x6);have HIB8:=Lib.hid (HIB.out.ext x6 (by have:=HUS.out; omega));have HG8:Hid (w5.heap.size < w6.heap.size):=Lib.hid (by have:=HUS.out; have:=x6.size; omega);clear HDEG x6 HB7 HR7 HIB HUS b0 b1 b2 b3 r0 r1 r2;have hw1:IntKind.i64.wrap ((n:Int)+1)=(n:Int)+1:=by rw [IntKind.wrap_i64]; omega
 obtain ⟨V7,hmk,hVx,hVs,hrow⟩:=yaz ((n:Int)+1) (by omega) (by omega) w6;rw [show ((n:Int)+1).toNat=n+1 by omega] at hmk hrow;have HO1:=Lib.hid (of_int 1 V7 (by omega) (by omega));have HVX:=Lib.hid hVx;have HROW:=Lib.hid hrow;have HVS:=Lib.hid hVs;clear hVx hrow hVs;go_wp2_with fail;refine HO1.out.mono ?_;rintro e w8 ⟨z8,rfl,⟨y8,rfl,n8⟩,x8⟩;obtain ⟨G2,g2,rfl,-⟩:=id n8;have hr8:=HROW.out.ext x8;have hst:=hr8.set_ 0 (by simp) 1 n8;obtain ⟨J0,j0,jc0,q0,q1,-⟩:=hr8.2.2 0 (by simp);have qf:=hr8.2.1;simp only [Nat.zero_mul,Nat.zero_add] at hst q0 q1;obtain ⟨db,hdb⟩:∃ db,decide ((1:Int) < 0)=db:=⟨_,rfl⟩;obtain ⟨ln,hln⟩:∃ ln,(dg (1:Int).natAbs).length=ln:=⟨_,rfl⟩;rw [hdb,hln] at hst;rw [hdb,hln];obtain ⟨V9,hV9⟩:∃ V9,(w8.setCell ⟨w6.heap.size,0,none⟩ (.bool db)).setCell ⟨w6.heap.size,1,none⟩ (.slice G2 ln g2)=V9:=⟨_,rfl⟩;have HX9:Hid (Ext w6 V9):=Lib.hid (by
  rw [<- hV9]
  exact ((HVX.out.trans x8).setCell (Nat.le_refl _) _).setCell (Nat.le_refl _) _)
 rw [hV9] at hst;have HST9:=Lib.hid hst;clear hdb hln hst n8 x8 HO1 HROW HVS hr8 HVX;go_wp2_with fail
 try rw [hV9]
 clear hV9 q0 q1 qf hmk;have hpb:Hid (∀ k (hk:k < (jaz (qr.den:Int) (n+1)).length),(jaz (qr.den:Int) (n+1))[k]=(qr.den:Int) ^ k):=Lib.hid (fun k hk=>vcd _ _ k hk);obtain ⟨ps,hps⟩:∃ ps,jaz (qr.den:Int) (n+1)=ps:=⟨_,rfl⟩;have hpl:ps.length=n+1:=by rw [<- hps,kcd]
 rw [hps] at hpb;have HPL:=Lib.hid hpl;clear hps hpl
 go_loopw [9] (fun iv wr=>∃ i:Nat,i+1<=n+1/\iv=.int .i64 ((i+1:Nat):Int)/\Hid ((∃ X,X.length=n+1/\X.take (i+1)=ps.take (i+1)/\vao wr w6.heap.size X)/\Ext w6 wr)) (fun iv _=>n+2 - (intOf iv).toNat)
 case atStart =>
  refine ⟨0,by omega,rfl,⟨⟨_,?_,?_,HST9.out⟩,HX9.out⟩⟩
  · simp
  · have h0:ps[0]'(by rw [HPL.out]; omega)=1:=by rw [hpb.out]; simp
    have h1:ps.take 1=[1]:=by
     rw [List.take_succ_eq_append_getElem (by rw [HPL.out]; omega),h0]; rfl
    rw [Nat.zero_add,h1]
    rfl
 case round =>
  obtain ⟨i,hi,rfl,⟨⟨X,hXl,hXt,hrow⟩,hx⟩⟩:=hrel;obtain ⟨j,hj⟩:∃ j,i+1=j:=⟨_,rfl⟩;rw [hj] at hi hXt;rw [hj];have hj1:j<=i+1:=by omega
  have hj2:i+1<=j:=by omega
  clear hj;have HX:=Lib.hid hx;have HROW:=Lib.hid hrow;have HXT:=Lib.hid hXt;have HXL:=Lib.hid hXl;have hR:w6.heap.size < wr.heap.size:=hrow.1;clear hx hXt
  by_cases hlt:j < n+1
  · have hik:i < X.length:=by omega
    have hz:X[i]=(qr.den:Int) ^ i:=by
     rw [jcb HXT.out (show i < j by omega) hik (by rw [HPL.out]; omega)];exact hpb.out _ _
    obtain ⟨Q,qn,qc,q0,q1,q2⟩:=hrow.2.2 i hik;have hzl:(dg ((qr.den:Int) ^ i).natAbs).length<=L * i+1:=qg (Nat.lt_of_le_of_lt (waw HDN.out i) (Nat.pow_lt_pow_right (by decide) (Nat.lt_succ_self _)));rw [hz] at q0 q2;have hLi:L * i<=60000000:=Nat.mul_le_mul (show L<=1000000 by omega) (show i<=60 by omega);have HQI:=Lib.hid (za2 q2 hzl);have hsub:IntKind.i64.wrap ((j:Int) - 1)=(i:Int):=by rw [IntKind.wrap_i64]; omega
    have hin1:(i:Int) < (n:Int)+1:=by omega
    have hin2:(j:Int) < (n:Int)+1:=by omega
    obtain ⟨⟨W1,wn,wc,v0,v1,v2⟩,-⟩:=HIB8.out;have HDC:Hid (∀ W',Ext w6 W'->W'.cell? ⟨w5.heap.size,0,none⟩=some (.bool (decide ((qr.den:Int) < 0)))/\W'.cell? ⟨w5.heap.size,1,none⟩=some (.slice W1 wn wc)):=Lib.hid (fun W' hx=>⟨(hx.cell (p:=⟨w5.heap.size,0,none⟩) HG8.out).trans v0,(hx.cell (p:=⟨w5.heap.size,1,none⟩) HG8.out).trans v1⟩);have HML:=Lib.hid (fun (W':World) (hx:Ext wr W')=>vae _ _ _ _ _ _ W' (HQI.out.ext hx) ((za2 v2 HDL.out).ext (HX.out.trans hx)) (by omega));have Y0:=Lib.hid ((Ext.refl wr).drew);have HQC:Hid (wr.drew.cell? ⟨w6.heap.size,i * 2,none⟩=some (.bool (decide ((qr.den:Int) ^ i < 0)))/\wr.drew.cell? ⟨w6.heap.size,i * 2+1,none⟩=some (.slice Q qn qc)):=Lib.hid ⟨(Y0.out.cell (p:=⟨w6.heap.size,i * 2,none⟩) hR).trans q0,(Y0.out.cell (p:=⟨w6.heap.size,i * 2+1,none⟩) hR).trans q1⟩;have HNX:Hid (∀ V z,(qr.den:Int) ^ i * (qr.den:Int)=z->vao V w6.heap.size (X.set j z)->Ext w6 V->(∃ X',X'.length=n+1/\X'.take (j+1)=ps.take (j+1)/\vao V w6.heap.size X')/\Ext w6 V):=Lib.hid (fun V z hz hr hx=>by
     have hpx:ps[j]'(by rw [HPL.out]; omega)=z:=by rw [hpb.out,<- hz,show j=i+1 by omega]; exact Int.pow_succ ..
     refine ⟨⟨_,by rw [List.length_set]; exact HXL.out,?_,hr⟩,hx⟩;rw [<- hpx]
     exact kae X ps j HXT.out (by omega) (by rw [HPL.out]; omega))
    clear q0 q1 q2 hz hzl v0 v1 v2 hrow hik HXT;generalize (qr.den:Int) ^ i=bi at *;go_upto_region 11 with fail;refine wp_region_held_drew (S:=fun W'=>Ext w6 W') (by kernel_rfl) (HX.out.trans Y0.out) (fun hHeld=>?_);refine tk 0 ?_;refine tk 1 ?_;refine tk 2 ?_;refine tk 3 ?_;refine tk 4 ?_;refine tk 5 ?_;refine tk 7 ?_ (hy:=Or.inl ⟨by rfl,by intro w' hSw; obtain ⟨v0,v1⟩:=HDC.out w' hSw; go_simp; (try (with_reducible rfl))⟩);refine wpAnyH_ready (rs:=[6]) (by kernel_rfl) (by simp) ?_;refine AllReadyH.cons rfl (fun K hK=>?_) AllReadyH.nil;obtain ⟨q0,q1⟩:=HQC.out;go_simp;refine hK.out _ _ (HX.out.trans Y0.out) (fun hHeld=>?_);clear hK K q0 q1
    try simp only [Act.put,List.getElem_toArray,List.getElem_cons_zero,List.getElem_cons_succ,List.setIfInBounds_toArray,List.set_cons_zero,List.set_cons_succ]
    refine wpAnyH_ready (rs:=[8]) (by kernel_rfl) (by simp) ?_;refine AllReadyH.cons rfl (fun K hK=>?_) AllReadyH.nil;go_simp
    go_at_call 92
    refine (HML.out _ Y0.out).mono ?_;rintro e w9 ⟨z9,rfl,⟨y9,rfl,n9⟩,x9⟩;obtain ⟨G3,g3,rfl,-⟩:=id n9;have z1:Ext wr w9:=Y0.out.trans x9;refine hK.out _ _ (HX.out.trans z1) (fun hHeld=>?_);clear hK K
    try simp only [Act.put,List.getElem_toArray,List.getElem_cons_zero,List.getElem_cons_succ,List.setIfInBounds_toArray,List.set_cons_zero,List.set_cons_succ]
    refine tk 9 ?_;have hr9:=HROW.out.ext z1;have hst:=hr9.set_ j (by omega) _ n9;obtain ⟨J0,j0,jc0,q0,q1,-⟩:=hr9.2.2 j (by omega);have qf:=hr9.2.1;refine wpAnyH_ready (rs:=[10]) (by kernel_rfl) (by simp) ?_;refine AllReadyH.cons rfl (fun K hK=>?_) AllReadyH.nil;go_simp;refine (?atMul:∀ V,(∃ X',X'.length=n+1/\X'.take (j+1)=ps.take (j+1)/\vao V w6.heap.size X')/\Ext w6 V->K _ V) _ (HNX.out _ _ rfl hst (((HX.out.trans z1).setCell (Nat.le_refl _) _).setCell (Nat.le_refl _) _));intro V hV;refine hK.out _ _ hV.2 (fun hHeld=>?_);clear hK K
    try simp only [Act.put,List.getElem_toArray,List.getElem_cons_zero,List.getElem_cons_succ,List.setIfInBounds_toArray,List.set_cons_zero,List.set_cons_succ]
    refine wpAnyH_done (by kernel_rfl) ?_ _;have HV:=Lib.hid hV;clear hV n9 x9 z1 hHeld hr9 hst q0 q1 qf HROW HML HQI;go_wp2_with fail
    go_roundw
    case rel=>exact ⟨j,by omega,by go_num,HV.out⟩
    case measure=>simp only [intOf]; omega
  · have hje:j=n+1:=by omega
    have hXe:X=ps:=by
     have h:=HXT.out;rw [hje,List.take_of_length_le (by rw [hXl]; exact Nat.le_refl _),List.take_of_length_le (by rw [HPL.out]; exact Nat.le_refl _)] at h;exact h
    rw [hXe] at hrow;obtain ⟨t1,t2,et,ht1,ht2⟩:=HR8.out;simp only [Value.agg.injEq,Array.mk.injEq,List.cons.injEq,and_true,true_and] at et;obtain ⟨rfl,rfl⟩:=et;have hB:=HB8.out.ext_ HX.out;obtain ⟨hBx,hBs,⟨E0,m0,e0,E1,e1,⟨b0,b1,b2,b3⟩,hpv⟩,-,r0,r1,r2,-,hzero⟩:=id hB;have HAT:=Lib.hid (vcw (b:=(qr.den:Int)) (pad:=⟨w6.heap.size,0,none⟩) (pc:=n+1) hl (by omega) hnE (by
     have:L * (n+1)<=1000000 * 61:=Nat.mul_le_mul (by omega) (by omega);omega) ((za2 ht1 HNL.out).ext HX.out) HDN.out (Nat.le_refl _) (by omega) (fun k hk=>by
     obtain ⟨Q,qn,qc,q0,q1,q2⟩:=hrow.2.2 k (by rw [HPL.out]; omega);have hzk:=hpb.out k (by rw [HPL.out]; omega);rw [hzk] at q0 q2
     exact ⟨hR,_,Q,qn,qc,by rw [jq,Nat.zero_add]; exact q0,by rw [jq,Nat.zero_add]; exact q1,za2 q2 (qg (Nat.lt_of_le_of_lt (waw HDN.out k) (Nat.pow_lt_pow_right (by decide) (Nat.lt_succ_self _))))⟩) p _ HP.out (Int.le_of_eq HDG.out) hpv)
    rw [HRP.out] at HAT;have HBE:=Lib.hid hB;unfold plV at HAT;clear hrow ht1 ht2 hpv hzero hje hXe HXT HXL hXl hB HB8 HR8 HIB8;go_wp2_with fail;refine HAT.out.mono ?_;rintro e w9 ⟨z9,rfl,m9,x9⟩;clear b0 b1 b2 b3 r0 r1 r2;have HLn:Hid (L * n<=60000000):=Lib.hid (Nat.mul_le_mul (show L<=1000000 by omega) (show n<=60 by omega));have HCP:=Lib.hid (jax rp _ HFIT.out.can (HFIT.out.copy (by omega)) (Nat.le_trans HFIT.out.dm (by have:=HLn.out; omega)) m9);obtain ⟨C4,i4,j4,D4,k4,rfl,-⟩:=id m9.open_;have X9:=Lib.hid x9;clear m9 x9 HAT;go_wp2_with fail;refine HCP.out.mono ?_;rintro e wa ⟨za,rfl,ma,xa⟩;obtain ⟨C5,i5,j5,D5,k5,rfl,-⟩:=id ma.open_;have hxa:=X9.out.trans xa;have hzn:=HBE.out.zero.ext hxa hBs;have hsa:=xa.size;have hs9:=X9.out.size;have HF:=Lib.hid (vk (q':=fun b=>w.heap.size<=b) (hBx.trans hxa) (by omega:w.heap.size<=w.heap.size+1+1) hzn ma (fun b _ hb=>⟨by omega,by omega⟩));obtain ⟨⟨z00,z01,z02,z03⟩,zf⟩:=hzn;clear ma xa HCP hxa hsa hs9 hBx;unfold plV;go_wp2_with fail;exact bodyPost_ret (v:=plV _ (.slice C5 i5 j5) (.slice D5 _ k5)) (by simp [results,Tryz.results43,go_sem,z00,z01,z02,z03,plV]) rfl HF.out
end Go.Proofs.YtcfcjabgkfehlaaGreat
