/- Layer 22: recpoly.at. -/
import Derived.Test.YtopddaabiinboaaGreatMp18
import Derived.Test.YtopddaabiinboaaGreatMp26
import Derived.Test.YtopddaabiinboaaGreatMp19
import Derived.Test.YtopddaabiinboaaGreatMp17
import Derived.Test.YtopddaabiinboaaGreatMp16
import Derived.Deep.CutBlock
import Derived.Test.YtopddaabiinboaaGreatMp9
import Derived.Test.YtopddaabiinboaaGreatMp14
import Derived.Lib.MinMax
set_option linter.unusedSimpArgs false
set_option linter.unusedVariables false

set_option maxRecDepth 100000
set_option maxHeartbeats 8000000
namespace Go.Proofs.YtopddaabiinboaaGreat
open Go.RowKit
theorem Fit.mulc {p:Pl} {E D K:Nat} (h:Fit p E D) {z:Int} (hz:z.natAbs<=B32 ^ K):Fit (p.mul (Pl.const z)) E (D+K):=by
 refine ⟨Pl.mul_can _ _,Pl.mul_const_ex h.can h.ex z,?_⟩;rw [Nat.pow_add];exact Nat.lt_of_le_of_lt (Nat.le_trans (Pl.mul_const_nr h.can z) (Nat.mul_le_mul_left _ hz)) (Nat.mul_lt_mul_of_pos_right h.nr (Nat.pow_pos (by decide)))
theorem kih (cs:List Pl) (j:Nat):kc7 (cs.drop j)<=kc7 cs:=by
 have:=whe (cs.take j) (cs.drop j);rw [List.take_append_drop] at this;omega
theorem kg7 {b:Int} {A:Nat} (hb:b.natAbs < B32 ^ A) (k:Nat):(b ^ k).natAbs<=B32 ^ (A * k):=by
 rw [<- ug4];exact ugu (Nat.le_of_lt hb) k
theorem yit {l:Int} {ng:Bool} {ds:List Nat} {cs:List Pl} {E D A:Nat} (hp:Fit (.mk l ng ds cs) E D) (hl:0 < l) {a b:Int} (ha:a.natAbs < B32 ^ A) (hb:b.natAbs < B32 ^ A) {M:Nat} (hM:M=cs.length - 1) :
 (∀ j,Fit (horP a b (cs.drop j)) E (D+A * (M - j)))/\∀ i (hi:i+1 < cs.length),Fit cs[i] E D/\Fit ((horP a b (cs.drop (i+1))).mul (Pl.const a)) E (D+A * (M - i))/\Fit (cs[i].mul (Pl.const (b ^ (M - i)))) E (D+A * (M - i)):=by
 subst hM;have h1:∀ j,Fit (horP a b (cs.drop j)) E (D+A * (cs.length - 1 - j)):=fun j=>by
  have h:=Fit.horP (cs:=cs.drop j) (E:=E) (D:=D) (fun c hc=>⟨(hp.kid hl (List.mem_of_mem_drop hc)).can,(hp.kid hl (List.mem_of_mem_drop hc)).ex⟩) (by
   have h2:=hp.nr;rw [Pl.nr,if_neg (by omega)] at h2;have:=kih cs j
   omega) ha hb
  rw [List.length_drop] at h;exact h.mono (Nat.le_refl _) (Nat.add_le_add_left (Nat.mul_le_mul_left _ (by omega)) _)
 refine ⟨h1,fun i hi=>?_⟩;have h2:=hp.kid hl (List.getElem_mem (by omega:i < cs.length));refine ⟨h2,?_,h2.mulc (kg7 hb _)⟩;have h3:=(h1 (i+1)).mulc (Nat.le_of_lt ha);rw [Nat.add_assoc,<- Nat.mul_succ,show (cs.length - 1 - (i+1)).succ=cs.length - 1 - i by omega] at h3;exact h3
def jhl (w:World) (pad:Addr) (b:Int) (A k:Nat):Prop:=pad.block < w.heap.size/\∃ bb B m d,w.cell? (pad.add (k * 2))=some (.bool bb)/\w.cell? ⟨(pad.add (k * 2)).block,(pad.add (k * 2)).off+1,none⟩=some (.slice B m d)/\xc4 w (.agg #[.bool bb,.slice B m d]) (b ^ k) (A * k+1)
theorem jhl.ext {w W:World} {pad:Addr} {b:Int} {A k:Nat} (h:jhl w pad b A k) (hx:Ext w W):jhl W pad b A k:=by
 obtain ⟨h0,bb,B,m,d,h1,h2,h3⟩:=h;have hb:(pad.add (k * 2)).block < w.heap.size:=by rw [uc2]; exact h0
 exact ⟨Nat.lt_of_lt_of_le h0 hx.size,bb,B,m,d,(hx.cell hb).trans h1,(hx.cell (p:=⟨(pad.add (k * 2)).block,(pad.add (k * 2)).off+1,none⟩) hb).trans h2,h3.ext hx⟩
def AtS (w:World) (p:Pl) (sp Ap an sa:Value) (W:World):Prop:=Ext w W/\w.heap.size+1+1 < W.heap.size/\yc3 W w.heap.size p sp Ap/\W.cell? ⟨w.heap.size+1,0,none⟩=some an/\W.cell? ⟨w.heap.size+1,1,none⟩=some sa
section
variable {w W W':World} {p p':Pl} {sp Ap an sa:Value}
theorem AtS.ext (h:AtS w p sp Ap an sa W) (hx:Ext W W'):AtS w p sp Ap an sa W':=by
 obtain ⟨h0,h1,h2,h3,h4⟩:=h;have hs:=hx.size;exact ⟨h0.trans hx,by omega,h2.ext hx (by omega),(hx.cell (p:=⟨w.heap.size+1,0,none⟩) (by show w.heap.size+1 < _; omega)).trans h3,(hx.cell (p:=⟨w.heap.size+1,1,none⟩) (by show w.heap.size+1 < _; omega)).trans h4⟩
theorem AtS.store (h:AtS w p sp Ap an sa W) {g:Nat} (hg:w.heap.size+1+1<=g) (a b c d:Value):AtS w p sp Ap an sa ((((W.setCell ⟨g,0,none⟩ a).setCell ⟨g,1,none⟩ b).setCell ⟨g,2,none⟩ c).setCell ⟨g,3,none⟩ d):=by
 obtain ⟨h0,h1,h2,h3,h4⟩:=h;have hh:=fun k (hk:k ≠ g)=>xde W g a b c d k hk
 exact ⟨(((h0.setCell (by show w.heap.size<=g; omega) _).setCell (by show w.heap.size<=g; omega) _).setCell (by show w.heap.size<=g; omega) _).setCell (by show w.heap.size<=g; omega) _,by simp [World.setCell]; omega,h2.turn (hh _ (by omega)),
  (World.cell?_of_block (a:=⟨w.heap.size+1,0,none⟩) (hh _ (by show w.heap.size+1 ≠ g; omega))).trans h3,(World.cell?_of_block (a:=⟨w.heap.size+1,1,none⟩) (hh _ (by show w.heap.size+1 ≠ g; omega))).trans h4⟩
end
def jg5 (W:World) (g:Nat) (p:Pl):Prop:=g < W.heap.size/\(∀ i,W.frozen? ⟨g,i,none⟩=false)/\∃ A0 n0 c0 A1 n1 c1,yc3 W g p (.slice A0 n0 c0) (.slice A1 n1 c1)/\PlV W (fun b=>b ≠ g) p (plV p (.slice A0 n0 c0) (.slice A1 n1 c1))
theorem jg5.ext {W W':World} {g:Nat} {p:Pl} (h:jg5 W g p) (hx:Ext W W'):jg5 W' g p:=by
 obtain ⟨h0,h1,A0,n0,c0,A1,n1,c1,h2,h3⟩:=h;exact ⟨Nat.lt_of_lt_of_le h0 hx.size,fun i=>(hx.frozen (p:=⟨g,i,none⟩) h0).trans (h1 i),A0,n0,c0,A1,n1,c1,h2.ext hx h0,h3.ext hx⟩
theorem jg5.store {W:World} {g:Nat} {p p':Pl} (h:jg5 W g p) {q:Nat->Prop} {A0 A1:Option Addr} {n0 c0 n1 c1:Nat} (hp:PlV W q p' (plV p' (.slice A0 n0 c0) (.slice A1 n1 c1))) (hq:∀ b,q b->b ≠ g) :
 jg5 ((((W.setCell ⟨g,0,none⟩ (.int .i64 p'.lv)).setCell ⟨g,1,none⟩ (.bool p'.neg)).setCell ⟨g,2,none⟩ (.slice A0 n0 c0)).setCell ⟨g,3,none⟩ (.slice A1 n1 c1)) g p':=by
 obtain ⟨h0,h1,B0,m0,d0,B1,m1,d1,h2,h3⟩:=h;exact ⟨by simpa [World.setCell] using h0,fun i=>by simp only [World.frozen?_setCell]; exact h1 i,_,_,_,_,_,_,h2.set,h2.keep _ _ _ _ hp fun b _ hb=>⟨hq b hb,hq b hb⟩⟩
theorem jg5.new {W:World} {p:Pl} {q:Nat->Prop} {A0 A1:Option Addr} {n0 c0 n1 c1:Nat} (hp:PlV W q p (plV p (.slice A0 n0 c0) (.slice A1 n1 c1))) (T:TypeId):jg5 (W.alloc (.cells #[.int .i64 p.lv,.bool p.neg,.slice A0 n0 c0,.slice A1 n1 c1] T)) W.heap.size p:=by
 refine ⟨by simp,fun i=>by simp [go_sem],A0,n0,c0,A1,n1,c1,yc3.new W p _ _ _,?_⟩;exact PlV.turn_ (W.size_alloc _ ▸ Nat.le_succ _) (fun _ _ h=>h.ext ((Ext.refl W).alloc _)) (fun b hb _=>⟨by omega,((Ext.refl W).alloc _).below.block b hb⟩) hp
theorem yc5.set_ {W:World} {g0 g:Nat} (h:yc5 W g0) (hne:g0 ≠ g) (a b c d:Value):yc5 ((((W.setCell ⟨g,0,none⟩ a).setCell ⟨g,1,none⟩ b).setCell ⟨g,2,none⟩ c).setCell ⟨g,3,none⟩ d) g0:=by
 obtain ⟨⟨z0,z1,z2,z3⟩,zf⟩:=h;have hh:=xde W g a b c d g0 hne;exact ⟨⟨(World.cell?_of_block (a:=⟨g0,0,none⟩) hh).trans z0,(World.cell?_of_block (a:=⟨g0,1,none⟩) hh).trans z1,(World.cell?_of_block (a:=⟨g0,2,none⟩) hh).trans z2,(World.cell?_of_block (a:=⟨g0,3,none⟩) hh).trans z3⟩,fun i=>by simp only [World.frozen?_setCell]; exact zf i⟩
def AtR (w:World) (p:Pl) (sp Ap an sa:Value) (S:Pl) (V:World):Prop:=AtS w p sp Ap an sa V/\yc5 V (w.heap.size+1+1)/\jg5 V (w.heap.size+1+1+1) S
def kjb (w0:World) (q:Nat->Prop) (l a b:Int) (n E D:Nat) (av pv:Value) (m:Nat):Prop:=∀ (p:Pl) (v:Value) (w:World),p.sz < m->Fit p E D->p.dgL l<=n->PlV w0 q p v->Ext w0 w->Calls Tryz.prog 141 #[v,.int .i64 l,av,pv] w (vc4 (fun b=>w.heap.size<=b) (p.atL l a b n) w)
theorem yjb {w0:World} {q:Nat->Prop} {l a b:Int} {n A E D:Nat} {an:Bool} {Aa:Option Addr} {na ca pc:Nat} {pad:Addr} (hl:1<=l) (hE:E<=900) (hnE:n<=E) (hD:D+A * (n+1)+2<=1000000000000) (hA:xc4 w0 (.agg #[.bool an,.slice Aa na ca]) a A) (hb:b.natAbs < B32 ^ A) (hpc:n+1<=pc) (hpc2:pc<=9223372036854775807) (hP:∀ k,k<=n->jhl w0 pad b A k) (m:Nat) :
 kjb w0 q l a b n E D (.agg #[.bool an,.slice Aa na ca]) (.slice (some pad) (n+1) pc) m:=by
 induction m with
 | zero=>intro p v w h; omega
 | succ m ih =>
 intro p v w hsz hfit hdg h hx0;have HH:=Lib.hid (h.ext hx0);obtain ⟨A0,n0,c0,A1,c1,rfl,-,hl1,hl2,h4⟩:=h.open_;have H4:=Lib.hid h4;have HX0:=Lib.hid hx0;have HP:=Lib.hid (fun k hk=>(hP k hk).ext hx0);have HA:=Lib.hid (hA.ext hx0);have hlen:p.cs.length<=902:=by
  rcases Int.lt_or_le 0 p.lv with h0 | h0
  · cases p; have:=hfit.len h0; simp only [Pl.cs] at *; omega
  · have h1:=hfit.can;obtain ⟨lv,ng,ds,cs⟩:=p;rw [Pl.Can] at h1;simp only [Pl.lv,Pl.cs] at *;rcases h1 with ⟨-,rfl,-⟩ | ⟨h1,-⟩
    · exact Nat.zero_le _
    · omega
 have han:A * n<=A * (n+1):=Nat.mul_le_mul_left _ (by omega);have haa:A<=A * (n+1):=Nat.le_mul_of_pos_right _ (by omega);obtain ⟨W,hW⟩:=n_m (((w.alloc (.cells #[.int .i64 p.lv,.bool p.neg,.slice A0 n0 c0,.slice A1 p.cs.length c1] 30)).alloc (.cells #[.bool an,.slice Aa na ca] 27)).alloc (.cells #[.int .i64 0,.bool false,.slice none 0 0,.slice none 0 0] 30));have hWx:Ext w W:=by rw [<- hW]; exact (((Ext.refl w).alloc _).alloc _).alloc _
 have hWs:W.heap.size=w.heap.size+1+1+1:=by rw [<- hW]; simp
 have hAS:AtS w p (.slice A0 n0 c0) (.slice A1 p.cs.length c1) (.bool an) (.slice Aa na ca) W:=by
  refine ⟨hWx,by omega,?_,?_,?_⟩
  · rw [<- hW]; exact (yc3.new w p _ _ _).ext (((Ext.refl _).alloc _).alloc _) (by simp)
  · rw [<- hW]; simp [go_sem]
  · rw [<- hW]; simp [go_sem]
 have hz:yc5 W (w.heap.size+1+1):=by
  rw [<- hW];refine ⟨⟨?_,?_,?_,?_⟩,fun i=>?_⟩ <;> simp [go_sem]
 have HWX:=Lib.hid hWx;have HAS:=Lib.hid hAS;have HZ:=Lib.hid hz;have hwn:IntKind.i64.wrap (((n+1:Nat):Int) - 1)=(n:Int):=by rw [IntKind.wrap_i64]; omega
 have hin:(n:Int) < (n:Int)+1:=by omega
 obtain ⟨-,-,⟨b0,b1,b2,b3⟩,a0,a1⟩:=hAS;clear h h4 hx0 hWx hz hA hP;have HFIT:=Lib.hid hfit;unfold plV;unfold plV at HH
 by_cases k1:p.lv < l
 · have q1:decide (p.lv < l)=true:=by simpa using k1
   have HR:Hid (p.atL l a b n=p.mul (Pl.const (b ^ n))):=Lib.hid (by cases p; simp only [Pl.lv] at k1; rw [Pl.atL,if_pos k1]);obtain ⟨hpb,bb,B,mb,db,pw0,pw1,hpi⟩:=HP.out n (Nat.le_refl n);have HPW:Hid (∀ W',Ext w W'->W'.cell? (pad.add (n * 2))=some (.bool bb)/\W'.cell? ⟨(pad.add (n * 2)).block,(pad.add (n * 2)).off+1,none⟩=some (.slice B mb db)):=Lib.hid (fun W' hx=>by
    have hb':(pad.add (n * 2)).block < w.heap.size:=by rw [uc2]; exact hpb
    exact ⟨(hx.cell hb').trans pw0,(hx.cell (p:=⟨(pad.add (n * 2)).block,(pad.add (n * 2)).off+1,none⟩) hb').trans pw1⟩)
   have HSC:=Lib.hid (fun (W':World) (hx:Ext w W')=>jg3 (z:=b ^ n) (L:=A * n+1) _ _ (HH.out.ext hx) (hpi.ext hx) hfit (by omega) (by omega));clear k1 hpi pw0 pw1 hpb H4 HP HA hfit hdg;have Y0:=Lib.hid ((Ext.refl W).drew);go_enter Tryz.func141,Tryz.ntmps141;go_upto_region 3 with fail;clear hW b0 b1 b2 b3 a0 a1;refine wp_region_held_drew (S:=AtS w p (.slice A0 n0 c0) (.slice A1 p.cs.length c1) (.bool an) (.slice Aa na ca)) (by kernel_rfl) (HAS.out.ext Y0.out) (fun hHeld=>?_);refine tk 0 ?_ (hy:=Or.inl ⟨by rfl,by intro w' hSw; obtain ⟨-,-,⟨b0,b1,b2,b3⟩,-,-⟩:=hSw; go_simp; (try (with_reducible rfl))⟩);refine tk 1 ?_;refine tk 2 ?_;refine tk 3 ?_;refine tk 4 ?_ (hy:=Or.inl ⟨by rfl,by intro w' hSw; obtain ⟨p0,p1⟩:=HPW.out w' hSw.1; go_simp; (try (with_reducible rfl))⟩);refine r_1 5 fun K hK=>?_
   go_simp
   go_at_call 25
   refine (HSC.out _ (HWX.out.trans Y0.out)).mono ?_;rintro e w2 ⟨z2,rfl,m2,x2⟩;obtain ⟨C2,i2,j2,D2,k2,rfl,-⟩:=id m2.open_;have z1:Ext W w2:=Y0.out.trans x2;have hs2:=z1.size;refine k_t hK (HAS.out.ext z1) fun hHeld=>?_
   clear hK K;have hzn:=HZ.out.ext z1 (by omega);have HF:=Lib.hid (gc5 (q':=fun b=>w.heap.size<=b) (HWX.out.trans z1) (by omega:w.heap.size<=w.heap.size+1+1) hzn m2 (fun b _ hb=>by
    have hb2:W.drew.heap.size<=b:=hb;have:W.drew.heap.size=W.heap.size:=rfl
    exact ⟨by omega,by omega⟩))
   obtain ⟨⟨z00,z01,z02,z03⟩,zf⟩:=hzn;refine r_1 6 fun K hK=>?_
   unfold plV;go_simp;refine k_t hK ((HAS.out.ext z1).store (Nat.le_refl _) _ _ _ _) fun hHeld=>?_
   clear hK K;refine w_d ?_;clear x2 hHeld HSC HPW;go_wp2_with fail;rw [HR.out];exact bodyPost_ret (v:=plV _ (.slice C2 i2 j2) (.slice D2 _ k2)) (by simp [results,Tryz.results141,go_sem,z00,z01,z02,z03,plV]) rfl HF.out
 by_cases k2:l < p.lv
 · have q1:decide (p.lv < l)=false:=by simpa using k1
   have q2:decide (p.lv > l)=true:=by simpa using k2
   have hpos:0 < p.lv:=by omega
   have HR:Hid (p.atL l a b n=xdd p.lv (p.cs.map (Pl.atL l a b n))):=Lib.hid (by
    obtain ⟨lv,ng,ds,cs⟩:=p;simp only [Pl.lv,Pl.cs] at *
    rw [Pl.atL,if_neg k1,if_neg (by omega),kgv])
   have HSZ:Hid (∀ k (hk:k < p.cs.length),p.cs[k].sz < m/\Fit p.cs[k] E D/\p.cs[k].dgL l<=n):=Lib.hid (fun k hk=>by
    have hm:=List.getElem_mem hk;have h1:=Pl.sz_kid hm;refine ⟨by omega,?_,?_⟩
    · obtain ⟨lv,ng,ds,cs⟩:=p;exact hfit.kid hpos hm
    · obtain ⟨lv,ng,ds,cs⟩:=p;simp only [Pl.lv,Pl.cs] at *;rw [Pl.dgL,if_neg k1,if_neg (by omega)] at hdg
      exact Int.le_trans (ugv l cs 0 _ hm) hdg)
   have IH:=Lib.hid ih;obtain ⟨V,hmk,hVx,hVs,hrow⟩:=jgu (p.cs.length:Int) (by omega) (by omega) W;rw [Int.toNat_natCast] at hmk hrow;have HVX:=Lib.hid hVx;have hrow0:=hrow (fun b=>w.heap.size+1+1+1<=b);rw [hWs] at hmk hrow0;have HROW:=Lib.hid hrow0;obtain ⟨-,-,⟨d0,d1,d2,d3⟩,f0,f1⟩:=HAS.out.ext hVx;obtain ⟨cl,hcl⟩:=n_m (p.cs.map (Pl.atL l a b n));have hcll:cl.length=p.cs.length:=by rw [<- hcl,List.length_map]
   have HCL:Hid (∀ k (hk:k < p.cs.length),∃ h:k < cl.length,cl[k]=p.cs[k].atL l a b n):=Lib.hid (fun k hk=>⟨by omega,by subst hcl; rw [List.getElem_map]⟩);rw [hcl] at HR;have hcl1:cl.length<=p.cs.length:=by omega
   have hcl2:p.cs.length<=cl.length:=by omega
   have HCLL:=Lib.hid hcll;clear hcl hcll k1 k2 ih hfit hdg hVx hrow hrow0 HP HA;go_enter Tryz.func141,Tryz.ntmps141;go_wp2_with fail;clear hW hmk b0 b1 b2 b3 a0 a1 d0 d1 d2 d3 f0 f1
   go_loopw [42] (fun iv wr=>∃ k:Nat,k<=p.cs.length/\iv=.int .i64 k/\Hid ((∃ L:List Pl,L.length=p.cs.length/\L.take k=cl.take k/\qgu wr (fun b=>w.heap.size+1+1+1<=b) (w.heap.size+1+1+1) L)/\Ext W wr)) (fun iv _=>p.cs.length - (intOf iv).toNat)
   case atStart=>exact ⟨0,Nat.zero_le _,rfl,⟨⟨_,List.length_replicate,by simp,HROW.out⟩,HVX.out⟩⟩
   case round =>
    obtain ⟨k,hk,rfl,⟨⟨L,hLl,hLt,hrow⟩,hx⟩⟩:=hrel;have HX:=Lib.hid hx;have HROWk:=Lib.hid hrow;have HLT:=Lib.hid hLt;have HLL:=Lib.hid hLl;have hL1:L.length<=p.cs.length:=by omega
    have hL2:p.cs.length<=L.length:=by omega
    obtain ⟨-,-,⟨b0,b1,b2,b3⟩,a0,a1⟩:=HAS.out.ext hx;have hRlt:w.heap.size+1+1+1 < wr.heap.size:=hrow.1;have hRlt1:w.heap.size+1 < wr.heap.size:=by omega
    clear hx hrow hLt HVX HROW hLl
    by_cases hlt:k < p.cs.length
    · obtain ⟨ad,B0,m0,e0,B1,m1,e1,rfl,hadb,hnd,hkt⟩:=kc3.kid H4.out k hlt;have hxx:Ext w0 wr:=(HX0.out.trans HWX.out).trans HX.out;obtain ⟨g0,g1,g2,g3⟩:=hnd.ext hxx (by rw [uc2]; exact hadb);obtain ⟨hsz1,hsz2,hsz3⟩:=HSZ.out k hlt;have HC:=Lib.hid (fun W' (hxW:Ext wr W')=>IH.out p.cs[k] _ W' hsz1 hsz2 hsz3 hkt (hxx.trans hxW));obtain ⟨hkc,hck⟩:=HCL.out k hlt;have HSET:Hid ((L.set k (p.cs[k].atL l a b n)).take (k+1)=cl.take (k+1)):=Lib.hid (by
       rw [<- hck]
       exact qdf L cl k HLT.out (by omega) hkc)
      generalize p.cs[k].atL l a b n=rk at *;generalize p.cs[k]=ck at *;clear hnd hkt hadb hsz1 hsz2 hsz3 hxx HLT hck;go_wp2_with fail;refine (HC.out _ ((Ext.refl _).alloc _)).mono ?_;rintro e w2 ⟨v2,rfl,p2,x2⟩;have x2':Ext wr w2:=((Ext.refl wr).alloc _).trans x2;obtain ⟨C0,j0,f0,C1,f1,rfl,-⟩:=id p2.open_;have hr2:=HROWk.out.ext x2';obtain ⟨D0,n2,u0,D1,n3,u1,⟨r0,r1,r2,r3⟩,-⟩:=hr2.2.2 k (by omega);have hfr:=hr2.2.1;have hst:=(hr2.set_ k (by omega) rk (p2.mono fun b hb=>by
       have hb':wr.heap.size+1<=b:=by simpa using hb
       exact ⟨by omega,by omega⟩)).1
      simp only at r0 r1 r2 r3;have HST:=Lib.hid hst;have X2:=Lib.hid (HX.out.trans x2');have hkl:(k:Int) < (p.cs.length:Int):=by omega
      unfold plV;clear hr2 hst p2 x2 x2' HC HROWk g0 g1 g2 g3 b0 b1 b2 b3 a0 a1;go_wp2_with fail
      go_roundw
      case rel=>exact ⟨k+1,by omega,by go_num,⟨_,by rw [List.length_set]; exact HLL.out,HSET.out,HST.out⟩,(((X2.out.setCell (by show W.heap.size<=w.heap.size+1+1+1; omega) _).setCell (by show W.heap.size<=w.heap.size+1+1+1; omega) _).setCell (by show W.heap.size<=w.heap.size+1+1+1; omega) _).setCell (by show W.heap.size<=w.heap.size+1+1+1; omega) _⟩
      case measure=>simp only [intOf]; omega
    · have hke:k=p.cs.length:=by omega
      have hLe:L=cl:=by
       have h:=HLT.out;rw [hke,List.take_of_length_le (by omega),List.take_of_length_le (by omega)] at h;exact h
      have hfin:=HROWk.out.fin (Nat.le_refl _);rw [hLe] at hfin;have htr:=uho p.lv cl (some ⟨w.heap.size+1+1+1,0,none⟩) p.cs.length hfin (by omega) (by omega);rw [HCLL.out] at htr;have HTR:=Lib.hid htr;clear hfin htr HROWk HLT hLe;go_wp2_with fail;refine HTR.out.mono ?_;rintro e w2 ⟨z2,rfl,m2,x2⟩;obtain ⟨C2,i2,j2,D2,k2,rfl,-⟩:=id m2.open_;have z1:Ext W w2:=HX.out.trans x2;have hzn:=HZ.out.ext z1 (by omega);have HF:=Lib.hid (gc5 (q':=fun b=>w.heap.size<=b) (HWX.out.trans z1) (by omega:w.heap.size<=w.heap.size+1+1) hzn m2 (fun b _ hb=>⟨by omega,by omega⟩));obtain ⟨⟨z00,z01,z02,z03⟩,zf⟩:=hzn;unfold plV;clear m2 x2 z1 HTR b0 b1 b2 b3 a0 a1;go_wp2_with fail;rw [HR.out];exact bodyPost_ret (v:=plV _ (.slice C2 i2 j2) (.slice D2 _ k2)) (by simp [results,Tryz.results141,go_sem,z00,z01,z02,z03,plV]) rfl HF.out
 · have q1:decide (p.lv < l)=false:=by simpa using k1
   have q2:decide (p.lv > l)=false:=by simpa using k2
   have hpos:0 < p.lv:=by omega
   obtain ⟨mm,hmm,hm1⟩:∃ mm,p.cs.length=mm+1/\1<=mm:=by
    have h1:=hfit.can;obtain ⟨lv,ng,ds,cs⟩:=p;have h2:=(h1.kids hpos).2.2.1;exact ⟨cs.length - 1,by simp only [Pl.cs]; omega,by omega⟩
   have hmn:mm<=n:=by
    obtain ⟨lv,ng,ds,cs⟩:=p;simp only [Pl.lv,Pl.cs] at *;rw [Pl.dgL,if_neg k1,if_pos (by omega)] at hdg;omega
   have HR:Hid (p.atL l a b n=(horP a b (p.cs.drop 0)).mul (Pl.const (b ^ (n - mm)))):=Lib.hid (by
    obtain ⟨lv,ng,ds,cs⟩:=p;simp only [Pl.lv,Pl.cs] at *
    rw [Pl.atL,if_neg k1,if_pos (by omega),List.drop_zero,hmm,Nat.add_sub_cancel])
   have hHS:(∀ j,Fit (horP a b (p.cs.drop j)) E (D+A * (mm - j)))/\∀ i (hi:i+1 < p.cs.length),Fit (p.cs[i]'(Nat.lt_of_succ_lt hi)) E D/\Fit ((horP a b (p.cs.drop (i+1))).mul (Pl.const a)) E (D+A * (mm - i))/\Fit ((p.cs[i]'(Nat.lt_of_succ_lt hi)).mul (Pl.const (b ^ (mm - i)))) E (D+A * (mm - i)):=by
    obtain ⟨lv,ng,ds,cs⟩:=p;simp only [Pl.lv,Pl.cs] at *;exact yit hfit hpos (xc4.lt HA.out) hb (M:=mm) (by have hmm2:cs.length=mm+1:=hmm; omega)
   have HHS:=Lib.hid hHS;obtain ⟨ad,hA1⟩:∃ ad,A1=some ad:=by
    obtain ⟨ad,B0,m0,d0,B1,m1,d1,e,-⟩:=kc3.kid H4.out 0 (by omega);exact ⟨ad,e⟩
   subst hA1;have HKID:Hid (∀ i (hi:i < p.cs.length),∃ B0 m0 d0 B1 d1,(∀ W',Ext w W'->W'.cell? (ad.add (i * 4))=some (.int .i64 p.cs[i].lv)/\W'.cell? ⟨(ad.add (i * 4)).block,(ad.add (i * 4)).off+1,none⟩=some (.bool p.cs[i].neg)/\W'.cell? ⟨(ad.add (i * 4)).block,(ad.add (i * 4)).off+2,none⟩=some (.slice B0 m0 d0)/\W'.cell? ⟨(ad.add (i * 4)).block,(ad.add (i * 4)).off+3,none⟩=some (.slice B1 p.cs[i].cs.length d1))/\PlV w q p.cs[i] (plV p.cs[i] (.slice B0 m0 d0) (.slice B1 p.cs[i].cs.length d1))):=Lib.hid (fun i hi=>by
    obtain ⟨ad',B0,m0,d0,B1,m1,d1,e,hadb,hnd,hkt⟩:=kc3.kid H4.out i hi;injection e with e
    subst e;obtain ⟨_,_,_,_,d9,e9,-⟩:=id hkt.open_;have em:m1=p.cs[i].cs.length:=by
     unfold plV at e9;simp only [Value.agg.injEq,Array.mk.injEq,List.cons.injEq,and_true,true_and,Value.slice.injEq] at e9;exact e9.2.2.1
    subst em
    exact ⟨B0,m0,d0,B1,d1,fun W' hx=>hnd.ext (HX0.out.trans hx) (by rw [uc2]; exact hadb),hkt.ext HX0.out⟩)
   have hwm:IntKind.i64.wrap ((p.cs.length:Int) - 1)=(mm:Int):=by rw [IntKind.wrap_i64]; omega
   have hwm1:IntKind.i64.wrap ((mm:Int) - 1)=(mm:Int) - 1:=by rw [IntKind.wrap_i64]; omega
   have hin2:(mm:Int) < (p.cs.length:Int):=by omega
   have hmi:mm < p.cs.length:=by omega
   obtain ⟨B0,m0,d0,B1,d1,hkc,hkp⟩:=HKID.out mm hmi;obtain ⟨e0,e1,e2,e3⟩:=hkc W HWX.out;have HST0:Hid (∀ T,AtR w p (.slice A0 n0 c0) (.slice (some ad) p.cs.length c1) (.bool an) (.slice Aa na ca) (horP a b (p.cs.drop mm)) (W.alloc (.cells #[.int .i64 (p.cs[mm]'hmi).lv,.bool (p.cs[mm]'hmi).neg,.slice B0 m0 d0,.slice B1 (p.cs[mm]'hmi).cs.length d1] T))):=Lib.hid (fun T=>by
    have hx:=(Ext.refl W).alloc (.cells #[.int .i64 (p.cs[mm]'hmi).lv,.bool (p.cs[mm]'hmi).neg,.slice B0 m0 d0,.slice B1 (p.cs[mm]'hmi).cs.length d1] T);refine ⟨HAS.out.ext hx,HZ.out.ext hx (by omega),?_⟩;rw [uij p.cs mm hmm.symm,<- hWs]
    exact jg5.new (hkp.ext HWX.out) T)
   have hmm1:p.cs.length<=mm+1:=by omega
   have hmm2:mm+1<=p.cs.length:=by omega
   have HMM:=Lib.hid hmm;clear k1 k2 hfit hdg hHS hkc hkp H4 hmm;generalize p.cs[mm]'hmi=km at *;go_enter Tryz.func141,Tryz.ntmps141;go_wp2_with fail;clear b0 b1 b2 b3 a0 a1 e0 e1 e2 e3
   go_loopw [15] (fun iv wr=>∃ j:Nat,j<=mm/\iv=.int .i64 ((j:Int) - 1)/\Hid (AtR w p (.slice A0 n0 c0) (.slice (some ad) p.cs.length c1) (.bool an) (.slice Aa na ca) (horP a b (p.cs.drop j)) wr)) (fun iv _=>(intOf iv+1).toNat)
   case atStart=>exact ⟨mm,Nat.le_refl _,rfl,HST0.out _⟩
   case round =>
    clear hW HST0;obtain ⟨j,hj,rfl,HI⟩:=hrel;have HI:=Lib.hid HI;have Y0:=Lib.hid ((Ext.refl wr).drew);cases j with
    | zero =>
      rw [show (((0:Nat):Int) - 1)=(-1:Int) by omega];obtain ⟨ee,hee⟩:=n_m (n - mm);have hsub:IntKind.i64.wrap ((n:Int) - (mm:Int))=(ee:Int):=by rw [IntKind.wrap_i64]; omega
      have hin3:(ee:Int) < (n:Int)+1:=by omega
      obtain ⟨hpb,bb,B,mb,db,pw0,pw1,hpi⟩:=HP.out ee (by omega);have HPW:Hid (∀ W',Ext w W'->W'.cell? (pad.add (ee * 2))=some (.bool bb)/\W'.cell? ⟨(pad.add (ee * 2)).block,(pad.add (ee * 2)).off+1,none⟩=some (.slice B mb db)):=Lib.hid (fun W' hx=>by
       have hb':(pad.add (ee * 2)).block < w.heap.size:=by rw [uc2]; exact hpb
       exact ⟨(hx.cell hb').trans pw0,(hx.cell (p:=⟨(pad.add (ee * 2)).block,(pad.add (ee * 2)).off+1,none⟩) hb').trans pw1⟩)
      have HPI:=Lib.hid hpi;have HS1:=Lib.hid (HHS.out.1 0);have hbe:A * ee<=A * (n+1):=Nat.mul_le_mul_left _ (by omega);have hbe2:A * (mm - 0)<=A * (n+1):=Nat.mul_le_mul_left _ (by omega);rw [hee] at HR;clear hpi pw0 pw1 hpb hee;obtain ⟨P0,hP0⟩:=n_m (horP a b (p.cs.drop 0));obtain ⟨P1,hP1⟩:=n_m (P0.mul (Pl.const (b ^ ee)));rw [hP0] at HI HS1 HR;rw [hP1] at HR;have HSC1:Hid (∀ (W':World) (v:Value) (q':Nat->Prop),Ext w W'->PlV W' q' P0 v->Calls Tryz.prog 25 #[v,.agg #[.bool bb,.slice B mb db]] W' (vc4 (fun b=>W'.heap.size<=b) P1 W')):=Lib.hid (fun W' v q' hx hv=>by
       rw [<- hP1]
       exact jg3 (L:=A * ee+1) _ _ hv (HPI.out.ext hx) HS1.out (by omega) (by omega))
      clear hP0 hP1 HPI HS1;obtain ⟨-,-,hg0,hgf,G0,gn0,gc0,G1,gn1,gc1,⟨g0,g1,g2,g3⟩,hgp⟩:=HI.out;have HGP:=Lib.hid (hgp.ext Y0.out);have HGB:Hid (yc3 wr.drew (w.heap.size+1+1+1) P0 (.slice G0 gn0 gc0) (.slice G1 gn1 gc1)):=Lib.hid (yc3.ext ⟨g0,g1,g2,g3⟩ Y0.out hg0);clear hgp hgf g0 g1 g2 g3;have hwx:Hid (Ext w wr):=Lib.hid HI.out.1.1;go_upto_region 18 with fail;refine wp_region_held_drew (S:=AtS w p (.slice A0 n0 c0) (.slice (some ad) p.cs.length c1) (.bool an) (.slice Aa na ca)) (by kernel_rfl) (HI.out.1.ext Y0.out) (fun hHeld=>?_);refine tk 1 ?_;refine tk 2 ?_;refine tk 3 ?_;refine tk 4 ?_;refine tk 5 ?_;refine tk 6 ?_ (hy:=Or.inl ⟨by rfl,by intro w' hSw; obtain ⟨p0,p1⟩:=HPW.out w' hSw.1; go_simp; (try (with_reducible rfl))⟩);refine r_1 0 fun K hK=>?_
      obtain ⟨g0,g1,g2,g3⟩:=HGB.out;go_simp;refine k_t hK (HI.out.1.ext Y0.out) fun hHeld=>?_
      clear hK K g0 g1 g2 g3;refine r_1 7 fun K hK=>?_
      go_simp
      go_at_call 25
      refine (HSC1.out _ _ _ (hwx.out.trans Y0.out) HGP.out).mono ?_;rintro e w2 ⟨z2,rfl,m2,x2⟩;obtain ⟨C2,i2,j2,D2,k2,rfl,-⟩:=id m2.open_;have z1:Ext wr w2:=Y0.out.trans x2;refine k_t hK (HI.out.1.ext z1) fun hHeld=>?_
      clear hK K;have hzn:=HI.out.2.1.ext z1 (by omega);have HF:=Lib.hid (gc5 (q':=fun b=>w.heap.size<=b) (hwx.out.trans z1) (by omega:w.heap.size<=w.heap.size+1+1) hzn m2 (fun b _ hb=>by
       have hb2:wr.drew.heap.size<=b:=hb;have:wr.drew.heap.size=wr.heap.size:=rfl
       exact ⟨by omega,by omega⟩))
      obtain ⟨⟨z00,z01,z02,z03⟩,zf⟩:=hzn;refine r_1 8 fun K hK=>?_
      unfold plV;go_simp;refine k_t hK ((HI.out.1.ext z1).store (Nat.le_refl _) _ _ _ _) fun hHeld=>?_
      clear hK K;refine w_d ?_;clear x2 hHeld HSC1 HPW;go_wp2_with fail;rw [HR.out];exact bodyPost_ret (v:=plV _ (.slice C2 i2 j2) (.slice D2 _ k2)) (by simp [results,Tryz.results141,go_sem,z00,z01,z02,z03,plV]) rfl HF.out
    | succ i =>
      rw [show (((i+1:Nat):Int) - 1)=(i:Int) by omega];have hi1:i+1 < p.cs.length:=by omega
      obtain ⟨ee,hee⟩:=n_m (mm - i);have hsub:IntKind.i64.wrap ((mm:Int) - (i:Int))=(ee:Int):=by rw [IntKind.wrap_i64]; omega
      have hdec:IntKind.i64.wrap ((i:Int) - 1)=(i:Int) - 1:=by rw [IntKind.wrap_i64]; omega
      have hini:(i:Int) < (p.cs.length:Int):=by omega
      have hin3:(ee:Int) < (n:Int)+1:=by omega
      obtain ⟨B0,m0,d0,B1,d1,hkc,hkp⟩:=HKID.out i (by omega);have HKC:=Lib.hid hkc;have HKP:=Lib.hid hkp;obtain ⟨hpb,bb,B,mb,db,pw0,pw1,hpi⟩:=HP.out ee (by omega);have HPW:Hid (∀ W',Ext w W'->W'.cell? (pad.add (ee * 2))=some (.bool bb)/\W'.cell? ⟨(pad.add (ee * 2)).block,(pad.add (ee * 2)).off+1,none⟩=some (.slice B mb db)):=Lib.hid (fun W' hx=>by
       have hb':(pad.add (ee * 2)).block < w.heap.size:=by rw [uc2]; exact hpb
       exact ⟨(hx.cell hb').trans pw0,(hx.cell (p:=⟨(pad.add (ee * 2)).block,(pad.add (ee * 2)).off+1,none⟩) hb').trans pw1⟩)
      have HPI:=Lib.hid hpi;obtain ⟨hf1,hf2,hf3⟩:=HHS.out.2 i hi1;have HS1:=Lib.hid (HHS.out.1 (i+1));have HF1:=Lib.hid hf1;have HF2:=Lib.hid hf2;have HF3:=Lib.hid hf3;have hbe:A * ee<=A * (n+1):=Nat.mul_le_mul_left _ (by omega);have hbe2:A * (mm - (i+1))<=A * (n+1):=Nat.mul_le_mul_left _ (by omega);have HST:Hid (horP a b (p.cs.drop i)=((horP a b (p.cs.drop (i+1))).mul (Pl.const a)).add ((p.cs[i]'(Nat.lt_of_succ_lt hi1)).mul (Pl.const (b ^ ee)))):=Lib.hid (by
       rw [gij p.cs i hi1,show p.cs.length - 1 - i=ee by omega])
      rw [hee] at HF2 HF3;clear hkc hkp hpi pw0 pw1 hpb hf1 hf2 hf3 hee;generalize p.cs[i]'_=ki at *;obtain ⟨P0,hP0⟩:=n_m (horP a b (p.cs.drop (i+1)));obtain ⟨P1,hP1⟩:=n_m (P0.mul (Pl.const a));obtain ⟨P2,hP2⟩:=n_m (ki.mul (Pl.const (b ^ ee)));rw [hP0] at HI HF2 HST HS1;rw [hP1] at HF2 HST;rw [hP2] at HF3 HST;have HSC1:Hid (∀ (W':World) (v:Value) (q':Nat->Prop),Ext w W'->PlV W' q' P0 v->Calls Tryz.prog 25 #[v,.agg #[.bool an,.slice Aa na ca]] W' (vc4 (fun b=>W'.heap.size<=b) P1 W')):=Lib.hid (fun W' v q' hx hv=>by
       rw [<- hP1]
       exact jg3 _ _ hv (HA.out.ext hx) HS1.out (by omega) (by omega))
      have HSC2:Hid (∀ (W':World),Ext w W'->Calls Tryz.prog 25 #[plV ki (.slice B0 m0 d0) (.slice B1 ki.cs.length d1),.agg #[.bool bb,.slice B mb db]] W' (vc4 (fun b=>W'.heap.size<=b) P2 W')):=Lib.hid (fun W' hx=>by
       rw [<- hP2]
       exact jg3 (L:=A * ee+1) _ _ (HKP.out.ext hx) (HPI.out.ext hx) HF1.out (by omega) (by omega))
      clear hP0 hP1 hP2 HPI HKP HF1 HS1;unfold plV at HSC2;obtain ⟨-,-,hg0,hgf,G0,gn0,gc0,G1,gn1,gc1,⟨g0,g1,g2,g3⟩,hgp⟩:=HI.out;have HGP:=Lib.hid (hgp.ext Y0.out);have HGB:Hid (yc3 wr.drew (w.heap.size+1+1+1) P0 (.slice G0 gn0 gc0) (.slice G1 gn1 gc1)):=Lib.hid (yc3.ext ⟨g0,g1,g2,g3⟩ Y0.out hg0);clear hgp hgf g0 g1 g2 g3;have hwx:Hid (Ext w wr):=Lib.hid HI.out.1.1;go_upto_region 17 with fail;refine wp_region_held_drew (S:=AtS w p (.slice A0 n0 c0) (.slice (some ad) p.cs.length c1) (.bool an) (.slice Aa na ca)) (by kernel_rfl) (HI.out.1.ext Y0.out) (fun hHeld=>?_);refine tk 1 ?_ (hy:=Or.inl ⟨by rfl,by intro w' hSw; obtain ⟨-,-,-,a0,a1⟩:=hSw; go_simp; (try (with_reducible rfl))⟩);refine tk 3 ?_;refine tk 4 ?_ (hy:=Or.inl ⟨by rfl,by intro w' hSw; obtain ⟨-,-,⟨b0,b1,b2,b3⟩,-,-⟩:=hSw; go_simp; (try (with_reducible rfl))⟩);refine tk 5 ?_;refine tk 6 ?_;refine tk 7 ?_ (hy:=Or.inl ⟨by rfl,by intro w' hSw; obtain ⟨k0,k1,k2,k3⟩:=HKC.out w' hSw.1; go_simp; (try (with_reducible rfl))⟩);refine tk 8 ?_;refine tk 9 ?_;refine tk 10 ?_;refine tk 11 ?_;refine tk 12 ?_;refine tk 13 ?_ (hy:=Or.inl ⟨by rfl,by intro w' hSw; obtain ⟨p0,p1⟩:=HPW.out w' hSw.1; go_simp; (try (with_reducible rfl))⟩);refine r_1 0 fun K hK=>?_
      obtain ⟨g0,g1,g2,g3⟩:=HGB.out;go_simp;refine k_t hK (HI.out.1.ext Y0.out) fun hHeld=>?_
      clear hK K g0 g1 g2 g3;refine r_1 2 fun K hK=>?_
      go_simp
      go_at_call 25
      refine (HSC1.out _ _ _ (hwx.out.trans Y0.out) HGP.out).mono ?_;rintro e w2 ⟨z2,rfl,m2,x2⟩;obtain ⟨C2,i2,j2,D2,k2,rfl,-⟩:=id m2.open_;have z1:Ext wr w2:=Y0.out.trans x2;refine k_t hK (HI.out.1.ext z1) fun hHeld=>?_
      clear hK K;refine r_1 14 fun K hK=>?_
      go_simp
      go_at_call 25
      refine (HSC2.out _ (hwx.out.trans z1)).mono ?_;rintro e w3 ⟨z3,rfl,m3,x3⟩;obtain ⟨C3,i3,j3,D3,k3,rfl,-⟩:=id m3.open_;have z2:Ext wr w3:=z1.trans x3;refine k_t hK (HI.out.1.ext z2) fun hHeld=>?_
      clear hK K;refine r_1 15 fun K hK=>?_
      unfold plV;go_simp;refine k_t hK (HI.out.1.ext (z2.alloc _)) fun hHeld=>?_
      clear hK K;refine r_1 16 fun K hK=>?_
      go_simp
      go_at_call 23
      refine (ui4 HF2.out HF3.out (by omega) (by omega) (Nat.le_refl 2) (by decide) (jiz (m2.ext x3) m3 _)).mono ?_;rintro e w4 ⟨z4,rfl,m4,x4⟩;obtain ⟨C4,i4,j4,D4,k4,rfl,-⟩:=id m4.open_;have z3:Ext wr w4:=(z2.alloc _).trans x4;refine k_t hK (HI.out.1.ext z3) fun hHeld=>?_
      clear hK K;have hs4:=z3.size;have hs5:=z2.size;have hpb4:=HI.out.2.2.ext z3;obtain ⟨hg0',hgf',G0',gn0',gc0',G1',gn1',gc1',⟨g0,g1,g2,g3⟩,-⟩:=id hpb4;refine r_1 17 fun K hK=>?_
      unfold plV;go_simp;refine (?atStored:∀ V,AtR w p (.slice A0 n0 c0) (.slice (some ad) p.cs.length c1) (.bool an) (.slice Aa na ca) (horP a b (p.cs.drop i)) V->K _ V) _ ⟨(HI.out.1.ext z3).store (Nat.le_succ _) _ _ _ _,(HI.out.2.1.ext z3 (by omega)).set_ (by omega) _ _ _ _,by
       rw [HST.out];refine hpb4.store m4 (fun b hb=>?_);have hb2:=hb;rw [World.size_alloc] at hb2
       omega⟩
      intro V hV;have HV:=Lib.hid hV;refine k_t hK hV.1 fun hHeld=>?_
      clear hK K;refine w_d ?_;clear m2 x2 m3 x3 m4 x4 z1 z2 z3 hHeld hpb4 hV g0 g1 g2 g3 hgf';go_wp2_with fail
      go_roundw
      case rel=>exact ⟨i,by omega,rfl,HV.out⟩
      case measure=>simp only [intOf]; omega
theorem ji9 {w:World} {q:Nat->Prop} {l a b:Int} {n A E D:Nat} {an:Bool} {Aa:Option Addr} {na ca pc:Nat} {pad:Addr} (hl:1<=l) (hE:E<=900) (hnE:n<=E) (hD:D+A * (n+1)+2<=1000000000000) (hA:xc4 w (.agg #[.bool an,.slice Aa na ca]) a A) (hb:b.natAbs < B32 ^ A) (hpc:n+1<=pc) (hpc2:pc<=9223372036854775807) (hP:∀ k,k<=n->jhl w pad b A k) (p:Pl) (v:Value) (hp:Fit p E D) (hd:p.dgL l<=n) (h:PlV w q p v) :
 Calls Tryz.prog 141 #[v,.int .i64 l,.agg #[.bool an,.slice Aa na ca],.slice (some pad) (n+1) pc] w (vc4 (fun b=>w.heap.size<=b) (p.atL l a b n) w):=
 yjb hl hE hnE hD hA hb hpc hpc2 hP (p.sz+1) p v w (Nat.lt_succ_self _) hp hd h (Ext.refl w)
end Go.Proofs.YtopddaabiinboaaGreat

/- Layer 22: recpoly.degree. -/
set_option maxRecDepth 100000
set_option maxHeartbeats 8000000
namespace Go.Proofs.YtopddaabiinboaaGreat
open Go.RowKit
theorem Pl.dgL_lt {l:Int} {p:Pl} (h:p.lv < l):p.dgL l=0:=by cases p; simp only [Pl.lv] at h; rw [Pl.dgL,if_pos h]
theorem Pl.dgL_eq {l:Int} {p:Pl} (h:p.lv=l):p.dgL l=p.cs.length - 1:=by
 cases p; simp only [Pl.lv,Pl.cs] at *; rw [Pl.dgL,if_neg (by omega),if_pos h]
theorem Pl.dgL_gt {l:Int} {p:Pl} (h:l < p.lv):p.dgL l=jc7 l 0 p.cs:=by
 cases p; simp only [Pl.lv,Pl.cs] at *; rw [Pl.dgL,if_neg (by omega),if_neg (by omega)]
def xja (w0:World) (q:Nat->Prop) (l:Int) (n:Nat):Prop:=∀ (p:Pl) (v:Value) (w:World),p.sz < n->p.Can->p.cs.length<=1099511627776->(∀ c ∈ p.cs,c.sz<=1099511627776)->PlV w0 q p v->Ext w0 w->Calls Tryz.prog 140 #[v,.int .i64 l] w (vc5 (p.dgL l) w)
theorem yi4 (w0:World) (q:Nat->Prop) (l:Int) (hl:1<=l) (n:Nat):xja w0 q l n:=by
 induction n with
 | zero=>intro p v w h; omega
 | succ n ih =>
 intro p v w hn hcan hlen hks h hx0;obtain ⟨A0,n0,c0,A,c,rfl,-,hl1,hl2,h4⟩:=h.open_;have IH:=Lib.hid ih;have H4:=Lib.hid h4;have HX0:=Lib.hid hx0;have HSZ:Hid (∀ k (hk:k < p.cs.length),p.cs[k].sz < n/\p.cs[k].Can/\p.cs[k].cs.length<=1099511627776/\∀ c ∈ p.cs[k].cs,c.sz<=1099511627776):=by
  have:∀ k (hk:k < p.cs.length),p.cs[k].sz < n/\p.cs[k].Can/\p.cs[k].cs.length<=1099511627776/\∀ c ∈ p.cs[k].cs,c.sz<=1099511627776:=fun k hk=>by
   have hm:=List.getElem_mem hk;have h1:=Pl.sz_kid hm;have h2:=hks _ hm;have h3:=Pl.sz_len p.cs[k];refine ⟨by omega,?_,by omega,fun c hc=>by have:=Pl.sz_kid hc; omega⟩;obtain ⟨lv,ng,ds,cs⟩:=p;rcases Int.lt_or_le 0 lv with h0 | h0
   · exact ((hcan.kids h0).2.2.2.1.mem _ hm).2
   · have:cs=[]:=by
      have:=hcan;rw [Pl.Can] at this;rcases this with ⟨-,h,-⟩ | ⟨h,-⟩
      · exact h
      · omega
     subst this;cases hm
  exact this
 obtain ⟨W,hW⟩:=n_m (w.alloc (.cells #[.int .i64 p.lv,.bool p.neg,.slice A0 n0 c0,.slice A p.cs.length c] 30));have hWx:Ext w W:=by rw [<- hW]; exact (Ext.refl w).alloc _
 have hWs:W.heap.size=w.heap.size+1:=by rw [<- hW]; simp
 have hbx:yc3 W w.heap.size p (.slice A0 n0 c0) (.slice A p.cs.length c):=by rw [<- hW]; exact yc3.new w p _ _ _
 have HWX:=Lib.hid hWx;have HBX:=Lib.hid hbx;obtain ⟨b0,b1,b2,b3⟩:=hbx;clear h h4 ih hx0 hks hWx;unfold plV
 by_cases k1:p.lv < l
 · rw [Pl.dgL_lt k1];have q1:decide (p.lv < l)=true:=by simpa using k1
   go_enter Tryz.func140,Tryz.ntmps140;go_wp2_with fail;go_ret;exact ⟨rfl,HWX.out⟩
 by_cases k2:p.lv=l
 · rw [Pl.dgL_eq k2];have q1:decide (p.lv < l)=false:=by simpa using k1
   have q2:(p.lv == l)=true:=by simpa using k2
   have hw:IntKind.i64.wrap ((p.cs.length:Int) - 1)=(p.cs.length:Int) - 1:=by simp [IntKind.wrap,IntKind.bits,IntKind.signed]; omega
   have HW1:=Lib.hid hw;clear k1 k2;clear HSZ HBX H4;generalize p.cs.length=N at *;go_enter Tryz.func140,Tryz.ntmps140;go_wp2_with fail;go_ret;exact ⟨by first | rfl | rw [HW1.out],HWX.out⟩
 · rw [Pl.dgL_gt (by omega)];have q1:decide (p.lv < l)=false:=by simpa using k1
   have q2:(p.lv == l)=false:=by simpa using k2
   clear k1 k2;go_enter Tryz.func140,Tryz.ntmps140;go_wp2_with fail;clear hW b0 b1 b2 b3
   go_loopw [25,5] (fun iv mv wr=>∃ k:Nat,k<=p.cs.length/\iv=.int .i64 k/\Hid (mv=.int .i64 (jc7 l 0 (p.cs.take k))/\Ext W wr)) (fun iv _ _=>p.cs.length - (intOf iv).toNat)
   case atStart=>exact ⟨0,Nat.zero_le _,rfl,⟨by simp [jc7],Ext.refl W⟩⟩
   case round =>
    obtain ⟨k,hk,rfl,⟨rfl,hxw⟩⟩:=hrel;have HXW:=Lib.hid hxw
    by_cases hlt:k < p.cs.length
    · obtain ⟨ad,B0,m0,d0,B1,m1,d1,rfl,hadb,hnd,hkt⟩:=kc3.kid H4.out k hlt;have hxx:Ext w0 wr:=(HX0.out.trans HWX.out).trans hxw;obtain ⟨e0,e1,e2,e3⟩:=hnd.ext hxx (by rw [uc2]; exact hadb);obtain ⟨hsz1,hsz2,hsz3,hsz4⟩:=HSZ.out k hlt;have HC:=Lib.hid (fun W' (hxW:Ext wr W')=>IH.out p.cs[k] _ W' hsz1 hsz2 hsz3 hsz4 hkt (hxx.trans hxW));have HSTEP:Hid (jc7 l 0 (p.cs.take (k+1))=max (jc7 l 0 (p.cs.take k)) (p.cs[k].dgL l)):=by
       have:jc7 l 0 (p.cs.take (k+1))=max (jc7 l 0 (p.cs.take k)) (p.cs[k].dgL l):=vhi _ _ _ _ hlt;exact this
      generalize jc7 l 0 (p.cs.take k)=mm at *;generalize p.cs[k]=ck at *;generalize ck.dgL l=dk at *;clear hnd hkt hadb hsz1 hsz2 hsz3 hsz4 hxx hxw;go_wp2_with fail;refine (HC.out _ ((Ext.refl _).alloc _)).mono ?_;rintro e w2 ⟨rfl,x2⟩;have X2:=Lib.hid ((HXW.out.alloc _).trans x2);clear x2 HC e0 e1 e2 e3;go_wp2_with fail
      go_roundw
      case rel=>exact ⟨k+1,by omega,by go_num,⟨by rw [HSTEP.out],X2.out⟩⟩
      case measure=>simp only [intOf]; omega
    · have hke:k=p.cs.length:=by omega
      rw [hke,List.take_length];clear hxw hke;generalize jc7 l 0 p.cs=mm at *;go_wp2_with fail;go_ret;exact ⟨rfl,HWX.out.trans HXW.out⟩
theorem yiv {w:World} {q:Nat->Prop} {l:Int} (hl:1<=l) (p:Pl) (v:Value) (hcan:p.Can) (hsz:p.sz<=1099511627776) (h:PlV w q p v):Calls Tryz.prog 140 #[v,.int .i64 l] w (vc5 (p.dgL l) w):=
 yi4 w q l hl (p.sz+1) p v w (Nat.lt_succ_self _) hcan (by have:=Pl.sz_len p; omega) (fun c hc=>by have:=Pl.sz_kid hc; omega) h (Ext.refl w)
end Go.Proofs.YtopddaabiinboaaGreat
