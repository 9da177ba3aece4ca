/- Layer 5 (rational): integers as fractions, lowest terms, negation. -/
import Derived.Test.YtheefiaoimbeiaaGreatDoorMp31
import Derived.Test.YtheefiaoimbeiaaGreatDoorMp19
set_option linter.unusedSimpArgs false
set_option linter.unusedVariables false
set_option maxRecDepth 100000
set_option maxHeartbeats 8000000
namespace Go.Proofs.YtheefiaoimbeiaaGreatDoor
open Lib (hid)
open Go.RowKit
theorem zeq (x:Value) (z:Int) (L:Nat) (w:World) (h:wdl w x z L) (hs:L<=17592186044416):Calls Tryz.prog 36 #[x] w (vdn (z:Rat) w):=by
 have H:=hid h;obtain ⟨neg,v,ds,rfl,⟨A,c,rfl,h1,h2,h3⟩,hz,hl⟩:=h;clear h3 hz;go_enter Tryz.func36,Tryz.ntmps36;go_wp2_with fail;generalize hW:(w.alloc (Obj.cells #[.bool neg,.slice A ds.length c] 25)).alloc (Obj.cells #[.bool false,.slice none 0 0,.slice none 0 0] 59)=W;have HX0:Hid (Ext w W):=by
  have:Ext w W:=by rw [<- hW]; exact ((Ext.refl w).alloc _).alloc _
  exact this
 have HWS:Hid (W.heap.size=w.heap.size+1+1):=by
  have:W.heap.size=w.heap.size+1+1:=by rw [<- hW]; simp
  exact this
 have HS:Hid (∀ W',Ext W W'->(Ext w W'/\W'.cell? ⟨w.heap.size,0,none⟩=some (.bool neg)/\W'.cell? ⟨w.heap.size,1,none⟩=some (.slice A ds.length c))):=by
  intro W' hx;obtain ⟨hc,hf⟩:=hx.cells;have hsz:=HWS.out;refine ⟨HX0.out.trans hx,?_,?_⟩ <;> (rw [hc _ _ (by omega),<- hW]; simp [go_sem])
 have HR:Hid (∀ W',Ext W W'->(W'.cell? ⟨w.heap.size+1,0,none⟩=some (.bool false)/\W'.cell? ⟨w.heap.size+1,1,none⟩=some (.slice none 0 0)/\W'.cell? ⟨w.heap.size+1,2,none⟩=some (.slice none 0 0)/\W'.frozen? ⟨w.heap.size+1,0,none⟩=false/\W'.frozen? ⟨w.heap.size+1,1,none⟩=false/\W'.frozen? ⟨w.heap.size+1,2,none⟩=false)):=by
  intro W' hx;obtain ⟨hc,hf⟩:=hx.cells;have hsz:=HWS.out;refine ⟨?_,?_,?_,?_,?_,?_⟩ <;> first | (rw [hc _ _ (by omega),<- hW]; simp [go_sem]; done) | (rw [hf _ _ (by omega),<- hW]; simp [go_sem]; done)
 clear hW;obtain ⟨e0,b0,b1⟩:=HS.out W (Ext.refl W);refine (qd7 _ z L _ (H.out.ext e0) (by omega)).mono ?_;rintro e w1 ⟨xn,rfl,⟨vn,rfl,An,cn,rfl,q1,q2,q3⟩,y1⟩;have Y1:=hid y1;have Q3:=hid q3;clear e0 b0 b1 y1 q3;go_wp2_with fail;refine (gd9 1 _ (by omega)).mono ?_;rintro e w2 ⟨v2,rfl,⟨A2,c2,rfl,p1,p2,p3⟩,y2⟩;obtain ⟨r0,r1,r2,f0,f1,f2⟩:=HR.out w2 (Y1.out.trans y2);have HF:=hid (ydo (q:=(z:Rat)) (g:=w.heap.size+1) (HX0.out.trans (Y1.out.trans y2)) (by omega) r0 r1 r2 rfl rfl rfl ⟨_,_,rfl,⟨An,cn,rfl,q1,q2,Q3.out.ext y2⟩,⟨A2,c2,rfl,p1,p2,p3⟩⟩);clear y2 p3;go_wp2_with fail;exact bodyPost_ret (v:=.agg #[.bool (decide (z < 0)),.slice An (dg z.natAbs).length cn,.slice A2 (dg 1).length c2]) (by simp [results,Tryz.results36,go_sem,r0,r1,r2]) rfl HF.out
theorem uef (z:Int) (w:World) (h0:-9223372036854775808<=z) (h1:z<=9223372036854775807):Calls Tryz.prog 43 #[.int .i64 z] w (vdn (z:Rat) w):=by
 go_enter Tryz.func43,Tryz.ntmps43;go_wp2_with fail;generalize hW:w.alloc (Obj.cells #[.bool false,.slice none 0 0,.slice none 0 0] 59)=W;have HX0:Hid (Ext w W):=by
  have:Ext w W:=by rw [<- hW]; exact (Ext.refl w).alloc _
  exact this
 have HWS:Hid (W.heap.size=w.heap.size+1):=by
  have:W.heap.size=w.heap.size+1:=by rw [<- hW]; simp
  exact this
 have HS:Hid (∀ W',Ext W W'->(Ext w W')):=by
  intro W' hx;obtain ⟨hc,hf⟩:=hx.cells;have hsz:=HWS.out;exact HX0.out.trans hx
 have HR:Hid (∀ W',Ext W W'->(W'.cell? ⟨w.heap.size,0,none⟩=some (.bool false)/\W'.cell? ⟨w.heap.size,1,none⟩=some (.slice none 0 0)/\W'.cell? ⟨w.heap.size,2,none⟩=some (.slice none 0 0)/\W'.frozen? ⟨w.heap.size,0,none⟩=false/\W'.frozen? ⟨w.heap.size,1,none⟩=false/\W'.frozen? ⟨w.heap.size,2,none⟩=false)):=by
  intro W' hx;obtain ⟨hc,hf⟩:=hx.cells;have hsz:=HWS.out;refine ⟨?_,?_,?_,?_,?_,?_⟩ <;> first | (rw [hc _ _ (by omega),<- hW]; simp [go_sem]; done) | (rw [hf _ _ (by omega),<- hW]; simp [go_sem]; done)
 clear hW;refine (of_int z _ h0 h1).mono ?_;rintro e w1 ⟨xn,rfl,nn,y1⟩;have hl:(dg z.natAbs).length<=2:=gdk (by (have h6:B32 ^ 2=18446744073709551616:=by decide); omega);have Y1:=hid y1;have NN:=hid nn;clear y1 nn;go_wp2_with fail;refine (zeq _ z _ _ NN.out.raw (by omega)).mono ?_;rintro e w2 ⟨x2,rfl,m2,y2⟩;obtain ⟨bz,Az,nz,cz,Bz,mz,dz,rfl⟩:=m2.unpack;obtain ⟨r0,r1,r2,f0,f1,f2⟩:=HR.out w2 (Y1.out.trans y2);have HF:=hid (ydo (g:=w.heap.size) (HX0.out.trans (Y1.out.trans y2)) (by omega) r0 r1 r2 rfl rfl rfl m2);clear y2 m2;go_wp2_with fail;exact bodyPost_ret (v:=.agg #[.bool bz,.slice Az nz cz,.slice Bz mz dz]) (by simp [results,Tryz.results43,go_sem,r0,r1,r2]) rfl HF.out
def jei (p q:Rat):Int:=if p < q then -1 else if q < p then 1 else 0
theorem yf2 {n1 n2:Int} {d1 d2:Nat} (h1:0 < d1) (h2:0 < d2):mkRat n1 d1<=mkRat n2 d2 ↔ n1 * d2<=n2 * d1:=by
 rw [Rat.le_iff_sub_nonneg,Rat.sub_eq_add_neg,Rat.neg_mkRat,Rat.mkRat_add_mkRat _ _ (by omega) (by omega),Int.neg_mul,<- Int.sub_eq_add_neg,<- Rat.divInt_ofNat];rw [Rat.divInt_nonneg_iff_of_pos_right (Int.natCast_pos.2 (tg h2 h1))];omega
theorem je5 {n1 n2:Int} {d1 d2:Nat} (h1:0 < d1) (h2:0 < d2):mkRat n1 d1 < mkRat n2 d2 ↔ n1 * d2 < n2 * d1:=by
 rw [<- Rat.not_le,yf2 h2 h1];omega
theorem uet {n1 n2:Int} {d1 d2:Nat} (h1:0 < d1) (h2:0 < d2):xdq (n1 * d2) (n2 * d1)=jei (mkRat n1 d1) (mkRat n2 d2):=by
 unfold xdq jei;simp only [je5 h1 h2,je5 h2 h1]
def gdm (l:List (ByteArray × Rat)) (s:ByteArray):Option Rat:=match l with
 | []=>none
 | (k,q) :: r=>if s=k then some q else gdm r s
theorem ged (l:List (ByteArray × Rat)) (k s:ByteArray) (q:Rat):gdm (l ++ [(k,q)]) s=(gdm l s).or (if s=k then some q else none):=by
 induction l with
 | nil=>simp [gdm]
 | cons x r ih =>
   obtain ⟨k',q'⟩:=x;simp only [rj,gdm]
   by_cases h:s=k'
   · simp [h]
   · simp [h,ih]
def xe8 (w:World) (ad:Addr) (s:ByteArray) (b s1 s2:Value):Prop:=
 w.cell? ad=some (.string s)/\w.cell? ⟨ad.block,ad.off+1,none⟩=some b/\w.cell? ⟨ad.block,ad.off+2,none⟩=some s1/\w.cell? ⟨ad.block,ad.off+3,none⟩=some s2
theorem xe8.ext {w w':World} {ad:Addr} {s:ByteArray} {b s1 s2:Value} (h:xe8 w ad s b s1 s2) (hx:Ext w w') (hb:ad.block < w.heap.size):xe8 w' ad s b s1 s2:=by
 obtain ⟨h0,h1,h2,h3⟩:=h;have k:∀ n,(⟨ad.block,ad.off+n,none⟩:Addr).block < w.heap.size:=fun n=>hb
 exact ⟨(hx.cell hb).trans h0,(hx.cell (k _)).trans h1,(hx.cell (k _)).trans h2,(hx.cell (k _)).trans h3⟩
def VsV (w:World) (L:Nat) (v:Value) (l:List (ByteArray × Rat)):Prop:=
 ∃ A c,v=.slice A l.length c/\l.length<=c/\c<=9223372036854775807/\∀ j (h:j < l.length),∃ ad bb A1 n1 c1 A2 n2 c2,A=some ad/\ad.block < w.heap.size/\xe8 w (ad.add (j * 4)) l[j].1 (.bool bb) (.slice A1 n1 c1) (.slice A2 n2 c2)/\kdp w (.agg #[.bool bb,.slice A1 n1 c1,.slice A2 n2 c2]) l[j].2 L
theorem VsV.ext {w w':World} {L:Nat} {v:Value} {l:List (ByteArray × Rat)} (h:VsV w L v l) (hx:Ext w w'):VsV w' L v l:=by
 obtain ⟨A,c,e,h1,h2,h3⟩:=h;refine ⟨A,c,e,h1,h2,fun j hj=>?_⟩;obtain ⟨ad,bb,A1,n1,c1,A2,n2,c2,e,hb,hv,hr⟩:=h3 j hj;exact ⟨ad,bb,A1,n1,c1,A2,n2,c2,e,pr hb hx.size,hv.ext hx (by rw [zc1]; exact hb),hr.ext hx⟩
def qd2 (w:World) (L b:Nat) (g:ByteArray->Option Rat):Prop:=
 ∃ l,jdp w b l/\∀ s,(g s=none/\xds l s=none)\/∃ q bb A1 n1 c1 A2 n2 c2,g s=some q/\xds l s=some (.agg #[.bool bb,.slice A1 n1 c1,.slice A2 n2 c2])/\kdp w (.agg #[.bool bb,.slice A1 n1 c1,.slice A2 n2 c2]) q L
theorem qd2.ext {w w':World} {L b:Nat} {g:ByteArray->Option Rat} (h:qd2 w L b g) (hx:Ext w w'):qd2 w' L b g:=by
 obtain ⟨l,h1,h2⟩:=h;refine ⟨l,h1.ext hx,fun s=>?_⟩;rcases h2 s with h | ⟨q,bb,A1,n1,c1,A2,n2,c2,e1,e2,e3⟩
 · exact .inl h
 · exact .inr ⟨q,bb,A1,n1,c1,A2,n2,c2,e1,e2,e3.ext hx⟩
theorem qf4:(Tryz.prog.info? 59).map (·.zero)=some (some (.agg #[.bool false,.slice none 0 0,.slice none 0 0])):=by kernel_rfl
theorem qd2.look {w:World} {L b:Nat} {g:ByteArray->Option Rat} (h:qd2 w L b g) (s:ByteArray):∃ bb A1 n1 c1 A2 n2 c2,(∀ ok,(Instr.lookup 117 (.map (some b)) (.string s) ok).run Tryz.prog w=.ok (if ok then .tuple #[.agg #[.bool bb,.slice A1 n1 c1,.slice A2 n2 c2],.bool (g s).isSome] else .agg #[.bool bb,.slice A1 n1 c1,.slice A2 n2 c2]) w)/\∀ q,g s=some q->kdp w (.agg #[.bool bb,.slice A1 n1 c1,.slice A2 n2 c2]) q L:=by
 obtain ⟨l,h1,h2⟩:=h;have hk:=fun ok=>h1.look (P:=Tryz.prog) Tryz.underlying117 ss qf4 s ok
 rcases h2 s with ⟨e1,e2⟩ | ⟨q,bb,A1,n1,c1,A2,n2,c2,e1,e2,e3⟩
 · refine ⟨false,none,0,0,none,0,0,fun ok=>?_,fun q hq=>by rw [e1] at hq; cases hq⟩;rw [hk ok,e1,e2]; rfl
 · refine ⟨bb,A1,n1,c1,A2,n2,c2,fun ok=>?_,fun q' hq=>by rw [e1] at hq; injection hq with hq; rw [<- hq]; exact e3⟩;rw [hk ok,e1,e2]; rfl
def vgp (L:Nat) (g:ByteArray->Option Rat) (w:World) (e:Ending) (w':World):Prop:=∃ b,e=.returned (.map (some b))/\qd2 w' L b g/\Ext w w'
theorem qd2.put {w w' : World} {L b : Nat} {g : ByteArray -> Option Rat} {s : ByteArray} {q : Rat} {bb : Bool} {A1 A2 : Option Addr} {n1 c1 n2 c2 : Nat} {l : List (ByteArray × Value)} (h2 : ∀ s, (g s = none /\ xds l s = none) \/ ∃ q bb A1 n1 c1 A2 n2 c2, g s = some q /\ xds l s = some (.agg #[.bool bb, .slice A1 n1 c1, .slice A2 n2 c2]) /\ kdp w (.agg #[.bool bb, .slice A1 n1 c1, .slice A2 n2 c2]) q L)
 (h1:jdp w' b (vd0 l s (.agg #[.bool bb,.slice A1 n1 c1,.slice A2 n2 c2]))) (hr:kdp w' (.agg #[.bool bb,.slice A1 n1 c1,.slice A2 n2 c2]) q L) (hx:∀ x q,kdp w x q L->kdp w' x q L):qd2 w' L b (fun t=>if t=s then some q else g t):=by
 refine ⟨_,h1,fun t=>?_⟩;rw [yee]
 by_cases ht:t=s
 · simp only [ht,if_true];exact .inr ⟨q,bb,A1,n1,c1,A2,n2,c2,rfl,rfl,hr⟩
 · simp only [ht,if_false];rcases h2 t with h | ⟨q,bb,A1,n1,c1,A2,n2,c2,e1,e2,e3⟩
   · exact .inl h
   · exact .inr ⟨q,bb,A1,n1,c1,A2,n2,c2,e1,e2,hx _ _ e3⟩
theorem ydm.isCells {w:World} {A:Option Addr} {ds:List Nat} (h:ydm w A ds) {w':World} (hs:w.heap.size<=w'.heap.size) {b:Nat} {es:Array MapEntry} {k:Nat} (hb:w.heap[b]?=some (.map es k)) (ho:∀ i,i < w.heap.size->i ≠ b->w'.heap[i]?=w.heap[i]?):ydm w' A ds:=
 ⟨h.1,fun hl=>by
   obtain ⟨ad,e,hb',hc⟩:=h.2 hl;refine ⟨ad,e,pr hb' hs,fun j hj=>?_⟩;have hne:ad.block ≠ b:=fun e=>by
    have h0:=hc 0 hl;rw [World.cell?,zc1,e,hb] at h0;simp at h0
   exact (ph (a:=ad.add j) (by rw [zc1]; exact ho _ hb' hne)).trans (hc j hj)⟩
theorem kdp.map {w w':World} {b L:Nat} {x:Value} {q:Rat} {l:List (ByteArray × Value)} (h:kdp w x q L) (hm:jdp w b l) (ho:Only b w w'):kdp w' x q L:=by
 obtain ⟨es,k,hb,-⟩:=hm;have key:∀ {A ds},ydm w A ds->ydm w' A ds:=fun {A ds} hd=>hd.isCells ho.size hb (fun i hi hne=>ho.block hi hne)
 obtain ⟨neg,s1,s2,ds,es,e,⟨A1,c1,e1,a1,a2,a3⟩,⟨A2,c2,e2,b1,b2,b3⟩,h3,h4,h5⟩:=h;exact ⟨neg,s1,s2,ds,es,e,⟨A1,c1,e1,a1,a2,key a3⟩,⟨A2,c2,e2,b1,b2,key b3⟩,h3,h4,h5⟩
theorem first_any {w:World} {L:Nat} {v:Value} {l:List (ByteArray × Rat)} (h:VsV w L v l):Calls Tryz.prog 49 #[v] w (vgp L (gdm l) w):=by
 have H:=hid h;obtain ⟨A,c,rfl,h1,h2,-⟩:=h;have hlen:l.length<=9223372036854775807:=by omega
 have hmm:=@run_makeMap Tryz.prog;go_enter Tryz.func49,Tryz.ntmps49;go_wp2_with fail;clear hmm
 go_loopw [11] (fun iv wr=>∃ k:Nat,k<=l.length/\iv=.int .i64 k/\Hid (qd2 wr L w.heap.size (gdm (l.take k))/\Ext w wr)) (fun iv _=>l.length - (intOf iv).toNat)
 case atStart=>exact ⟨0,pM _,rfl,⟨⟨[],jdp.made w,fun s=>.inl ⟨rfl,rfl⟩⟩,(Ext.refl w).alloc _⟩⟩
 case round =>
  obtain ⟨k,hk,rfl,⟨hM,hX⟩⟩:=hrel;have HM:=hid hM;have HX:=hid hX;clear hM hX
  by_cases hlt:k < l.length
  · obtain ⟨A',c',e',-,-,h3⟩:=H.out.ext HX.out;injection e' with e1 e2 e3
    obtain ⟨ad,bb,A1,n1,c1,A2,n2,c2,e4,hb,⟨a0,a1,a2,a3⟩,hr⟩:=h3 k hlt;obtain rfl:A=some ad:=e1.trans e4;have HRR:=hid hr;have HT:Hid (l.take (k+1)=l.take k ++ [l[k]]):=pg hlt;clear h3 e1 e3 e4 hr;rcases hlk:l[k] with ⟨nm,q⟩
    rw [hlk] at a0 HRR HT;dsimp only at a0 HRR;obtain ⟨W1,hW1⟩:=n_m (wr.alloc (.cells #[.string nm,.bool bb,.slice A1 n1 c1,.slice A2 n2 c2] 67));have hx1:Ext wr W1:=by rw [<- hW1]; exact (Ext.refl wr).alloc _
    obtain ⟨b3,A3,n3,c3,A4,n4,c4,afe,hrl⟩:=(HM.out.ext hx1).look nm;have hlo:=afe true;rw [if_pos rfl] at hlo;have d0:W1.cell? ⟨wr.heap.size,0,none⟩=some (.string nm):=by rw [<- hW1]; simp [go_sem]
    clear afe hrl hlk
    by_cases hg:gdm (l.take k) nm=none
    · rw [hg] at hlo;simp only [Option.isSome_none] at hlo;obtain ⟨W2,hW2⟩:=n_m (W1.alloc (.cells #[.bool b3,.slice A3 n3 c3,.slice A4 n4 c4] 59));have hx2:Ext wr W2:=by rw [<- hW2]; exact hx1.alloc _
      have f0:W2.cell? ⟨wr.heap.size,0,none⟩=some (.string nm):=by rw [<- hW2,<- hW1]; simp [go_sem]
      have f1:W2.cell? ⟨wr.heap.size,1,none⟩=some (.bool bb):=by rw [<- hW2,<- hW1]; simp [go_sem]
      have f2:W2.cell? ⟨wr.heap.size,2,none⟩=some (.slice A1 n1 c1):=by rw [<- hW2,<- hW1]; simp [go_sem]
      have f3:W2.cell? ⟨wr.heap.size,3,none⟩=some (.slice A2 n2 c2):=by rw [<- hW2,<- hW1]; simp [go_sem]
      obtain ⟨lm,hm1,hm2⟩:=HM.out.ext hx2;obtain ⟨W3,ahu,hm3,ho3⟩:=hm1.put (P:=Tryz.prog) Tryz.underlying117 ss nm (.agg #[.bool bb,.slice A1 n1 c1,.slice A2 n2 c2]);have HN:Hid (qd2 W3 L w.heap.size (gdm (l.take (k+1)))/\Ext w W3):=by
       have h9:=qd2.put hm2 hm3 ((HRR.out.ext hx2).map hm1 ho3) (fun x q hq=>hq.map hm1 ho3);have e9:(fun t=>if t=nm then some q else gdm (l.take k) t)=gdm (l.take (k+1)):=by
        funext t
        rw [HT.out,ged]
        by_cases ht:t=nm
        · rw [if_pos ht,ht,hg]; simp
        · rw [if_neg ht]; simp [ht]
       rw [e9] at h9;exact ⟨h9,ho3.ext (HX.out.trans hx2) (pf _)⟩
      clear hx1 hx2 hm1 hm2 hm3 ho3 hg HT HRR HM HX;go_wp2_with fail
      go_roundw
      case rel=>exact ⟨k+1,by omega,by go_num,HN⟩
      case measure=>simp [intOf]; omega
    · have anB:(gdm (l.take k) nm).isSome=true:=by cases hh:gdm (l.take k) nm <;> simp_all
      rw [anB] at hlo;have HN:Hid (∀ W2,Ext W1 W2->qd2 W2 L w.heap.size (gdm (l.take (k+1)))/\Ext w W2):=by
       intro W2 hx2;have e9:gdm (l.take (k+1))=gdm (l.take k):=by
        funext t
        rw [HT.out,ged]
        by_cases ht:t=nm
        · rw [ht]; cases hh:gdm (l.take k) nm <;> simp_all
        · simp [ht]
       rw [e9];exact ⟨HM.out.ext (hx1.trans hx2),HX.out.trans (hx1.trans hx2)⟩
      clear hx1 hg anB HT HRR HM HX;go_wp2_with fail
      go_roundw
      case rel=>exact ⟨k+1,by omega,by go_num,HN.out _ ((Ext.refl W1).alloc _)⟩
      case measure=>simp [intOf]; omega
  · have hke:k=l.length:=by omega
    have HD:Hid (qd2 wr L w.heap.size (gdm l)):=by
     have:=HM.out;rw [hke,pw] at this;exact this
    clear hke;go_wp2_with fail;go_ret;exact ⟨_,rfl,HD.out,HX.out⟩
def ydl (g:ByteArray->Option Rat) (l:List ByteArray):Bool:=l.all fun s=>(g s).isSome
theorem zfc (g:ByteArray->Option Rat) (l:List ByteArray) (k:Nat) (hk:k < l.length):ydl g (l.take (k+1))=(ydl g (l.take k) && (g l[k]).isSome):=by
 unfold ydl;rw [pg hk,ur]; simp
theorem ke7 (g:ByteArray->Option Rat) (l:List ByteArray) (k:Nat) (hk:k < l.length) (h:(g l[k]).isSome=false):ydl g l=false:=by
 unfold ydl;rw [tn];exact ⟨l[k],pt hk,by rw [h]; simp⟩
theorem yfl {w:World} {L b:Nat} {g:ByteArray->Option Rat} {v:Value} {l:List ByteArray} (hm:qd2 w L b g) (h:SlR (fun _ (s:ByteArray) x=>x=.string s) w v l):Calls Tryz.prog 50 #[.map (some b),v] w fun e w'=>e=.returned (.bool (ydl g l))/\Ext w w':=by
 have H:=hid h;have HM:=hid hm;obtain ⟨A,c,rfl,h1,h2,-⟩:=h;have hlen:l.length<=9223372036854775807:=by omega
 clear hm;go_enter Tryz.func50,Tryz.ntmps50;go_wp2_with fail
 go_loopw [11] (fun iv wr=>∃ k:Nat,k<=l.length/\iv=.int .i64 k/\Hid (ydl g (l.take k)=true/\Ext w wr)) (fun iv _=>l.length - (intOf iv).toNat)
 case atStart=>exact ⟨0,pM _,rfl,⟨by simp [ydl],Ext.refl w⟩⟩
 case round =>
  obtain ⟨k,hk,rfl,⟨hC,hX⟩⟩:=hrel;have HC:=hid hC;have HX:=hid hX;clear hC hX
  by_cases hlt:k < l.length
  · obtain ⟨ad,x,rfl,hc,hp⟩:=SlR.qt (SlR.ext H.out (fun _ _ h=>h) HX.out) k hlt;subst hp;obtain ⟨b3,A3,n3,c3,A4,n4,c4,afe,hrl⟩:=(HM.out.ext HX.out).look l[k];have hlo:=afe true;rw [if_pos rfl] at hlo;clear afe hrl
    by_cases hg:(g l[k]).isSome=true
    · rw [hg] at hlo;have HN:Hid (ydl g (l.take (k+1))=true):=by
       have:ydl g (l.take (k+1))=true:=by rw [zfc g l k hlt,HC.out,hg]; rfl
       exact this
      clear hg;go_wp2_with fail
      go_roundw
      case rel=>exact ⟨k+1,by omega,by go_num,⟨HN.out,HX.out.alloc _⟩⟩
      case measure=>simp [intOf]; omega
    · have hg':(g l[k]).isSome=false:=by simpa using hg
      rw [hg'] at hlo;have HN:=hid (ke7 g l k hlt hg');clear hg hg';go_wp2_with fail;go_ret;exact ⟨by rw [HN.out]; rfl,HX.out.alloc _⟩
  · have hke:k=l.length:=by omega
    have HD:Hid (ydl g l=true):=by
     have:=HC.out;rw [hke,pw] at this;exact this
    clear hke;go_wp2_with fail;go_ret;exact ⟨by rw [HD.out]; rfl,HX.out⟩
theorem qev (n:Int) (d:Nat) (h:d ≠ 0):(Rat.normalize n d h).num.natAbs<=n.natAbs/\(Rat.normalize n d h).den<=d:=by
 rw [Rat.normalize_eq];exact ⟨by show (n / _).natAbs<=_; exact Int.natAbs_ediv_le_natAbs _ _,Nat.div_le_self _ _⟩
theorem yev {q:Rat} {n d K:Nat} (hn:q.num.natAbs<=n) (hd:q.den<=d) (h1:(dg n).length<=K) (h2:(dg d).length<=K):rlen q<=K:=by
 have:=po (ydq hn) h1;have:=po (ydq hd) h2;unfold rlen;omega
theorem qep (q:Rat):(dg q.num.natAbs).length<=rlen q:=Nat.le_max_left _ _
theorem xeh (q:Rat):(dg q.den).length<=rlen q:=Nat.le_max_right _ _
theorem udr (q:Rat):1<=rlen q:=po (qd5 q.den_nz) (xeh q)
theorem vez (a b:Rat):(dg (a.num.natAbs * b.den)).length<=rlen a+rlen b:=po (jd5 _ _) (Nat.add_le_add (qep a) (xeh b))
theorem yfe (a b:Rat):(dg (a.den * b.den)).length<=rlen a+rlen b:=po (jd5 _ _) (Nat.add_le_add (xeh a) (xeh b))
theorem jep (a b:Rat):rlen (a+b)<=rlen a+rlen b+1:=by
 rw [Rat.add_def];have h:=qev (a.num * b.den+b.num * a.den) (a.den * b.den) (Nat.mul_ne_zero a.den_nz b.den_nz);have h1:(a.num * b.den+b.num * a.den).natAbs<=a.num.natAbs * b.den+b.num.natAbs * a.den:=by
  refine po (Int.natAbs_add_le _ _) ?_;rw [tP,tP,rP,rP];exact pf _
 refine yev (po h.1 h1) h.2 ?_ (po (yfe a b) (by omega));have h2:=kd5 (a.num.natAbs * b.den) (b.num.natAbs * a.den);have h3:=vez a b;have h4:=vez b a;omega
theorem xe4 (a:Rat):rlen (-a)=rlen a:=by unfold rlen; rw [Rat.neg_num,Rat.neg_den,Int.natAbs_neg]
theorem vfx (a b:Rat):rlen (a - b)<=rlen a+rlen b+1:=by
 rw [Rat.sub_eq_add_neg];have:=jep a (-b)
 rwa [xe4] at this
theorem yeh (a b:Rat):rlen (a * b)<=rlen a+rlen b:=by
 rw [Rat.mul_def];have h:=qev (a.num * b.num) (a.den * b.den) (Nat.mul_ne_zero a.den_nz b.den_nz);rw [tP] at h;exact yev h.1 h.2 (po (jd5 _ _) (Nat.add_le_add (qep a) (qep b))) (yfe a b)
theorem vet:(dg 1).length=1:=by rw [gd5 (by decide) (by decide)]; rfl
theorem zd3 (z:Int) {L:Nat} (h:(dg z.natAbs).length<=L) (hL:1<=L):rlen (z:Rat)<=L:=by
 unfold rlen;rw [Rat.num_intCast,Rat.den_intCast,vet];omega
theorem ufx:rlen (1:Rat)=1:=by
 have h:=zd3 1 (L:=1) (by show (dg 1).length<=1; rw [vet]; exact pf _) (by omega);have:=udr (1:Rat);have h':rlen (1:Rat)<=1:=by simpa using h
 omega
theorem ye4 (a:Rat) (n:Nat):rlen (a ^ n)<=max n 1 * rlen a:=by
 have hp:=udr a
 induction n with
 | zero=>rw [Rat.pow_zero,ufx]; simpa using hp
 | succ n ih =>
   cases n with
   | zero=>rw [sJ,Rat.pow_zero,Rat.one_mul]; simp
   | succ n =>
     rw [sJ];have h1:=yeh (a ^ (n+1)) a;rw [show max (n+1+1) 1=n+1+1 by omega,Nat.succ_mul (n+1)];rw [show max (n+1) 1=n+1 by omega] at ih;omega
def Tm.val (g : ByteArray -> Option Rat) : Tm -> Rat
 | .num z=>(z:Rat)
 | .name s=>(g s).getD 0
 | .add a b=>a.val g+b.val g
 | .sub a b=>a.val g - b.val g
 | .mul a b=>a.val g * b.val g
 | .neg a=>-a.val g
 | .pow a e=>a.val g ^ e.toNat
def Tm.bt (L : Nat) : Tm -> Nat
 | .num _=>L
 | .name _=>L
 | .add a b=>a.bt L+b.bt L+1
 | .sub a b=>a.bt L+b.bt L+1
 | .mul a b=>a.bt L+b.bt L
 | .neg a=>a.bt L
 | .pow a e=>max e.toNat 1 * a.bt L
def Tm.covered (g : ByteArray -> Option Rat) : Tm -> Prop
 | .num _=>True
 | .name s=>(g s).isSome=true
 | .add a b=>a.covered g/\b.covered g
 | .sub a b=>a.covered g/\b.covered g
 | .mul a b=>a.covered g/\b.covered g
 | .neg a=>a.covered g
 | .pow a _=>a.covered g
theorem Tm.jg (L:Nat) (hL:1<=L) (t:Tm):1<=t.bt L:=by
 induction t with
 | num z=>exact hL
 | name s=>exact hL
 | add a b iha ihb=>simp only [Tm.bt]; omega
 | sub a b iha ihb=>simp only [Tm.bt]; omega
 | mul a b iha ihb=>simp only [Tm.bt]; omega
 | neg a iha=>exact iha
 | pow a e iha=>simp only [Tm.bt]; exact po iha (sG _ (by omega))
theorem kdp.zP {w:World} {x:Value} {q:Rat} {L:Nat} (h:kdp w x q L) (hL:1<=L):rlen q<=L:=by
 obtain ⟨neg,s1,s2,ds,es,e,h1,h2,rfl,h4,h5⟩:=h
 by_cases h0:val es=0
 · rw [h0,Rat.mkRat_zero];have:=zd3 0 (L:=L) (by show (dg 0).length<=L; rw [jdn]; simp) hL;simpa using this
 · rw [<- Rat.normalize_eq_mkRat h0];have h:=qev (sgn neg (val ds)) (val es) h0;rw [gdo] at h;exact yev h.1 h.2 (po (xdk h1.xi) h4) (po (xdk h2.xi) h5)
theorem ud1 {w:World} {L:Nat} (hL:1<=L) {g:ByteArray->Option Rat} (hg:∀ s q,g s=some q->rlen q<=L) {t:Tm} {v:Value} (h:TmV w L t v) (hc:t.covered g):rlen (t.val g)<=t.bt L:=by
 induction t generalizing v with
 | num z=>obtain ⟨x,e,h⟩:=h; exact zd3 z h.len hL
 | name s =>
   simp only [Tm.covered] at hc;simp only [Tm.val,Tm.bt];cases hh:g s with
   | none=>rw [hh] at hc; cases hc
   | some q=>exact hg s q hh
 | add a b iha ihb =>
   obtain ⟨x,y,e,h,k⟩:=h;have h1:=iha h hc.1;have h2:=ihb k hc.2;have h3:=jep (a.val g) (b.val g);simp only [Tm.val,Tm.bt]; omega
 | sub a b iha ihb =>
   obtain ⟨x,y,e,h,k⟩:=h;have h1:=iha h hc.1;have h2:=ihb k hc.2;have h3:=vfx (a.val g) (b.val g);simp only [Tm.val,Tm.bt]; omega
 | mul a b iha ihb =>
   obtain ⟨x,y,e,h,k⟩:=h;have h1:=iha h hc.1;have h2:=ihb k hc.2;have h3:=yeh (a.val g) (b.val g);simp only [Tm.val,Tm.bt]; omega
 | neg a iha =>
   obtain ⟨x,e,h⟩:=h;have h1:=iha h hc;simp only [Tm.val,Tm.bt]; rw [xe4]; exact h1
 | pow a n iha =>
   obtain ⟨x,e,h⟩:=h;have h1:=iha h hc;have h2:=ye4 (a.val g) n.toNat;simp only [Tm.val,Tm.bt];exact po h2 (pX _ h1)
def rho (xs:List Rat) (i:Int):Rat:=xs.getD (i - 1).toNat 0
theorem qga (xs:List Rat) (l:Int) (h:(xs.length:Int) < l):rho xs l=0:=by
 unfold rho;rw [pB,sA (by omega)]; rfl
mutual
def Pl.eb (L : Nat) : Pl -> Nat
 | .mk _ _ d cs=>max d.length (jd0 L cs)+1
def jd0 (L : Nat) : List Pl -> Nat
 | []=>1
 | c :: r=>c.eb L+jd0 L r+L+2
end
theorem wfz (L:Nat) (cs:List Pl):1<=jd0 L cs:=by cases cs <;> simp only [jd0] <;> omega
theorem ygb (L:Nat) (cs:List Pl):∀ k,jd0 L (cs.drop k)<=jd0 L cs:=by
 induction cs with
 | nil=>intro k; simp
 | cons c r ih =>
   intro k;cases k with
   | zero=>exact pf _
   | succ k=>have:=ih k; rw [tW,jd0]; omega
theorem zf0 (L:Nat) {cs:List Pl} {c:Pl} (h:c ∈ cs):c.eb L<=jd0 L cs:=by
 induction cs with
 | nil=>cases h
 | cons x r ih =>
   rcases pI.1 h with rfl | h
   · rw [jd0]; omega
   · have:=ih h; rw [jd0]; omega
mutual
theorem Pl.yU (L : Nat) : ∀ (p : Pl) (D : Nat), p.dm <= D -> p.eb L + L + 2 <= p.sz * (D + L + 4)
 | .mk l n d cs,D,h=>by
   rw [Pl.dm] at h;have:=yfd L cs D (by omega);rw [Pl.eb,Pl.sz,pT,sw];omega
theorem yfd (L : Nat) : ∀ (cs : List Pl) (D : Nat), xd8 cs <= D -> jd0 L cs <= zdx cs * (D + L + 4) + 1
 | [],D,h=>by rw [jd0,zdx]; omega
 | c :: r,D,h=>by
   rw [xd8] at h;have h1:=Pl.yU L c D (by omega);have h2:=yfd L r D (by omega);rw [jd0,zdx,pT];omega
end
mutual
theorem Pl.zp (ρ : Int -> Rat) (L : Nat) (hρ : ∀ i, rlen (ρ i) <= L) : ∀ p : Pl, p.dig -> rlen (p.val ρ) <= p.eb L
 | .mk l n d cs,h=>by
   rw [Pl.dig] at h;rw [Pl.val,Pl.eb]
   by_cases h1:l<=0
   · rw [if_pos h1];refine zd3 _ ?_ (by have:=wfz L cs; omega);rw [gdo];have:=xdk h.1;omega
   · rw [if_neg h1]
     by_cases h4:4 < l
     · rw [if_pos h4];have:rlen ((0:Int):Rat)<=max d.length (jd0 L cs)+1:=zd3 0 (by simp [jdn]) (by omega);exact this
     · rw [if_neg h4];have:=jeh ρ L hρ l cs h.2;omega
theorem jeh (ρ : Int -> Rat) (L : Nat) (hρ : ∀ i, rlen (ρ i) <= L) (l : Int) : ∀ cs : List Pl, gdy cs -> rlen (wdk ρ l cs) <= jd0 L cs
 | [],h=>by
   rw [wdk,jd0];have:rlen ((0:Int):Rat)<=1:=zd3 0 (by simp [jdn]) (pf _);exact this
 | c :: r,h=>by
   rw [gdy] at h;rw [wdk,jd0];have h1:=Pl.zp ρ L hρ c h.1;have h2:=jeh ρ L hρ l r h.2;have h3:=jep (c.val ρ) (ρ l * wdk ρ l r);have h4:=yeh (ρ l) (wdk ρ l r);have h5:=hρ l;omega
end
theorem vfp {cs:List Pl} {c:Pl} (hd:gdy cs) (h:c ∈ cs):c.dig:=by
 induction cs with
 | nil=>cases h
 | cons x r ih =>
   rw [gdy] at hd;rcases pI.1 h with rfl | h
   · exact hd.1
   · exact ih hd.2 h
theorem gfh {cs:List Pl} (hd:gdy cs):∀ k,gdy (cs.drop k):=by
 induction cs with
 | nil=>intro k; simp [gdy]
 | cons x r ih =>
   rw [gdy] at hd;intro k;cases k with
   | zero=>rw [rU,gdy]; exact hd
   | succ k=>exact ih hd.2 k
theorem ufh (ρ:Int->Rat) (l:Int) (cs:List Pl) (k:Nat) (h:k < cs.length):wdk ρ l (cs.drop k)=cs[k].val ρ+ρ l * wdk ρ l (cs.drop (k+1)):=by
 rw [pY h,wdk]
def RsV (w:World) (L:Nat) (v:Value) (l:List Rat):Prop:=
 ∃ A c,v=.slice A l.length c/\l.length<=c/\c<=9223372036854775807/\∀ j (h:j < l.length),∃ ad bb A1 n1 c1 A2 n2 c2,A=some ad/\ad.block < w.heap.size/\(w.cell? (ad.add (j * 3))=some (.bool bb)/\w.cell? ⟨(ad.add (j * 3)).block,(ad.add (j * 3)).off+1,none⟩=some (.slice A1 n1 c1)/\w.cell? ⟨(ad.add (j * 3)).block,(ad.add (j * 3)).off+2,none⟩=some (.slice A2 n2 c2))/\kdp w (.agg #[.bool bb,.slice A1 n1 c1,.slice A2 n2 c2]) l[j] L
theorem RsV.ext {w w':World} {L:Nat} {v:Value} {l:List Rat} (h:RsV w L v l) (hx:Ext w w'):RsV w' L v l:=by
 obtain ⟨A,c,e,h1,h2,h3⟩:=h;refine ⟨A,c,e,h1,h2,fun j hj=>?_⟩;obtain ⟨ad,bb,A1,n1,c1,A2,n2,c2,e,hb,⟨k0,k1,k2⟩,hr⟩:=h3 j hj;have hb':(ad.add (j * 3)).block < w.heap.size:=by rw [zc1]; exact hb
 exact ⟨ad,bb,A1,n1,c1,A2,n2,c2,e,pr hb hx.size,⟨(hx.cell hb').trans k0,(hx.cell (p:=⟨(ad.add (j * 3)).block,(ad.add (j * 3)).off+1,none⟩) hb').trans k1,(hx.cell (p:=⟨(ad.add (j * 3)).block,(ad.add (j * 3)).off+2,none⟩) hb').trans k2⟩,hr.ext hx⟩
theorem jga {w:World} {L:Nat} {v:Value} {l:List Rat} (hL:1<=L) (h:RsV w L v l) (i:Int):rlen (rho l i)<=L:=by
 obtain ⟨A,c,e,h1,h2,h3⟩:=h;unfold rho
 by_cases hi:(i - 1).toNat < l.length
 · obtain ⟨ad,bb,A1,n1,c1,A2,n2,c2,-,-,-,hr⟩:=h3 _ hi;rw [pB,pq hi];exact hr.zP hL
 · rw [pB,sA (by omega)];have:rlen ((0:Int):Rat)<=L:=zd3 0 (by simp [jdn]) hL;exact this
end Go.Proofs.YtheefiaoimbeiaaGreatDoor
