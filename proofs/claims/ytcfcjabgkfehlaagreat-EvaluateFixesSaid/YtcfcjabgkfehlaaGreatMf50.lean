/- Plain: a matrix with values for its first variables: what evaluate.Fix computes. -/
import Derived.Test.YtcfcjabgkfehlaaGreatMf30
import Derived.Test.YtcfcjabgkfehlaaGreatMf39
import Derived.Test.YtcfcjabgkfehlaaGreatMf41
import Derived.Test.YtcfcjabgkfehlaaGreatMf44
import Derived.Test.YtcfcjabgkfehlaaGreatMf42
import Derived.Test.YtcfcjabgkfehlaaGreatMf47
import Derived.Test.YtcfcjabgkfehlaaGreatMf40
import Derived.Test.YtcfcjabgkfehlaaGreatMf49
import Derived.Lib.MinMax
set_option linter.unusedSimpArgs false
set_option linter.unusedVariables false
namespace Go.Proofs.YtcfcjabgkfehlaaGreat
open Go.RowKit
def qo (xs : List Rat) (p : Pl) : Nat -> Pl
 | 0=>p
 | k+1=>(qo xs p k).atQ (k+1) (xs.getD k 0).num (xs.getD k 0).den
theorem xax {xs : List Rat} {L : Nat} (hL : ∀ x ∈ xs, rlen x <= L) (h1 : 1 <= L) {p : Pl} {E D : Nat} (h : Fit p E D) : ∀ k, Fit (qo xs p k) E (D + L * E * k)
 | 0=>h
 | k+1=>by
   have hx:rlen (xs.getD k 0)<=L:=by
    rw [List.getD_eq_getElem?_getD]
    by_cases hk:k < xs.length
    · rw [List.getElem?_eq_getElem hk];exact hL _ (List.getElem_mem hk)
    · rw [List.getElem?_eq_none (by omega)];exact uag 0 (by simp [jk]) h1
   have hdg:∀ k:Nat,(dg k).length<=L->k < B32 ^ L:=fun k hk=>by
    have h1:=qx (gah k);rw [je] at h1;exact Nat.lt_of_lt_of_le h1 (Nat.pow_le_pow_right (by decide) hk)
   rw [qo,Nat.mul_succ,<- Nat.add_assoc];exact (xax hL h1 h k).atQ (by omega) (hdg _ (Nat.le_trans (zat _) hx)) (hdg _ (Nat.le_trans (yam _) hx))
theorem qax {xs : List Rat} {p : Pl} (h : p.Can) : ∀ k, (qo xs p k).Can
 | 0=>h
 | k+1=>Pl.atQ_can (by omega) (qax h k)
theorem vbp (x:Rat):x * (((x.den:Int)):Rat)=((x.num:Int):Rat):=by
 have h:((x.den:Int):Rat)=(x.den:Rat):=by push_cast; rfl
 have h1:=Rat.mkRat_self x;rw [Rat.mkRat_eq_div] at h1;have h2:(x.den:Rat) ≠ 0:=fun e=>by
  have:x.den=0:=by exact_mod_cast e
  have:=x.den_pos;omega
 have h3:((x.num:Rat) / (x.den:Rat)) * (x.den:Rat)=(x.num:Rat):=Rat.div_mul_cancel h2;rw [h1] at h3;rw [h];exact h3
theorem ja3 {b : Rat} (h : 0 < b) : ∀ n : Nat, 0 < b ^ n
 | 0=>by rw [Rat.pow_zero]; decide
 | n+1=>by rw [Rat.pow_succ]; exact Rat.mul_pos (ja3 h n) h
theorem qbm {xs : List Rat} {p : Pl} (h : p.Can) {ρ : Int -> Rat} : ∀ k, (∀ i : Nat, i < k -> ρ ((i : Int) + 1) = xs.getD i 0) -> ∃ c : Rat, 0 < c /\ (qo xs p k).val ρ = c * p.val ρ
 | 0,_=>⟨1,by decide,by rw [qo]; grind⟩
 | k+1,hρ=>by
   obtain ⟨c,hc,e⟩:=qbm h k fun i hi=>hρ i (by omega)
   have hx:ρ ((k:Int)+1) * ((((xs.getD k 0).den:Int)):Rat)=(((xs.getD k 0).num:Int):Rat):=by
    rw [hρ k (by omega)];exact vbp _
   have hd:(0:Rat) < (((((xs.getD k 0).den:Int)):Rat)):=by
    have:(0:Int) < ((xs.getD k 0).den:Int):=by have:=(xs.getD k 0).den_pos; omega
    exact_mod_cast this
   refine ⟨((((xs.getD k 0).den:Int)):Rat) ^ ((qo xs p k).dgL ((k:Int)+1)).toNat * c,Rat.mul_pos (ja3 hd _) hc,?_⟩;rw [qo,Pl.atQ_val (by omega) hx (qax h k),e]
   grind
mutual
def Mx.fix (xs : List Rat) : Mx -> Mx
 | .mk k r p ks=>if k=1 then .mk 1 0 Pl.zero [] else if k=2 then .mk 2 (wah r) (qo xs p.nf xs.length) [] else if k=3\/k=4 then .mk k 0 Pl.zero (gad xs ks) else .mk 0 0 Pl.zero []
def gad (xs : List Rat) : List Mx -> List Mx
 | []=>[]
 | t :: r=>t.fix xs :: gad xs r
end
theorem zci (xs:List Rat) (l:List Mx):gad xs l=l.map (Mx.fix xs):=by
 induction l with
 | nil=>rfl
 | cons t r ih=>rw [gad,ih]; rfl
theorem Mx.fix_eq (xs:List Rat) (t:Mx):t.fix xs=if t.kind=1 then .mk 1 0 Pl.zero [] else if t.kind=2 then .mk 2 (wah t.rel) (qo xs t.p.nf xs.length) [] else if t.kind=3\/t.kind=4 then .mk t.kind 0 Pl.zero (t.ks.map (Mx.fix xs)) else .mk 0 0 Pl.zero []:=by
 cases t with
 | mk k r p ks=>rw [Mx.fix,zci]; rfl
mutual
theorem Mx.fix_sz (xs : List Rat) : ∀ t : Mx, (t.fix xs).sz <= t.sz
 | .mk k r p ks=>by
   have:=zbu xs ks;rw [Mx.fix,Mx.sz]
   split
   · rw [Mx.sz,zy]; omega
   · split
     · rw [Mx.sz,zy]; omega
     · split
       · rw [Mx.sz]; omega
       · rw [Mx.sz,zy]; omega
theorem zbu (xs : List Rat) : ∀ l : List Mx, zy (gad xs l) <= zy l
 | []=>by rw [gad]; omega
 | t :: r=>by
   have h1:=t.fix_sz xs;have h2:=zbu xs r;rw [gad,zy,zy]; omega
end
mutual
theorem Mx.fix_each {xs : List Rat} {P : Pl -> Prop} (hz : P Pl.zero) : ∀ t : Mx, t.each (fun p => P (qo xs p.nf xs.length)) -> (t.fix xs).each P
 | .mk k r p ks,h=>by
   rw [Mx.each] at h;rw [Mx.fix]
   split
   · rw [Mx.each,jw]; exact ⟨hz,trivial⟩
   · split
     · rw [Mx.each,jw]; exact ⟨h.1,trivial⟩
     · split
       · rw [Mx.each]; exact ⟨hz,vbe hz ks h.2⟩
       · rw [Mx.each,jw]; exact ⟨hz,trivial⟩
theorem vbe {xs : List Rat} {P : Pl -> Prop} (hz : P Pl.zero) : ∀ l : List Mx, jw (fun p => P (qo xs p.nf xs.length)) l -> jw P (gad xs l)
 | [],_=>by rw [gad,jw]; trivial
 | t :: r,h=>by rw [jw] at h; rw [gad,jw]; exact ⟨t.fix_each hz h.1,vbe hz r h.2⟩
end
theorem ubw (r:Int):wah (wah r)=wah r:=by unfold wah; split <;> (try split) <;> omega
mutual
theorem Mx.fix_nrm (xs : List Rat) : ∀ t : Mx, (t.fix xs).nrm = t.fix xs
 | .mk k r p ks=>by
   rw [Mx.fix]
   by_cases h1:k=1
   · rw [if_pos h1,Mx.nrm,if_pos rfl]
   · rw [if_neg h1]
     by_cases h2:k=2
     · rw [if_pos h2,Mx.nrm,if_neg (by omega),if_pos rfl,ubw,Pl.nf_of_can (qax p.nf_can _)]
     · rw [if_neg h2]
       by_cases h3:k=3\/k=4
       · rw [if_pos h3,Mx.nrm,if_neg h1,if_neg h2,if_pos h3,jbm xs ks]
       · rw [if_neg h3,Mx.nrm,if_neg (by omega),if_neg (by omega),if_neg (by omega)]
theorem jbm (xs : List Rat) : ∀ l : List Mx, qa6 (gad xs l) = gad xs l
 | []=>by rw [gad,qa6]
 | t :: r=>by rw [gad,qa6,t.fix_nrm xs,jbm xs r]
end
/- Plain: a matrix with values for its first variables has the same truth value, and its polynomials are those with the values. -/
theorem wbv {c q:Rat} (hc:0 < c):sgQ (c * q)=sgQ q:=by
 have h1:(c * q < 0) ↔ q < 0:=by
  constructor
  · intro h
    by_cases hq:0<=q
    · have:=Rat.mul_nonneg (Rat.le_of_lt hc) hq; grind
    · grind
  · intro h;have:=Rat.mul_pos hc (show 0 < -q by grind)
    grind
 have h2:(0 < c * q) ↔ 0 < q:=by
  constructor
  · intro h
    by_cases hq:q<=0
    · have:=Rat.mul_nonneg (Rat.le_of_lt hc) (show 0<=-q by grind); grind
    · grind
  · intro h;exact Rat.mul_pos hc h
 unfold sgQ wa0;simp only [h1,h2]
mutual
theorem Mx.fix_tv {xs : List Rat} {ρ : Int -> Rat} (hρ : ∀ i : Nat, i < xs.length -> ρ ((i : Int) + 1) = xs.getD i 0) : ∀ t : Mx, (t.fix xs).tv ρ = t.tv ρ
 | .mk k r p ks=>by
   rw [Mx.fix,Mx.tv]
   by_cases h1:k=1
   · rw [if_pos h1,if_pos h1,Mx.tv,if_pos rfl]
   · rw [if_neg h1,if_neg h1]
     by_cases h2:k=2
     · obtain ⟨c,hc,e⟩:=qbm p.nf_can xs.length hρ;rw [if_pos h2,if_pos h2,Mx.tv,if_neg (by omega),if_pos rfl,uby,e,wbv hc,Pl.nf_val]
     · rw [if_neg h2,if_neg h2]
       by_cases h3:k=3
       · rw [if_pos (.inl h3),if_pos h3,Mx.tv,if_neg h1,if_neg h2,if_pos h3,vbm hρ ks]
       · rw [if_neg h3]
         by_cases h4:k=4
         · rw [if_pos (.inr h4),if_pos h4,Mx.tv,if_neg h1,if_neg h2,if_neg h3,if_pos h4,kbm hρ ks]
         · rw [if_neg (by omega),if_neg h4,Mx.tv,if_neg (by omega),if_neg (by omega),if_neg (by omega),if_neg (by omega)]
theorem vbm {xs : List Rat} {ρ : Int -> Rat} (hρ : ∀ i : Nat, i < xs.length -> ρ ((i : Int) + 1) = xs.getD i 0) : ∀ l : List Mx, allM ρ (gad xs l) = allM ρ l
 | []=>by rw [gad]
 | t :: r=>by rw [gad,allM,allM,Mx.fix_tv hρ t,vbm hρ r]
theorem kbm {xs : List Rat} {ρ : Int -> Rat} (hρ : ∀ i : Nat, i < xs.length -> ρ ((i : Int) + 1) = xs.getD i 0) : ∀ l : List Mx, anyM ρ (gad xs l) = anyM ρ l
 | []=>by rw [gad]
 | t :: r=>by rw [gad,anyM,anyM,Mx.fix_tv hρ t,kbm hρ r]
end
mutual
theorem Mx.fix_pols (xs : List Rat) : ∀ t : Mx, (t.fix xs).pols = t.pols.map fun p => qo xs p xs.length
 | .mk k r p ks=>by
   rw [Mx.fix,Mx.pols]
   by_cases h1:k=1
   · rw [if_pos h1,Mx.pols,if_neg (by omega),if_neg (by omega),if_neg (by omega),if_neg (by omega)]; rfl
   · rw [if_neg h1]
     by_cases h2:k=2
     · rw [if_pos h2,if_pos h2,Mx.pols,if_pos rfl,Pl.nf_of_can (qax p.nf_can _)]; rfl
     · rw [if_neg h2,if_neg h2]
       by_cases h3:k=3\/k=4
       · rw [if_pos h3,if_pos h3,Mx.pols,if_neg h2,if_pos h3,kbe xs ks]
       · rw [if_neg h3,if_neg h3,Mx.pols,if_neg (by omega),if_neg (by omega)]; rfl
theorem kbe (xs : List Rat) : ∀ l : List Mx, zo (gad xs l) = (zo l).map fun p => qo xs p xs.length
 | []=>by rw [gad,zo]; rfl
 | t :: r=>by rw [gad,zo,zo,t.fix_pols xs,kbe xs r,List.map_append]
end
theorem Mx.fix_fit {t:Mx} (hs:t.small) (hd:t.each Pl.dig) {xs:List Rat} (hx:∀ x ∈ xs,rlen x<=3) (hn:xs.length<=4):(t.fix xs).each (fun p=>Fit p 40 485):=by
 refine t.fix_each ⟨Pl.zero_can,(Fit.zero (D:=485)).ex,(Fit.zero (E:=40) (D:=485)).nr⟩ (Mx.each_mono (fun p hp=>?_) t (t.each_and (t.small_each hs) hd));obtain ⟨⟨hsz,hdm⟩,hdg⟩:=hp;have h:=xax hx (by omega) (Fit.of_raw hdg hsz hdm (by decide)) xs.length;exact h.mono (Nat.le_refl _) (by have:3 * 40 * xs.length<=3 * 40 * 4:=Nat.mul_le_mul_left _ hn; omega)
theorem Fit.bigN {p:Pl} {E D:Nat} (h:Fit p E D) (hE:E<=170) (hD:D<=1000000000):wap p:=.inr ⟨h.can,by have:=h.small hE; omega,by have:=h.dm; omega⟩
theorem Fit.eb_ {p:Pl} {D:Nat} (h:Fit p 40 D) (hD:D<=10000):p.eb 3<=1099511627776:=
 yck h.dm (Nat.le_trans (Nat.mul_le_mul_right _ h.sz) (by
  have:(40+2) ^ 4 * (D+3+4)<=(40+2) ^ 4 * 10007:=Nat.mul_le_mul_left _ (by omega)
  exact Nat.le_trans this (by decide)))
/- Layer 40: evaluate.Fix. -/
set_option maxRecDepth 100000
set_option maxHeartbeats 8000000
theorem wab.turn {W W':World} {g:Nat} (h:wab W g) (hb:W'.heap[g]?=W.heap[g]?) (hf:∀ a,W'.frozen? a=W.frozen? a):wab W' g:=⟨h.1.turn hb,fun i=>(hf _).trans (h.2 i)⟩
def jar (w:World) (g:Nat) (p:Pl) (V:World):Prop:=Ext w V/\w.heap.size+1 < g/\wab V (w.heap.size+1)/\g < V.heap.size/\(∀ i,V.frozen? ⟨g,i,none⟩=false)/\∃ A0 n0 c0 A1 n1 c1,uf V g p (.slice A0 n0 c0) (.slice A1 n1 c1)/\PlV V (fun b=>w.heap.size+1 < b/\b ≠ g) p (plV p (.slice A0 n0 c0) (.slice A1 n1 c1))
theorem jar.ext {w V V':World} {g:Nat} {p:Pl} (h:jar w g p V) (hx:Ext V V'):jar w g p V':=by
 obtain ⟨h1,h2,h3,h4,h5,A0,n0,c0,A1,n1,c1,h6,h7⟩:=h;exact ⟨h1.trans hx,h2,h3.ext hx (by omega),Nat.lt_of_lt_of_le h4 hx.size,fun i=>(hx.frozen (p:=⟨g,i,none⟩) h4).trans (h5 i),A0,n0,c0,A1,n1,c1,h6.ext hx h4,h7.ext hx⟩
theorem jar.store {w V:World} {g:Nat} {p p':Pl} (h:jar w g p V) {q:Nat->Prop} {A0 A1:Option Addr} {n0 c0 n1 c1:Nat} (hp:PlV V q p' (plV p' (.slice A0 n0 c0) (.slice A1 n1 c1))) (hq:∀ b,q b->w.heap.size+1 < b/\b ≠ g) :
 jar w g p' ((((V.setCell ⟨g,0,none⟩ (.int .i64 p'.lv)).setCell ⟨g,1,none⟩ (.bool p'.neg)).setCell ⟨g,2,none⟩ (.slice A0 n0 c0)).setCell ⟨g,3,none⟩ (.slice A1 n1 c1)):=by
 obtain ⟨h1,h2,h3,h4,h5,B0,m0,d0,B1,m1,d1,h6,h7⟩:=h;have hg:w.heap.size<=g:=by omega
 exact ⟨(((h1.setCell hg _).setCell hg _).setCell hg _).setCell hg _,h2,h3.turn (vag _ _ _ _ _ _ _ (by omega)) (fun a=>by simp only [World.frozen?_setCell]),by simpa [World.setCell] using h4,fun i=>by simp only [World.frozen?_setCell]; exact h5 i,_,_,_,_,_,_,h6.set,h6.keep _ _ _ _ hp fun b _ hb=>⟨(hq b hb).2,hq b hb⟩⟩
theorem jar.new {w V:World} {p:Pl} {A0 A1:Option Addr} {n0 c0 n1 c1:Nat} (hx:Ext w V) (hs:w.heap.size+1 < V.heap.size) (hz:wab V (w.heap.size+1)) (hp:PlV V (fun b=>w.heap.size+1 < b) p (plV p (.slice A0 n0 c0) (.slice A1 n1 c1))) (T:TypeId):jar w V.heap.size p (V.alloc (.cells #[.int .i64 p.lv,.bool p.neg,.slice A0 n0 c0,.slice A1 n1 c1] T)):=by
 have hxa:Ext V (V.alloc (.cells #[.int .i64 p.lv,.bool p.neg,.slice A0 n0 c0,.slice A1 n1 c1] T)):=(Ext.refl V).alloc _;refine ⟨hx.trans hxa,hs,hz.ext hxa hs,by simp,fun i=>by simp [go_sem],A0,n0,c0,A1,n1,c1,uf.new V p _ _ _,?_⟩;exact PlV.turn_ (V.size_alloc _ ▸ Nat.le_succ _) (fun _ _ h=>h.ext hxa) (fun b hb hq=>⟨⟨hq,by omega⟩,hxa.below.block b hb⟩) hp
theorem zal.ext {w:World} {m:Mx} {s A K:Value} {l:List Mx} {wr V:World} (h:zal w m s A K l wr) (hx:Ext wr V):zal w m s A K l V:=by
 obtain ⟨h1,h2,h3,h4,ov,⟨h5,h6⟩,h7⟩:=h;have hs:=hx.size;exact ⟨h1.trans hx,by omega,h3.ext hx (by omega),h4.ext hx (by omega),ov,⟨h5.ext hx (by omega),fun i=>(hx.frozen (p:=⟨w.heap.size+1+1,i,none⟩) (by show w.heap.size+1+1 < _; omega)).trans (h6 i)⟩,h7.turn hs (fun b _ hb=>hx.below.block b hb) (fun _ _ h=>h.ext hx)⟩
def qcx (p:Pl):Prop:=wap p/\Fit p.nf 40 5
def gcy (L:Nat) (xs:List Rat) (xa:Addr) (xc n:Nat):Prop:=∀ (q:Nat->Prop) (t:Mx) (v:Value) (w:World),t.sz < n->t.sz<=1000000->t.each qcx->MxV w q t v->RsV w L (.slice (some xa) xs.length xc) xs->Calls Tryz.prog 38 #[v,.slice (some xa) xs.length xc] w (uaa (fun b=>w.heap.size<=b) (t.fix xs) w)
theorem wcv {L:Nat} {xs:List Rat} {xa:Addr} {xc:Nat} (hL:1<=L) (hL2:L<=1000000) (hN:xs.length<=4) (n:Nat):gcy L xs xa xc n:=by
 induction n with
 | zero=>intro q t v w h; omega
 | succ n ih =>
 intro q t v w hn hbig hsm h hxs;have hkl:t.ks.length<=1000000:=by have:=t.ks_len; omega
 have IH:=Lib.hid ih;have HXS:=Lib.hid hxs;have HSZ:=Lib.hid (fun k hk=>t.kid_le k hk);have HSM:=Lib.hid (Mx.each_ks hsm);have hps:=Mx.each_p hsm;obtain ⟨A0,n0,c0,A,n1,c1,K,c,rfl,hp,hl1,hl2,h4⟩:=h.open_;have HP:=Lib.hid hp;have H4:=Lib.hid h4;have HFIX:=Lib.hid (t.fix_eq xs);obtain ⟨W,hW⟩:∃ W,(w.alloc (.cells #[.int .i64 t.kind,.int .i64 t.rel,.int .i64 t.p.lv,.bool t.p.neg,.slice A0 n0 c0,.slice A n1 c1,.slice K t.ks.length c] 63)).alloc (.cells #[.int .i64 0,.int .i64 0,.int .i64 0,.bool false,.slice none 0 0,.slice none 0 0,.slice none 0 0] 63)=W:=⟨_,rfl⟩;have hWx:Ext w W:=by rw [<- hW]; exact ((Ext.refl w).alloc _).alloc _
 have hWs:W.heap.size=w.heap.size+1+1:=by rw [<- hW]; simp
 have hbx:zt W w.heap.size t (.slice A0 n0 c0) (.slice A n1 c1) (.slice K t.ks.length c):=by rw [<- hW]; exact (zt.new w t _ _ _ _).ext ((Ext.refl _).alloc _) (by simp)
 have hz:wab W (w.heap.size+1):=by
  have:=wab.new (w.alloc (.cells #[.int .i64 t.kind,.int .i64 t.rel,.int .i64 t.p.lv,.bool t.p.neg,.slice A0 n0 c0,.slice A n1 c1,.slice K t.ks.length c] 63)) 63;rw [hW] at this;simpa using this
 have HWX:=Lib.hid hWx;have HBX:=Lib.hid hbx;have HZ:=Lib.hid hz;obtain ⟨b0,b1,b2,b3,b4,b5,b6⟩:=id hbx;obtain ⟨⟨z0,z1,z2,z3,z4,z5,z6⟩,zf⟩:=id hz;simp only [Mx.kind,Mx.rel,Mx.p,Pl.zero,Pl.lv,Pl.neg] at z0 z1 z2 z3;clear h ih h4 hWx hbx hz hp hsm hxs;unfold mxV;go_enter Tryz.func38,Tryz.ntmps38
 by_cases k1:t.kind=1
 · have hnr:=HFIX.out;rw [if_pos k1] at hnr;have HF:=Lib.hid (uaa.congr hnr (jaf (q':=fun b=>w.heap.size<=b) HWX.out (Nat.le_succ _) HZ.out (xa8 W (fun _=>False) 1 0) (fun b _ h=>h.elim)));have q1:(t.kind == 1)=true:=by simpa using k1
   clear k1 hnr HFIX;go_wp2_with fail;exact bodyPost_ret (v:=mxV (.mk 1 0 Pl.zero []) (.slice none 0 0) (.slice none 0 0) (.slice none 0 0)) (by simp [results,Tryz.results38,go_sem,z0,z1,z2,z3,z4,z5,z6,mxV,Mx.kind,Mx.rel,Mx.p,Pl.zero,Pl.lv,Pl.neg]) rfl HF.out
 by_cases k2:t.kind=2
 · have hnr:=HFIX.out;rw [if_neg k1,if_pos k2] at hnr;have q1:(t.kind == 1)=false:=by simpa using k1
   have q2:(t.kind == 2)=true:=by simpa using k2
   have HNR:=Lib.hid hnr;obtain ⟨rb,hrb⟩:∃ rb:Bool,rb=decide (t.rel < 1\/6 < t.rel):=⟨_,rfl⟩;have hrel:wah t.rel=if rb=true then 3 else t.rel:=by rw [hrb]; unfold wah; simp only [decide_eq_true_eq]
   have HRB:=Lib.hid hrb;have HREL:=Lib.hid hrel;have HFIT:=Lib.hid hps.2;have HCALL:=Lib.hid (yaq _ (HP.out.ext HWX.out) hps.1);obtain ⟨rr,hrr⟩:∃ rr:Int,rr=wah t.rel:=⟨_,rfl⟩;have HRR:=Lib.hid hrr;obtain ⟨_,xc',exs,hxc,hxc2,hxat⟩:=id HXS.out;simp only [Value.slice.injEq,true_and] at exs;obtain ⟨rfl,rfl⟩:=exs;have HXAT:=Lib.hid hxat;have HRLX:Hid (∀ x ∈ xs,rlen x<=L):=Lib.hid (fun x hx=>by
    obtain ⟨j,hj,rfl⟩:=List.getElem_of_mem hx;obtain ⟨_,_,_,_,_,_,_,_,-,-,-,hr⟩:=hxat j hj
    exact hr.rlen_le hL)
   have key:Hid (∀ w3 g C0 j0 f0 C1 n1 f1,jar w g (qo xs t.p.nf xs.length) w3->PlV w3 (fun b=>w.heap.size+1 < b) (qo xs t.p.nf xs.length) (plV (qo xs t.p.nf xs.length) (.slice C0 j0 f0) (.slice C1 n1 f1))->uaa (fun b=>w.heap.size<=b) (t.fix xs) w (.returned (mxV (.mk 2 rr (qo xs t.p.nf xs.length) []) (.slice C0 j0 f0) (.slice C1 n1 f1) (.slice none 0 0))) (((((((w3.setCell ⟨w.heap.size+1,0,none⟩ (.int .i64 2)).setCell ⟨w.heap.size+1,1,none⟩ (.int .i64 rr)).setCell ⟨w.heap.size+1,2,none⟩ (.int .i64 (qo xs t.p.nf xs.length).lv)).setCell ⟨w.heap.size+1,3,none⟩ (.bool (qo xs t.p.nf xs.length).neg)).setCell ⟨w.heap.size+1,4,none⟩ (.slice C0 j0 f0)).setCell ⟨w.heap.size+1,5,none⟩ (.slice C1 n1 f1)).setCell ⟨w.heap.size+1,6,none⟩ (.slice none 0 0))):=Lib.hid (by
    intro w3 g C0 j0 f0 C1 n1 f1 hI hpl;refine uaa.congr (show t.fix xs=.mk 2 rr (qo xs t.p.nf xs.length) [] by rw [HNR.out,HRR.out]) ?_
    exact jaf (m:=.mk 2 rr (qo xs t.p.nf xs.length) []) (q:=fun b=>w.heap.size+1 < b) hI.1 (Nat.le_succ _) hI.2.2.1 (MxV.mk (t:=.mk 2 rr (qo xs t.p.nf xs.length) []) (c:=0) hpl (by simp [Mx.ks]) (by omega) (by unfold Mx.ks zi; trivial)) (fun b _ hb=>⟨by omega,by omega⟩))
   unfold plV at HCALL;clear k1 k2 hnr HFIX hrb hrel hrr hxat hps;go_upto_region 6 with fail
   go_cut [26] from 21 to 26 (fun s wc=>s=.bool rb/\W=wc)
   case first =>
    by_cases hr1:t.rel < 1
    · have e:rb=true:=by rw [HRB.out]; simp [hr1]
      have HE:=Lib.hid e;clear e HRB HREL;go_wp2_with fail
      go_meet
      exact ⟨by rw [HE.out],rfl⟩
    · by_cases hr6:6 < t.rel
      · have e:rb=true:=by rw [HRB.out]; simp [hr6]
        have HE:=Lib.hid e;clear e HRB HREL;go_wp2_with fail
        go_meet
        exact ⟨by rw [HE.out],rfl⟩
      · have e:rb=false:=by rw [HRB.out]; simp [hr1,hr6]
        have HE:=Lib.hid e;clear e HRB HREL;go_wp2_with fail
        go_meet
        exact ⟨by rw [HE.out],rfl⟩
   case rest =>
   obtain ⟨rfl,rfl⟩:=hcut
   go_upto_if 26 with fail
   go_cut [5] from 7 to 7 (fun s wc=>s=.int .i64 rr/\W=wc)
   case first =>
    have e1:=HRR.out;rw [HREL.out] at e1;cases rb with
    | true =>
      rw [if_pos rfl] at e1;have HE:=Lib.hid e1;clear e1 HRR HREL HRB;go_wp2_with fail
      go_meet
      exact ⟨by rw [HE.out],rfl⟩
    | false =>
      rw [if_neg (by simp)] at e1;have HE:=Lib.hid e1;clear e1 HRR HREL HRB;go_wp2_with fail
      go_meet
      exact ⟨by rw [HE.out],rfl⟩
   case rest =>
   obtain ⟨rfl,rfl⟩:=hcut;clear HRR HREL HRB;go_wp2_with fail;clear b0 b1 b2 b3 b4 b5 b6 z0 z1 z2 z3 z4 z5 z6 zf hW;refine HCALL.out.mono ?_;rintro e w3 ⟨v3,rfl,p3,x3⟩;obtain ⟨C0,j0,f0,C1,f1,rfl,-⟩:=id p3.open_;obtain ⟨V,hV⟩:∃ V,w3.alloc (.cells #[.int .i64 t.p.nf.lv,.bool t.p.nf.neg,.slice C0 j0 f0,.slice C1 t.p.nf.cs.length f1] 35)=V:=⟨_,rfl⟩;have hs3:=x3.size;have hI0:jar w w3.heap.size t.p.nf V:=by
    rw [<- hV];exact jar.new (HWX.out.trans x3) (by omega) (HZ.out.ext x3 (by omega)) (p3.mono fun b hb=>by omega) _
   have HI0:=Lib.hid hI0;have HV:=Lib.hid hV;clear p3 x3 hV hI0 HCALL HP H4 IH HSZ HSM HBX HZ HNR;obtain ⟨P,hP⟩:∃ P,t.p.nf=P:=⟨_,rfl⟩;rw [hP] at HI0 HV HFIT key ⊢;clear hP;unfold plV;go_wp2_with fail;rw [HV.out];clear HV
   go_loopw [36] (fun iv wr=>∃ k:Nat,k<=xs.length/\iv=.int .i64 k/\Hid (jar w w3.heap.size (qo xs P k) wr)) (fun iv _=>xs.length - (intOf iv).toNat)
   case atStart=>exact ⟨0,Nat.zero_le _,rfl,HI0⟩
   case round =>
    obtain ⟨k,hk,rfl,HI⟩:=hrel
    by_cases hlt:k < xs.length
    · obtain ⟨ad,bb,X1,xn1,xc1,X2,xn2,xc2,hA,hadb,⟨e0,e1,e2⟩,hxr⟩:=HXAT.out k hlt;injection hA with hA
      subst hA;have hIx:=HI.out.1;have hadk:(xa.add (k * 3)).block < w.heap.size:=by rw [ja]; exact hadb
      replace e0:=(hIx.cell hadk).trans e0
      replace e1:=(hIx.cell (p:=⟨(xa.add (k * 3)).block,(xa.add (k * 3)).off+1,none⟩) hadk).trans e1
      replace e2:=(hIx.cell (p:=⟨(xa.add (k * 3)).block,(xa.add (k * 3)).off+2,none⟩) hadk).trans e2
      obtain ⟨V1,hV1⟩:∃ V1,wr.alloc (.cells #[.bool bb,.slice X1 xn1 xc1,.slice X2 xn2 xc2] 65)=V1:=⟨_,rfl⟩;have hx1:Ext wr V1:=by rw [<- hV1]; exact (Ext.refl wr).alloc _
      have y0:V1.cell? ⟨wr.heap.size,0,none⟩=some (.bool bb):=by rw [<- hV1]; simp [go_sem]
      have y1:V1.cell? ⟨wr.heap.size,1,none⟩=some (.slice X1 xn1 xc1):=by rw [<- hV1]; simp [go_sem]
      have y2:V1.cell? ⟨wr.heap.size,2,none⟩=some (.slice X2 xn2 xc2):=by rw [<- hV1]; simp [go_sem]
      have HI1:=Lib.hid (HI.out.ext hx1);obtain ⟨-,hwg,-,hgl,gf,D0,d0n,d0c,D1,d1n,d1c,⟨b0,b1,b2,b3⟩,hpl⟩:=id HI1.out;have HAT:=Lib.hid (jbt (l:=(k:Int)+1) (L:=L) (E:=40) (D:=5+L * 40 * k) (qo xs P k) _ (by omega) (by omega) (by omega) hL hL2 (by
       have:L * 40 * k<=1000000 * 40 * 4:=Nat.mul_le_mul (Nat.mul_le_mul_right _ hL2) (by omega)
       omega) (xax HRLX.out hL HFIT.out k) hpl (hxr.ext (hIx.trans hx1)))
      have HGD:Hid (qo xs P (k+1)=(qo xs P k).atQ ((k:Int)+1) xs[k].num xs[k].den):=Lib.hid (by
       rw [qo,List.getD_eq_getElem?_getD,List.getElem?_eq_getElem hlt]; rfl)
      have gf0:=gf 0;have gf1:=gf 1;have gf2:=gf 2;have gf3:=gf 3;clear hIx hadk hpl hxr hx1 gf hadb;unfold plV at HAT;generalize (qo xs P k).atQ ((k:Int)+1) xs[k].num xs[k].den=NP at *;generalize qo xs P k=PK at *;go_wp2_with fail
      try rw [hV1]
      clear b0 b1 b2 b3 e0 e1 e2 gf0 gf1 gf2 gf3 hV1 y0 y1 y2;refine HAT.out.mono ?_;rintro e w9 ⟨z9,rfl,m9,x9⟩;obtain ⟨E0,e0n,e0c,E1,e1c,rfl,-⟩:=id m9.open_;have hI9:=HI1.out.ext x9;have hst:=hI9.store m9 (fun b hb=>⟨by omega,by omega⟩);have HST:=Lib.hid hst;obtain ⟨-,-,-,hgl9,gf,D0',d0n',d0c',D1',d1n',d1c',⟨b0,b1,b2,b3⟩,-⟩:=hI9;have gf0:=gf 0;have gf1:=gf 1;have gf2:=gf 2;have gf3:=gf 3;clear m9 x9 hst gf HAT HI1 HI;unfold plV;go_wp2_with fail
      go_roundw
      case rel=>exact ⟨k+1,by omega,by go_num,by rw [HGD.out]; exact HST⟩
      case measure=>simp only [intOf]; omega
    · have hke:k=xs.length:=by omega
      rw [hke] at HI;obtain ⟨hIx,hwg,hz,hgl,gf,D0,d0n,d0c,D1,d1n,d1c,⟨b0,b1,b2,b3⟩,hpl⟩:=id HI.out;have HF:=Lib.hid (key.out wr _ _ _ _ _ _ _ HI.out (hpl.mono fun b hb=>hb.1));obtain ⟨⟨z0,z1,z2,z3,z4,z5,z6⟩,zf⟩:=id hz;simp only [Mx.kind,Mx.rel,Mx.p,Pl.zero,Pl.lv,Pl.neg] at z0 z1 z2 z3;clear hIx hz hpl gf HI HI0 key HFIT;generalize qo xs P xs.length=PK at *;go_wp2_with fail;exact bodyPost_ret (v:=mxV (.mk 2 rr PK []) (.slice D0 d0n d0c) (.slice D1 d1n d1c) (.slice none 0 0)) (by simp [results,Tryz.results38,go_sem,z0,z1,z2,z3,z4,z5,z6,mxV,Mx.kind,Mx.rel,Mx.p]) rfl HF.out
 by_cases k34:t.kind=3\/t.kind=4
 · have hnr:=HFIX.out;rw [if_neg k1,if_neg k2,if_pos k34] at hnr;have HNR:=Lib.hid hnr;have q1:(t.kind == 1)=false:=by simpa using k1
   have q2:(t.kind == 2)=false:=by simpa using k2
   obtain ⟨W2,hW2⟩:∃ W2,W.alloc (.cells #[.int .i64 t.kind,.int .i64 0,.int .i64 0,.bool false,.slice none 0 0,.slice none 0 0,.slice none 0 0] 63)=W2:=⟨_,rfl⟩;have hW2x:Ext W W2:=by rw [<- hW2]; exact (Ext.refl W).alloc _
   have hW2s:W2.heap.size=w.heap.size+1+1+1:=by rw [<- hW2]; simp; omega
   have hG0:zal w t (.slice A0 n0 c0) (.slice A n1 c1) (.slice K t.ks.length c) [] W2:=by
    refine ⟨HWX.out.trans hW2x,by omega,HBX.out.ext hW2x (by omega),HZ.out.ext hW2x (by omega),_,⟨?_,fun i=>?_⟩,qak.nil _ _⟩
    · have hb:=zt.new W (.mk t.kind 0 Pl.zero []) (.slice none 0 0) (.slice none 0 0) (.slice none 0 0) 63;rw [hWs] at hb;rw [<- hW2]; exact hb
    · rw [<- hW2,<- hWs]; simp [go_sem]
   have HG0:=Lib.hid hG0;have d6:W2.cell? ⟨w.heap.size,6,none⟩=some (.slice K t.ks.length c):=(hW2x.cell (p:=⟨w.heap.size,6,none⟩) (by show w.heap.size < _; omega)).trans b6;rw [<- hW2] at d6;have HW2:=Lib.hid hW2;clear hW2;have HW2X:=Lib.hid (HWX.out.trans hW2x);clear k1 k2 hnr HFIX hW2x hG0 HP HZ HBX HWX z0 z1 z2 z3 z4 z5 z6 zf;have hkk:(t.kind == 3)=true\/((t.kind == 3)=false/\(t.kind == 4)=true):=by
    rcases k34 with k3 | k4
    · exact .inl (by simpa using k3)
    · exact .inr ⟨by simp; omega,by simpa using k4⟩
   clear k34;rcases hkk with q3 | ⟨q3,q4⟩
   all_goals
    go_wp2_with fail;rw [HW2.out];clear hW b0 b1 b2 b3 b4 b5 b6 d6
    go_loopw [59] (fun iv wr=>∃ k:Nat,k<=t.ks.length/\iv=.int .i64 k/\Hid (zal w t (.slice A0 n0 c0) (.slice A n1 c1) (.slice K t.ks.length c) ((t.ks.take k).map (Mx.fix xs)) wr)) (fun iv _=>t.ks.length - (intOf iv).toNat)
    case atStart=>exact ⟨0,Nat.zero_le _,rfl,HG0⟩
    case round =>
     obtain ⟨k,hk,rfl,HG⟩:=hrel
     by_cases hlt:k < t.ks.length
     · obtain ⟨hxw,hbs,hbx,-⟩:=HG.out;obtain ⟨ad,B0,m0,d0,B1,m1,d1,K2,n2,c2,hA,hadb,hnd,hkt⟩:=zi.kid H4.out k hlt;subst hA;obtain ⟨e0,e1,e2,e3,e4,e5,e6⟩:=hnd.ext hxw (by rw [ja]; exact hadb);have b6:wr.cell? ⟨w.heap.size,6,none⟩=some (.slice (some ad) t.ks.length c):=hbx.2.2.2.2.2.2;obtain ⟨V,hV⟩:∃ V,wr.alloc (.cells #[.int .i64 t.ks[k].kind,.int .i64 t.ks[k].rel,.int .i64 t.ks[k].p.lv,.bool t.ks[k].p.neg,.slice B0 m0 d0,.slice B1 m1 d1,.slice K2 n2 c2] 63)=V:=⟨_,rfl⟩;have hVx:Ext wr V:=by rw [<- hV]; exact (Ext.refl _).alloc _
       have hVs:wr.heap.size < V.heap.size:=by rw [<- hV]; simp
       have HGV:=Lib.hid (HG.out.ext hVx);have HVB:Hid (zt V wr.heap.size t.ks[k] (.slice B0 m0 d0) (.slice B1 m1 d1) (.slice K2 n2 c2)):=Lib.hid (by rw [<- hV]; exact zt.new wr _ _ _ _ _);have hxv:=hxw.trans hVx;have hsz:=HSZ.out k hlt
       have HC:Hid (Calls Tryz.prog 38 #[.agg #[.int .i64 t.ks[k].kind,.int .i64 t.ks[k].rel,.int .i64 t.ks[k].p.lv,.bool t.ks[k].p.neg,.slice B0 m0 d0,.slice B1 m1 d1,.slice K2 n2 c2],.slice (some xa) xs.length xc] V.drew (uaa (fun b=>V.drew.heap.size<=b) (t.ks[k].fix xs) V.drew)):=
        IH.out q t.ks[k] _ V.drew (by omega) (by omega) (vad HSM.out (List.getElem_mem hlt)) (hkt.ext hxv.drew) (HXS.out.ext hxv.drew)
       have HTK:Hid ((t.ks.take (k+1)).map (Mx.fix xs)=(t.ks.take k).map (Mx.fix xs) ++ [t.ks[k].fix xs]):=by
        have:(t.ks.take (k+1)).map (Mx.fix xs)=(t.ks.take k).map (Mx.fix xs) ++ [t.ks[k].fix xs]:=by rw [List.take_succ_eq_append_getElem hlt,List.map_append]; rfl
        exact this
       clear hxw hbx hnd hkt hadb hsz hxv HG;generalize t.ks[k].fix xs=tk at *;go_upto_region 21 with fail
       try rw [hV]
       clear hV b6 e0 e1 e2 e3 e4 e5 e6;have hln:((t.ks.take k).map (Mx.fix xs)).length=k:=by rw [List.length_map,List.length_take]; omega
       obtain ⟨AV,cv,hv6,hcv1,hcv2,hnext⟩:=HGV.out.step (by omega);rw [hln] at hv6 hcv1 hnext;have hbs:=HGV.out.2.1;obtain ⟨e0,e1,e2,e3,e4,e5,e6⟩:=HVB.out;have HNEXT:=Lib.hid hnext;clear hnext hln HVB
       go_region_law (first
        | (go_simp
           go_at_call 38
           refine HC.out.mono ?_;rintro e w3 ⟨v3,rfl,t3,x3⟩;have y3:Ext V w3:=Ext.trans ((Ext.refl V).drew) x3;obtain ⟨C0,j0,f0,C1,j1,f1,C2,f2,rfl,-⟩:=id t3.open_;obtain ⟨AV',cv',w4,hrun,h6,hf6,hgn⟩:=HNEXT.out w3 _ _ _ _ _ _ _ _ _ _ 61 y3 t3;have HGN:=Lib.hid hgn;have g6:w3.cell? ⟨w.heap.size+1+1,6,none⟩=some (.slice AV k cv):=(y3.cell (p:=⟨w.heap.size+1+1,6,none⟩) (by show w.heap.size+1+1 < _; omega)).trans hv6;have hs3:w.heap.size+1+1 < w3.heap.size:=by have:=y3.size; omega
           unfold mxV
           clear hgn t3 x3 y3)
        | (refine xai rfl (.tmp 64) (.tmp 68) 61 61 rfl _ _ _ _ (by simp [Act.eval,Act.put]) (by simp [Act.eval,Act.put]) hrun ?_))
       all_goals
        have hgn2:=HGN.out;rw [<- HTK.out] at hgn2;have HN:=Lib.hid hgn2;clear hgn2 HGN hrun h6 hf6 g6 hs3 HNEXT HC HTK;go_wp2_with fail
        go_roundw
        case rel=>exact ⟨k+1,by omega,by go_num,HN⟩
        case measure=>simp only [intOf]; omega
     · have hke:k=t.ks.length:=by omega
       subst hke;have hg:=HG.out;rw [List.take_length] at hg;obtain ⟨AV,cv,⟨x0,x1,x2,x3,x4,x5,x6⟩,hz,hm⟩:=hg.fin;have hlm:(t.ks.map (Mx.fix xs)).length=t.ks.length:=List.length_map _;rw [hlm] at hm x6;have hf:=jaf (m:=.mk t.kind 0 Pl.zero (t.ks.map (Mx.fix xs))) (q':=fun b=>w.heap.size<=b) hg.1 (Nat.le_succ _) hz hm (fun b _ hb=>⟨by omega,by omega⟩);have HF:=Lib.hid (uaa.congr HNR.out hf);obtain ⟨⟨z0,z1,z2,z3,z4,z5,z6⟩,zf⟩:=hz;have d6:wr.cell? ⟨w.heap.size,6,none⟩=some (.slice K t.ks.length c):=hg.2.2.1.2.2.2.2.2.2
       replace x0:wr.cell? ⟨w.heap.size+1+1,0,none⟩=some (.int .i64 t.kind):=x0
       replace x1:wr.cell? ⟨w.heap.size+1+1,1,none⟩=some (.int .i64 0):=x1
       replace x2:wr.cell? ⟨w.heap.size+1+1,2,none⟩=some (.int .i64 0):=x2
       replace x3:wr.cell? ⟨w.heap.size+1+1,3,none⟩=some (.bool false):=x3
       replace z0:wr.cell? ⟨w.heap.size+1,0,none⟩=some (.int .i64 0):=z0
       replace z1:wr.cell? ⟨w.heap.size+1,1,none⟩=some (.int .i64 0):=z1
       replace z2:wr.cell? ⟨w.heap.size+1,2,none⟩=some (.int .i64 0):=z2
       replace z3:wr.cell? ⟨w.heap.size+1,3,none⟩=some (.bool false):=z3
       clear hf hm hg HG HG0 hlm HNR;go_wp2_with fail;exact bodyPost_ret (v:=mxV (.mk t.kind 0 Pl.zero (t.ks.map (Mx.fix xs))) (.slice none 0 0) (.slice none 0 0) (.slice AV t.ks.length cv)) (by simp [results,Tryz.results38,go_sem,z0,z1,z2,z3,z4,z5,z6,mxV,Mx.kind,Mx.rel,Mx.p,Pl.zero,Pl.lv,Pl.neg]) rfl HF.out
 · have hnr:=HFIX.out;rw [if_neg k1,if_neg k2,if_neg k34] at hnr;have HF:=Lib.hid (uaa.congr hnr (jaf (q':=fun b=>w.heap.size<=b) HWX.out (Nat.le_succ _) HZ.out (xa8 W (fun _=>False) 0 0) (fun b _ h=>h.elim)));have q1:(t.kind == 1)=false:=by simpa using k1
   have q2:(t.kind == 2)=false:=by simpa using k2
   have q3:(t.kind == 3)=false:=by simp; omega
   have q4:(t.kind == 4)=false:=by simp; omega
   clear k1 k2 k34 hnr HFIX;go_wp2_with fail;exact bodyPost_ret (v:=mxV (.mk 0 0 Pl.zero []) (.slice none 0 0) (.slice none 0 0) (.slice none 0 0)) (by simp [results,Tryz.results38,go_sem,z0,z1,z2,z3,z4,z5,z6,mxV,Mx.kind,Mx.rel,Mx.p,Pl.zero,Pl.lv,Pl.neg]) rfl HF.out
theorem xcq {w:World} {q:Nat->Prop} {L:Nat} {xs:List Rat} {xa:Addr} {xc:Nat} (hL:1<=L) (hL2:L<=1000000) (hN:xs.length<=4) (t:Mx) (v:Value) (hbig:t.sz<=1000000) (hsm:t.each qcx) (h:MxV w q t v) (hxs:RsV w L (.slice (some xa) xs.length xc) xs):Calls Tryz.prog 38 #[v,.slice (some xa) xs.length xc] w (uaa (fun b=>w.heap.size<=b) (t.fix xs) w):=
 wcv hL hL2 hN (t.sz+1) q t v w (Nat.lt_succ_self _) hbig hsm h hxs
/- Matrices: no level is above 4. -/
theorem wb6 : ∀ (l : List Mx) (a : Int), a <= 4 -> (∀ t ∈ l, t.lvl <= 4) -> wz a l <= 4
 | [],a,h,_=>by rw [wz]; exact h
 | x :: r,a,h,hl=>by
   rw [wz];have:=hl x (by simp);exact wb6 r _ (by omega) (fun t ht=>hl t (by simp [ht]))
theorem Mx.lvl_4 (n:Nat):∀ t:Mx,t.sz < n->t.lvl<=4:=by
 induction n with
 | zero=>intro t h; omega
 | succ n ih =>
   intro t h;rw [Mx.lvl_eq]
   split
   · exact (Pl.Can.lv_nonneg t.p.nf_can).2
   · split
     · refine wb6 _ _ (by omega) (fun x hx=>ih x ?_);obtain ⟨i,hi,rfl⟩:=List.getElem_of_mem hx;have:=Mx.kid_le t i hi;omega
     · omega
end Go.Proofs.YtcfcjabgkfehlaaGreat
