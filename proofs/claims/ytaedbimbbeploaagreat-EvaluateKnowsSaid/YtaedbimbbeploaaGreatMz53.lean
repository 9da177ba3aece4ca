/- Small matrices: their polynomials, and those of their normal forms. -/
import Derived.Test.YtaedbimbbeploaaGreatMz48
import Derived.Test.YtaedbimbbeploaaGreatMz33
import Derived.Test.YtaedbimbbeploaaGreatMz50
import Derived.Test.YtaedbimbbeploaaGreatMz47
import Derived.Test.YtaedbimbbeploaaGreatMz52
import Derived.Test.YtaedbimbbeploaaGreatMz49
import Derived.Test.YtaedbimbbeploaaGreatMz45
import Derived.Test.YtaedbimbbeploaaGreatMz46
set_option linter.unusedSimpArgs false
set_option linter.unusedVariables false

namespace Go.Proofs.YtaedbimbbeploaaGreat
open Go.RowKit
mutual
theorem Mx.small_each : ∀ t : Mx, t.small -> t.each (fun p => p.sz <= 40 /\ p.dm <= 4)
 | .mk _ _ p ks,h=>by rw [Mx.small] at h; rw [Mx.each]; exact ⟨h.1,uav ks h.2⟩
theorem uav : ∀ l : List Mx, qag l -> qaa (fun p => p.sz <= 40 /\ p.dm <= 4) l
 | [],_=>by rw [qaa]; trivial
 | t :: r,h=>by rw [qag] at h; rw [qaa]; exact ⟨t.small_each h.1,uav r h.2⟩
end
end Go.Proofs.YtaedbimbbeploaaGreat

/- Layer 40: evaluate.At, Poly. -/
set_option maxRecDepth 100000
set_option maxHeartbeats 8000000
namespace Go.Proofs.YtaedbimbbeploaaGreat
open Go.RowKit
theorem xcd {p:Pl} {D L K:Nat} (hdm:p.dm<=D) (hs:p.sz * (D+L+4)<=K):p.eb L<=K:=by
 have:=Pl.eb_sz L p D hdm;omega
theorem uci {w:World} {q:Nat->Prop} {L:Nat} {xv:Value} {xs:List Rat} (hL:1<=L) (hL2:L<=1099511627776) (hxs:RsV w L xv xs) (t:Mx) (v:Value) (hbig:t.sz<=1000000) (hsm:t.small) (heach:t.each (fun p=>p.eb L<=1099511627776)) (h:MxV w q t v) :
 Calls Tryz.prog 9 #[v,xv] w (wbu (if t.lvl<=xs.length then (t.tv (rho xs),0) else (false,4)) w):=by
 have HH:=Lib.hid h;have HXS:=Lib.hid hxs;obtain ⟨A0,n0,c0,A,n1,c1,K,c,rfl,hp,hl1,hl2,h4⟩:=h.open_;obtain ⟨XA,Xc,rfl,-⟩:=id hxs;obtain ⟨W,hW⟩:∃ W,(w.alloc (.cells #[.int .i64 t.kind,.int .i64 t.rel,.int .i64 t.p.lv,.bool t.p.neg,.slice A0 n0 c0,.slice A n1 c1,.slice K t.ks.length c] 32)).alloc (.cells #[.slice XA xs.length Xc] 39)=W:=⟨_,rfl⟩;have hWx:Ext w W:=by rw [<- hW]; exact ((Ext.refl w).alloc _).alloc _
 have hWs:W.heap.size=w.heap.size+1+1:=by rw [<- hW]; simp
 have hbx:jab W w.heap.size t (.slice A0 n0 c0) (.slice A n1 c1) (.slice K t.ks.length c):=by rw [<- hW]; exact (jab.new w t _ _ _ _).ext ((Ext.refl _).alloc _) (by simp)
 have hxc:W.cell? ⟨w.heap.size+1,0,none⟩=some (.slice XA xs.length Xc):=by rw [<- hW]; simp [go_sem]
 have HWX:=Lib.hid hWx;have HBX:=Lib.hid hbx;have HXC:=Lib.hid hxc;have HLV:Hid (∀ W',Ext W W'->Calls Tryz.prog 25 #[mxV t (.slice A0 n0 c0) (.slice A n1 c1) (.slice K t.ks.length c)] W' (jl t.lvl W')):=by
  have:∀ W',Ext W W'->Calls Tryz.prog 25 #[mxV t (.slice A0 n0 c0) (.slice A n1 c1) (.slice K t.ks.length c)] W' (jl t.lvl W'):=fun W' hx=>zb9 t _ W' hbig hsm (HH.out.ext (HWX.out.trans hx))
  exact this
 have HTR:Hid (∀ W',Ext W W'->Calls Tryz.prog 26 #[mxV t (.slice A0 n0 c0) (.slice A n1 c1) (.slice K t.ks.length c),.func (.func 27) #[] #[.pointer (some ⟨w.heap.size+1,0,none⟩)]] W' (zaa (t.tv (rho xs)) W')):=by
  have:∀ W',Ext W W'->Calls Tryz.prog 26 #[mxV t (.slice A0 n0 c0) (.slice A n1 c1) (.slice K t.ks.length c),.func (.func 27) #[] #[.pointer (some ⟨w.heap.size+1,0,none⟩)]] W' (zaa (t.tv (rho xs)) W'):=fun W' hx =>
   kci (w0:=W) hL hL2 HXC.out (by omega) (HXS.out.ext HWX.out) (t.sz+1) t _ W' (Nat.lt_succ_self _) hbig heach (HH.out.ext HWX.out) hx
  exact this
 have HB:Hid (∀ W',Ext W W'->(Ext W W'/\W'.cell? ⟨w.heap.size,0,none⟩=some (.int .i64 t.kind)/\W'.cell? ⟨w.heap.size,1,none⟩=some (.int .i64 t.rel)/\W'.cell? ⟨w.heap.size,2,none⟩=some (.int .i64 t.p.lv)/\W'.cell? ⟨w.heap.size,3,none⟩=some (.bool t.p.neg)/\W'.cell? ⟨w.heap.size,4,none⟩=some (.slice A0 n0 c0)/\W'.cell? ⟨w.heap.size,5,none⟩=some (.slice A n1 c1)/\W'.cell? ⟨w.heap.size,6,none⟩=some (.slice K t.ks.length c)/\W'.cell? ⟨w.heap.size+1,0,none⟩=some (.slice XA xs.length Xc))):=by
  have:∀ W',Ext W W'->(Ext W W'/\W'.cell? ⟨w.heap.size,0,none⟩=some (.int .i64 t.kind)/\W'.cell? ⟨w.heap.size,1,none⟩=some (.int .i64 t.rel)/\W'.cell? ⟨w.heap.size,2,none⟩=some (.int .i64 t.p.lv)/\W'.cell? ⟨w.heap.size,3,none⟩=some (.bool t.p.neg)/\W'.cell? ⟨w.heap.size,4,none⟩=some (.slice A0 n0 c0)/\W'.cell? ⟨w.heap.size,5,none⟩=some (.slice A n1 c1)/\W'.cell? ⟨w.heap.size,6,none⟩=some (.slice K t.ks.length c)/\W'.cell? ⟨w.heap.size+1,0,none⟩=some (.slice XA xs.length Xc)):=fun W' hx=>by
   obtain ⟨c0,c1,c2,c3,c4,c5,c6⟩:=HBX.out.ext hx (by omega);exact ⟨hx,c0,c1,c2,c3,c4,c5,c6,(hx.cell (p:=⟨w.heap.size+1,0,none⟩) (by show w.heap.size+1 < _; omega)).trans HXC.out⟩
  exact this
 obtain ⟨b0,b1,b2,b3,b4,b5,b6⟩:=hbx;clear h hp h4 hWx hxs heach hsm;unfold mxV at HLV HTR;unfold mxV;generalize t.lvl=lv at *;generalize t.tv (rho xs)=tv at *;generalize hlen:xs.length=N at *;obtain ⟨rr,hrr⟩:∃ rr:Bool × Int,(if lv<=(N:Int) then (tv,(0:Int)) else (false,4))=rr:=⟨_,rfl⟩;rw [hrr];have HRR:=Lib.hid hrr;clear hrr;go_enter Tryz.func9,Tryz.ntmps9;go_wp2_with fail;clear hW b0 b1 b2 b3 b4 b5 b6 hxc;have y0:Ext W W.drew:=(Ext.refl W).drew;have Y0:=Lib.hid y0;clear y0
 go_region_held3 (fun W' => Ext W W' /\ W'.cell? ⟨w.heap.size, 0, none⟩ = some (.int .i64 t.kind) /\ W'.cell? ⟨w.heap.size, 1, none⟩ = some (.int .i64 t.rel) /\ W'.cell? ⟨w.heap.size, 2, none⟩ = some (.int .i64 t.p.lv) /\ W'.cell? ⟨w.heap.size, 3, none⟩ = some (.bool t.p.neg) /\ W'.cell? ⟨w.heap.size, 4, none⟩ = some (.slice A0 n0 c0) /\ W'.cell? ⟨w.heap.size, 5, none⟩ = some (.slice A n1 c1) /\ W'.cell? ⟨w.heap.size, 6, none⟩ = some (.slice K t.ks.length c) /\ W'.cell? ⟨w.heap.size + 1, 0, none⟩ = some (.slice XA N Xc))
  (first | with_reducible exact HB.out _ Y0.out | with_reducible exact HB.out _ y1)
  ((go_at_call 25
    refine (HLV.out _ Y0.out).mono ?_;rintro e v1 ⟨rfl,x1⟩
    have y1:Ext W v1:=Ext.trans Y0.out x1))
 all_goals
  have Y1:=Lib.hid y1;obtain ⟨-,b0,b1,b2,b3,b4,b5,b6,xc⟩:=HB.out _ Y1.out;clear y1 x1 HB Y0 HLV
  by_cases hle:lv<=N
  · have hgt:¬ ((N:Int) < lv):=by omega
    have HR:Hid (rr=(tv,0)):=Lib.hid (HRR.out.symm.trans (if_pos hle));clear hle HRR;go_wp2_with fail;refine (HTR.out _ Y1.out).mono ?_;rintro e w2 ⟨rfl,x2⟩;have X2:=Lib.hid ((HWX.out.trans Y1.out).trans x2);clear x2;go_wp2_with fail;exact bodyPost_ret (v:=.tuple #[.bool tv,.int .i64 0]) (by simp [results,Tryz.results9,go_sem]) rfl ⟨by rw [HR.out],X2.out⟩
  · have hgt:(N:Int) < lv:=by omega
    have HR:Hid (rr=(false,4)):=Lib.hid (HRR.out.symm.trans (if_neg hle));clear hle HRR;go_wp2_with fail;exact bodyPost_ret (v:=.tuple #[.bool false,.int .i64 4]) (by simp [results,Tryz.results9,go_sem]) rfl ⟨by rw [HR.out],HWX.out.trans Y1.out⟩
end Go.Proofs.YtaedbimbbeploaaGreat

/- The polynomials of a matrix, one by one. -/
namespace Go.Proofs.YtaedbimbbeploaaGreat
open Go.RowKit
mutual
theorem Mx.pols_of {P : Pl -> Prop} : ∀ t : Mx, t.each P -> ∀ p ∈ t.pols, ∃ p0, P p0 /\ p = p0.nf
 | .mk k r p ks,h,x,hx=>by
   rw [Mx.each] at h;rw [Mx.pols] at hx
   split at hx
   · exact ⟨p,h.1,by simpa using hx⟩
   · split at hx
     · exact qbf ks h.2 x hx
     · simp at hx
theorem qbf {P : Pl -> Prop} : ∀ l : List Mx, qaa P l -> ∀ p ∈ zk l, ∃ p0, P p0 /\ p = p0.nf
 | [],_,x,hx=>by rw [zk] at hx; simp at hx
 | t :: r,h,x,hx=>by
   rw [qaa] at h;rw [zk] at hx;rcases List.mem_append.1 hx with hx | hx
   · exact t.pols_of h.1 x hx
   · exact qbf r h.2 x hx
end
end Go.Proofs.YtaedbimbbeploaaGreat

/- Small matrices: what their polynomials cost. -/
namespace Go.Proofs.YtaedbimbbeploaaGreat
open Go.RowKit
theorem Mx.small_fit {t:Mx} (hs:t.small):t.each (fun p=>p.eb 3<=1099511627776):=
 Mx.each_mono (fun p hp=>xcd (D:=4) hp.2 (by have:=hp.1; omega)) t (t.small_each hs)
theorem Mx.pols_fit {t:Mx} (hs:t.small) (hd:t.each Pl.dig):∀ p ∈ t.pols,p.Can/\p.nf=p/\p.sz<=3111696/\p.dm<=5/\p.eb 3<=1099511627776:=by
 intro p hp;obtain ⟨p0,⟨⟨hsz,hdm⟩,hdg⟩,rfl⟩:=t.pols_of (t.each_and (t.small_each hs) hd) p hp;have e1:=Pl.nf_sz p0;have e2:=Pl.nf_dm p0 hdg (by omega);have e3:(p0.sz+2) ^ 4<=42 ^ 4:=Nat.pow_le_pow_left (by omega) 4;have e4:(42:Nat) ^ 4=3111696:=by decide
 exact ⟨p0.nf_can,Pl.nf_of_can p0.nf_can,by omega,by omega,xcd (D:=5) (by omega) (Nat.le_trans (Nat.mul_le_mul_right _ (Nat.le_trans e1 e3)) (by decide))⟩
end Go.Proofs.YtaedbimbbeploaaGreat

/- Law 40: what signs at a point say about a matrix, plain. -/
namespace Go.Proofs.YtaedbimbbeploaaGreat
theorem wbw (q:Rat):-1<=sgQ q/\sgQ q<=1:=by unfold sgQ xau; split <;> (try split) <;> omega
theorem vbn (q:Rat):sgQ (-q)=-sgQ q:=by
 have h1:(-q < 0) ↔ 0 < q:=by constructor <;> intro h <;> grind
 have h2:(0 < -q) ↔ q < 0:=by constructor <;> intro h <;> grind
 unfold sgQ xau;simp only [h1,h2]
 by_cases a:q < 0
 · have b:¬ 0 < q:=by grind
   simp [a,b]
 · by_cases b:0 < q
   · simp [a,b]
   · simp [a,b]
theorem jcf (z:Int):sgQ ((z:Int):Rat)=sgI z:=by
 have h:((z:Int):Rat)=mkRat z 1:=by simp [Rat.mkRat_one]
 rw [h,gbw (by omega)]
theorem zcc {s:Int} (h:-1<=s/\s<=1):yz s=s/\yz (7 * s)=s/\yz (-s)=-s:=by unfold yz; omega
theorem Pl.val_lv0 {p:Pl} (h:p.lv=0) (ρ:Int->Rat):p.val ρ=((p.z:Int):Rat):=by
 cases p with
 | mk l n d cs =>
   have h':l=0:=h;subst h';rw [Pl.val,if_pos (Int.le_refl 0)]
   rfl
def zar (ρ:Int->Rat) (l:List (Pl × Int)):Prop:=∀ x ∈ l,yz x.2=sgQ (x.1.val ρ)
theorem ua9 {ρ : Int -> Rat} {P : Pl} : ∀ (l : List (Pl × Int)), zar ρ l -> ∀ s, knF P l = some s -> s = sgQ (P.val ρ)
 | [],_,s,e=>by simp [knF] at e
 | (f,c) :: r,h,s,e=>by
   rw [knF] at e;have hf:yz c=sgQ (f.val ρ):=h (f,c) (by simp)
   split at e
   · rename_i he;injection e with e
     rw [<- e,hf,uap.1 he,Pl.nf_val]
   · split at e
     · rename_i he;injection e with e
       have hv:f.val ρ=- P.val ρ:=by rw [<- Pl.nf_val ρ f,<- uap.1 he,Pl.opp_val]
       rw [<- e,hf,hv,vbn];omega
     · exact ua9 r (fun x hx=>h x (by simp [hx])) s e
theorem zb0 {ρ:Int->Rat} {l:List (Pl × Int)} (h:zar ρ l) (p:Pl):(knP p.nf l).2=true->(knP p.nf l).1=sgQ (p.val ρ):=by
 rw [<- Pl.nf_val ρ p];unfold knP
 split
 · rename_i hl;intro _;rw [Pl.val_lv0 hl,jcf]
 · cases hq:knF p.nf l with
   | none=>intro e; cases e
   | some s=>intro _; exact ua9 l h s hq
section
variable {ρ:Int->Rat} {l:List (Pl × Int)}
mutual
theorem Mx.kn_sound (h : zar ρ l) : ∀ t : Mx, (t.kn (fun p => knP p.nf l) = 1 -> t.tv ρ = true) /\ (t.kn (fun p => knP p.nf l) = -1 -> t.tv ρ = false)
 | .mk k r p ks=>by
   rw [Mx.kn,Mx.tv]
   split
   · exact ⟨fun _=>rfl,fun e=>by omega⟩
   · split
     · have hp:=zb0 h p;unfold knA
       split
       · rename_i h2;rw [hp h2]
         split
         · rename_i h3; exact ⟨fun _=>h3,fun e=>by omega⟩
         · rename_i h3; exact ⟨fun e=>by omega,fun _=>by simpa using h3⟩
       · exact ⟨fun e=>by omega,fun e=>by omega⟩
     · split
       · have:=waz h ks 1 (by omega);exact ⟨fun e=>(this.1 e).2,fun e=>by rcases this.2 e with h1 | h1; omega; exact h1⟩
       · split
         · have:=za0 h ks (-1) (by omega);exact ⟨fun e=>by rcases this.1 e with h1 | h1; omega; exact h1,fun e=>(this.2 e).2⟩
         · exact ⟨fun e=>by omega,fun _=>rfl⟩
theorem waz (h : zar ρ l) : ∀ (ks : List Mx) (a : Int), a <= 1 -> (uab (fun p => knP p.nf l) a ks = 1 -> a = 1 /\ allM ρ ks = true) /\ (uab (fun p => knP p.nf l) a ks = -1 -> a <= -1 \/ allM ρ ks = false)
 | [],a,ha=>by rw [uab,allM]; exact ⟨fun e=>⟨e,rfl⟩,fun e=>.inl (by omega)⟩
 | t :: r,a,ha=>by
   rw [uab,allM];have ht:=t.kn_sound h;have ih:=waz h r (min a (t.kn fun p=>knP p.nf l)) (by omega);refine ⟨fun e=>?_,fun e=>?_⟩
   · obtain ⟨h1,h2⟩:=ih.1 e;have hb:=t.kn_bd (fun p=>knP p.nf l);exact ⟨by omega,by rw [ht.1 (by omega),h2]; rfl⟩
   · rcases ih.2 e with h1 | h2
     · have hb:=t.kn_bd (fun p=>knP p.nf l)
       by_cases ha1:a<=-1
       · exact .inl ha1
       · exact .inr (by rw [ht.2 (by omega)]; rfl)
     · exact .inr (by rw [h2,Bool.and_false])
theorem za0 (h : zar ρ l) : ∀ (ks : List Mx) (a : Int), -1 <= a -> (gab (fun p => knP p.nf l) a ks = 1 -> 1 <= a \/ anyM ρ ks = true) /\ (gab (fun p => knP p.nf l) a ks = -1 -> a = -1 /\ anyM ρ ks = false)
 | [],a,ha=>by rw [gab,anyM]; exact ⟨fun e=>.inl (by omega),fun e=>⟨e,rfl⟩⟩
 | t :: r,a,ha=>by
   rw [gab,anyM];have ht:=t.kn_sound h;have ih:=za0 h r (max a (t.kn fun p=>knP p.nf l)) (by omega);refine ⟨fun e=>?_,fun e=>?_⟩
   · rcases ih.1 e with h1 | h2
     · have hb:=t.kn_bd (fun p=>knP p.nf l)
       by_cases ha1:1<=a
       · exact .inl ha1
       · exact .inr (by rw [ht.1 (by omega)]; rfl)
     · exact .inr (by rw [h2,Bool.or_true])
   · obtain ⟨h1,h2⟩:=ih.2 e;have hb:=t.kn_bd (fun p=>knP p.nf l);exact ⟨by omega,by rw [ht.2 (by omega),h2]; rfl⟩
end
mutual
theorem Mx.kn_full : ∀ t : Mx, (∀ P ∈ t.pols, (knP P l).2 = true) -> t.kn (fun p => knP p.nf l) ≠ 0
 | .mk k r p ks,h=>by
   rw [Mx.pols] at h;rw [Mx.kn]
   split
   · omega
   · rename_i k1
     split
     · rename_i k2;rw [if_pos k2] at h;unfold knA;rw [if_pos (h p.nf (by simp))]
       split <;> omega
     · rename_i k2;rw [if_neg k2] at h
       split
       · rename_i k3;rw [if_pos (.inl k3)] at h;exact (qa4 ks 1 h (by omega) (by omega))
       · rename_i k3
         split
         · rename_i k4;rw [if_pos (.inr k4)] at h;exact (ja4 ks (-1) h (by omega) (by omega))
         · omega
theorem qa4 : ∀ (ks : List Mx) (a : Int), (∀ P ∈ zk ks, (knP P l).2 = true) -> a ≠ 0 -> (-1 <= a /\ a <= 1) -> uab (fun p => knP p.nf l) a ks ≠ 0
 | [],a,_,ha,_=>by rw [uab]; exact ha
 | t :: r,a,h,ha,hb=>by
   rw [zk] at h;rw [uab];have ht:=t.kn_full (fun P hP=>h P (by simp [hP]));have hk:=t.kn_bd (fun p=>knP p.nf l);exact qa4 r _ (fun P hP=>h P (by simp [hP])) (by omega) (by omega)
theorem ja4 : ∀ (ks : List Mx) (a : Int), (∀ P ∈ zk ks, (knP P l).2 = true) -> a ≠ 0 -> (-1 <= a /\ a <= 1) -> gab (fun p => knP p.nf l) a ks ≠ 0
 | [],a,_,ha,_=>by rw [gab]; exact ha
 | t :: r,a,h,ha,hb=>by
   rw [zk] at h;rw [gab];have ht:=t.kn_full (fun P hP=>h P (by simp [hP]));have hk:=t.kn_bd (fun p=>knP p.nf l);exact ja4 r _ (fun P hP=>h P (by simp [hP])) (by omega) (by omega)
end
end
def ual (ρ:Int->Rat) (l:List Pl) (i:Nat):Pl × Int:=if i % 2=1 then ((l.getD i Pl.zero).opp,-sgQ ((l.getD i Pl.zero).val ρ)) else (l.getD i Pl.zero,7 * sgQ ((l.getD i Pl.zero).val ρ))
def kab (ρ:Int->Rat) (l:List Pl) (b:Nat->Bool) (n:Nat):List (Pl × Int):=((List.range n).filter b).map (ual ρ l)
theorem qbq (ρ:Int->Rat) (l:List Pl) (b:Nat->Bool) (n:Nat):kab ρ l b (n+1)=if b n=true then kab ρ l b n ++ [ual ρ l n] else kab ρ l b n:=by
 unfold kab;rw [List.range_succ,List.filter_append,List.map_append]
 split
 · rename_i h; simp [h]
 · rename_i h; simp [h]
theorem qbw (ρ:Int->Rat) (l:List Pl) (b:Nat->Bool) (n:Nat):(kab ρ l b n).length<=n:=by
 unfold kab;rw [List.length_map];exact Nat.le_trans (List.length_filter_le _ _) (by simp)
theorem kbo (ρ:Int->Rat) (l:List Pl) (i:Nat):yz (ual ρ l i).2=sgQ ((ual ρ l i).1.val ρ):=by
 have h:=zcc (wbw ((l.getD i Pl.zero).val ρ));unfold ual
 split
 · simp only [Pl.opp_val,vbn]; exact h.2.2
 · exact h.2.1
theorem ubd (ρ:Int->Rat) (l:List Pl) (b:Nat->Bool) (n:Nat):zar ρ (kab ρ l b n):=fun x hx=>by
 obtain ⟨i,-,rfl⟩:=List.mem_map.1 hx;exact kbo ρ l i
theorem zbh {P : Pl} : ∀ (l : List (Pl × Int)), (∃ x ∈ l, P = x.1.nf \/ P.opp = x.1.nf) -> ∃ s, knF P l = some s
 | [],h=>by obtain ⟨x,hx,-⟩:=h; cases hx
 | (f,c) :: r,h=>by
   rw [knF]
   split
   · exact ⟨_,rfl⟩
   · rename_i h1
     split
     · exact ⟨_,rfl⟩
     · rename_i h2;refine zbh r ?_;obtain ⟨x,hx,hp⟩:=h;rcases List.mem_cons.1 hx with rfl | hx
       · rcases hp with hp | hp
         · exact absurd (uap.2 hp) h1
         · exact absurd (uap.2 hp) h2
       · exact ⟨x,hx,hp⟩
mutual
theorem Mx.pols_can : ∀ t : Mx, ∀ P ∈ t.pols, P.Can
 | .mk k r p ks=>by
   rw [Mx.pols]
   split
   · intro P hP; rw [List.mem_singleton.1 hP]; exact p.nf_can
   · split
     · exact ja9 ks
     · intro P hP; cases hP
theorem ja9 : ∀ l : List Mx, ∀ P ∈ zk l, P.Can
 | [],P,h=>by rw [zk] at h; cases h
 | t :: r,P,h=>by
   rw [zk] at h;rcases List.mem_append.1 h with h | h
   · exact t.pols_can P h
   · exact ja9 r P h
end
theorem qb3 (ρ:Int->Rat) (l:List Pl) (hc:∀ P ∈ l,P.Can):∀ P ∈ l,(knP P (kab ρ l (fun _=>true) l.length)).2=true:=by
 intro P hP;unfold knP
 split
 · rfl
 · obtain ⟨i,hi,e⟩:=List.getElem_of_mem hP;have hg:l.getD i Pl.zero=P:=by rw [List.getD_eq_getElem?_getD,List.getElem?_eq_getElem hi]; exact e
   obtain ⟨s,hs⟩:=zbh (P:=P) (kab ρ l (fun _=>true) l.length) ⟨ual ρ l i,List.mem_map.2 ⟨i,by simp [hi],rfl⟩,by
    unfold ual;rw [hg]
    split
    · exact .inr (Pl.nf_of_can (Pl.opp_can _)).symm
    · exact .inl (Pl.nf_of_can (hc P hP)).symm⟩
   rw [hs]
theorem gbl (ρ:Int->Rat) (t:Mx) (b:Nat->Bool) (n:Nat):t.kn (fun p=>knP p.nf (kab ρ t.pols b n)) ≠ -(if t.tv ρ=true then 1 else -1)/\t.kn (fun p=>knP p.nf (kab ρ t.pols (fun _=>true) t.pols.length))=if t.tv ρ=true then 1 else -1:=by
 have h1:=t.kn_sound (ubd ρ t.pols b n);have h2:=t.kn_sound (ubd ρ t.pols (fun _=>true) t.pols.length);have h3:=t.kn_full (qb3 ρ t.pols t.pols_can);have h4:=t.kn_bd (fun p=>knP p.nf (kab ρ t.pols (fun _=>true) t.pols.length));cases ht:t.tv ρ with
 | true =>
   rw [ht] at h1 h2;simp only [if_true];refine ⟨fun e=>(by have:=h1.2 e; cases this),?_⟩;have:t.kn (fun p=>knP p.nf (kab ρ t.pols (fun _=>true) t.pols.length)) ≠ -1:=fun e=>by have:=h2.2 e; cases this
   omega
 | false =>
   rw [ht] at h1 h2;simp only [Bool.false_eq_true,if_false];refine ⟨fun e=>(by have:=h1.1 (by omega); cases this),?_⟩;have:t.kn (fun p=>knP p.nf (kab ρ t.pols (fun _=>true) t.pols.length)) ≠ 1:=fun e=>by have:=h2.1 e; cases this
   omega
theorem kbs {ρ:Int->Rat} {ls:List (Pl × Int)} (t:Mx) (h:zar ρ ls):t.kn (fun p=>knP p.nf ls) ≠ -(if t.tv ρ=true then 1 else -1):=by
 have h1:=t.kn_sound h;cases ht:t.tv ρ with
 | true =>
   rw [ht] at h1;intro e;have:=h1.2 (by simpa using e);cases this
 | false =>
   rw [ht] at h1;intro e;have:=h1.1 (by simpa using e);cases this
end Go.Proofs.YtaedbimbbeploaaGreat

/- Two growing rows of facts. -/
namespace Go.Proofs.YtaedbimbbeploaaGreat
open Go.RowKit
theorem ub0:(Tryz.prog.info? 56).map (fun i=>(i.zero,i.size,i.bytes))=some (some (.agg #[.int .i64 0,.bool false,.slice none 0 0,.slice none 0 0,.int .i64 0]),5,72):=by kernel_rfl
theorem ycb : qay 51 56 5 72 (.agg #[.int .i64 0, .bool false, .slice none 0 0, .slice none 0 0, .int .i64 0]) where
 und:=Tryz.underlying51
 info:=ub0
 cells:=rfl
 pos:=by omega
 nodig:=by
  intro u hu;simp only [Value.cells] at hu;simp only [List.mem_cons,List.not_mem_nil,or_false] at hu;rcases hu with rfl | rfl | rfl | rfl | rfl <;> rfl
abbrev FcR:=(Pl × Value × Value) × Int
def fcC (r:FcR):List Value:=plC r.1 ++ [.int .i64 r.2]
def jan (rs:List FcR):List Value:=rs.flatMap fcC
theorem wbh (a b:List FcR):jan (a ++ b)=jan a ++ jan b:=by simp [jan]
theorem jb1 (rs:List FcR) (k:Nat) (hk:k < rs.length) (j:Nat) (hj:j < 5):(jan rs)[k * 5+j]?=(fcC rs[k])[j]?:=by
 induction rs generalizing k with
 | nil=>simp at hk
 | cons r rs ih =>
   have hl:(fcC r).length=5:=rfl;simp only [jan,List.flatMap_cons];cases k with
   | zero=>simp only [Nat.zero_mul,Nat.zero_add,List.getElem_cons_zero]; rw [List.getElem?_append_left (by omega)]
   | succ k =>
     rw [List.getElem?_append_right (by omega),hl,show (k+1) * 5+j - 5=k * 5+j by omega];exact ih k (by simpa using hk)
def ubt (r:FcR):Pl × Int:=(r.1.1,r.2)
def gbj (W:World) (va vs:Value) (r:FcR):Prop:=(∃ A0 n0 c0 A1 n1 c1,r.1.2=(.slice A0 n0 c0,.slice A1 n1 c1))/\PlV W (fun b=>va.ownBlock ≠ some b/\vs.ownBlock ≠ some b) r.1.1 (plV r.1.1 r.1.2.1 r.1.2.2)
theorem gbj.swap {W:World} {va vs:Value} {r:FcR} (h:gbj W va vs r):gbj W vs va r:=⟨h.1,h.2.mono fun _ hb=>⟨hb.2,hb.1⟩⟩
def yae (base:Nat) (W:World) (va vs:Value) (la ls:List (Pl × Int)):Prop:=
 ∃ ra rs:List FcR,ra.map ubt=la/\rs.map ubt=ls/\xu 56 5 base W va ra.length (jan ra)/\xu 56 5 base W vs rs.length (jan rs)/\(∀ r ∈ ra,gbj W va vs r)/\(∀ r ∈ rs,gbj W va vs r)/\∀ R,va.ownBlock=some R->vs.ownBlock ≠ some R
theorem yae.nil (base:Nat) (W:World):yae base W (.slice none 0 0) (.slice none 0 0) [] []:=⟨[],[],rfl,rfl,xu.nil _ _ _ _,xu.nil _ _ _ _,by simp,by simp,fun R e=>by cases e⟩
section
variable {base:Nat} {W W':World} {va vs:Value} {la ls:List (Pl × Int)}
theorem yae.swap (h:yae base W va vs la ls):yae base W vs va ls la:=by
 obtain ⟨ra,rs,e1,e2,g1,g2,f1,f2,ap⟩:=h;exact ⟨rs,ra,e2,e1,g2,g1,fun r hr=>(f2 r hr).swap,fun r hr=>(f1 r hr).swap,fun R e e'=>ap R e' e⟩
theorem yae.ext (h:yae base W va vs la ls) (hx:Ext W W'):yae base W' va vs la ls:=by
 obtain ⟨ra,rs,e1,e2,g1,g2,f1,f2,ap⟩:=h;exact ⟨ra,rs,e1,e2,g1.ext hx,g2.ext hx,fun r hr=>⟨(f1 r hr).1,(f1 r hr).2.ext hx⟩,fun r hr=>⟨(f2 r hr).1,(f2 r hr).2.ext hx⟩,ap⟩
theorem yae.own (h:yae base W va vs la ls):(∀ R,va.ownBlock=some R->base<=R/\R < W.heap.size)/\(∀ R,vs.ownBlock=some R->base<=R/\R < W.heap.size):=by
 obtain ⟨ra,rs,-,-,g1,g2,-⟩:=h;exact ⟨fun R e=>g1.own e,fun R e=>g2.own e⟩
theorem yae.len (h:yae base W va vs la ls):∃ A c,va=.slice A la.length c/\la.length<=c/\c<=9223372036854775807:=by
 obtain ⟨ra,rs,rfl,-,g1,-⟩:=h;rw [List.length_map];exact g1.len
theorem yae.push (h:yae base W va vs la ls) (hbase:base<=W.heap.size) {x:Pl} {s:Int} {A0 A1:Option Addr} {n0 c0 n1 c1:Nat} (hx:PlV W (fun b=>va.ownBlock ≠ some b/\vs.ownBlock ≠ some b) x (plV x (.slice A0 n0 c0) (.slice A1 n1 c1))) (hlen:la.length+1<=1000000000) (ty:TypeId) :
 ∃ v4 w4,(Builtin.append_ #[51,51] ty #[va,.slice (some ⟨W.heap.size,0,none⟩) 1 1]).run Tryz.prog (W.alloc (.cells #[.int .i64 x.lv,.bool x.neg,.slice A0 n0 c0,.slice A1 n1 c1,.int .i64 s] 56))=.ok v4 w4/\yae base w4 v4 vs (la ++ [(x,s)]) ls/\W.grownBy w4 va.ownBlock/\∀ (p:Pl) (v:Value),PlV W (fun b=>va.ownBlock ≠ some b/\vs.ownBlock ≠ some b) p v->PlV w4 (fun b=>v4.ownBlock ≠ some b/\vs.ownBlock ≠ some b) p v:=by
 obtain ⟨ra,rs,rfl,rfl,g1,g2,f1,f2,ap⟩:=h;rw [List.length_map] at hlen;obtain ⟨v4,w4,hrun,r1,r2,r3,r4⟩:=g1.push ycb hbase (fcC ((x,.slice A0 n0 c0,.slice A1 n1 c1),s)) rfl (by
  intro u hu;simp only [fcC,plC,List.cons_append,List.nil_append,List.mem_cons,List.not_mem_nil,or_false] at hu
  rcases hu with rfl | rfl | rfl | rfl | rfl <;> exact ⟨rfl,rfl⟩) (by omega) (by omega) ty
 have hv4:∀ b,b < W.heap.size->va.ownBlock ≠ some b->v4.ownBlock ≠ some b:=by
  intro b hb hne e;rcases r4 with r4 | r4
  · exact hne (by rw [<- r4]; exact e)
  · rw [r4] at e; injection e with e; omega
 have hblk:∀ b,b < W.heap.size->va.ownBlock ≠ some b->w4.heap[b]?=W.heap[b]?:=fun b hb hne=>World.grownBy.block r2 b hb (fun e=>hne e.symm)
 have hold:∀ (p:Pl) (v:Value),PlV W (fun b=>va.ownBlock ≠ some b/\vs.ownBlock ≠ some b) p v->PlV w4 (fun b=>v4.ownBlock ≠ some b/\vs.ownBlock ≠ some b) p v:=fun p v hp=>PlV.turn_ r2.size r3 (fun b hb hq=>⟨⟨hv4 b hb hq.1,hq.2⟩,hblk b hb hq.1⟩) hp
 refine ⟨v4,w4,hrun,⟨ra ++ [((x,.slice A0 n0 c0,.slice A1 n1 c1),s)],rs,by simp [ubt],rfl,?_,g2.turn fun R hR=>hblk R (g2.own hR).2 (fun e=>ap R e hR),fun r hr=>?_,fun r hr=>⟨(f2 r hr).1,hold _ _ (f2 r hr).2⟩,fun R e e'=>?_⟩,r2,hold⟩
 · rw [wbh,List.length_append];have:jan [((x,Value.slice A0 n0 c0,Value.slice A1 n1 c1),s)]=fcC ((x,.slice A0 n0 c0,.slice A1 n1 c1),s):=by simp [jan]
   rw [this];exact r1
 · rcases List.mem_append.1 hr with hr | hr
   · exact ⟨(f1 r hr).1,hold _ _ (f1 r hr).2⟩
   · rw [List.mem_singleton.1 hr];exact ⟨⟨_,_,_,_,_,_,rfl⟩,hold _ _ hx⟩
 · rcases r4 with r4 | r4
   · rw [r4] at e; exact ap R e e'
   · rw [r4] at e;injection e with e
     have:=(g2.own e').2;omega
theorem yae.facts (h:yae base W va vs la ls):vax W va la:=by
 obtain ⟨ra,rs,rfl,-,g1,-,f1,-⟩:=h;obtain ⟨A,c,rfl,h1,h2⟩:=g1.len;refine ⟨A,c,by rw [List.length_map],by rw [List.length_map]; exact h1,h2,fun k hk=>?_⟩;rw [List.length_map] at hk;obtain ⟨g,c',e',-,-,hbg,hlt,-⟩:=g1.pos (by omega);injection e' with e1 e2 e3
 subst e1 e3;have hcell:∀ j,j < 5->W.cell? ⟨g,k * 5+j,none⟩=(fcC ra[k])[j]?:=by
  intro j hj;rw [g1.cell (k * 5+j) (by omega)];exact jb1 ra k hk j hj
 obtain ⟨⟨A0,n0,c0,A1,n1,c1,er⟩,hp⟩:=f1 ra[k] (List.getElem_mem hk);refine ⟨⟨g,0,none⟩,A0,n0,c0,A1,n1,c1,rfl,hlt,?_,?_,?_⟩
 · rw [zu,Nat.zero_add,List.getElem_map];have k2:=hcell 2 (by omega);have k3:=hcell 3 (by omega);simp only [fcC,plC,er,List.cons_append,List.nil_append,List.getElem?_cons_succ,List.getElem?_cons_zero] at k2 k3;exact ⟨hcell 0 (by omega),hcell 1 (by omega),k2,k3⟩
 · rw [zu,Nat.zero_add,List.getElem_map];exact hcell 4 (by omega)
 · rw [List.getElem_map];have:=hp.mono (q:=fun _=>True) (fun _ _=>trivial);rw [er] at this;exact this
end
end Go.Proofs.YtaedbimbbeploaaGreat

/- Reference 40: Short, FewAt: points of a size that is looked at. -/
set_option maxRecDepth 100000
set_option maxHeartbeats 8000000
namespace Go.Proofs.YtaedbimbbeploaaGreat
open Go.RowKit
structure Fr where
 neg:Bool
 ds:List Nat
 es:List Nat
def Fr.q (x:Fr):Rat:=mkRat (sgn x.neg (val x.ds)) (val x.es)
def za3 (w:World) (v:Value) (l:List Fr):Prop:=
 ∃ A c,v=.slice A l.length c/\l.length<=c/\c<=9223372036854775807/\∀ j (h:j < l.length),∃ ad A1 c1 A2 c2,A=some ad/\ad.block < w.heap.size/\(w.cell? (ad.add (j * 3))=some (.bool l[j].neg)/\w.cell? ⟨(ad.add (j * 3)).block,(ad.add (j * 3)).off+1,none⟩=some (.slice A1 l[j].ds.length c1)/\w.cell? ⟨(ad.add (j * 3)).block,(ad.add (j * 3)).off+2,none⟩=some (.slice A2 l[j].es.length c2))/\ja w (.slice A1 l[j].ds.length c1) l[j].ds/\ja w (.slice A2 l[j].es.length c2) l[j].es
def Fr.short (x:Fr):Bool:=decide (x.ds.length<=3) && decide (x.es.length<=3)
def xae (l:List Fr):Bool:=decide (l.length<=8) && l.all Fr.short
theorem za3.ext {w w':World} {v:Value} {l:List Fr} (h:za3 w v l) (hx:Ext w w'):za3 w' v l:=by
 obtain ⟨A,c,e,h1,h2,h3⟩:=h;refine ⟨A,c,e,h1,h2,fun j hj=>?_⟩;obtain ⟨ad,A1,c1,A2,c2,e,hb,⟨k0,k1,k2⟩,hr,hs⟩:=h3 j hj;have hb':(ad.add (j * 3)).block < w.heap.size:=by rw [jb]; exact hb
 exact ⟨ad,A1,c1,A2,c2,e,Nat.lt_of_lt_of_le hb hx.size,⟨(hx.cell hb').trans k0,(hx.cell (p:=⟨(ad.add (j * 3)).block,(ad.add (j * 3)).off+1,none⟩) hb').trans k1,(hx.cell (p:=⟨(ad.add (j * 3)).block,(ad.add (j * 3)).off+2,none⟩) hb').trans k2⟩,hr.ext hx,hs.ext hx⟩
theorem za3.few {w:World} {v:Value} {l:List Fr} (h:za3 w v l) (hf:xae l=true):RsV w 3 v (l.map Fr.q):=by
 obtain ⟨A,c,e,h1,h2,h3⟩:=h;refine ⟨A,c,by rw [List.length_map]; exact e,by rw [List.length_map]; exact h1,h2,fun j hj=>?_⟩;rw [List.length_map] at hj;obtain ⟨ad,A1,c1,A2,c2,e,hb,hv,hr,hs⟩:=h3 j hj;have hall:l[j].short=true:=by
  unfold xae at hf;simp only [Bool.and_eq_true,List.all_eq_true] at hf;exact hf.2 l[j] (List.getElem_mem hj)
 simp only [Fr.short,Bool.and_eq_true,decide_eq_true_eq] at hall;refine ⟨ad,_,A1,_,c1,A2,_,c2,e,hb,hv,?_⟩;rw [List.getElem_map];exact ⟨_,_,_,_,_,rfl,hr,hs,rfl,hall.1,hall.2⟩
theorem qcf (neg:Bool) (A1 A2:Option Addr) (n1 c1 n2 c2:Nat) (w:World):Calls Tryz.prog 23 #[.agg #[.bool neg,.slice A1 n1 c1,.slice A2 n2 c2]] w (zaa (decide (n1<=3) && decide (n2<=3)) w):=by
 by_cases h1:n1<=3
 · have hv:(decide (n1<=3) && decide (n2<=3))=decide (n2<=3):=by simp [h1]
   rw [hv];have hd:decide ((n1:Int)<=3)=true:=by simp; omega
   have hd2:decide ((n2:Int)<=3)=decide (n2<=3):=by simp; omega
   have HD:=Lib.hid hd2;clear hv hd2;go_enter Tryz.func23,Tryz.ntmps23;go_wp2_with fail;go_ret;exact ⟨by first | rfl | (rw [<- HD.out]; rfl),(Ext.refl w).alloc _⟩
 · have hv:(decide (n1<=3) && decide (n2<=3))=false:=by simp [h1]
   rw [hv];have hd:decide ((n1:Int)<=3)=false:=by simp; omega
   clear hv;go_enter Tryz.func23,Tryz.ntmps23;go_wp2_with fail;go_ret;exact ⟨rfl,(Ext.refl w).alloc _⟩
theorem ub1 (l:List Fr) (k:Nat) (hk:k < l.length) (h:l[k].short=false):xae l=false:=by
 unfold xae;rw [Bool.and_eq_false_iff];refine .inr (List.all_eq_false.2 ⟨l[k],List.getElem_mem hk,?_⟩);rw [h]; simp
theorem wb1 {w:World} {v:Value} {l:List Fr} (h:za3 w v l):Calls Tryz.prog 7 #[v] w (zaa (xae l) w):=by
 have H:=Lib.hid h;obtain ⟨A,c,rfl,h1,h2,-⟩:=h;have hlen:l.length<=9223372036854775807:=by omega
 go_enter Tryz.func7,Tryz.ntmps7;go_wp2_with fail
 go_loopw [6] (fun iv wr=>∃ k:Nat,k<=l.length/\k<=8/\iv=.int .i64 k/\Hid ((l.take k).all Fr.short=true/\Ext w wr)) (fun iv _=>l.length - (intOf iv).toNat)
 case atStart=>exact ⟨0,Nat.zero_le _,by omega,rfl,⟨by simp,Ext.refl w⟩⟩
 case round =>
  obtain ⟨k,hk,hk8,rfl,⟨hall,hx⟩⟩:=hrel;have HA:=Lib.hid hall;have HX:=Lib.hid hx;clear hall hx
  by_cases hlt:k < l.length
  · by_cases h8:8<=k
    · have hd8:decide ((8:Int)<=(k:Int))=true:=by simp; omega
      have HF:Hid (xae l=false):=by
       have:xae l=false:=by unfold xae; simp; omega
       exact this
      go_wp2_with fail;go_ret;exact ⟨by rw [HF.out]; rfl,HX.out⟩
    · have hd8:decide ((8:Int)<=(k:Int))=false:=by simp; omega
      obtain ⟨A',c',e',-,-,h3⟩:=H.out.ext HX.out;injection e' with e1 e2 e3
      obtain ⟨ad,A1,c1,A2,c2,e4,hb,⟨a0,a1,a2⟩,hr1,hr2⟩:=h3 k hlt;obtain rfl:A=some ad:=e1.trans e4;clear h3 e1 e3 e4 hr1 hr2;have HOK:Hid (l[k].short=(decide (l[k].ds.length<=3) && decide (l[k].es.length<=3))):=rfl;have HBAD:Hid (l[k].short=false->xae l=false):=ub1 l k hlt;have HTK:Hid ((l.take (k+1)).all Fr.short=((l.take k).all Fr.short && l[k].short)):=by
       have:(l.take (k+1)).all Fr.short=((l.take k).all Fr.short && l[k].short):=by rw [List.take_succ_eq_append_getElem hlt,List.all_append]; simp
       exact this
      generalize l[k].neg=ng at *;generalize l[k].ds.length=n1 at *;generalize l[k].es.length=n2 at *;generalize l[k].short=okk at *;have HS:=Lib.hid (qcf ng A1 A2 n1 c1 n2 c2 wr)
      by_cases hs:(decide (n1<=3) && decide (n2<=3))=true
      · rw [hs] at HS;have hok:okk=true:=by rw [HOK.out,hs]
        have HN:Hid ((l.take (k+1)).all Fr.short=true):=by
         have:(l.take (k+1)).all Fr.short=true:=by rw [HTK.out,HA.out,hok]; rfl
         exact this
        clear hs hok;go_wp2_with fail;refine HS.out.mono ?_;rintro e w2 ⟨rfl,x2⟩;have X2:=Lib.hid x2;clear x2 a0 a1 a2 HS;go_wp2_with fail
        go_roundw
        case rel=>exact ⟨k+1,by omega,by omega,by go_num,⟨HN.out,HX.out.trans X2.out⟩⟩
        case measure=>simp [intOf]; omega
      · have hs':(decide (n1<=3) && decide (n2<=3))=false:=by simpa using hs
        rw [hs'] at HS;have HF:Hid (xae l=false):=by
         have:xae l=false:=HBAD.out (by rw [HOK.out,hs']);exact this
        clear hs hs';go_wp2_with fail;refine HS.out.mono ?_;rintro e w2 ⟨rfl,x2⟩;have X2:=Lib.hid x2;clear x2 a0 a1 a2 HS;go_wp2_with fail;go_ret;exact ⟨by rw [HF.out]; rfl,HX.out.trans X2.out⟩
  · have HF:Hid (xae l=true):=by
     have hke:k=l.length:=by omega
     have hA:=HA.out;rw [hke,List.take_length] at hA;have:xae l=true:=by
      unfold xae;rw [Bool.and_eq_true];exact ⟨by simp; omega,hA⟩
     exact this
    go_wp2_with fail;go_ret;exact ⟨by rw [HF.out]; rfl,HX.out⟩
end Go.Proofs.YtaedbimbbeploaaGreat

/- Four fractions in an array. -/
namespace Go.Proofs.YtaedbimbbeploaaGreat
open Go.RowKit
def zbv (w:World) (cs:List Value) (x0 x1 x2 x3:Fr):Prop:=
 ∃ A0 c0 B0 d0 A1 c1 B1 d1 A2 c2 B2 d2 A3 c3 B3 d3,cs=[.bool x0.neg,.slice A0 x0.ds.length c0,.slice B0 x0.es.length d0,.bool x1.neg,.slice A1 x1.ds.length c1,.slice B1 x1.es.length d1,.bool x2.neg,.slice A2 x2.ds.length c2,.slice B2 x2.es.length d2,.bool x3.neg,.slice A3 x3.ds.length c3,.slice B3 x3.es.length d3] /\
   (ja w (.slice A0 x0.ds.length c0) x0.ds/\ja w (.slice B0 x0.es.length d0) x0.es)/\(ja w (.slice A1 x1.ds.length c1) x1.ds/\ja w (.slice B1 x1.es.length d1) x1.es)/\(ja w (.slice A2 x2.ds.length c2) x2.ds/\ja w (.slice B2 x2.es.length d2) x2.es)/\(ja w (.slice A3 x3.ds.length c3) x3.ds/\ja w (.slice B3 x3.es.length d3) x3.es)
theorem ucq {w W:World} {cs:Array Value} {x0 x1 x2 x3:Fr} (h:zbv w cs.toList x0 x1 x2 x3) {g:Nat} {T:TypeId} {fr:Nat × Nat} (hb:W.heap[g]?=some (.cells cs T fr)) (hx:Ext w W):za3 W (.slice (some ⟨g,0,none⟩) 4 4) [x0,x1,x2,x3]:=by
 obtain ⟨A0,c0,B0,d0,A1,c1,B1,d1,A2,c2,B2,d2,A3,c3,B3,d3,e,⟨p0,q0⟩,⟨p1,q1⟩,⟨p2,q2⟩,⟨p3,q3⟩⟩:=h;have hg:g < W.heap.size:=(Array.getElem?_eq_some_iff.1 hb).1;have hc:∀ j u,cs.toList[j]?=some u->W.cell? ⟨g,j,none⟩=some u:=fun j u hu=>by
  simp only [World.cell?,hb];simpa using hu
 rw [e] at hc;refine ⟨some ⟨g,0,none⟩,4,rfl,Nat.le_refl _,by omega,fun j hj=>?_⟩;have hj':j < 4:=by simpa using hj
 rcases (by omega:j=0\/j=1\/j=2\/j=3) with rfl | rfl | rfl | rfl
 · exact ⟨⟨g,0,none⟩,A0,c0,B0,d0,rfl,hg,by rw [zu]; exact ⟨hc 0 _ rfl,hc 1 _ rfl,hc 2 _ rfl⟩,p0.ext hx,q0.ext hx⟩
 · exact ⟨⟨g,0,none⟩,A1,c1,B1,d1,rfl,hg,by rw [zu]; exact ⟨hc 3 _ rfl,hc 4 _ rfl,hc 5 _ rfl⟩,p1.ext hx,q1.ext hx⟩
 · exact ⟨⟨g,0,none⟩,A2,c2,B2,d2,rfl,hg,by rw [zu]; exact ⟨hc 6 _ rfl,hc 7 _ rfl,hc 8 _ rfl⟩,p2.ext hx,q2.ext hx⟩
 · exact ⟨⟨g,0,none⟩,A3,c3,B3,d3,rfl,hg,by rw [zu]; exact ⟨hc 9 _ rfl,hc 10 _ rfl,hc 11 _ rfl⟩,p3.ext hx,q3.ext hx⟩
end Go.Proofs.YtaedbimbbeploaaGreat

/- Layer 40: evaluate.Poly. -/
set_option maxRecDepth 100000
set_option maxHeartbeats 8000000
namespace Go.Proofs.YtaedbimbbeploaaGreat
open Go.RowKit
def gbu (q:Rat) (L:Nat) (err:Int) (w:World) (e:Ending) (w':World):Prop:=∃ x,e=.returned (.tuple #[x,.int .i64 err])/\jo w' x q L/\Ext w w'
theorem ubz {w:World} {q:Nat->Prop} {L:Nat} {xv:Value} {xs:List Rat} (hL:1<=L) (hL2:L<=1099511627776) (hxs:RsV w L xv xs) (p:Pl) (v:Value) (hsz:p.sz<=1073741824) (hnf:p.nf.sz<=1099511627776) (hdm:p.dm<=1099511627776) (heb:p.eb L<=1099511627776) (h:PlV w q p v) :
 Calls Tryz.prog 15 #[v,xv] w (gbu (if p.nf.lv<=xs.length then p.val (rho xs) else 0) (rlen (p.val (rho xs))) (if p.nf.lv<=xs.length then 0 else 4) w):=by
 have HH:=Lib.hid h;have HXS:=Lib.hid hxs;obtain ⟨A0,n0,c0,A,c,rfl,hnat,hl1,hl2,h4⟩:=h.open_;obtain ⟨XA,Xc,rfl,-⟩:=id hxs;obtain ⟨W,hW⟩:∃ W,(w.alloc (.cells #[.int .i64 p.lv,.bool p.neg,.slice A0 n0 c0,.slice A p.cs.length c] 29)).alloc (.cells #[.bool false,.slice none 0 0,.slice none 0 0] 34)=W:=⟨_,rfl⟩;have hWx:Ext w W:=by rw [<- hW]; exact ((Ext.refl w).alloc _).alloc _
 have hWs:W.heap.size=w.heap.size+1+1:=by rw [<- hW]; simp
 have hbx:uf W w.heap.size p (.slice A0 n0 c0) (.slice A p.cs.length c):=by rw [<- hW]; exact (uf.new w p _ _ _).ext ((Ext.refl _).alloc _) (by simp)
 have hz:(W.cell? ⟨w.heap.size+1,0,none⟩=some (.bool false)/\W.cell? ⟨w.heap.size+1,1,none⟩=some (.slice none 0 0)/\W.cell? ⟨w.heap.size+1,2,none⟩=some (.slice none 0 0))/\∀ i,W.frozen? ⟨w.heap.size+1,i,none⟩=false:=by
  rw [<- hW];refine ⟨⟨?_,?_,?_⟩,fun i=>?_⟩ <;> simp [go_sem]
 have HZX:Hid (∀ W',Ext W W'->((W'.cell? ⟨w.heap.size+1,0,none⟩=some (.bool false)/\W'.cell? ⟨w.heap.size+1,1,none⟩=some (.slice none 0 0)/\W'.cell? ⟨w.heap.size+1,2,none⟩=some (.slice none 0 0))/\∀ i,W'.frozen? ⟨w.heap.size+1,i,none⟩=false)):=by
  have:∀ W',Ext W W'->((W'.cell? ⟨w.heap.size+1,0,none⟩=some (.bool false)/\W'.cell? ⟨w.heap.size+1,1,none⟩=some (.slice none 0 0)/\W'.cell? ⟨w.heap.size+1,2,none⟩=some (.slice none 0 0))/\∀ i,W'.frozen? ⟨w.heap.size+1,i,none⟩=false):=fun W' hx=>by
   have hb:w.heap.size+1 < W.heap.size:=by omega
   exact ⟨⟨(hx.cell (p:=⟨w.heap.size+1,0,none⟩) hb).trans hz.1.1,(hx.cell (p:=⟨w.heap.size+1,1,none⟩) hb).trans hz.1.2.1,(hx.cell (p:=⟨w.heap.size+1,2,none⟩) hb).trans hz.1.2.2⟩,fun i=>(hx.frozen (p:=⟨w.heap.size+1,i,none⟩) hb).trans (hz.2 i)⟩
  exact this
 have HWX:=Lib.hid hWx;have HBX:=Lib.hid hbx;have HLV:=Lib.hid (ya4 p _ (HH.out.ext hWx) hsz hnf hdm);have HEV:Hid (∀ W',Ext W W'->Calls Tryz.prog 28 #[plV p (.slice A0 n0 c0) (.slice A p.cs.length c),.slice XA xs.length Xc] W' (qj (p.val (rho xs)) W')):=by
  have:∀ W',Ext W W'->Calls Tryz.prog 28 #[plV p (.slice A0 n0 c0) (.slice A p.cs.length c),.slice XA xs.length Xc] W' (qj (p.val (rho xs)) W'):=fun W' hx=>jba hL hL2 (HXS.out.ext (HWX.out.trans hx)) p _ heb (HH.out.ext (HWX.out.trans hx))
  exact this
 obtain ⟨b0,b1,b2,b3⟩:=hbx;obtain ⟨⟨z0,z1,z2⟩,zf⟩:=hz;clear h hnat h4 hWx hxs hnf hdm heb hsz;unfold plV at HLV HEV;unfold plV;generalize p.nf.lv=lv at *;generalize p.val (rho xs)=qq at *;generalize hlen:xs.length=N at *
 by_cases hle:lv<=N
 · rw [if_pos hle,if_pos hle];have hgt:¬ ((N:Int) < lv):=by omega
   clear hle;go_enter Tryz.func15,Tryz.ntmps15;go_wp2_with fail;clear hW b0 b1 b2 b3 z0 z1 z2 zf;refine HLV.out.mono ?_;rintro e w1 ⟨rfl,x1⟩;obtain ⟨b0,b1,b2,b3⟩:=HBX.out.ext x1 (by omega);have X1:=Lib.hid x1;clear x1 HLV;go_wp2_with fail;clear b0 b1 b2 b3;refine (HEV.out _ X1.out).mono ?_;rintro e w2 ⟨v2,rfl,m2,x2⟩;obtain ⟨bq,A1,n1,c1,B1,k1,d1,rfl⟩:=m2.unpack;obtain ⟨⟨z0,z1,z2⟩,zf⟩:=HZX.out _ (X1.out.trans x2);have hcl:=vk (g:=w.heap.size+1) ((HWX.out.trans X1.out).trans x2) (by omega) z0 z1 z2 rfl rfl rfl m2;obtain ⟨x,ex,mx,hx⟩:=hcl;injection ex with ex
   have HR:=Lib.hid mx.raw;have HX:=Lib.hid hx;clear m2 x2 mx hx HEV HZX;subst ex;go_wp2_with fail;exact bodyPost_ret (v:=.tuple #[.agg #[.bool bq,.slice A1 n1 c1,.slice B1 k1 d1],.int .i64 0]) (by simp [results,Tryz.results15,go_sem,z0,z1,z2]) rfl ⟨_,rfl,HR.out,HX.out⟩
 · rw [if_neg hle,if_neg hle];have hgt:(N:Int) < lv:=by omega
   clear hle;go_enter Tryz.func15,Tryz.ntmps15;go_wp2_with fail;clear hW b0 b1 b2 b3 z0 z1 z2 zf;refine HLV.out.mono ?_;rintro e w1 ⟨rfl,x1⟩;obtain ⟨⟨z0,z1,z2⟩,zf⟩:=HZX.out _ x1;have X1:=Lib.hid (HWX.out.trans x1);clear x1 HLV HZX;have HF:Hid (gbu 0 (rlen qq) 4 w (.returned (.tuple #[.agg #[.bool false,.slice none 0 0,.slice none 0 0],.int .i64 4])) (((w1.setCell ⟨w.heap.size+1,0,none⟩ (.bool false)).setCell ⟨w.heap.size+1,1,none⟩ (.slice none 0 0)).setCell ⟨w.heap.size+1,2,none⟩ (.slice none 0 0))):=by
    refine ⟨_,rfl,⟨false,_,_,[],[],rfl,ja.nil _,ja.nil _,by decide,by simp,by simp⟩,((X1.out.setCell (by simp) _).setCell (by simp) _).setCell (by simp) _⟩
   go_wp2_with fail;exact bodyPost_ret (v:=.tuple #[.agg #[.bool false,.slice none 0 0,.slice none 0 0],.int .i64 4]) (by simp [results,Tryz.results15,go_sem,z0,z1,z2]) rfl HF.out
end Go.Proofs.YtaedbimbbeploaaGreat
