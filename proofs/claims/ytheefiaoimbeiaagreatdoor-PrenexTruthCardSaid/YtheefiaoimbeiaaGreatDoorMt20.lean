/- Layer 38: what prenex.Of computes, plain. No program in sight. -/
import Derived.Test.YtheefiaoimbeiaaGreatDoorMt19
import Derived.Test.YtheefiaoimbeiaaGreatDoorMt7
import Derived.Test.YtheefiaoimbeiaaGreatDoorMt8
import Derived.Test.YtheefiaoimbeiaaGreatDoorMt4
set_option linter.unusedSimpArgs false
set_option linter.unusedVariables false

namespace Go.Proofs.YtheefiaoimbeiaaGreatDoor
def za1 (r:Int):Int:=if r=1 then 5 else if r=2 then 6 else if r=4 then 3 else if r=5 then 1 else if r=6 then 2 else 4
def Pl.var (n:Int):Pl:=if 1<=n/\n<=4 then .mk n false [] [Pl.zero,Pl.const 1] else Pl.zero
theorem Pl.var_can (n:Int):(Pl.var n).Can:=by
 unfold Pl.var
 split
 · rename_i h;refine ya0 (by omega) h.2 (by simp) (jah fun c hc=>?_) (by
    have h1:=zaf (n:=1) (by decide);simp [Pl.const,Pl.zero];intro e;rw [e] at h1
    simp at h1)
   simp only [List.mem_cons,List.not_mem_nil,or_false] at hc;rcases hc with rfl | rfl
   · exact ⟨by simp [Pl.zero,Pl.lv]; omega,Pl.zero_can⟩
   · exact ⟨by simp [Pl.const,Pl.lv]; omega,xae 1⟩
 · exact Pl.zero_can
theorem Pl.var_fit (n:Int):Fit (Pl.var n) 1 1/\(Pl.var n).nr<=1:=by
 have h1:(Pl.var n).ex 1/\(Pl.var n).nr<=1:=by
  unfold Pl.var
  split
  · rename_i h;have hk:∀ c ∈ [Pl.zero,Pl.const 1],c.ex 1:=fun c hc=>by
     simp only [List.mem_cons,List.not_mem_nil,or_false] at hc;rcases hc with rfl | rfl
     · exact (Fit.zero (D:=1)).ex
     · exact (Fit.const (D:=1) (by decide)).ex
    refine ⟨by rw [Pl.ex]; exact .inr ⟨by simp,gbr hk⟩,?_⟩
    · rw [Pl.nr,if_neg (by omega),wab,wab,wab,Pl.const_nr];simp [Pl.zero,Pl.nr,sgn,val]
  · exact ⟨(Fit.zero (D:=1)).ex,by simp [Pl.zero,Pl.nr,sgn,val]⟩
 exact ⟨⟨Pl.var_can n,h1.1,by
   have:=h1.2; have:1 < B32 ^ 1:=by decide
   omega⟩,h1.2⟩
theorem Pl.add_nr {p q:Pl} (hp:p.Can) (hq:q.Can):(p.add q).nr<=p.nr+q.nr:=by
 refine Nat.le_trans (Pl.ofS_nr _) ?_;rw [yaq,Pl.terms_nr p _ hp,Pl.terms_nr q _ hq];exact Nat.le_refl _
theorem Pl.opp_nr {p:Pl} (hp:p.Can):p.opp.nr<=p.nr:=by
 have:=Pl.mul_nr hp (xae (-1));rw [Pl.const_nr] at this;simpa [Pl.opp] using this
theorem Pl.pow_nr {p:Pl} (hp:p.Can) (n:Nat):(p.pow n).nr<=p.nr ^ n:=by
 induction n with
 | zero=>rw [Pl.pow,Pl.const_nr]; simp
 | succ n ih=>exact Nat.le_trans (Pl.mul_nr (Pl.pow_can p n) hp) (by rw [Nat.pow_succ]; exact Nat.mul_le_mul_right _ ih)
def yl (g : ByteArray -> Int) : Tm -> Pl
 | .num z=>Pl.const z
 | .name s=>Pl.var (g s)
 | .add a b=>(yl g a).add (yl g b)
 | .sub a b=>(yl g a).add (yl g b).opp
 | .mul a b=>(yl g a).mul (yl g b)
 | .neg a=>(yl g a).opp
 | .pow a e=>(yl g a).pow e.toNat
theorem vcf (k:Nat):∀ n,n < k->n < 10 ^ wae n:=by
 induction k with
 | zero=>intro n h; omega
 | succ k ih =>
   intro n h
   by_cases h1:n < 10
   · rw [ya2 h1]; omega
   · rw [uba (by omega),Nat.pow_succ];have:=ih (n / 10) (by omega);omega
def Bd (p:Pl) (W:Nat):Prop:=p.Can/\p.ex W/\p.nr<=10 ^ W
theorem Bd.fit {p:Pl} {W:Nat} (h:Bd p W):Fit p W (W+1):=⟨h.1,h.2.1,Nat.lt_of_le_of_lt h.2.2 (Nat.lt_of_lt_of_le (Nat.pow_lt_pow_right (by decide) (Nat.lt_succ_self W)) (Nat.pow_le_pow_left (by decide) _))⟩
theorem Bd.mono {p:Pl} {W V:Nat} (h:Bd p W) (hl:W<=V):Bd p V:=⟨h.1,Pl.ex_mono hl _ h.2.1,Nat.le_trans h.2.2 (Nat.pow_le_pow_right (by decide) hl)⟩
theorem Bd.add {p q:Pl} {W:Nat} (h:Bd p W) (k:Bd q W):Bd (p.add q) (W+1):=by
 refine ⟨Pl.add_can _ _,Pl.ex_mono (by omega) _ (h.fit.add k.fit).ex,Nat.le_trans (Pl.add_nr h.1 k.1) ?_⟩;have:=h.2.2; have:=k.2.2;rw [Nat.pow_succ];omega
theorem Bd.mul {p q:Pl} {W V:Nat} (h:Bd p W) (k:Bd q V):Bd (p.mul q) (W+V):=
 ⟨Pl.mul_can _ _,(h.fit.mul k.fit).ex,Nat.le_trans (Pl.mul_nr h.1 k.1) (by rw [Nat.pow_add]; exact Nat.mul_le_mul h.2.2 k.2.2)⟩
theorem Bd.opp {p:Pl} {W:Nat} (h:Bd p W):Bd p.opp W:=⟨Pl.opp_can _,h.fit.opp.ex,Nat.le_trans (Pl.opp_nr h.1) h.2.2⟩
theorem Bd.pow {p:Pl} {W:Nat} (h:Bd p W) (n:Nat):Bd (p.pow n) (n * W):=
 ⟨Pl.pow_can _ _,(h.fit.pow n).ex,Nat.le_trans (Pl.pow_nr h.1 n) (by rw [Nat.mul_comm,Nat.pow_mul]; exact Nat.pow_le_pow_left h.2.2 n)⟩
theorem wak {n:Int} (h:ui n<=400):ui n=n:=by unfold ui at *; split at h <;> (try split) <;> omega
theorem gbc {a:Tm} {e:Int} (h:(Tm.pow a e).wt<=400):(Tm.pow a e).wt=jc e 1 * a.wt/\a.wt<=400/\1<=jc e 1/\e<=jc e 1/\jc e 1<=400:=by
 have ha:=a.wt_bd;have he:1<=jc e 1/\e<=jc e 1:=by unfold jc; split <;> omega
 have h1:=waf he.1;have h2:=waf ha.1
 change uae (jc e 1) a.wt<=400 at h
 change uae (jc e 1) a.wt=_/\_
 unfold uae at h ⊢;have h3:=wak h;rw [h3] at h ⊢;have h4:ui (jc e 1) * 1<=ui (jc e 1) * ui a.wt:=Int.mul_le_mul_of_nonneg_left h2.1 (by omega);have h5:1 * ui a.wt<=ui (jc e 1) * ui a.wt:=Int.mul_le_mul_of_nonneg_right h1.1 (by omega);have e1:=wak (n:=jc e 1) (by omega);have e2:=wak (n:=a.wt) (by omega);rw [e1,e2] at h h4 h5 ⊢;exact ⟨rfl,by omega,he.1,he.2,by omega⟩
theorem vag (g:ByteArray->Int) (t:Tm) (h:t.wt<=400):Bd (yl g t) t.wt.toNat:=by
 induction t with
 | num z =>
   have h1:=wak h;refine ⟨xae z,(Fit.const (D:=z.natAbs+1) (Nat.lt_of_lt_of_le (Nat.lt_pow_self (by decide)) (Nat.pow_le_pow_right (by decide) (Nat.le_succ _)))).ex,?_⟩;have h2:(Tm.num z).wt.toNat=wae z.natAbs:=by show (ui _).toNat=_; rw [h1]; rfl
   rw [h2];show (Pl.const z).nr<=_;rw [Pl.const_nr];exact Nat.le_of_lt (vcf (z.natAbs+1) _ (by omega))
 | name s =>
   have:=Pl.var_fit (g s);exact ⟨this.1.can,this.1.ex,Nat.le_trans this.2 (Nat.pow_pos (by decide))⟩
 | add a b iha ihb =>
   have h1:(Tm.add a b).wt=jc a.wt b.wt+1:=wak h;have hm:a.wt<=jc a.wt b.wt/\b.wt<=jc a.wt b.wt:=by unfold jc; split <;> omega
   have:=a.wt_bd; have:=b.wt_bd;rw [h1] at h ⊢;rw [show (jc a.wt b.wt+1).toNat=(jc a.wt b.wt).toNat+1 by omega];exact ((iha (by omega)).mono (by omega)).add ((ihb (by omega)).mono (by omega))
 | sub a b iha ihb =>
   have h1:(Tm.sub a b).wt=jc a.wt b.wt+1:=wak h;have hm:a.wt<=jc a.wt b.wt/\b.wt<=jc a.wt b.wt:=by unfold jc; split <;> omega
   have:=a.wt_bd; have:=b.wt_bd;rw [h1] at h ⊢;rw [show (jc a.wt b.wt+1).toNat=(jc a.wt b.wt).toNat+1 by omega];exact ((iha (by omega)).mono (by omega)).add ((ihb (by omega)).mono (by omega)).opp
 | mul a b iha ihb =>
   have h1:(Tm.mul a b).wt=a.wt+b.wt:=wak h;have:=a.wt_bd; have:=b.wt_bd;rw [h1] at h ⊢;rw [show (a.wt+b.wt).toNat=a.wt.toNat+b.wt.toNat by omega];exact (iha (by omega)).mul (ihb (by omega))
 | neg a iha=>exact (iha h).opp
 | pow a e iha =>
   obtain ⟨h1,h2,h3,h4,h5⟩:=gbc h;rw [h1];have ha:=a.wt_bd;refine ((iha h2).pow e.toNat).mono ?_;have h6:e.toNat * a.wt.toNat<=(jc e 1).toNat * a.wt.toNat:=Nat.mul_le_mul_right _ (by omega);have h7:(jc e 1 * a.wt).toNat=(jc e 1).toNat * a.wt.toNat:=by
    obtain ⟨m,hm⟩:∃ m:Nat,jc e 1=m:=⟨(jc e 1).toNat,by omega⟩;obtain ⟨n,hn⟩:∃ n:Nat,a.wt=n:=⟨a.wt.toNat,by omega⟩;rw [hm,hn];exact Int.toNat_natCast (m * n)
   omega
structure PSt where
 names:List ByteArray
 all:List Bool
 lev:ByteArray->Int
def PSt.bind (s:PSt) (a:Bool) (nm:ByteArray):PSt:=⟨s.names ++ [nm],s.all ++ [a],fun t=>if t=nm then (s.names.length+1:Nat) else s.lev t⟩
def uw (k:Int) (a b:Mx):Mx:=.mk k 0 Pl.zero [a,b]
def gba (b:Bool):Mx:=.mk (if b then 1 else 0) 0 Pl.zero []
def wba (r:Int) (p:Pl):Mx:=.mk 2 r p []
def Fm.noIff : Fm -> Bool
 | .truth _=>true
 | .atom _ _ _=>true
 | .not f=>f.noIff
 | .and f g=>f.noIff && g.noIff
 | .or f g=>f.noIff && g.noIff
 | .imp f g=>f.noIff && g.noIff
 | .iff _ _=>false
 | .quant _ _ f=>f.noIff
def yc : Fm -> Bool -> PSt -> Mx × PSt
 | .truth b,pos,s=>(gba (b == pos),s)
 | .atom l r k,pos,s=>(wba (if pos then yal r else za1 (yal r)) ((yl s.lev l).add (yl s.lev k).opp),s)
 | .not f,pos,s=>yc f (!pos) s
 | .and f g,pos,s=>(uw (if pos then 3 else 4) (yc f pos s).1 (yc g pos (yc f pos s).2).1,(yc g pos (yc f pos s).2).2)
 | .or f g,pos,s=>(uw (if pos then 4 else 3) (yc f pos s).1 (yc g pos (yc f pos s).2).1,(yc g pos (yc f pos s).2).2)
 | .imp f g,pos,s=>(uw (if pos then 4 else 3) (yc f (!pos) s).1 (yc g pos (yc f (!pos) s).2).1,(yc g pos (yc f (!pos) s).2).2)
 | .iff f g,pos,s=>(uw 4 (uw 3 (yc f true s).1 (yc g pos s).1) (uw 3 (yc f false s).1 (yc g (!pos) s).1),s)
 | .quant a nm f,pos,s=>yc f pos (s.bind (a == pos) nm)
def Fm.okB : Fm -> Bool -> Bool
 | .truth _,_=>true
 | .atom _ _ _,_=>true
 | .not f,c=>f.okB c
 | .and f g,c=>f.okB c && g.okB c
 | .or f g,c=>f.okB c && g.okB c
 | .imp f g,c=>f.okB c && g.okB c
 | .iff f g,_=>f.okB true && g.okB true
 | .quant _ _ f,c=>!c && f.okB c
theorem vac (f:Fm):f.okB true=true->f.bound=[]/\(∀ pos s,(yc f pos s).2=s)/\f.okB false=true:=by
 induction f with
 | truth b=>exact fun _=>⟨rfl,fun _ _=>rfl,rfl⟩
 | atom l r k=>exact fun _=>⟨rfl,fun _ _=>rfl,rfl⟩
 | not f ih=>exact fun h=>⟨(ih h).1,fun pos s=>(ih h).2.1 (!pos) s,(ih h).2.2⟩
 | and f g ihf ihg =>
   intro h;simp only [Fm.okB,Bool.and_eq_true] at h ⊢;exact ⟨by simp [Fm.bound,(ihf h.1).1,(ihg h.2).1],fun pos s=>by simp only [yc]; rw [(ihg h.2).2.1,(ihf h.1).2.1],(ihf h.1).2.2,(ihg h.2).2.2⟩
 | or f g ihf ihg =>
   intro h;simp only [Fm.okB,Bool.and_eq_true] at h ⊢;exact ⟨by simp [Fm.bound,(ihf h.1).1,(ihg h.2).1],fun pos s=>by simp only [yc]; rw [(ihg h.2).2.1,(ihf h.1).2.1],(ihf h.1).2.2,(ihg h.2).2.2⟩
 | imp f g ihf ihg =>
   intro h;simp only [Fm.okB,Bool.and_eq_true] at h ⊢;exact ⟨by simp [Fm.bound,(ihf h.1).1,(ihg h.2).1],fun pos s=>by simp only [yc]; rw [(ihg h.2).2.1,(ihf h.1).2.1],(ihf h.1).2.2,(ihg h.2).2.2⟩
 | iff f g ihf ihg =>
   intro h;simp only [Fm.okB,Bool.and_eq_true] at h ⊢;exact ⟨by simp [Fm.bound,(ihf h.1).1,(ihg h.2).1],fun pos s=>rfl,h⟩
 | quant a nm f ih=>intro h; simp [Fm.okB] at h
theorem ybk {f:Fm} (h:f.okB true=true) (c:Bool):f.okB c=true:=by
 cases c
 · exact (vac f h).2.2
 · exact h
theorem vb5 (f:Fm):f.noIff=true->f.okB false=true:=by
 induction f with
 | truth b=>exact fun _=>rfl
 | atom l r k=>exact fun _=>rfl
 | not f ih=>exact ih
 | and f g ihf ihg=>intro h; simp only [Fm.noIff,Fm.okB,Bool.and_eq_true] at h ⊢; exact ⟨ihf h.1,ihg h.2⟩
 | or f g ihf ihg=>intro h; simp only [Fm.noIff,Fm.okB,Bool.and_eq_true] at h ⊢; exact ⟨ihf h.1,ihg h.2⟩
 | imp f g ihf ihg=>intro h; simp only [Fm.noIff,Fm.okB,Bool.and_eq_true] at h ⊢; exact ⟨ihf h.1,ihg h.2⟩
 | iff f g _ _=>intro h; cases h
 | quant a nm f ih=>intro h; simp only [Fm.okB,Bool.not_false,Bool.true_and]; exact ih h
def Fm.light : Fm -> Prop
 | .truth _=>True
 | .atom l _ k=>l.wt<=320/\k.wt<=320
 | .not f=>f.light
 | .and f g=>f.light/\g.light
 | .or f g=>f.light/\g.light
 | .imp f g=>f.light/\g.light
 | .iff f g=>f.light/\g.light
 | .quant _ _ f=>f.light
end Go.Proofs.YtheefiaoimbeiaaGreatDoor

/- Layer 34: formula.termNodes, Nodes, Atoms, small, limited. -/
set_option maxRecDepth 100000
set_option maxHeartbeats 8000000
namespace Go.Proofs.YtheefiaoimbeiaaGreatDoor
open Go.RowKit
attribute [local go_sem] xaa xy gaa zaa kaa jaa yaa yt qy qaa uaa yad qm vaa ut
theorem qbu (l:List Tm) (k:Nat) (h:k < l.length):uad (l.take (k+1))=uad (l.take k)+l[k].sz:=by
 unfold uad; rw [List.take_succ_eq_append_getElem h,List.map_append,List.sum_append,List.map_singleton,List.sum_singleton]
theorem uby (l:List Fm) (k:Nat) (h:k < l.length):ul (l.take (k+1))=ul (l.take k)+l[k].sz:=by
 unfold ul; rw [List.take_succ_eq_append_getElem h,List.map_append,List.sum_append,List.map_singleton,List.sum_singleton]
theorem jca (l:List Tm) (k:Nat):uad (l.take k)<=uad l:=by
 have:uad l=uad (l.take k)+uad (l.drop k):=by unfold uad; rw [<- List.sum_append,<- List.map_append,List.take_append_drop]
 omega
theorem uci (l:List Fm) (k:Nat):ul (l.take k)<=ul l:=by
 have:ul l=ul (l.take k)+ul (l.drop k):=by unfold ul; rw [<- List.sum_append,<- List.map_append,List.take_append_drop]
 omega
theorem jbh {w0:World} {L:Nat} (n:Nat):∀ (t:Tm) (v:Value) (W:World),t.sz < n->t.sz<=1099511627776->TmV w0 L t v->Calls Tryz.prog 72 #[v] W (qp t.sz W):=by
 induction n with
 | zero=>intro t v W h; omega
 | succ n ih =>
   intro t v W hn hb h;have IH:=Lib.hid ih;have H:=Lib.hid h;obtain ⟨T,x,rfl⟩:=h.iface;have hlen:=t.kids_len;have hks:=xa7 t;clear ih h;go_enter Tryz.func72,Tryz.ntmps72;go_wp2_with fail;refine (jaj t H.out).mono ?_;rintro e w2 ⟨s2,rfl,hs,-,hx⟩;obtain ⟨A,c,rfl⟩:=hs.len;have HS:=Lib.hid hs;have HX:=Lib.hid hx;clear hs hx;go_wp2_with fail
   go_loopw [3,9] (fun av iv wr=>∃ k:Nat,k<=t.kids.length/\iv=.int .i64 k/\av=.int .i64 (1+uad (t.kids.take k):Nat)/\Hid (Ext w2 wr)) (fun _ iv _=>t.kids.length - (intOf iv).toNat)
   case atStart=>exact ⟨0,Nat.zero_le _,rfl,rfl,Ext.refl _⟩
   case round =>
    obtain ⟨k,hk,rfl,rfl,hx0⟩:=hrel;have HXR:=Lib.hid hx0.out;clear hx0
    by_cases hlt:k < t.kids.length
    · obtain ⟨ad,y,rfl,hc,hp⟩:=SlR.get_ (SlR.ext HS.out (fun _ _ h=>h) HXR.out) k hlt;have HP:=Lib.hid hp;obtain ⟨U,y,rfl⟩:=hp.iface;clear hp;have hkl:t.kids[k].sz < t.sz:=Tm.kids_lt _ _ (List.getElem_mem hlt);have hst:=qbu t.kids k hlt;have hsl:=jca t.kids (k+1);obtain ⟨a,ha⟩:=n_m (1+uad (t.kids.take k));have HA:Hid (1+uad (t.kids.take (k+1))=a+t.kids[k].sz):=Lib.hid (by omega);have IH1:=Lib.hid (IH.out t.kids[k] (.iface U y) wr (by omega) (by omega) HP.out);rw [ha];have hw:IntKind.i64.wrap ((a:Int)+(t.kids[k].sz:Int))=((a+t.kids[k].sz:Nat):Int):=by rw [IntKind.wrap_i64]; omega
      clear ha hst hsl;generalize t.kids[k].sz=z at *;go_wp2_with fail;refine IH1.out.mono ?_;rintro e w3 ⟨rfl,x3⟩;have X3:=Lib.hid (HXR.out.trans x3);clear x3 hc;go_wp2_with fail
      go_roundw
      case rel=>exact ⟨k+1,by omega,by go_num,by rw [HA.out,Int.natCast_add],X3⟩
      case measure=>simp [intOf]; omega
    · have hke:k=t.kids.length:=by omega
      have HZ:Hid (1+uad (t.kids.take k)=t.sz):=Lib.hid (by rw [hke,List.take_length]; omega);rw [HZ.out];go_wp2_with fail;go_ret;exact ⟨rfl,HX.out.trans HXR.out⟩
theorem gay {w0 W:World} {L:Nat} (t:Tm) {v:Value} (hb:t.sz<=1099511627776) (h:TmV w0 L t v):Calls Tryz.prog 72 #[v] W (qp t.sz W):=jbh (t.sz+1) t v W (Nat.lt_succ_self _) hb h
def Fm.isAtom : Fm -> Bool
 | .atom _ _ _=>true
 | _=>false
theorem FmV.two {w:World} {L:Nat} {f:Fm} {v:Value} (h:FmV w L f v):(∃ l r k x y,f=.atom l r k/\v=.iface 77 (.agg #[x,.int .i64 r,y])/\TmV w L l x/\TmV w L k y)\/(f.isAtom=false/\∃ T x,v=.iface T x/\¬ T=77):=by
 cases f <;> (simp only [FmV] at h)
 · exact .inr ⟨rfl,_,_,h,by decide⟩
 · obtain ⟨x,y,e,h1,h2⟩:=h;exact .inl ⟨_,_,_,x,y,rfl,e,h1,h2⟩
 all_goals first | (obtain ⟨_,e,_⟩:=h; exact .inr ⟨rfl,_,_,e,by decide⟩) | (obtain ⟨_,_,e,_⟩:=h; exact .inr ⟨rfl,_,_,e,by decide⟩)
theorem Fm.sz_kids (f:Fm) (h:f.isAtom=false):f.sz=1+ul f.kids:=by cases f <;> simp_all [Fm.isAtom,Fm.kids,ul,Fm.sz] <;> omega
def Fm.atoms : Fm -> Nat
 | .truth _=>0
 | .atom _ _ _=>1
 | .not f=>f.atoms
 | .and f g=>f.atoms+g.atoms
 | .or f g=>f.atoms+g.atoms
 | .imp f g=>f.atoms+g.atoms
 | .iff f g=>f.atoms+g.atoms
 | .quant _ _ f=>f.atoms
def gah (l:List Fm):Nat:=(l.map Fm.atoms).sum
theorem gby (l:List Fm) (k:Nat) (h:k < l.length):gah (l.take (k+1))=gah (l.take k)+l[k].atoms:=by
 unfold gah; rw [List.take_succ_eq_append_getElem h,List.map_append,List.sum_append,List.map_singleton,List.sum_singleton]
theorem gci (l:List Fm) (k:Nat):gah (l.take k)<=gah l:=by
 have:gah l=gah (l.take k)+gah (l.drop k):=by unfold gah; rw [<- List.sum_append,<- List.map_append,List.take_append_drop]
 omega
theorem Fm.atoms_le (f:Fm):f.atoms<=f.sz:=by induction f <;> simp only [Fm.atoms,Fm.sz] <;> omega
theorem Fm.atoms_kids (f:Fm):f.atoms=(if f.isAtom then 1 else 0)+gah f.kids:=by cases f <;> simp [Fm.isAtom,Fm.kids,gah,Fm.atoms]
theorem kcf {w0:World} {L:Nat} (n:Nat):∀ (f:Fm) (v:Value) (W:World),f.sz < n->f.sz<=1099511627776->FmV w0 L f v->Calls Tryz.prog 33 #[v] W (qp f.sz W):=by
 induction n with
 | zero=>intro t v W h; omega
 | succ n ih =>
   intro f v W hn hb h;have IH:=Lib.hid ih;have H:=Lib.hid h;have hlen:=f.kids_len;clear ih;rcases h.two with ⟨l,r,k,x,y,rfl,rfl,hl,hr⟩ | ⟨hna,T,x,rfl,hT⟩
   · have hbb:l.sz+k.sz+1<=1099511627776:=hb;have HL:=Lib.hid (fun W'=>gay (W:=W') l (by omega) hl);have HR:=Lib.hid (fun W'=>gay (W:=W') k (by omega) hr);obtain ⟨T,x,rfl⟩:=hl.iface;obtain ⟨U,y,rfl⟩:=hr.iface;have HZ:Hid ((Fm.atom l r k).sz=l.sz+k.sz+1):=Lib.hid rfl;rw [HZ.out];obtain ⟨a,ha⟩:=n_m (l.sz);obtain ⟨b,hb'⟩:=n_m (k.sz);rw [ha] at HL hbb ⊢;rw [hb'] at HR hbb ⊢;obtain ⟨c,hc⟩:=n_m (a+b);have hw1:IntKind.i64.wrap ((a:Int)+(b:Int))=(c:Int):=by rw [IntKind.wrap_i64]; omega
     have hw2:IntKind.i64.wrap (1+(c:Int))=((c+1:Nat):Int):=by rw [IntKind.wrap_i64]; omega
     rw [hc];clear h hl hr hb hn ha hb' hc HZ hlen;go_enter Tryz.func33,Tryz.ntmps33;obtain ⟨W1,hW⟩:=n_m (W.alloc (.cells #[.iface T x,.int .i64 r,.iface U y] 77));have HB:Hid (∀ W',Ext W1 W'->(Ext W1 W'/\W'.cell? ⟨W.heap.size,0,none⟩=some (.iface T x)/\W'.cell? ⟨W.heap.size,2,none⟩=some (.iface U y))):=by
      intro W' hx;obtain ⟨hc,hf⟩:=hx.cells;refine ⟨hx,?_,?_⟩ <;> (rw [hc _ _ (by rw [<- hW]; simp),<- hW]; simp [go_sem])
     have HX0:Hid (Ext W W1):=Lib.hid (by rw [<- hW]; exact (Ext.refl W).alloc _);go_upto_region 4 with fail;clear hW
     go_region_held3 (fun W' => Ext W1 W' /\ W'.cell? ⟨W.heap.size, 0, none⟩ = some (.iface T x) /\ W'.cell? ⟨W.heap.size, 2, none⟩ = some (.iface U y))
      (first | exact HB.out _ ((Ext.refl W1).drew) | exact HB.out _ (by assumption))
      (first
        | (go_at_call_of 72 (Value.iface T x)
           refine (HL.out _).mono ?_;rintro e v1 ⟨rfl,x1⟩
           have y1:Ext W1 v1:=Ext.trans ((Ext.refl W1).drew) x1)
        | (go_at_call_of 72 (Value.iface U y)
           refine (HR.out _).mono ?_;rintro e v2 ⟨rfl,x2⟩
           have y2:Ext W1 v2:=Ext.trans y1 x2))
     have HY2:=Lib.hid (HX0.out.trans y2);clear y1 y2 x1 x2 HB HX0;go_wp2_with fail;refine (yae (Fm.atom l r k) H.out).mono ?_;rintro e w2 ⟨s2,rfl,hs,-,hx⟩;obtain ⟨A,cc,rfl⟩:=hs.len;have HX:=Lib.hid (HY2.out.trans hx);have hl0:(Fm.atom l r k).kids.length=0:=rfl;rw [hl0];clear hs hx hl0 HY2;go_wp2_with fail
     go_loopw [3,26] (fun av iv wr=>iv=.int .i64 0/\av=.int .i64 (c+1:Nat)/\Hid (Ext W wr)) (fun _ _ _=>0)
     case atStart=>exact ⟨rfl,rfl,HX⟩
     case round =>
      obtain ⟨rfl,rfl,hx0⟩:=hrel;go_wp2_with fail;go_ret;exact ⟨rfl,hx0.out⟩
   · have hks:=f.sz_kids hna;clear h hna;go_enter Tryz.func33,Tryz.ntmps33;go_wp2_with fail;refine (yae f H.out).mono ?_;rintro e w2 ⟨s2,rfl,hs,-,hx⟩;obtain ⟨A,c,rfl⟩:=hs.len;have HS:=Lib.hid hs;have HX:=Lib.hid (Ext.trans ((Ext.refl W).alloc _) hx);clear hs hx;go_wp2_with fail
     go_loopw [3,26] (fun av iv wr=>∃ k:Nat,k<=f.kids.length/\iv=.int .i64 k/\av=.int .i64 (1+ul (f.kids.take k):Nat)/\Hid (Ext w2 wr)) (fun _ iv _=>f.kids.length - (intOf iv).toNat)
     case atStart=>exact ⟨0,Nat.zero_le _,rfl,rfl,Ext.refl _⟩
     case round =>
      obtain ⟨k,hk,rfl,rfl,hx0⟩:=hrel;have HXR:=Lib.hid hx0.out;clear hx0
      by_cases hlt:k < f.kids.length
      · obtain ⟨ad,y,rfl,hc,hp⟩:=SlR.get_ (SlR.ext HS.out (fun _ _ h=>h) HXR.out) k hlt;have HP:=Lib.hid hp;obtain ⟨U,y,rfl⟩:=hp.iface;clear hp;have hkl:f.kids[k].sz < f.sz:=Fm.kids_lt _ _ (List.getElem_mem hlt);have hst:=uby f.kids k hlt;have hsl:=uci f.kids (k+1);obtain ⟨a,ha⟩:=n_m (1+ul (f.kids.take k));have HA:Hid (1+ul (f.kids.take (k+1))=a+f.kids[k].sz):=Lib.hid (by omega);have IH1:=Lib.hid (IH.out f.kids[k] (.iface U y) wr (by omega) (by omega) HP.out);rw [ha];have hw:IntKind.i64.wrap ((a:Int)+(f.kids[k].sz:Int))=((a+f.kids[k].sz:Nat):Int):=by rw [IntKind.wrap_i64]; omega
        clear ha hst hsl;generalize f.kids[k].sz=z at *;go_wp2_with fail;refine IH1.out.mono ?_;rintro e w3 ⟨rfl,x3⟩;have X3:=Lib.hid (HXR.out.trans x3);clear x3 hc;go_wp2_with fail
        go_roundw
        case rel=>exact ⟨k+1,by omega,by go_num,by rw [HA.out,Int.natCast_add],X3⟩
        case measure=>simp [intOf]; omega
      · have hke:k=f.kids.length:=by omega
        have HZ:Hid (1+ul (f.kids.take k)=f.sz):=Lib.hid (by rw [hke,List.take_length]; omega);rw [HZ.out];go_wp2_with fail;go_ret;exact ⟨rfl,HX.out.trans HXR.out⟩
theorem kb5 {w0 W:World} {L:Nat} (f:Fm) {v:Value} (hb:f.sz<=1099511627776) (h:FmV w0 L f v):Calls Tryz.prog 33 #[v] W (qp f.sz W):=kcf (f.sz+1) f v W (Nat.lt_succ_self _) hb h
theorem kck {w0:World} {L:Nat} (n:Nat):∀ (f:Fm) (v:Value) (W:World),f.sz < n->f.sz<=1099511627776->FmV w0 L f v->Calls Tryz.prog 34 #[v] W (qp f.atoms W):=by
 induction n with
 | zero=>intro t v W h; omega
 | succ n ih =>
   intro f v W hn hb h;have IH:=Lib.hid ih;have H:=Lib.hid h;have hlen:=f.kids_len;have hks:=f.atoms_kids;have hal:=f.atoms_le;clear ih;obtain ⟨s0,hs0⟩:∃ s0:Nat,(if f.isAtom then 1 else 0)=s0:=⟨_,rfl⟩;rw [hs0] at hks;have HS0:=Lib.hid hs0;have hfl:=h;clear hs0;rcases h.two with ⟨l,r,k0,x,y,hfe,rfl,hl,hr⟩ | ⟨hna,T,x,rfl,hT⟩
   focus
    obtain ⟨T,x,rfl⟩:=hl.iface;obtain ⟨U,y,rfl⟩:=hr.iface;have HQ:Hid (s0=1):=Lib.hid (by rw [<- HS0.out,hfe]; rfl);clear hl hr h hfl HS0 hfe;go_enter Tryz.func34,Tryz.ntmps34;go_upto_region 5 with fail
   rotate_left
   focus
    have HQ:Hid (s0=0):=Lib.hid (by rw [<- HS0.out,hna]; rfl);clear h hfl HS0 hna;go_enter Tryz.func34,Tryz.ntmps34;go_upto_region 5 with fail
   all_goals
    go_wp2_with fail;refine (yae f H.out).mono ?_;rintro e w2 ⟨s2,rfl,hs,-,hx⟩;obtain ⟨A,c,rfl⟩:=hs.len;have HS:=Lib.hid hs;have HX:=Lib.hid (Ext.trans ((Ext.refl W).alloc _) hx);clear hs hx;go_wp2_with fail
    go_loopw [3,19] (fun av iv wr=>∃ k:Nat,k<=f.kids.length/\iv=.int .i64 k/\av=.int .i64 (s0+gah (f.kids.take k):Nat)/\Hid (Ext w2 wr)) (fun _ iv _=>f.kids.length - (intOf iv).toNat)
    case atStart=>exact ⟨0,Nat.zero_le _,rfl,by rw [HQ.out]; rfl,Ext.refl _⟩
    case round =>
     obtain ⟨k,hk,rfl,rfl,hx0⟩:=hrel;have HXR:=Lib.hid hx0.out;clear hx0
     by_cases hlt:k < f.kids.length
     · obtain ⟨ad,y,rfl,hc,hp⟩:=SlR.get_ (SlR.ext HS.out (fun _ _ h=>h) HXR.out) k hlt;have HP:=Lib.hid hp;obtain ⟨U,y,rfl⟩:=hp.iface;clear hp;have hkl:f.kids[k].sz < f.sz:=Fm.kids_lt _ _ (List.getElem_mem hlt);have hst:=gby f.kids k hlt;have hsl:=gci f.kids (k+1);obtain ⟨a,ha⟩:=n_m (s0+gah (f.kids.take k));have HA:Hid (s0+gah (f.kids.take (k+1))=a+f.kids[k].atoms):=Lib.hid (by omega);have IH1:=Lib.hid (IH.out f.kids[k] (.iface U y) wr (by omega) (by omega) HP.out);rw [ha];have hw:IntKind.i64.wrap ((a:Int)+(f.kids[k].atoms:Int))=((a+f.kids[k].atoms:Nat):Int):=by rw [IntKind.wrap_i64]; omega
       clear ha hst hsl;generalize f.kids[k].atoms=z at *;go_wp2_with fail;refine IH1.out.mono ?_;rintro e w3 ⟨rfl,x3⟩;have X3:=Lib.hid (HXR.out.trans x3);clear x3 hc;go_wp2_with fail
       go_roundw
       case rel=>exact ⟨k+1,by omega,by go_num,by rw [HA.out,Int.natCast_add],X3⟩
       case measure=>simp [intOf]; omega
     · have hke:k=f.kids.length:=by omega
       have HZ:Hid (s0+gah (f.kids.take k)=f.atoms):=Lib.hid (by rw [hke,List.take_length]; omega);rw [HZ.out];go_wp2_with fail;go_ret;exact ⟨rfl,HX.out.trans HXR.out⟩
theorem vb8 {w0 W:World} {L:Nat} (f:Fm) {v:Value} (hb:f.sz<=1099511627776) (h:FmV w0 L f v):Calls Tryz.prog 34 #[v] W (qp f.atoms W):=kck (f.sz+1) f v W (Nat.lt_succ_self _) hb h
end Go.Proofs.YtheefiaoimbeiaaGreatDoor

/- Layer 34: formula.small, limited. -/
set_option maxRecDepth 100000
set_option maxHeartbeats 8000000
namespace Go.Proofs.YtheefiaoimbeiaaGreatDoor
open Go.RowKit
attribute [local go_sem] xaa xy gaa zaa kaa jaa yaa yt qy qaa uaa yad qm vaa ut
def Tm.small : Tm -> Bool
 | .num z=>decide (wae z.natAbs<=40)
 | .name _=>true
 | .add a b=>a.small && b.small
 | .sub a b=>a.small && b.small
 | .mul a b=>a.small && b.small
 | .neg a=>a.small
 | .pow a e=>decide (e<=8) && a.small
theorem TmV.three {w:World} {L:Nat} {t:Tm} {v:Value} (h:TmV w L t v):(∃ z x,t=.num z/\v=.iface 110 x/\jg w x z L)\/(∃ a e x,t=.pow a e/\v=.iface 173 (.agg #[x,.int .i64 e])/\TmV w L a x/\t.small=(decide (e<=8) && t.kids.all Tm.small))\/(t.small=t.kids.all Tm.small/\∃ T x,v=.iface T x/\¬ T=110/\¬ T=173):=by
 cases t <;> (simp only [TmV] at h)
 case num z=>obtain ⟨x,e,h⟩:=h; exact .inl ⟨z,x,rfl,e,h⟩
 case pow a e=>obtain ⟨x,e',h⟩:=h; exact .inr (.inl ⟨a,e,x,rfl,e',h,by simp [Tm.small,Tm.kids]⟩)
 case name s=>exact .inr (.inr ⟨by simp [Tm.small,Tm.kids],_,_,h,by decide,by decide⟩)
 all_goals first | (obtain ⟨_,e,_⟩:=h; exact .inr (.inr ⟨by simp [Tm.small,Tm.kids],_,_,e,by decide,by decide⟩)) | (obtain ⟨_,_,e,_⟩:=h; exact .inr (.inr ⟨by simp [Tm.small,Tm.kids],_,_,e,by decide,by decide⟩))
theorem va6 {α:Type} (p:α->Bool) (l:List α) (k:Nat) (h:k < l.length):(l.take (k+1)).all p=((l.take k).all p && p l[k]):=by
 rw [List.take_succ_eq_append_getElem h,List.all_append]; simp
theorem qa1 {α:Type} (p:α->Bool) (l:List α) (k:Nat) (h:k < l.length) (hp:p l[k]=false):l.all p=false:=by
 rw [List.all_eq_false]; exact ⟨l[k],List.getElem_mem h,by simp [hp]⟩
theorem ycb {w0:World} {L:Nat} (hs:L<=1000000000000) (n:Nat):∀ (t:Tm) (v:Value) (W:World),t.sz < n->Ext w0 W->TmV w0 L t v->Calls Tryz.prog 75 #[v] W (kad t.small W):=by
 induction n with
 | zero=>intro t v W h; omega
 | succ n ih =>
   intro t v W hn hx0 h;have IH:=Lib.hid ih;have H:=Lib.hid h;have HX0:=Lib.hid hx0;have hlen:=t.kids_len;clear ih hx0;rcases h.three with ⟨z,x,rfl,rfl,hz⟩ | hrest
   · have HZ:=Lib.hid (hz.ext HX0.out);obtain ⟨b,A,m,c,rfl⟩:=hz.unpack;rw [show (Tm.num z).small=decide (wae z.natAbs<=40) from rfl];have hcast:decide ((wae z.natAbs:Int)<=40)=decide (wae z.natAbs<=40):=decide_eq_decide.2 (by omega);rw [<- hcast];obtain ⟨bb,hbb⟩:=n_m (decide ((wae z.natAbs:Int)<=40));rw [hbb];clear hz h hn hlen hcast;go_enter Tryz.func75,Tryz.ntmps75;go_wp2_with fail;refine (ga9 _ z L _ (HZ.out.ext ((Ext.refl W).alloc _)) hs).mono ?_;rintro e w1 ⟨rfl,x1⟩;have X1:=Lib.hid (Ext.trans ((Ext.refl W).alloc _) x1);clear x1;go_wp2_with fail;exact bodyPost_ret (v:=.bool bb) (by simp [results,Tryz.results75,go_sem]) rfl ⟨rfl,X1.out⟩
   · obtain ⟨b0,T,x,rfl,hb0⟩:∃ b0 T x,v=.iface T x/\((b0=false/\t.small=false/\∃ Y y e,T=173/\x=.agg #[.iface Y y,.int .i64 e]/\8 < e)\/(t.small=t.kids.all Tm.small/\((∃ Y y e,T=173/\x=.agg #[.iface Y y,.int .i64 e]/\¬ 8 < e)\/(¬ T=110/\¬ T=173)))):=by
      rcases hrest with ⟨a,e,x,-,rfl,hx,hsm⟩ | ⟨hsm,T,x,rfl,h1,h2⟩
      · obtain ⟨X,x,rfl⟩:=hx.iface
        by_cases he:8 < e
        · exact ⟨false,_,_,rfl,.inl ⟨rfl,by rw [hsm,decide_eq_false (show ¬ e<=8 by omega)]; rfl,X,x,e,rfl,rfl,he⟩⟩
        · exact ⟨true,_,_,rfl,.inr ⟨by rw [hsm,decide_eq_true (show e<=8 by omega)]; rfl,.inl ⟨X,x,e,rfl,rfl,he⟩⟩⟩
      · exact ⟨true,_,_,rfl,.inr ⟨hsm,.inr ⟨h1,h2⟩⟩⟩
     clear hrest;rcases hb0 with ⟨-,hsm,Y,y,e,rfl,rfl,he⟩ | ⟨hsm,hb0⟩
     · rw [hsm];clear hsm h;go_enter Tryz.func75,Tryz.ntmps75;go_wp2_with fail;go_ret;exact ⟨rfl,(Ext.refl _).alloc _⟩
     · rcases hb0 with ⟨Y,y,e,rfl,rfl,he⟩ | ⟨h1,h2⟩
       focus
        have HSM:=Lib.hid hsm;clear hsm h;go_enter Tryz.func75,Tryz.ntmps75;go_upto_region 9 with fail
       rotate_left
       focus
        have HSM:=Lib.hid hsm;clear hsm h;go_enter Tryz.func75,Tryz.ntmps75;go_upto_region 9 with fail
       all_goals
        go_wp2_with fail;refine (jaj t H.out).mono ?_;rintro e w2 ⟨s2,rfl,hss,-,hx⟩;obtain ⟨A,c,rfl⟩:=hss.len;have HS:=Lib.hid hss;have HX:=Lib.hid (show Ext W w2 from by first | exact Ext.trans ((Ext.refl W).alloc _) hx | exact hx);clear hss hx;go_wp2_with fail
        go_loopw [24] (fun iv wr=>∃ k:Nat,k<=t.kids.length/\iv=.int .i64 k/\Hid ((t.kids.take k).all Tm.small=true/\Ext w2 wr)) (fun iv _=>t.kids.length - (intOf iv).toNat)
        case atStart=>exact ⟨0,Nat.zero_le _,rfl,⟨rfl,Ext.refl _⟩⟩
        case round =>
         obtain ⟨k,hk,rfl,⟨ha0,hx0⟩⟩:=hrel;have HXR:=Lib.hid hx0;have HA:=Lib.hid ha0;clear hx0 ha0
         by_cases hlt:k < t.kids.length
         · obtain ⟨ad,y1,rfl,hc,hp⟩:=SlR.get_ (SlR.ext HS.out (fun _ _ h=>h) HXR.out) k hlt;have HP:=Lib.hid hp;obtain ⟨U,y1,rfl⟩:=hp.iface;clear hp;have hkl:t.kids[k].sz < t.sz:=Tm.kids_lt _ _ (List.getElem_mem hlt);have IH1:=Lib.hid (IH.out t.kids[k] (.iface U y1) wr (by omega) (HX0.out.trans (HX.out.trans HXR.out)) HP.out);have HT:=Lib.hid (va6 Tm.small t.kids k hlt);have HFL:=Lib.hid (qa1 Tm.small t.kids k hlt);generalize t.kids[k].small=z at *;cases z
           · have HF:Hid (t.small=false):=Lib.hid (HSM.out.trans (HFL.out rfl));rw [HF.out];go_wp2_with fail;refine IH1.out.mono ?_;rintro e w3 ⟨rfl,x3⟩;have X3:=Lib.hid (HXR.out.trans x3);clear x3 hc;go_wp2_with fail;go_ret;exact ⟨rfl,HX.out.trans X3.out⟩
           · go_wp2_with fail;refine IH1.out.mono ?_;rintro e w3 ⟨rfl,x3⟩;have X3:=Lib.hid (HXR.out.trans x3);clear x3 hc;go_wp2_with fail
             go_roundw
             case rel=>exact ⟨k+1,by omega,by go_num,⟨by rw [HT.out,HA.out]; rfl,X3.out⟩⟩
             case measure=>simp [intOf]; omega
         · have hke:k=t.kids.length:=by omega
           have HZ:Hid (t.small=true):=Lib.hid (by rw [HSM.out,<- List.take_length (l:=t.kids),<- hke]; exact HA.out);go_wp2_with fail;go_ret;exact ⟨by rw [HZ.out]; rfl,HX.out.trans HXR.out⟩
theorem zb3 {w0 W:World} {L:Nat} (hs:L<=1000000000000) (t:Tm) {v:Value} (hx:Ext w0 W) (h:TmV w0 L t v):Calls Tryz.prog 75 #[v] W (kad t.small W):=ycb hs (t.sz+1) t v W (Nat.lt_succ_self _) hx h
def ua6 (w0:World) (L:Nat) (t:Tm):Prop:=(∀ (v:Value) (w:World),TmV w0 L t v->Calls Tryz.prog 73 #[v] w (qp t.deg w))/\(∀ (v:Value) (w:World),Ext w0 w->TmV w0 L t v->Calls Tryz.prog 74 #[v] w (qp t.wt w))/\∀ (v:Value) (w:World),Ext w0 w->TmV w0 L t v->Calls Tryz.prog 75 #[v] w (kad t.small w)
theorem qbh {w0:World} {L:Nat} (hs:L<=1000000000000) (t:Tm):ua6 w0 L t:=⟨kbz t,wbt hs t,fun _ _ hx h=>zb3 hs t hx h⟩
theorem qbv {w0 W:World} {L:Nat} {s:ByteArray} {v:Value} (h:TmV w0 L (.name s) v):Calls Tryz.prog 75 #[v] W (kad true W):=by
 have H:=Lib.hid h;obtain rfl:=h;go_enter Tryz.func75,Tryz.ntmps75;go_wp2_with fail;refine (jaj (Tm.name s) H.out).mono ?_;rintro e w2 ⟨s2,rfl,hss,-,hx⟩;obtain ⟨A,c,rfl⟩:=hss.len;have HX:=Lib.hid hx;have hl0:(Tm.name s).kids.length=0:=rfl;rw [hl0];clear hss hx hl0;go_wp2_with fail
 go_loopw [24] (fun iv wr=>iv=.int .i64 0/\Hid (Ext W wr)) (fun _ _=>0)
 case atStart=>exact ⟨rfl,HX⟩
 case round =>
  obtain ⟨rfl,hx0⟩:=hrel;go_wp2_with fail;go_ret;exact ⟨rfl,hx0.out⟩
theorem ybd (w0:World) (L:Nat) (s:ByteArray):ua6 w0 L (.name s):=⟨fun _ _ h=>ubm h,fun _ _ _ h=>gbq h,fun _ _ _ h=>qbv h⟩
def Tm.lim (t:Tm):Bool:=!decide (8 < t.deg) && !decide (320 < t.wt) && t.small
def Fm.lim : Fm -> Bool
 | .truth _=>true
 | .atom l _ k=>l.lim && k.lim
 | .not f=>f.lim
 | .and f g=>f.lim && g.lim
 | .or f g=>f.lim && g.lim
 | .imp f g=>f.lim && g.lim
 | .iff f g=>f.lim && g.lim
 | .quant _ _ f=>f.lim
theorem Fm.lim_kids (f:Fm) (h:f.isAtom=false):f.lim=f.kids.all Fm.lim:=by cases f <;> simp_all [Fm.isAtom,Fm.kids,Fm.lim]
theorem wbx {w0:World} {L:Nat} (hs:L<=1000000000000) (n:Nat):∀ (f:Fm) (v:Value) (W:World),f.sz < n->Ext w0 W->FmV w0 L f v->f.terms (ua6 w0 L)->Calls Tryz.prog 35 #[v] W (kad f.lim W):=by
 induction n with
 | zero=>intro t v W h; omega
 | succ n ih =>
   intro f v W hn hx0 h hok;have IH:=Lib.hid ih;have H:=Lib.hid h;have HX0:=Lib.hid hx0;have hlen:=f.kids_len;clear ih hx0;have HOKK:=Lib.hid (f.terms_kids hok);have HOKF:=Lib.hid hok;clear hok;rcases h.two with ⟨l,r,k0,x,y,rfl,rfl,hl,hr⟩ | ⟨hna,T,x,rfl,hT⟩
   · have HL:=Lib.hid hl;have HR:=Lib.hid hr;have HLK:Hid ((Fm.atom l r k0).lim=[l,k0].all Tm.lim):=Lib.hid (by simp [Fm.lim]);obtain ⟨T,x,rfl⟩:=hl.iface;obtain ⟨U,y,rfl⟩:=hr.iface;clear hl hr h hn hlen;obtain ⟨W1,hW⟩:=n_m ((W.alloc (.cells #[.iface T x,.int .i64 r,.iface U y] 77)).alloc (.cells #[.iface T x,.iface U y] 75));have HX1:Hid (Ext W W1):=Lib.hid (by rw [<- hW]; exact ((Ext.refl W).alloc _).alloc _);have HS:Hid (SlR (fun _ t v=>TmV w0 L t v) W1 (.slice (some ⟨W.heap.size+1,0,none⟩) 2 2) [l,k0]):=Lib.hid (by
      rw [<- hW]
      exact SlR.two (by simp) (by simp [go_sem]) (by simp [go_sem]) HL.out HR.out)
     go_enter Tryz.func35,Tryz.ntmps35;go_wp2_with fail;clear hW
     go_loopw [21] (fun iv wr=>∃ k:Nat,k<=2/\iv=.int .i64 k/\Hid (([l,k0].take k).all Tm.lim=true/\Ext W1 wr)) (fun iv _=>2 - (intOf iv).toNat)
     case atStart=>exact ⟨0,by omega,rfl,⟨rfl,Ext.refl _⟩⟩
     case round =>
      obtain ⟨k,hk,rfl,⟨ha0,hx0⟩⟩:=hrel;have HXR:=Lib.hid hx0;have HA:=Lib.hid ha0;clear hx0 ha0
      by_cases hlt:k < 2
      · obtain ⟨ad,y1,e1,hc,hp⟩:=SlR.get_ (SlR.ext HS.out (fun _ _ h=>h) HXR.out) k hlt;injection e1 with e1
        have HT:=Lib.hid (va6 Tm.lim [l,k0] k hlt);have HFL:=Lib.hid (qa1 Tm.lim [l,k0] k hlt);have HTK:Hid (ua6 w0 L ([l,k0])[k]):=Lib.hid (by
         have hm:=List.getElem_mem (l:=[l,k0]) hlt;simp only [List.mem_cons,List.not_mem_nil,or_false] at hm;rcases hm with e | e
         · rw [e]; exact HOKF.out.1
         · rw [e]; exact HOKF.out.2)
        generalize ([l,k0])[k]=u at *;have HP:=Lib.hid hp;obtain ⟨V,y1,rfl⟩:=hp.iface;have HLM:Hid (u.lim=(!decide (8 < u.deg) && !decide (320 < u.wt) && u.small)):=Lib.hid rfl;have HD:=Lib.hid (HTK.out.1 _ wr hp);have HWT:=Lib.hid (fun w1 (x1:Ext wr w1)=>HTK.out.2.1 _ w1 ((HX0.out.trans (HX1.out.trans HXR.out)).trans x1) hp);have HSM:=Lib.hid (fun w1 (x1:Ext wr w1)=>HTK.out.2.2 _ w1 ((HX0.out.trans (HX1.out.trans HXR.out)).trans x1) hp);subst e1;rw [yx,Nat.zero_add] at hc;clear hp;generalize u.lim=lm at *;generalize u.deg=d at *;generalize u.wt=wt at *;generalize u.small=sm at *
        by_cases hd:8 < d
        · have HF:Hid ((Fm.atom l r k0).lim=false):=Lib.hid (HLK.out.trans (HFL.out (by rw [HLM.out]; simp [hd])));go_wp2_with fail;refine HD.out.mono ?_;rintro e w3 ⟨rfl,x3⟩;have X3:=Lib.hid (HXR.out.trans x3);clear x3 hc;go_wp2_with fail;go_ret;exact ⟨by rw [HF.out]; rfl,HX1.out.trans X3.out⟩
        · go_wp2_with fail;refine HD.out.mono ?_;rintro e w3 ⟨rfl,x3⟩;have X3:=Lib.hid x3;clear x3 hc
          by_cases hw:320 < wt
          · have HF:Hid ((Fm.atom l r k0).lim=false):=Lib.hid (HLK.out.trans (HFL.out (by rw [HLM.out]; simp [hw])));go_wp2_with fail;refine (HWT.out _ X3.out).mono ?_;rintro e w4 ⟨rfl,x4⟩;have X4:=Lib.hid (HXR.out.trans (X3.out.trans x4));clear x4;go_wp2_with fail;go_ret;exact ⟨by rw [HF.out]; rfl,HX1.out.trans X4.out⟩
          · go_wp2_with fail;refine (HWT.out _ X3.out).mono ?_;rintro e w4 ⟨rfl,x4⟩;have X4:=Lib.hid (X3.out.trans x4);clear x4;cases sm
            · have HF:Hid ((Fm.atom l r k0).lim=false):=Lib.hid (HLK.out.trans (HFL.out (by rw [HLM.out]; simp)));go_wp2_with fail;refine (HSM.out _ X4.out).mono ?_;rintro e w5 ⟨rfl,x5⟩;have X5:=Lib.hid (HXR.out.trans (X4.out.trans x5));clear x5;go_wp2_with fail;go_ret;exact ⟨by rw [HF.out]; rfl,HX1.out.trans X5.out⟩
            · have HTR:Hid (lm=true):=Lib.hid (by rw [HLM.out]; simp [hd,hw]);go_wp2_with fail;refine (HSM.out _ X4.out).mono ?_;rintro e w5 ⟨rfl,x5⟩;have X5:=Lib.hid (HXR.out.trans (X4.out.trans x5));clear x5;go_wp2_with fail
              go_roundw
              case rel=>exact ⟨k+1,by omega,by go_num,⟨by rw [HT.out,HA.out,HTR.out]; rfl,X5.out⟩⟩
              case measure=>simp [intOf]; omega
      · have hke:k=2:=by omega
        have HZ:Hid ((Fm.atom l r k0).lim=true):=Lib.hid (HLK.out.trans (by rw [hke] at HA; exact HA.out));have HXE:=Lib.hid (HX1.out.trans HXR.out);clear HXR HA;go_wp2_with fail;refine (yae (Fm.atom l r k0) H.out).mono ?_;rintro e w2 ⟨s2,rfl,hss,-,hx⟩;obtain ⟨A,cc,rfl⟩:=hss.len;have HX:=Lib.hid (HXE.out.trans hx);have hl0:(Fm.atom l r k0).kids.length=0:=rfl;rw [hl0];clear hss hx hl0;go_wp2_with fail
        go_loopw [42] (fun iv wr=>iv=.int .i64 0/\Hid (Ext W wr)) (fun _ _=>0)
        case atStart=>exact ⟨rfl,HX⟩
        case round =>
         obtain ⟨rfl,hx0⟩:=hrel;go_wp2_with fail;go_ret;exact ⟨by rw [HZ.out]; rfl,hx0.out⟩
   · have HLK:=Lib.hid (f.lim_kids hna);clear h hna;go_enter Tryz.func35,Tryz.ntmps35;go_wp2_with fail;refine (yae f H.out).mono ?_;rintro e w2 ⟨s2,rfl,hss,-,hx⟩;obtain ⟨A,c,rfl⟩:=hss.len;have HS:=Lib.hid hss;have HX:=Lib.hid (Ext.trans ((Ext.refl W).alloc _) hx);clear hss hx;go_wp2_with fail
     go_loopw [42] (fun iv wr=>∃ k:Nat,k<=f.kids.length/\iv=.int .i64 k/\Hid ((f.kids.take k).all Fm.lim=true/\Ext w2 wr)) (fun iv _=>f.kids.length - (intOf iv).toNat)
     case atStart=>exact ⟨0,Nat.zero_le _,rfl,⟨rfl,Ext.refl _⟩⟩
     case round =>
      obtain ⟨k,hk,rfl,⟨ha0,hx0⟩⟩:=hrel;have HXR:=Lib.hid hx0;have HA:=Lib.hid ha0;clear hx0 ha0
      by_cases hlt:k < f.kids.length
      · obtain ⟨ad,y1,rfl,hc,hp⟩:=SlR.get_ (SlR.ext HS.out (fun _ _ h=>h) HXR.out) k hlt;have HP:=Lib.hid hp;obtain ⟨U,y1,rfl⟩:=hp.iface;clear hp;have hkl:f.kids[k].sz < f.sz:=Fm.kids_lt _ _ (List.getElem_mem hlt);have IH1:=Lib.hid (IH.out f.kids[k] (.iface U y1) wr (by omega) (HX0.out.trans (HX.out.trans HXR.out)) HP.out (HOKK.out _ (List.getElem_mem hlt)));have HT:=Lib.hid (va6 Fm.lim f.kids k hlt);have HFL:=Lib.hid (qa1 Fm.lim f.kids k hlt);generalize f.kids[k].lim=z at *;cases z
        · have HF:Hid (f.lim=false):=Lib.hid (HLK.out.trans (HFL.out rfl));go_wp2_with fail;refine IH1.out.mono ?_;rintro e w3 ⟨rfl,x3⟩;have X3:=Lib.hid (HXR.out.trans x3);clear x3 hc;go_wp2_with fail;go_ret;exact ⟨by rw [HF.out]; rfl,HX.out.trans X3.out⟩
        · go_wp2_with fail;refine IH1.out.mono ?_;rintro e w3 ⟨rfl,x3⟩;have X3:=Lib.hid (HXR.out.trans x3);clear x3 hc;go_wp2_with fail
          go_roundw
          case rel=>exact ⟨k+1,by omega,by go_num,⟨by rw [HT.out,HA.out]; rfl,X3.out⟩⟩
          case measure=>simp [intOf]; omega
      · have hke:k=f.kids.length:=by omega
        have HZ:Hid (f.lim=true):=Lib.hid (by rw [HLK.out,<- List.take_length (l:=f.kids),<- hke]; exact HA.out);go_wp2_with fail;go_ret;exact ⟨by rw [HZ.out]; rfl,HX.out.trans HXR.out⟩
theorem wbp {w0 W:World} {L:Nat} (hs:L<=1000000000000) (f:Fm) {v:Value} (hx:Ext w0 W) (h:FmV w0 L f v) (hok:f.terms (ua6 w0 L)):Calls Tryz.prog 35 #[v] W (kad f.lim W):=wbx hs (f.sz+1) f v W (Nat.lt_succ_self _) hx h hok
end Go.Proofs.YtheefiaoimbeiaaGreatDoor
