/- Layer 38: what prenex.Of computes, plain. No program in sight. -/
import Derived.Test.YtheefiaoimbeiaaGreatDoorMp17
set_option linter.unusedSimpArgs false
set_option linter.unusedVariables false

namespace Go.Proofs.YtheefiaoimbeiaaGreatDoor
open Lib (hid)
def wek (r:Int):Int:=if r=1 then 5 else if r=2 then 6 else if r=4 then 3 else if r=5 then 1 else if r=6 then 2 else 4
def Pl.var (n:Int):Pl:=if 1<=n/\n<=4 then .mk n false [] [Pl.zero,Pl.const 1] else Pl.zero
theorem Pl.yD (n:Int):(Pl.var n).Can:=by
 unfold Pl.var
 split
 · rename_i h;refine qe5 (by omega) h.2 (by simp) (vd5 fun c hc=>?_) (by
    have h1:=qd5 (n:=1) (by decide);simp [Pl.const,Pl.zero];intro e;rw [e] at h1
    simp at h1)
   simp only [pI,rM,or_false] at hc;rcases hc with rfl | rfl
   · exact ⟨by simp [Pl.zero,Pl.lv]; omega,Pl.qA⟩
   · exact ⟨by simp [Pl.const,Pl.lv]; omega,yd0 1⟩
 · exact Pl.qA
theorem Pl.zN (n:Int):Fit (Pl.var n) 1 1/\(Pl.var n).nr<=1:=by
 have h1:(Pl.var n).ex 1/\(Pl.var n).nr<=1:=by
  unfold Pl.var
  split
  · rename_i h;have hk:∀ c ∈ [Pl.zero,Pl.const 1],c.ex 1:=fun c hc=>by
     simp only [pI,rM,or_false] at hc;rcases hc with rfl | rfl
     · exact (Fit.zero (D:=1)).ex
     · exact (Fit.const (D:=1) (by decide)).ex
    refine ⟨by rw [Pl.ex]; exact .inr ⟨by simp,zfd hk⟩,?_⟩
    · rw [Pl.nr,if_neg (by omega),jdu,jdu,jdu,Pl.qL];simp [Pl.zero,Pl.nr,sgn,val]
  · exact ⟨(Fit.zero (D:=1)).ex,by simp [Pl.zero,Pl.nr,sgn,val]⟩
 exact ⟨⟨Pl.yD n,h1.1,by
   have:=h1.2; have:1 < B32 ^ 1:=by decide
   omega⟩,h1.2⟩
theorem Pl.jh {p q:Pl} (hp:p.Can) (hq:q.Can):(p.add q).nr<=p.nr+q.nr:=by
 refine po (Pl.zk _) ?_;rw [qd9,Pl.qX p _ hp,Pl.qX q _ hq];exact pf _
theorem Pl.ja {p:Pl} (hp:p.Can):p.xJ.nr<=p.nr:=by
 have:=Pl.zm hp (yd0 (-1));rw [Pl.qL] at this;simpa [Pl.xJ] using this
theorem Pl.yY {p:Pl} (hp:p.Can) (n:Nat):(p.pow n).nr<=p.nr ^ n:=by
 induction n with
 | zero=>rw [Pl.pow,Pl.qL]; simp
 | succ n ih=>exact po (Pl.zm (Pl.xR p n) hp) (by rw [pP]; exact pE _ ih)
def wdm (g : ByteArray -> Int) : Tm -> Pl
 | .num z=>Pl.const z
 | .name s=>Pl.var (g s)
 | .add a b=>(wdm g a).add (wdm g b)
 | .sub a b=>(wdm g a).add (wdm g b).xJ
 | .mul a b=>(wdm g a).mul (wdm g b)
 | .neg a=>(wdm g a).xJ
 | .pow a e=>(wdm g a).pow e.toNat
theorem yf1 (k:Nat):∀ n,n < k->n < 10 ^ qdx n:=by
 induction k with
 | zero=>intro n h; omega
 | succ k ih =>
   intro n h
   by_cases h1:n < 10
   · rw [gef h1]; omega
   · rw [jev (by omega),pP];have:=ih (n / 10) (by omega);omega
def Bd (p:Pl) (W:Nat):Prop:=p.Can/\p.ex W/\p.nr<=10 ^ W
theorem Bd.fit {p:Pl} {W:Nat} (h:Bd p W):Fit p W (W+1):=⟨h.1,h.2.1,sC h.2.2 (pr (Nat.pow_lt_pow_right (by decide) (pO W)) (tT (by decide) _))⟩
theorem Bd.mono {p:Pl} {W V:Nat} (h:Bd p W) (hl:W<=V):Bd p V:=⟨h.1,Pl.xS hl _ h.2.1,po h.2.2 (pK (by decide) hl)⟩
theorem Bd.add {p q:Pl} {W:Nat} (h:Bd p W) (k:Bd q W):Bd (p.add q) (W+1):=by
 refine ⟨Pl.xI _ _,Pl.xS (by omega) _ (h.fit.add k.fit).ex,po (Pl.jh h.1 k.1) ?_⟩;have:=h.2.2; have:=k.2.2;rw [pP];omega
theorem Bd.mul {p q:Pl} {W V:Nat} (h:Bd p W) (k:Bd q V):Bd (p.mul q) (W+V):=
 ⟨Pl.qy _ _,(h.fit.mul k.fit).ex,po (Pl.zm h.1 k.1) (by rw [su]; exact tN h.2.2 k.2.2)⟩
theorem Bd.xJ {p:Pl} {W:Nat} (h:Bd p W):Bd p.xJ W:=⟨Pl.yJ _,h.fit.xJ.ex,po (Pl.ja h.1) h.2.2⟩
theorem Bd.pow {p:Pl} {W:Nat} (h:Bd p W) (n:Nat):Bd (p.pow n) (n * W):=
 ⟨Pl.xR _ _,(h.fit.pow n).ex,po (Pl.yY h.1 n) (by rw [re,Nat.pow_mul]; exact tT h.2.2 n)⟩
theorem kd4 {n:Int} (h:xdm n<=400):xdm n=n:=by unfold xdm at *; split at h <;> (try split) <;> omega
theorem jex {a:Tm} {e:Int} (h:(Tm.pow a e).wt<=400):(Tm.pow a e).wt=wdj e 1 * a.wt/\a.wt<=400/\1<=wdj e 1/\e<=wdj e 1/\wdj e 1<=400:=by
 have ha:=a.qx;have he:1<=wdj e 1/\e<=wdj e 1:=by unfold wdj; split <;> omega
 have h1:=kdy he.1;have h2:=kdy ha.1
 change kdx (wdj e 1) a.wt<=400 at h
 change kdx (wdj e 1) a.wt=_/\_
 unfold kdx at h ⊢;have h3:=kd4 h;rw [h3] at h ⊢;have h4:xdm (wdj e 1) * 1<=xdm (wdj e 1) * xdm a.wt:=pZ h2.1 (by omega);have h5:1 * xdm a.wt<=xdm (wdj e 1) * xdm a.wt:=sM h1.1 (by omega);have e1:=kd4 (n:=wdj e 1) (by omega);have e2:=kd4 (n:=a.wt) (by omega);rw [e1,e2] at h h4 h5 ⊢;exact ⟨rfl,by omega,he.1,he.2,by omega⟩
theorem qdz (g:ByteArray->Int) (t:Tm) (h:t.wt<=400):Bd (wdm g t) t.wt.toNat:=by
 induction t with
 | num z =>
   have h1:=kd4 h;refine ⟨yd0 z,(Fit.const (D:=z.natAbs+1) (pr (Nat.lt_pow_self (by decide)) (pK (by decide) (rY _)))).ex,?_⟩;have h2:(Tm.num z).wt.toNat=qdx z.natAbs:=by show (xdm _).toNat=_; rw [h1]; rfl
   rw [h2];show (Pl.const z).nr<=_;rw [Pl.qL];exact tq (yf1 (z.natAbs+1) _ (by omega))
 | name s =>
   have:=Pl.zN (g s);exact ⟨this.1.can,this.1.ex,po this.2 (rF (by decide))⟩
 | add a b iha ihb =>
   have h1:(Tm.add a b).wt=wdj a.wt b.wt+1:=kd4 h;have hm:a.wt<=wdj a.wt b.wt/\b.wt<=wdj a.wt b.wt:=by unfold wdj; split <;> omega
   have:=a.qx; have:=b.qx;rw [h1] at h ⊢;rw [show (wdj a.wt b.wt+1).toNat=(wdj a.wt b.wt).toNat+1 by omega];exact ((iha (by omega)).mono (by omega)).add ((ihb (by omega)).mono (by omega))
 | sub a b iha ihb =>
   have h1:(Tm.sub a b).wt=wdj a.wt b.wt+1:=kd4 h;have hm:a.wt<=wdj a.wt b.wt/\b.wt<=wdj a.wt b.wt:=by unfold wdj; split <;> omega
   have:=a.qx; have:=b.qx;rw [h1] at h ⊢;rw [show (wdj a.wt b.wt+1).toNat=(wdj a.wt b.wt).toNat+1 by omega];exact ((iha (by omega)).mono (by omega)).add ((ihb (by omega)).mono (by omega)).xJ
 | mul a b iha ihb =>
   have h1:(Tm.mul a b).wt=a.wt+b.wt:=kd4 h;have:=a.qx; have:=b.qx;rw [h1] at h ⊢;rw [show (a.wt+b.wt).toNat=a.wt.toNat+b.wt.toNat by omega];exact (iha (by omega)).mul (ihb (by omega))
 | neg a iha=>exact (iha h).xJ
 | pow a e iha =>
   obtain ⟨h1,h2,h3,h4,h5⟩:=jex h;rw [h1];have ha:=a.qx;refine ((iha h2).pow e.toNat).mono ?_;have h6:e.toNat * a.wt.toNat<=(wdj e 1).toNat * a.wt.toNat:=pE _ (by omega);have h7:(wdj e 1 * a.wt).toNat=(wdj e 1).toNat * a.wt.toNat:=by
    obtain ⟨m,hm⟩:∃ m:Nat,wdj e 1=m:=⟨(wdj e 1).toNat,by omega⟩;obtain ⟨n,hn⟩:∃ n:Nat,a.wt=n:=⟨a.wt.toNat,by omega⟩;rw [hm,hn];exact rV (m * n)
   omega
structure PSt where
 names:List ByteArray
 all:List Bool
 lev:ByteArray->Int
def PSt.bind (s:PSt) (a:Bool) (nm:ByteArray):PSt:=⟨s.names ++ [nm],s.all ++ [a],fun t=>if t=nm then (s.names.length+1:Nat) else s.lev t⟩
def gdq (k:Int) (a b:Mx):Mx:=.mk k 0 Pl.zero [a,b]
def kev (b:Bool):Mx:=.mk (if b then 1 else 0) 0 Pl.zero []
def vfi (r:Int) (p:Pl):Mx:=.mk 2 r p []
def zc2 : Fm -> Bool -> PSt -> Mx × PSt
 | .truth b,pos,s=>(kev (b == pos),s)
 | .atom l r k,pos,s=>(vfi (if pos then ud4 r else wek (ud4 r)) ((wdm s.lev l).add (wdm s.lev k).xJ),s)
 | .not f,pos,s=>zc2 f (!pos) s
 | .and f g,pos,s=>(gdq (if pos then 3 else 4) (zc2 f pos s).1 (zc2 g pos (zc2 f pos s).2).1,(zc2 g pos (zc2 f pos s).2).2)
 | .or f g,pos,s=>(gdq (if pos then 4 else 3) (zc2 f pos s).1 (zc2 g pos (zc2 f pos s).2).1,(zc2 g pos (zc2 f pos s).2).2)
 | .imp f g,pos,s=>(gdq (if pos then 4 else 3) (zc2 f (!pos) s).1 (zc2 g pos (zc2 f (!pos) s).2).1,(zc2 g pos (zc2 f (!pos) s).2).2)
 | .iff f g,pos,s=>(gdq 4 (gdq 3 (zc2 f true s).1 (zc2 g pos s).1) (gdq 3 (zc2 f false s).1 (zc2 g (!pos) s).1),s)
 | .quant a nm f,pos,s=>zc2 f pos (s.bind (a == pos) nm)
def Fm.okB : Fm -> Bool -> Bool
 | .truth _,_=>true
 | .atom _ _ _,_=>true
 | .not f,c=>f.okB c
 | .and f g,c=>f.okB c && g.okB c
 | .or f g,c=>f.okB c && g.okB c
 | .imp f g,c=>f.okB c && g.okB c
 | .iff f g,_=>f.okB true && g.okB true
 | .quant _ _ f,c=>!c && f.okB c
theorem xdv (f:Fm):f.okB true=true->f.bound=[]/\(∀ pos s,(zc2 f pos s).2=s)/\f.okB false=true:=by
 induction f with
 | truth b=>exact fun _=>⟨rfl,fun _ _=>rfl,rfl⟩
 | atom l r k=>exact fun _=>⟨rfl,fun _ _=>rfl,rfl⟩
 | not f ih=>exact fun h=>⟨(ih h).1,fun pos s=>(ih h).2.1 (!pos) s,(ih h).2.2⟩
 | and f g ihf ihg =>
   intro h;simp only [Fm.okB,pj] at h ⊢;exact ⟨by simp [Fm.bound,(ihf h.1).1,(ihg h.2).1],fun pos s=>by simp only [zc2]; rw [(ihg h.2).2.1,(ihf h.1).2.1],(ihf h.1).2.2,(ihg h.2).2.2⟩
 | or f g ihf ihg =>
   intro h;simp only [Fm.okB,pj] at h ⊢;exact ⟨by simp [Fm.bound,(ihf h.1).1,(ihg h.2).1],fun pos s=>by simp only [zc2]; rw [(ihg h.2).2.1,(ihf h.1).2.1],(ihf h.1).2.2,(ihg h.2).2.2⟩
 | imp f g ihf ihg =>
   intro h;simp only [Fm.okB,pj] at h ⊢;exact ⟨by simp [Fm.bound,(ihf h.1).1,(ihg h.2).1],fun pos s=>by simp only [zc2]; rw [(ihg h.2).2.1,(ihf h.1).2.1],(ihf h.1).2.2,(ihg h.2).2.2⟩
 | iff f g ihf ihg =>
   intro h;simp only [Fm.okB,pj] at h ⊢;exact ⟨by simp [Fm.bound,(ihf h.1).1,(ihg h.2).1],fun pos s=>rfl,h⟩
 | quant a nm f ih=>intro h; simp [Fm.okB] at h
theorem ze5 {f:Fm} (h:f.okB true=true) (c:Bool):f.okB c=true:=by
 cases c
 · exact (xdv f h).2.2
 · exact h
def Fm.qJ : Fm -> Prop
 | .truth _=>True
 | .atom l _ k=>l.wt<=320/\k.wt<=320
 | .not f=>f.qJ
 | .and f g=>f.qJ/\g.qJ
 | .or f g=>f.qJ/\g.qJ
 | .imp f g=>f.qJ/\g.qJ
 | .iff f g=>f.qJ/\g.qJ
 | .quant _ _ f=>f.qJ
def wdr (b:Bool) (w:World) (e:Ending) (w':World):Prop:=e=.returned (.bool b)/\Ext w w'
end Go.Proofs.YtheefiaoimbeiaaGreatDoor

set_option maxRecDepth 100000
set_option maxHeartbeats 8000000
namespace Go.Proofs.YtheefiaoimbeiaaGreatDoor
open Lib (hid)
open Go.RowKit
attribute [local go_sem] uds ydr qdt kds zdt wds vds ydp xdr gds xdt udv qdn ydt xdp
theorem kff (l:List Tm) (k:Nat) (h:k < l.length):gdw (l.take (k+1))=gdw (l.take k)+l[k].sz:=by
 unfold gdw; rw [pg h,rC,si,um,uh]
theorem qfk (l:List Fm) (k:Nat) (h:k < l.length):xdn (l.take (k+1))=xdn (l.take k)+l[k].sz:=by
 unfold xdn; rw [pg h,rC,si,um,uh]
theorem gfv (l:List Tm) (k:Nat):gdw (l.take k)<=gdw l:=by
 have:gdw l=gdw (l.take k)+gdw (l.drop k):=by unfold gdw; rw [<- si,<- rC,rl]
 omega
theorem vf4 (l:List Fm) (k:Nat):xdn (l.take k)<=xdn l:=by
 have:xdn l=xdn (l.take k)+xdn (l.drop k):=by unfold xdn; rw [<- si,<- rC,rl]
 omega
theorem ze2 {w0:World} {L:Nat} (n:Nat):∀ (t:Tm) (v:Value) (W:World),t.sz < n->t.sz<=1099511627776->TmV w0 L t v->Calls Tryz.prog 72 #[v] W (zdn t.sz W):=by
 induction n with
 | zero=>intro t v W h; omega
 | succ n ih =>
   intro t v W hn hb h;have IH:=hid ih;have H:=hid h;obtain ⟨T,x,rfl⟩:=h.iface;have hlen:=t.qz;have hks:=xer t;clear ih h;go_enter Tryz.func72,Tryz.ntmps72;go_wp2_with fail;refine (qd6 t H.out).mono ?_;rintro e w2 ⟨s2,rfl,hs,-,hx⟩;obtain ⟨A,c,rfl⟩:=hs.len;have HS:=hid hs;have HX:=hid hx;clear hs hx;go_wp2_with fail
   go_loopw [3,9] (fun av iv wr=>∃ k:Nat,k<=t.kids.length/\iv=.int .i64 k/\av=.int .i64 (1+gdw (t.kids.take k):Nat)/\Hid (Ext w2 wr)) (fun _ iv _=>t.kids.length - (intOf iv).toNat)
   case atStart=>exact ⟨0,pM _,rfl,rfl,Ext.refl _⟩
   case round =>
    obtain ⟨k,hk,rfl,rfl,hx0⟩:=hrel;have HXR:=hid hx0.out;clear hx0
    by_cases hlt:k < t.kids.length
    · obtain ⟨ad,y,rfl,hc,hp⟩:=SlR.qt (SlR.ext HS.out (fun _ _ h=>h) HXR.out) k hlt;have HP:=hid hp;obtain ⟨U,y,rfl⟩:=hp.iface;clear hp;have hkl:t.kids[k].sz < t.sz:=Tm.qD _ _ (pt hlt);have hst:=kff t.kids k hlt;have hsl:=gfv t.kids (k+1);obtain ⟨a,ha⟩:=n_m (1+gdw (t.kids.take k));have HA:Hid (1+gdw (t.kids.take (k+1))=a+t.kids[k].sz):=hid (by omega);have IH1:=hid (IH.out t.kids[k] (.iface U y) wr (by omega) (by omega) HP.out);rw [ha];have hw:IntKind.i64.wrap ((a:Int)+(t.kids[k].sz:Int))=((a+t.kids[k].sz:Nat):Int):=by rw [rD]; omega
      clear ha hst hsl;generalize t.kids[k].sz=z at *;go_wp2_with fail;refine IH1.out.mono ?_;rintro e w3 ⟨rfl,x3⟩;have X3:=hid (HXR.out.trans x3);clear x3 hc;go_wp2_with fail
      go_roundw
      case rel=>exact ⟨k+1,by omega,by go_num,by rw [HA.out,sW],X3⟩
      case measure=>simp [intOf]; omega
    · have hke:k=t.kids.length:=by omega
      have HZ:Hid (1+gdw (t.kids.take k)=t.sz):=hid (by rw [hke,pw]; omega);rw [HZ.out];go_wp2_with fail;go_ret;exact ⟨rfl,HX.out.trans HXR.out⟩
theorem gei {w0 W:World} {L:Nat} (t:Tm) {v:Value} (hb:t.sz<=1099511627776) (h:TmV w0 L t v):Calls Tryz.prog 72 #[v] W (zdn t.sz W):=ze2 (t.sz+1) t v W (pO _) hb h
def Fm.isAtom : Fm -> Bool
 | .atom _ _ _=>true
 | _=>false
theorem FmV.two {w:World} {L:Nat} {f:Fm} {v:Value} (h:FmV w L f v):(∃ l r k x y,f=.atom l r k/\v=.iface 77 (.agg #[x,.int .i64 r,y])/\TmV w L l x/\TmV w L k y)\/(f.isAtom=false/\∃ T x,v=.iface T x/\¬ T=77):=by
 cases f <;> (simp only [FmV] at h)
 · exact .inr ⟨rfl,_,_,h,by decide⟩
 · obtain ⟨x,y,e,h1,h2⟩:=h;exact .inl ⟨_,_,_,x,y,rfl,e,h1,h2⟩
 all_goals first | (obtain ⟨_,e,_⟩:=h; exact .inr ⟨rfl,_,_,e,by decide⟩) | (obtain ⟨_,_,e,_⟩:=h; exact .inr ⟨rfl,_,_,e,by decide⟩)
theorem Fm.yH (f:Fm) (h:f.isAtom=false):f.sz=1+xdn f.kids:=by cases f <;> simp_all [Fm.isAtom,Fm.kids,xdn,Fm.sz] <;> omega
def Fm.atoms : Fm -> Nat
 | .truth _=>0
 | .atom _ _ _=>1
 | .not f=>f.atoms
 | .and f g=>f.atoms+g.atoms
 | .or f g=>f.atoms+g.atoms
 | .imp f g=>f.atoms+g.atoms
 | .iff f g=>f.atoms+g.atoms
 | .quant _ _ f=>f.atoms
def wd0 (l:List Fm):Nat:=(l.map Fm.atoms).sum
theorem jfk (l:List Fm) (k:Nat) (h:k < l.length):wd0 (l.take (k+1))=wd0 (l.take k)+l[k].atoms:=by
 unfold wd0; rw [pg h,rC,si,um,uh]
theorem uf4 (l:List Fm) (k:Nat):wd0 (l.take k)<=wd0 l:=by
 have:wd0 l=wd0 (l.take k)+wd0 (l.drop k):=by unfold wd0; rw [<- si,<- rC,rl]
 omega
theorem Fm.yB (f:Fm):f.atoms<=f.sz:=by induction f <;> simp only [Fm.atoms,Fm.sz] <;> omega
theorem Fm.zM (f:Fm):f.atoms=(if f.isAtom then 1 else 0)+wd0 f.kids:=by cases f <;> simp [Fm.isAtom,Fm.kids,wd0,Fm.atoms]
theorem zf1 {w0:World} {L:Nat} (n:Nat):∀ (f:Fm) (v:Value) (W:World),f.sz < n->f.sz<=1099511627776->FmV w0 L f v->Calls Tryz.prog 33 #[v] W (zdn f.sz W):=by
 induction n with
 | zero=>intro t v W h; omega
 | succ n ih =>
   intro f v W hn hb h;have IH:=hid ih;have H:=hid h;have hlen:=f.qz;clear ih;rcases h.two with ⟨l,r,k,x,y,rfl,rfl,hl,hr⟩ | ⟨hna,T,x,rfl,hT⟩
   · have hbb:l.sz+k.sz+1<=1099511627776:=hb;have HL:=hid (fun W'=>gei (W:=W') l (by omega) hl);have HR:=hid (fun W'=>gei (W:=W') k (by omega) hr);obtain ⟨T,x,rfl⟩:=hl.iface;obtain ⟨U,y,rfl⟩:=hr.iface;have HZ:Hid ((Fm.atom l r k).sz=l.sz+k.sz+1):=hid rfl;rw [HZ.out];obtain ⟨a,ha⟩:=n_m (l.sz);obtain ⟨b,hb'⟩:=n_m (k.sz);rw [ha] at HL hbb ⊢;rw [hb'] at HR hbb ⊢;obtain ⟨c,hc⟩:=n_m (a+b);have hw1:IntKind.i64.wrap ((a:Int)+(b:Int))=(c:Int):=by rw [rD]; omega
     have hw2:IntKind.i64.wrap (1+(c:Int))=((c+1:Nat):Int):=by rw [rD]; omega
     rw [hc];clear h hl hr hb hn ha hb' hc HZ hlen;go_enter Tryz.func33,Tryz.ntmps33;obtain ⟨W1,hW⟩:=n_m (W.alloc (.cells #[.iface T x,.int .i64 r,.iface U y] 77));have HB:Hid (∀ W',Ext W1 W'->(Ext W1 W'/\W'.cell? ⟨W.heap.size,0,none⟩=some (.iface T x)/\W'.cell? ⟨W.heap.size,2,none⟩=some (.iface U y))):=by
      intro W' hx;obtain ⟨hc,hf⟩:=hx.cells;refine ⟨hx,?_,?_⟩ <;> (rw [hc _ _ (by rw [<- hW]; simp),<- hW]; simp [go_sem])
     have HX0:Hid (Ext W W1):=hid (by rw [<- hW]; exact (Ext.refl W).alloc _);go_upto_region 4 with fail;clear hW
     go_region_held3 (fun W' => Ext W1 W' /\ W'.cell? ⟨W.heap.size, 0, none⟩ = some (.iface T x) /\ W'.cell? ⟨W.heap.size, 2, none⟩ = some (.iface U y))
      (first | exact HB.out _ ((Ext.refl W1).drew) | exact HB.out _ (by assumption))
      (first
        | (go_at_call_of 72 (Value.iface T x)
           refine (HL.out _).mono ?_;rintro e v1 ⟨rfl,x1⟩
           have y1:Ext W1 v1:=Ext.trans ((Ext.refl W1).drew) x1)
        | (go_at_call_of 72 (Value.iface U y)
           refine (HR.out _).mono ?_;rintro e v2 ⟨rfl,x2⟩
           have y2:Ext W1 v2:=Ext.trans y1 x2))
     have HY2:=hid (HX0.out.trans y2);clear y1 y2 x1 x2 HB HX0;go_wp2_with fail;refine (ydw (Fm.atom l r k) H.out).mono ?_;rintro e w2 ⟨s2,rfl,hs,-,hx⟩;obtain ⟨A,cc,rfl⟩:=hs.len;have HX:=hid (HY2.out.trans hx);have hl0:(Fm.atom l r k).kids.length=0:=rfl;rw [hl0];clear hs hx hl0 HY2;go_wp2_with fail
     go_loopw [3,26] (fun av iv wr=>iv=.int .i64 0/\av=.int .i64 (c+1:Nat)/\Hid (Ext W wr)) (fun _ _ _=>0)
     case atStart=>exact ⟨rfl,rfl,HX⟩
     case round =>
      obtain ⟨rfl,rfl,hx0⟩:=hrel;go_wp2_with fail;go_ret;exact ⟨rfl,hx0.out⟩
   · have hks:=f.yH hna;clear h hna;go_enter Tryz.func33,Tryz.ntmps33;go_wp2_with fail;refine (ydw f H.out).mono ?_;rintro e w2 ⟨s2,rfl,hs,-,hx⟩;obtain ⟨A,c,rfl⟩:=hs.len;have HS:=hid hs;have HX:=hid (Ext.trans ((Ext.refl W).alloc _) hx);clear hs hx;go_wp2_with fail
     go_loopw [3,26] (fun av iv wr=>∃ k:Nat,k<=f.kids.length/\iv=.int .i64 k/\av=.int .i64 (1+xdn (f.kids.take k):Nat)/\Hid (Ext w2 wr)) (fun _ iv _=>f.kids.length - (intOf iv).toNat)
     case atStart=>exact ⟨0,pM _,rfl,rfl,Ext.refl _⟩
     case round =>
      obtain ⟨k,hk,rfl,rfl,hx0⟩:=hrel;have HXR:=hid hx0.out;clear hx0
      by_cases hlt:k < f.kids.length
      · obtain ⟨ad,y,rfl,hc,hp⟩:=SlR.qt (SlR.ext HS.out (fun _ _ h=>h) HXR.out) k hlt;have HP:=hid hp;obtain ⟨U,y,rfl⟩:=hp.iface;clear hp;have hkl:f.kids[k].sz < f.sz:=Fm.qD _ _ (pt hlt);have hst:=qfk f.kids k hlt;have hsl:=vf4 f.kids (k+1);obtain ⟨a,ha⟩:=n_m (1+xdn (f.kids.take k));have HA:Hid (1+xdn (f.kids.take (k+1))=a+f.kids[k].sz):=hid (by omega);have IH1:=hid (IH.out f.kids[k] (.iface U y) wr (by omega) (by omega) HP.out);rw [ha];have hw:IntKind.i64.wrap ((a:Int)+(f.kids[k].sz:Int))=((a+f.kids[k].sz:Nat):Int):=by rw [rD]; omega
        clear ha hst hsl;generalize f.kids[k].sz=z at *;go_wp2_with fail;refine IH1.out.mono ?_;rintro e w3 ⟨rfl,x3⟩;have X3:=hid (HXR.out.trans x3);clear x3 hc;go_wp2_with fail
        go_roundw
        case rel=>exact ⟨k+1,by omega,by go_num,by rw [HA.out,sW],X3⟩
        case measure=>simp [intOf]; omega
      · have hke:k=f.kids.length:=by omega
        have HZ:Hid (1+xdn (f.kids.take k)=f.sz):=hid (by rw [hke,pw]; omega);rw [HZ.out];go_wp2_with fail;go_ret;exact ⟨rfl,HX.out.trans HXR.out⟩
theorem vfq {w0 W:World} {L:Nat} (f:Fm) {v:Value} (hb:f.sz<=1099511627776) (h:FmV w0 L f v):Calls Tryz.prog 33 #[v] W (zdn f.sz W):=zf1 (f.sz+1) f v W (pO _) hb h
theorem vf6 {w0:World} {L:Nat} (n:Nat):∀ (f:Fm) (v:Value) (W:World),f.sz < n->f.sz<=1099511627776->FmV w0 L f v->Calls Tryz.prog 34 #[v] W (zdn f.atoms W):=by
 induction n with
 | zero=>intro t v W h; omega
 | succ n ih =>
   intro f v W hn hb h;have IH:=hid ih;have H:=hid h;have hlen:=f.qz;have hks:=f.zM;have hal:=f.yB;clear ih;obtain ⟨s0,hs0⟩:∃ s0:Nat,(if f.isAtom then 1 else 0)=s0:=⟨_,rfl⟩;rw [hs0] at hks;have HS0:=hid hs0;have hfl:=h;clear hs0;rcases h.two with ⟨l,r,k0,x,y,hfe,rfl,hl,hr⟩ | ⟨hna,T,x,rfl,hT⟩
   focus
    obtain ⟨T,x,rfl⟩:=hl.iface;obtain ⟨U,y,rfl⟩:=hr.iface;have HQ:Hid (s0=1):=hid (by rw [<- HS0.out,hfe]; rfl);clear hl hr h hfl HS0 hfe;go_enter Tryz.func34,Tryz.ntmps34;go_upto_region 5 with fail
   rotate_left
   focus
    have HQ:Hid (s0=0):=hid (by rw [<- HS0.out,hna]; rfl);clear h hfl HS0 hna;go_enter Tryz.func34,Tryz.ntmps34;go_upto_region 5 with fail
   all_goals
    go_wp2_with fail;refine (ydw f H.out).mono ?_;rintro e w2 ⟨s2,rfl,hs,-,hx⟩;obtain ⟨A,c,rfl⟩:=hs.len;have HS:=hid hs;have HX:=hid (Ext.trans ((Ext.refl W).alloc _) hx);clear hs hx;go_wp2_with fail
    go_loopw [3,19] (fun av iv wr=>∃ k:Nat,k<=f.kids.length/\iv=.int .i64 k/\av=.int .i64 (s0+wd0 (f.kids.take k):Nat)/\Hid (Ext w2 wr)) (fun _ iv _=>f.kids.length - (intOf iv).toNat)
    case atStart=>exact ⟨0,pM _,rfl,by rw [HQ.out]; rfl,Ext.refl _⟩
    case round =>
     obtain ⟨k,hk,rfl,rfl,hx0⟩:=hrel;have HXR:=hid hx0.out;clear hx0
     by_cases hlt:k < f.kids.length
     · obtain ⟨ad,y,rfl,hc,hp⟩:=SlR.qt (SlR.ext HS.out (fun _ _ h=>h) HXR.out) k hlt;have HP:=hid hp;obtain ⟨U,y,rfl⟩:=hp.iface;clear hp;have hkl:f.kids[k].sz < f.sz:=Fm.qD _ _ (pt hlt);have hst:=jfk f.kids k hlt;have hsl:=uf4 f.kids (k+1);obtain ⟨a,ha⟩:=n_m (s0+wd0 (f.kids.take k));have HA:Hid (s0+wd0 (f.kids.take (k+1))=a+f.kids[k].atoms):=hid (by omega);have IH1:=hid (IH.out f.kids[k] (.iface U y) wr (by omega) (by omega) HP.out);rw [ha];have hw:IntKind.i64.wrap ((a:Int)+(f.kids[k].atoms:Int))=((a+f.kids[k].atoms:Nat):Int):=by rw [rD]; omega
       clear ha hst hsl;generalize f.kids[k].atoms=z at *;go_wp2_with fail;refine IH1.out.mono ?_;rintro e w3 ⟨rfl,x3⟩;have X3:=hid (HXR.out.trans x3);clear x3 hc;go_wp2_with fail
       go_roundw
       case rel=>exact ⟨k+1,by omega,by go_num,by rw [HA.out,sW],X3⟩
       case measure=>simp [intOf]; omega
     · have hke:k=f.kids.length:=by omega
       have HZ:Hid (s0+wd0 (f.kids.take k)=f.atoms):=hid (by rw [hke,pw]; omega);rw [HZ.out];go_wp2_with fail;go_ret;exact ⟨rfl,HX.out.trans HXR.out⟩
theorem gft {w0 W:World} {L:Nat} (f:Fm) {v:Value} (hb:f.sz<=1099511627776) (h:FmV w0 L f v):Calls Tryz.prog 34 #[v] W (zdn f.atoms W):=vf6 (f.sz+1) f v W (pO _) hb h
end Go.Proofs.YtheefiaoimbeiaaGreatDoor
