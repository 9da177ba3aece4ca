/- A tree that passes Is is the tree of a formula; kinds. -/
import Derived.Test.YtheefiaoimbeiaaGreatDoorPlainT0
import Derived.Test.YtheefiaoimbeiaaGreatDoorOfF
import Derived.RangeFuncNested
import Derived.RangeFuncBound
import Derived.Shelf.RegionOpen
import Derived.OwnWalkIn
import Derived.LoopNIn
import Derived.LoopIn
set_option linter.unusedSimpArgs false
set_option linter.unusedVariables false

namespace Go.Proofs.YtheefiaoimbeiaaGreatDoor
open Lib (hid)
open Go.RowKit
theorem vf3 (L n:Nat):∀ t:Tr,t.sz < n->t.is false=true->(∀ x ∈ t.list,x.d.ds.length<=L)->∃ f,vdq L f t/\f.sz=t.sz:=by
 induction n with
 | zero=>intro t h; omega
 | succ n ih =>
   intro t hn h hl;obtain ⟨h1,h2,h3,h4⟩:=Tr.zR h;have hs:=t.yS;have hk:t.d.kind=8\/t.d.kind=9\/t.d.kind=10\/t.d.kind=11\/t.d.kind=12\/t.d.kind=13\/t.d.kind=14\/t.d.kind=15:=by
    have hnt:¬ (1<=t.d.kind/\t.d.kind<=7):=by
     unfold wdw at h2;intro hc;simp [hc.1,hc.2] at h2
    have hge:0<=udt t.d.kind:=by omega
    rcases Int.lt_or_le t.d.kind 1 with hlt | aBd
    · exfalso
      have:udt t.d.kind=-1:=by unfold udt; repeat rw [if_neg (by omega)]
      omega
    · rcases Int.lt_or_le 15 t.d.kind with hgt | hle
      · exfalso
        have:udt t.d.kind=-1:=by unfold udt; repeat rw [if_neg (by omega)]
        omega
      · omega
   have two:t.ks.length=2->(∀ x ∈ t.ks,x.is false=true)->∃ x y a b,t.ks=[x,y]/\vdq L a x/\vdq L b y/\a.sz+b.sz+1=t.sz:=by
    intro hlen acl;obtain ⟨x,y,hxy⟩:=gep hlen;rw [hxy] at hs acl;simp only [qdq] at hs;obtain ⟨a,ha,ha2⟩:=ih x (by omega) (acl x (by simp)) (fun z hz=>hl z (yd3 (by rw [hxy]; simp) hz));obtain ⟨b,hb,hb2⟩:=ih y (by omega) (acl y (by simp)) (fun z hz=>hl z (yd3 (by rw [hxy]; simp) hz));exact ⟨x,y,a,b,hxy,ha,hb,by omega⟩
   have one:t.ks.length=1->(∀ x ∈ t.ks,x.is false=true)->∃ x a,t.ks=[x]/\vdq L a x/\a.sz+1=t.sz:=by
    intro hlen acl;obtain ⟨x,hx⟩:=len1 hlen;rw [hx] at hs acl;simp only [qdq] at hs;obtain ⟨a,ha,ha2⟩:=ih x (by omega) (acl x (by simp)) (fun z hz=>hl z (yd3 (by rw [hx]; simp) hz));exact ⟨x,a,hx,ha,by omega⟩
   rcases hk with hk | hk | hk | hk | hk | hk | hk | hk
   · rw [hk] at h1;have hz:=len0 (l:=t.ks) (by simp [udt] at h1; omega);rw [hz] at hs;exact ⟨.truth t.d.truth,⟨hk,hz,rfl⟩,by simpa [qdq,Fm.sz] using hs.symm⟩
   · have hr:1<=t.d.rel/\t.d.rel<=6:=by
      unfold Nd.qQ at h3;rw [if_neg (by omega),if_pos hk] at h3;simpa using h3
     rw [hk] at h1 h4;obtain ⟨x,y,hxy⟩:=gep (l:=t.ks) (by simp [udt] at h1; omega);have h4':∀ z ∈ t.ks,z.is true=true:=by simpa [kdz] using h4
     rw [hxy] at hs;simp only [qdq] at hs;obtain ⟨a,ha,ha2⟩:=jf7 (L:=L) x (h4' x (by rw [hxy]; simp)) (fun z hz=>hl z (yd3 (by rw [hxy]; simp) hz));obtain ⟨b,hb,hb2⟩:=jf7 (L:=L) y (h4' y (by rw [hxy]; simp)) (fun z hz=>hl z (yd3 (by rw [hxy]; simp) hz));exact ⟨.atom a t.d.rel b,⟨hk,rfl,hr.1,hr.2,x,y,hxy,ha,hb⟩,by simp only [Fm.sz]; omega⟩
   · rw [hk] at h1 h4;obtain ⟨x,a,e,ha,hsz⟩:=one (by simp [udt] at h1; omega) (by simpa [kdz] using h4);exact ⟨.not a,⟨hk,x,e,ha⟩,hsz⟩
   · rw [hk] at h1 h4;obtain ⟨x,y,a,b,e,ha,hb,hsz⟩:=two (by simp [udt] at h1; omega) (by simpa [kdz] using h4);exact ⟨.and a b,⟨hk,x,y,e,ha,hb⟩,hsz⟩
   · rw [hk] at h1 h4;obtain ⟨x,y,a,b,e,ha,hb,hsz⟩:=two (by simp [udt] at h1; omega) (by simpa [kdz] using h4);exact ⟨.or a b,⟨hk,x,y,e,ha,hb⟩,hsz⟩
   · rw [hk] at h1 h4;obtain ⟨x,y,a,b,e,ha,hb,hsz⟩:=two (by simp [udt] at h1; omega) (by simpa [kdz] using h4);exact ⟨.imp a b,⟨hk,x,y,e,ha,hb⟩,hsz⟩
   · rw [hk] at h1 h4;obtain ⟨x,y,a,b,e,ha,hb,hsz⟩:=two (by simp [udt] at h1; omega) (by simpa [kdz] using h4);exact ⟨.iff a b,⟨hk,x,y,e,ha,hb⟩,hsz⟩
   · rw [hk] at h1 h4;obtain ⟨x,a,e,ha,hsz⟩:=one (by simp [udt] at h1; omega) (by simpa [kdz] using h4);exact ⟨.quant t.d.all t.d.name a,⟨hk,rfl,rfl,x,e,ha⟩,hsz⟩
theorem zgr {L:Nat} (t:Tr) (h:t.is false=true) (hl:∀ x ∈ t.list,x.d.ds.length<=L):∃ f,vdq L f t/\f.sz=t.sz:=vf3 L (t.sz+1) t (pO _) h hl
theorem qfj {t x:Tr} (h:t.ks=[x]):t.list=t :: x.list:=by rw [Tr.zn,h]; simp [udo]
theorem gel {t x y:Tr} (h:t.ks=[x,y]):t.list=t :: (x.list ++ y.list):=by rw [Tr.zn,h]; simp [udo]
theorem qf7 {t:Tr} (h:t.ks=[]):t.list=[t]:=by rw [Tr.zn,h]; simp [udo]
theorem ve1 (L:Nat) (m:Tm):∀ t,wdq L m t->∀ x ∈ t.list,1<=x.d.kind/\x.d.kind<=7:=by
 have two:∀ t x y:Tr,t.ks=[x,y]->(1<=t.d.kind/\t.d.kind<=7)->(∀ z ∈ x.list,1<=z.d.kind/\z.d.kind<=7)->(∀ z ∈ y.list,1<=z.d.kind/\z.d.kind<=7)->∀ z ∈ t.list,1<=z.d.kind/\z.d.kind<=7:=by
  intro t x y e h0 h1 h2 z hz;rw [gel e] at hz;rcases pI.1 hz with rfl | hz
  · exact h0
  · rcases rq.1 hz with hz | hz
    · exact h1 z hz
    · exact h2 z hz
 have one:∀ t x:Tr,t.ks=[x]->(1<=t.d.kind/\t.d.kind<=7)->(∀ z ∈ x.list,1<=z.d.kind/\z.d.kind<=7)->∀ z ∈ t.list,1<=z.d.kind/\z.d.kind<=7:=by
  intro t x e h0 h1 z hz;rw [qfj e] at hz;rcases pI.1 hz with rfl | hz
  · exact h0
  · exact h1 z hz
 have zero:∀ t:Tr,t.ks=[]->(1<=t.d.kind/\t.d.kind<=7)->∀ z ∈ t.list,1<=z.d.kind/\z.d.kind<=7:=by
  intro t e h0 z hz;rw [qf7 e] at hz;rcases pI.1 hz with rfl | hz
  · exact h0
  · cases hz
 induction m with
 | num z=>rintro t ⟨hk,hz,-⟩; exact zero t hz (by omega)
 | name s=>rintro t ⟨hk,hz,-⟩; exact zero t hz (by omega)
 | add a b iha ihb=>rintro t ⟨hk,x,y,e,hx,hy⟩; exact two t x y e (by omega) (iha x hx) (ihb y hy)
 | sub a b iha ihb=>rintro t ⟨hk,x,y,e,hx,hy⟩; exact two t x y e (by omega) (iha x hx) (ihb y hy)
 | mul a b iha ihb=>rintro t ⟨hk,x,y,e,hx,hy⟩; exact two t x y e (by omega) (iha x hx) (ihb y hy)
 | neg a iha=>rintro t ⟨hk,x,e,hx⟩; exact one t x e (by omega) (iha x hx)
 | pow a n iha=>rintro t ⟨hk,-,-,x,e,hx⟩; exact one t x e (by omega) (iha x hx)
theorem wes (L : Nat) (P : Fm -> Tr -> Prop)
 (h8:∀ b t,t.d.kind=8->t.list=[t]->t.d.truth=b->P (.truth b) t)
 (h9:∀ l r k t x y,t.d.kind=9->1<=r->r<=6->vdq L (.atom l r k) t->t.list=t :: (x.list ++ y.list)->wdq L l x->wdq L k y->P (.atom l r k) t)
 (h10:∀ f t x,t.d.kind=10->t.list=t :: x.list->P f x->P (.not f) t)
 (h11:∀ f g t x y,t.d.kind=11->t.list=t :: (x.list ++ y.list)->P f x->P g y->P (.and f g) t)
 (h12:∀ f g t x y,t.d.kind=12->t.list=t :: (x.list ++ y.list)->P f x->P g y->P (.or f g) t)
 (h13:∀ f g t x y,t.d.kind=13->t.list=t :: (x.list ++ y.list)->P f x->P g y->P (.imp f g) t)
 (h14:∀ f g t x y,t.d.kind=14->t.list=t :: (x.list ++ y.list)->P f x->P g y->P (.iff f g) t)
 (h15:∀ f t x,t.d.kind=15->t.list=t :: x.list->P f x->P (.quant t.d.all t.d.name f) t)
 (f:Fm):∀ t,vdq L f t->P f t:=by
 induction f with
 | truth b=>rintro t ⟨hk,hz,hb⟩; exact h8 b t hk (qf7 hz) hb
 | atom l r k =>
   intro t h;obtain ⟨hk,hr,hr1,hr2,x,y,e,hx,hy⟩:=id h;exact h9 l r k t x y hk hr1 hr2 h (gel e) hx hy
 | not f ih=>rintro t ⟨hk,x,e,hx⟩; exact h10 f t x hk (qfj e) (ih x hx)
 | and f g ihf ihg=>rintro t ⟨hk,x,y,e,hx,hy⟩; exact h11 f g t x y hk (gel e) (ihf x hx) (ihg y hy)
 | or f g ihf ihg=>rintro t ⟨hk,x,y,e,hx,hy⟩; exact h12 f g t x y hk (gel e) (ihf x hx) (ihg y hy)
 | imp f g ihf ihg=>rintro t ⟨hk,x,y,e,hx,hy⟩; exact h13 f g t x y hk (gel e) (ihf x hx) (ihg y hy)
 | iff f g ihf ihg=>rintro t ⟨hk,x,y,e,hx,hy⟩; exact h14 f g t x y hk (gel e) (ihf x hx) (ihg y hy)
 | quant a s f ih=>rintro t ⟨hk,ha,hs,x,e,hx⟩; subst ha hs; exact h15 f t x hk (qfj e) (ih x hx)
section
variable {L:Nat} {p:Nat->Prop}
end
section
variable {L:Nat} {p:Nat->Prop}
end
end Go.Proofs.YtheefiaoimbeiaaGreatDoor

set_option maxRecDepth 100000
set_option maxHeartbeats 8000000
namespace Go.Proofs.YtheefiaoimbeiaaGreatDoor
open Lib (hid)
open Go.RowKit
structure Vr where
 name:ByteArray
 neg:Bool
 ds:List Nat
 es:List Nat
def VsW (w:World) (v:Value) (l:List Vr):Prop:=
 ∃ A c,v=.slice A l.length c/\l.length<=c/\c<=9223372036854775807/\∀ j (h:j < l.length),∃ ad A1 c1 A2 c2,A=some ad/\ad.block < w.heap.size/\xe8 w (ad.add (j * 4)) l[j].name (.bool l[j].neg) (.slice A1 l[j].ds.length c1) (.slice A2 l[j].es.length c2)/\zb1 w (.slice A1 l[j].ds.length c1) l[j].ds/\zb1 w (.slice A2 l[j].es.length c2) l[j].es
def Vr.short (x:Vr):Bool:=decide (x.ds.length<=3) && decide (x.es.length<=3)
def jdy (l:List Vr):Bool:=decide (l.length<=8) && l.all fun x=>decide (x.name.size<=40) && x.short
theorem VsW.ext {w w':World} {v:Value} {l:List Vr} (h:VsW w v l) (hx:Ext w w'):VsW w' v l:=by
 obtain ⟨A,c,e,h1,h2,h3⟩:=h;refine ⟨A,c,e,h1,h2,fun j hj=>?_⟩;obtain ⟨ad,A1,c1,A2,c2,e,hb,hv,hr,hs⟩:=h3 j hj;exact ⟨ad,A1,c1,A2,c2,e,pr hb hx.size,hv.ext hx (by rw [zc1]; exact hb),hr.ext hx,hs.ext hx⟩
theorem short_any (neg:Bool) (A1 A2:Option Addr) (n1 c1 n2 c2:Nat) (w:World):Calls Tryz.prog 48 #[.agg #[.bool neg,.slice A1 n1 c1,.slice A2 n2 c2]] w (wdr (decide (n1<=3) && decide (n2<=3)) w):=by
 by_cases h1:n1<=3
 · have hv:(decide (n1<=3) && decide (n2<=3))=decide (n2<=3):=by simp [h1]
   rw [hv];have hd:decide ((n1:Int)<=3)=true:=by simp; omega
   have hd2:decide ((n2:Int)<=3)=decide (n2<=3):=by simp; omega
   have HD:=hid hd2;clear hv hd2;go_enter Tryz.func48,Tryz.ntmps48;go_wp2_with fail;go_ret;exact ⟨by first | rfl | (rw [<- HD.out]; rfl),(Ext.refl w).alloc _⟩
 · have hv:(decide (n1<=3) && decide (n2<=3))=false:=by simp [h1]
   rw [hv];have hd:decide ((n1:Int)<=3)=false:=by simp; omega
   clear hv;go_enter Tryz.func48,Tryz.ntmps48;go_wp2_with fail;go_ret;exact ⟨rfl,(Ext.refl w).alloc _⟩
def Vr.ok (x:Vr):Bool:=decide (x.name.size<=40) && x.short
theorem gf4 (l:List Vr) (k:Nat) (hk:k < l.length) (h:l[k].ok=false):jdy l=false:=by
 unfold jdy;rw [Bool.and_eq_false_iff];refine .inr (tn.2 ⟨l[k],pt hk,?_⟩);have h':(decide (l[k].name.size<=40) && l[k].short)=false:=h;rw [h']; simp
theorem vgg {w:World} {v:Value} {l:List Vr} (h:VsW w v l):Calls Tryz.prog 46 #[v] w (wdr (jdy l) w):=by
 have H:=hid h;obtain ⟨A,c,rfl,h1,h2,-⟩:=h;have hlen:l.length<=9223372036854775807:=by omega
 go_enter Tryz.func46,Tryz.ntmps46;go_wp2_with fail
 go_loopw [6] (fun iv wr=>∃ k:Nat,k<=l.length/\k<=8/\iv=.int .i64 k/\Hid ((l.take k).all Vr.ok=true/\Ext w wr)) (fun iv _=>l.length - (intOf iv).toNat)
 case atStart=>exact ⟨0,pM _,by omega,rfl,⟨by simp,Ext.refl w⟩⟩
 case round =>
  obtain ⟨k,hk,hk8,rfl,⟨acl,hx⟩⟩:=hrel;have HA:=hid acl;have HX:=hid hx;clear acl hx
  by_cases hlt:k < l.length
  · by_cases h8:8<=k
    · have hd8:decide ((8:Int)<=(k:Int))=true:=by simp; omega
      have HF:Hid (jdy l=false):=by
       have:jdy l=false:=by unfold jdy; simp; omega
       exact this
      go_wp2_with fail;go_ret;exact ⟨by rw [HF.out]; rfl,HX.out⟩
    · have hd8:decide ((8:Int)<=(k:Int))=false:=by simp; omega
      obtain ⟨A',c',e',-,-,h3⟩:=H.out.ext HX.out;injection e' with e1 e2 e3
      obtain ⟨ad,A1,c1,A2,c2,e4,hb,⟨a0,a1,a2,a3⟩,hr1,hr2⟩:=h3 k hlt;obtain rfl:A=some ad:=e1.trans e4;clear h3 e1 e3 e4 hr1 hr2;have HOK:Hid (l[k].ok=(decide (l[k].name.size<=40) && (decide (l[k].ds.length<=3) && decide (l[k].es.length<=3)))):=rfl;have agt:Hid (l[k].ok=false->jdy l=false):=gf4 l k hlt;have HTK:Hid ((l.take (k+1)).all Vr.ok=((l.take k).all Vr.ok && l[k].ok)):=by
       have:(l.take (k+1)).all Vr.ok=((l.take k).all Vr.ok && l[k].ok):=by rw [pg hlt,ur]; simp
       exact this
      generalize l[k].name=nm at *;generalize l[k].neg=ng at *;generalize l[k].ds.length=n1 at *;generalize l[k].es.length=n2 at *;generalize l[k].ok=okk at *
      by_cases h40:nm.size<=40
      · have ao4:decide ((40:Int) < (nm.size:Int))=false:=by simp; omega
        have HS:=hid (short_any ng A1 A2 n1 c1 n2 c2 wr)
        by_cases hs:(decide (n1<=3) && decide (n2<=3))=true
        · rw [hs] at HS;have hok:okk=true:=by rw [HOK.out,hs]; simp [h40]
          have HN:Hid ((l.take (k+1)).all Vr.ok=true):=by
           have:(l.take (k+1)).all Vr.ok=true:=by rw [HTK.out,HA.out,hok]; rfl
           exact this
          clear hs hok;go_wp2_with fail;refine HS.out.mono ?_;rintro e w2 ⟨rfl,x2⟩;have X2:=hid x2;clear x2 a0 a1 a2 a3 HS;go_wp2_with fail
          go_roundw
          case rel=>exact ⟨k+1,by omega,by omega,by go_num,⟨HN.out,HX.out.trans X2.out⟩⟩
          case measure=>simp [intOf]; omega
        · have hs':(decide (n1<=3) && decide (n2<=3))=false:=by simpa using hs
          rw [hs'] at HS;have HF:Hid (jdy l=false):=by
           have:jdy l=false:=agt.out (by rw [HOK.out,hs']; simp);exact this
          clear hs hs';go_wp2_with fail;refine HS.out.mono ?_;rintro e w2 ⟨rfl,x2⟩;have X2:=hid x2;clear x2 a0 a1 a2 a3 HS;go_wp2_with fail;go_ret;exact ⟨by rw [HF.out]; rfl,HX.out.trans X2.out⟩
      · have ao4:decide ((40:Int) < (nm.size:Int))=true:=by simp; omega
        have HF:Hid (jdy l=false):=by
         have:jdy l=false:=agt.out (by rw [HOK.out]; simp [h40]);exact this
        go_wp2_with fail;go_ret;exact ⟨by rw [HF.out]; rfl,HX.out⟩
  · have HF:Hid (jdy l=true):=by
     have hke:k=l.length:=by omega
     have hA:=HA.out;rw [hke,pw] at hA;have:jdy l=true:=by
      unfold jdy;rw [pj];exact ⟨by simp; omega,hA⟩
     exact this
    go_wp2_with fail;go_ret;exact ⟨by rw [HF.out]; rfl,HX.out⟩
def Tm.qP (t:Tm):Bool:=decide (8 < t.qw) || decide (320 < t.wt)
theorem xek {w0 w:World} {L:Nat} (hs:L<=1000000000000) (t:Tm) {v:Value} (hx0:Ext w0 w) (h:TmV w0 L t v):Calls Tryz.prog 52 #[v] w fun e w'=>e=.returned (.bool t.qP)/\Ext w w':=by
 have H:=hid h;have HX0:=hid hx0;clear h hx0
 by_cases hd:8 < t.qw
 · have hl:t.qP=true:=by unfold Tm.qP; simp [hd]
   rw [hl];clear hl;go_enter Tryz.func52,Tryz.ntmps52;go_wp2_with fail;refine (qei t _ _ H.out).mono ?_;rintro e w1 ⟨rfl,x1⟩;have X1:=hid x1;clear x1;go_wp2_with fail;go_ret;exact ⟨rfl,X1.out⟩
 · have hl:t.qP=decide (320 < t.wt):=by unfold Tm.qP; simp [hd]
   rw [hl];clear hl;have hd':decide (8 < t.qw)=false:=by simpa using hd
   go_enter Tryz.func52,Tryz.ntmps52;go_wp2_with fail;refine (qei t _ _ H.out).mono ?_;rintro e w1 ⟨rfl,x1⟩;have X1:=hid x1;clear x1;go_wp2_with fail;refine (zer hs t _ _ (HX0.out.trans X1.out) H.out).mono ?_;rintro e w2 ⟨rfl,x2⟩;have X2:=hid (X1.out.trans x2);clear x2;go_wp2_with fail;go_ret;exact ⟨rfl,X2.out⟩
section
variable {L:Nat} {p:Nat->Prop}
end
attribute [local go_sem] uds ydr qdt kds zdt wds vds ydp xdr gds xdt udv qdn ydt xdp
theorem zdv {P:Program} {T:TypeId} {z:Value} (h:uel P T=true) (hz:(P.info? T).map (·.zero)=some (some z)) (xT:TypeId) (w:World) :
 (Instr.typeAssert .nilIface xT T true).run P w=.ok (.tuple #[z,.bool false]) w:=by
 obtain ⟨j,hj,hz'⟩:=uw.1 hz;unfold uel at h
 split at h
 · rename_i fs hu;simp [Instr.typeAssert,run_underlying hu,zeroValue,typeInfo,hj,hz']
 · cases h
theorem wgm (xT:TypeId) (w:World):(Instr.typeAssert .nilIface xT 110 true).run Tryz.prog w=.ok (.tuple #[.agg #[.bool false,.slice none 0 0],.bool false]) w:=
 zdv (by kernel_rfl) (by kernel_rfl) xT w
theorem ugc (xT:TypeId) (w:World):(Instr.typeAssert .nilIface xT 73 true).run Tryz.prog w=.ok (.tuple #[.agg #[.string ByteArray.empty],.bool false]) w:=
 zdv (by kernel_rfl) (by kernel_rfl) xT w
theorem xgn (xT:TypeId) (w:World):(Instr.typeAssert .nilIface xT 175 true).run Tryz.prog w=.ok (.tuple #[.agg #[.nilIface,.nilIface],.bool false]) w:=
 zdv (by kernel_rfl) (by kernel_rfl) xT w
theorem vgm (xT:TypeId) (w:World):(Instr.typeAssert .nilIface xT 176 true).run Tryz.prog w=.ok (.tuple #[.agg #[.nilIface,.nilIface],.bool false]) w:=
 zdv (by kernel_rfl) (by kernel_rfl) xT w
theorem ygn (xT:TypeId) (w:World):(Instr.typeAssert .nilIface xT 177 true).run Tryz.prog w=.ok (.tuple #[.agg #[.nilIface,.nilIface],.bool false]) w:=
 zdv (by kernel_rfl) (by kernel_rfl) xT w
theorem zgn (xT:TypeId) (w:World):(Instr.typeAssert .nilIface xT 171 true).run Tryz.prog w=.ok (.tuple #[.agg #[.nilIface],.bool false]) w:=
 zdv (by kernel_rfl) (by kernel_rfl) xT w
theorem ugm (xT:TypeId) (w:World):(Instr.typeAssert .nilIface xT 173 true).run Tryz.prog w=.ok (.tuple #[.agg #[.nilIface,.int .i64 0],.bool false]) w:=
 zdv (by kernel_rfl) (by kernel_rfl) xT w
attribute [local go_sem] wgm ugc xgn vgm ygn zgn ugm
section
variable {α:Type} {K:Nat} {caps:Array Value} {Ma:Nat} {J:Nat->World->(Nat->Prop)->α->Prop} {step:(ByteArray->Int)->ByteArray->α->α} {w0:World} {L:Nat}
end
end Go.Proofs.YtheefiaoimbeiaaGreatDoor

namespace Go.Proofs.YtheefiaoimbeiaaGreatDoor
open Lib (hid)
open Go.RowKit Go.Shelf
theorem room_of_none {F:Fence} (hd:F.depth=none) (k:Nat):F.room k:=fun d h=>by rw [hd] at h; cases h
theorem RoundIn.xY {F : Fence} (hd : F.depth = none) {m m' : Nat} {P : Program} {l : Nat} {f : FuncId} {tmps : Array Value} {assign body : Code} {w : World} {R : Ending -> World -> Prop}
 (h:RoundIn F m P l f tmps assign body w R):RoundIn F m' P l f tmps assign body w R:=⟨h.1,fun c cs _=>h.2 c cs (room_of_none hd _)⟩
theorem YieldAt.xY {F:Fence} (hd:F.depth=none) {m:Nat} (m':Nat) {P:Program} {l:Nat} {args:Array Value} {W:World} {R:Ending->World->Prop} (h:YieldAt F m P l args W R):YieldAt F m' P l args W R:=by
 obtain ⟨fn,tmps,assign,body,hy,hR⟩:=h;exact ⟨fn,tmps,assign,body,hy,RoundIn.xY hd hR⟩
def qdm (W W':World):Prop:=W.heap.size<=W'.heap.size/\∀ (i:Nat) (o:Obj),W.heap[i]?=some o->o.isCells=true->W'.heap[i]?=some o
theorem qdm.refl (W:World):qdm W W:=⟨pf _,fun _ _ h _=>h⟩
theorem qdm.trans {A B C:World} (h:qdm A B) (k:qdm B C):qdm A C:=⟨po h.1 k.1,fun i o hi ho=>k.2 i o (h.2 i o hi ho) ho⟩
theorem qdm.qo {A B:World} (h:Ext A B):qdm A B:=⟨h.size,fun i o hi _=>(h.below.block i (rA.1 hi).1).trans hi⟩
theorem qdm.putObj (W:World) (l:Nat) (o o':Obj) (h:W.heap[l]?=some o) (ho:o.isCells=false):qdm W (W.putObj l o'):=by
 refine ⟨by simp [World.putObj],fun i x hi hx=>?_⟩;have hne:i ≠ l:=fun e=>by subst e; rw [h] at hi; injection hi with hi; subst hi; rw [ho] at hx; cases hx
 rw [World.putObj_heap_other hne]; exact hi
theorem qdm.cell {A B:World} (h:qdm A B) {a:Addr} {v:Value} (hc:A.cell? a=some v):B.cell? a=some v:=by
 obtain ⟨o,ho,hoc⟩:=cells_of_cell hc;rw [ph ((h.2 _ _ ho hoc).trans ho.symm)]; exact hc
theorem SlR.zG {α:Type} {P:α->Value->Prop} {w w':World} {v:Value} {l:List α} (h:SlR (fun _=>P) w v l) (k:qdm w w'):SlR (fun _=>P) w' v l:=by
 obtain ⟨A,c,e,h1,h2,h3⟩:=h;refine ⟨A,c,e,h1,h2,fun j hj=>?_⟩;obtain ⟨ad,x,rfl,hb,hc,hp⟩:=h3 j hj;exact ⟨ad,x,rfl,pr hb k.1,k.cell hc,hp⟩
structure It (w0 : World) (L : Nat) where
 depth:Int
 f:Fm
 v:Value
 h:FmV w0 L f v
def It.jx {w0:World} {L:Nat} (x:It w0 L):Array Value:=#[.int .i64 x.depth,x.v]
def Fm.pre : Fm -> List Fm
 | .truth b=>[.truth b]
 | .atom l r k=>[.atom l r k]
 | .not f=>.not f :: f.pre
 | .and f g=>.and f g :: (f.pre ++ g.pre)
 | .or f g=>.or f g :: (f.pre ++ g.pre)
 | .imp f g=>.imp f g :: (f.pre ++ g.pre)
 | .iff f g=>.iff f g :: (f.pre ++ g.pre)
 | .quant a s f=>.quant a s f :: f.pre
def xdw (l:List Fm):List Fm:=l.flatMap Fm.pre
theorem Fm.xo (f:Fm):f.pre=f :: xdw f.kids:=by cases f <;> simp [Fm.pre,Fm.kids,xdw]
theorem vfb (l:List Fm) (k:Nat) (h:k < l.length):xdw (l.take (k+1))=xdw (l.take k) ++ (l[k]).pre:=by
 unfold xdw;rw [pg h,tV,List.flatMap_singleton]
theorem jek (l:List Fm) (k:Nat):xdw l=xdw (l.take k) ++ xdw (l.drop k):=by
 unfold xdw;rw [<- tV,rl]
theorem uen (l:List Fm) (k:Nat) (h:k < l.length):xdw (l.drop k)=(l[k]).pre ++ xdw (l.drop (k+1)):=by
 unfold xdw;rw [pY h,rG]
def jfu {w0:World} {L:Nat} (J Jx:List (It w0 L)->World->Prop) (pre:List (It w0 L)) (l:List Fm) (W:World) (e:Ending) (W':World):Prop:=
 (e=.returned (.bool true)/\∃ q,q.map It.f=l/\J (pre ++ q) W'/\qdm W W')\/(e=.returned (.bool false)/\∃ q,q.map It.f <+: l/\Jx (pre ++ q) W')
theorem wfu {w0 : World} {L : Nat} (l N : Nat) (J Jx : List (It w0 L) -> World -> Prop) (hJ : ∀ pre W W', J pre W -> Ext W W' -> J pre W')
 (hY:∀ m pre x W,J pre W->pre.length < N->YieldAt Fence.wide m Tryz.prog l x.jx W fun e W'=>(e=.returned (.bool true)/\J (pre ++ [x]) W'/\qdm W W')\/(e=.returned (.bool false)/\Jx (pre ++ [x]) W')) (n:Nat) :
 ∀ (f:Fm) (v:Value) (m:Nat) (dep:Int) (pre:List (It w0 L)) (W:World),f.sz < n->FmV w0 L f v->J pre W->pre.length+f.pre.length<=N->0<=dep->dep+f.sz<=4611686018427387904 ->
   CallsIn Fence.wide m Tryz.prog 90 #[v,.int .i64 dep,.func (.yield l) #[] #[]] W (jfu J Jx pre f.pre W):=by
 induction n with
 | zero=>intro f v m dep pre W h; omega
 | succ n ih =>
 intro f v m dep pre W hsz h hJ0 hN hd1 hd2;have IH:=hid ih;have HJ:=hid hJ;have HY:=hid hY;have H:=hid h;clear ih hJ hY;obtain ⟨T,x,rfl⟩:=h.iface;clear h;have hdd:∀ k:Nat,(Fence.wide.depth.isSome=true->1<=k):=fun k h=>by cases h
 obtain ⟨fn,tmps,assign,body,hy,hR⟩:=HY.out (m - 1) pre ⟨dep,f,.iface T x,H.out⟩ W hJ0 (by rw [Fm.xo] at hN; simp at hN; omega);have HR:=hid hR;clear hR;dsimp only [It.jx] at hy;refine callsIn_of_wp Tryz.func90 rfl trivial ?_ rfl;simp only [Tryz.ntmps90,List.size_toArray,py,pQ,Nat.reduceAdd,Nat.reduceSub,Array.replicate_succ,Array.replicate_zero,List.push_toArray,List.append_toArray,uj,rj]
 gi_wp2_with fail
 refine ⟨hdd _,?_⟩;refine HR.out.mono ?_;rintro e W1 (⟨rfl,hJ1,hk1⟩ | ⟨rfl,hjx⟩)
 · have HJ1:=hid hJ1;have HK1:=hid hk1;clear hJ1 hk1 HR hy hJ0
   gi_wp2_with fail
   refine ⟨trivial,hdd _,?_⟩;refine (callsIn_wide.2 (ydw f H.out)).mono ?_;rintro e w2 ⟨s,rfl,hs,hf,hx⟩;obtain ⟨A,c,rfl⟩:=hs.len;have hlen:=f.qz;have HS:=hid hs;have HX:=hid hx;clear hs hf hx
   gi_wp2_with fail
   gi_loopw [17] (fun iv wr=>∃ k:Nat,k<=f.kids.length/\iv=.int .i64 k/\Hid (∃ q,q.map It.f=f :: xdw (f.kids.take k)/\J (pre ++ q) wr/\qdm w2 wr)) (fun iv _=>f.kids.length - (intOf iv).toNat)
   case atStart =>
    exact ⟨0,pM _,rfl,⟨[⟨dep,f,_,H.out⟩],by simp [xdw],HJ.out _ _ _ HJ1.out HX.out,qdm.refl _⟩⟩
   case round =>
    obtain ⟨k,hk,rfl,⟨q,hq,hJk,hkk⟩⟩:=hrel;have HQ:=hid hq;have HJK:=hid hJk;have HKK:=hid hkk;clear hq hJk hkk
    by_cases hlt:k < f.kids.length
    · obtain ⟨ad,y,rfl,hc,hp⟩:=SlR.qt (SlR.zG HS.out HKK.out) k hlt;have HP:=hid hp;obtain ⟨U,y,rfl⟩:=hp.iface;clear hp;have hkl:=f.qD _ (pt hlt);have aj2:Hid ((pre ++ q).length+(f.kids[k]).pre.length<=N):=by
       have h1:q.length=(f :: xdw (f.kids.take k)).length:=by rw [<- HQ.out,pC]
       rw [Fm.xo,jek f.kids k,uen _ _ hlt] at hN;simp only [py,pz] at hN h1;have:(pre ++ q).length+(f.kids[k]).pre.length<=N:=by rw [pz]; omega
       exact this
      gi_wp2_with fail
      refine ⟨trivial,hdd _,?_⟩;refine (IH.out (f.kids[k]) _ _ (dep+1) (pre ++ q) _ (by omega) HP.out HJK.out aj2.out (by omega) (by omega)).mono ?_;rintro e w3 (⟨rfl,q2,hq2,hJ2,hk2⟩ | ⟨rfl,q2,hq2,hx2⟩)
      · have HQ2:=hid hq2;have HJ2:=hid hJ2;have HK2:=hid hk2;clear hq2 hJ2 hk2 hc
        gi_wp2_with fail
        go_roundw
        case rel=>exact ⟨k+1,by omega,by go_num,⟨q ++ q2,by rw [rC,HQ.out,HQ2.out,vfb _ _ hlt]; rfl,by rw [<- uG]; exact HJ2.out,HKK.out.trans HK2.out⟩⟩
        case measure=>simp [intOf]; omega
      · have HQ2:=hid hq2;have HX2:=hid hx2;clear hq2 hx2 hc
        gi_wp2_with fail
        go_ret;refine .inr ⟨rfl,q ++ q2,?_,by rw [<- uG]; exact HX2.out⟩;obtain ⟨r,hr⟩:=HQ2.out;refine ⟨r ++ xdw (f.kids.drop (k+1)),?_⟩;rw [rC,HQ.out,Fm.xo,jek f.kids k,uen _ _ hlt,<- hr];simp
    · have hke:k=f.kids.length:=by omega
      have HD:Hid (q.map It.f=f.pre):=by
       have:=HQ.out;rw [hke,pw,<- Fm.xo] at this;exact this
      clear hke
      gi_wp2_with fail
      go_ret;exact .inl ⟨rfl,q,HD.out,HJK.out,(HK1.out.trans (qdm.qo HX.out)).trans HKK.out⟩
 · have HX1:=hid hjx;clear hjx HR hy hJ0
   gi_wp2_with fail
   go_ret;refine .inr ⟨rfl,[⟨dep,f,_,H.out⟩],?_,HX1.out⟩;rw [Fm.xo];exact ⟨xdw f.kids,rfl⟩
end Go.Proofs.YtheefiaoimbeiaaGreatDoor
