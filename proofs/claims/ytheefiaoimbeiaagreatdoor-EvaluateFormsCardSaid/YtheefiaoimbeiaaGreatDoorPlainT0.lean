/- A tree that passes Is is the tree of a term. -/
import Derived.Test.YtheefiaoimbeiaaGreatDoorMp38
set_option linter.unusedSimpArgs false
set_option linter.unusedVariables false

namespace Go.Proofs.YtheefiaoimbeiaaGreatDoor
open Go.RowKit
theorem yd3 {t x y:Tr} (h:x ∈ t.ks) (hy:y ∈ x.list):y ∈ t.list:=by
 obtain ⟨d,ks⟩:=t;simp only [Tr.ks] at h;simp only [Tr.list,pI];refine .inr ?_;clear d
 induction ks with
 | nil=>simp at h
 | cons z r ih =>
   simp only [udo,rq];rcases pI.1 h with rfl | h
   · exact .inl hy
   · exact .inr (ih h)
theorem qfo (t:Tr):t ∈ t.list:=by cases t; simp [Tr.list]
theorem qgf {l:List Tr} {b:Bool} (h:isL l b=true):∀ x ∈ l,x.is b=true:=by
 induction l with
 | nil=>simp
 | cons t r ih =>
   simp only [isL,pj] at h;intro x hx;rcases pI.1 hx with rfl | hx
   · exact h.1
   · exact ih h.2 x hx
theorem Tr.zR {t:Tr} {b:Bool} (h:t.is b=true):udt t.d.kind=t.ks.length/\wdw t.d.kind=b/\t.d.qQ=true/\∀ x ∈ t.ks,x.is (kdz t.d.kind)=true:=by
 obtain ⟨d,ks⟩:=t;simp only [Tr.is,pj,beq_iff_eq] at h;exact ⟨h.1.1.1,h.1.1.2,h.1.2,qgf h.2⟩
theorem Tr.yS (t:Tr):t.sz=qdq t.ks+1:=by cases t; rfl
theorem kf3 (L n:Nat):∀ t:Tr,t.sz < n->t.is true=true->(∀ x ∈ t.list,x.d.ds.length<=L)->∃ m,wdq L m t/\m.sz=t.sz:=by
 induction n with
 | zero=>intro t h; omega
 | succ n ih =>
   intro t hn h hl;obtain ⟨h1,h2,h3,h4⟩:=Tr.zR h;have hs:=t.yS;unfold wdw at h2;simp only [pj,decide_eq_true_eq] at h2;have hk:t.d.kind=1\/t.d.kind=2\/t.d.kind=3\/t.d.kind=4\/t.d.kind=5\/t.d.kind=6\/t.d.kind=7:=by omega
   have aqV:=hl t (qfo t);have two:t.ks.length=2->(∀ x ∈ t.ks,x.is true=true)->∃ x y a b,t.ks=[x,y]/\wdq L a x/\wdq L b y/\a.sz+b.sz+1=t.sz:=by
    intro hlen acl;obtain ⟨x,y,hxy⟩:=gep hlen;rw [hxy] at hs acl;simp only [qdq] at hs;obtain ⟨a,ha,ha2⟩:=ih x (by omega) (acl x (by simp)) (fun z hz=>hl z (yd3 (by rw [hxy]; simp) hz));obtain ⟨b,hb,hb2⟩:=ih y (by omega) (acl y (by simp)) (fun z hz=>hl z (yd3 (by rw [hxy]; simp) hz));exact ⟨x,y,a,b,hxy,ha,hb,by omega⟩
   have one:t.ks.length=1->(∀ x ∈ t.ks,x.is true=true)->∃ x a,t.ks=[x]/\wdq L a x/\a.sz+1=t.sz:=by
    intro hlen acl;obtain ⟨x,hx⟩:=len1 hlen;rw [hx] at hs acl;simp only [qdq] at hs;obtain ⟨a,ha,ha2⟩:=ih x (by omega) (acl x (by simp)) (fun z hz=>hl z (yd3 (by rw [hx]; simp) hz));exact ⟨x,a,hx,ha,by omega⟩
   have zero:t.ks.length=0->t.ks=[]/\t.sz=1:=by
    intro hlen;have:=len0 hlen;rw [this] at hs;exact ⟨this,by simpa [qdq] using hs⟩
   rcases hk with hk | hk | hk | hk | hk | hk | hk
   · rw [hk] at h1 h4;obtain ⟨hz,hz2⟩:=zero (by simp [udt] at h1; omega);exact ⟨.num (sgn t.d.neg (val t.d.ds)),⟨hk,hz,rfl,aqV⟩,by rw [hz2]; rfl⟩
   · rw [hk] at h1 h4;obtain ⟨hz,hz2⟩:=zero (by simp [udt] at h1; omega);exact ⟨.name t.d.name,⟨hk,hz,rfl⟩,by rw [hz2]; rfl⟩
   · rw [hk] at h1 h4;obtain ⟨x,y,a,b,e,ha,hb,hsz⟩:=two (by simp [udt] at h1; omega) (by simpa [kdz] using h4);exact ⟨.add a b,⟨hk,x,y,e,ha,hb⟩,hsz⟩
   · rw [hk] at h1 h4;obtain ⟨x,y,a,b,e,ha,hb,hsz⟩:=two (by simp [udt] at h1; omega) (by simpa [kdz] using h4);exact ⟨.sub a b,⟨hk,x,y,e,ha,hb⟩,hsz⟩
   · rw [hk] at h1 h4;obtain ⟨x,y,a,b,e,ha,hb,hsz⟩:=two (by simp [udt] at h1; omega) (by simpa [kdz] using h4);exact ⟨.mul a b,⟨hk,x,y,e,ha,hb⟩,hsz⟩
   · rw [hk] at h1 h4;obtain ⟨x,a,e,ha,hsz⟩:=one (by simp [udt] at h1; omega) (by simpa [kdz] using h4);exact ⟨.neg a,⟨hk,x,e,ha⟩,hsz⟩
   · have hr:0<=t.d.exp:=by unfold Nd.qQ at h3; rw [if_pos hk] at h3; simpa using h3
     rw [hk] at h1 h4;obtain ⟨x,a,e,ha,hsz⟩:=one (by simp [udt] at h1; omega) (by simpa [kdz] using h4);exact ⟨.pow a t.d.exp,⟨hk,rfl,hr,x,e,ha⟩,hsz⟩
theorem jf7 {L:Nat} (t:Tr) (h:t.is true=true) (hl:∀ x ∈ t.list,x.d.ds.length<=L):∃ m,wdq L m t/\m.sz=t.sz:=kf3 L (t.sz+1) t (pO _) h hl
theorem Tr.zn (t:Tr):t.list=t :: udo t.ks:=by cases t; rfl
theorem xei {t:Tr} {n:Nat} (h:t.zb n=true):t.sz<=n/\∀ x ∈ t.list,x.d.ds.length<=20:=by
 unfold Tr.zb at h;simp only [pj,decide_eq_true_eq,List.all_eq_true] at h;refine ⟨t.room_le n 40 h.1,fun x hx=>?_⟩;have:=h.2 x hx;unfold Nd.ok at this;simp only [pj,decide_eq_true_eq] at this;exact this.1
end Go.Proofs.YtheefiaoimbeiaaGreatDoor
