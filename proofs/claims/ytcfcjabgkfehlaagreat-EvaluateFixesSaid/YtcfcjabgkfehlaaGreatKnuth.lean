/- Plain arithmetic of long division. No program in sight. -/
import Derived.Test.YtcfcjabgkfehlaaGreatMf0
set_option linter.unusedSimpArgs false
set_option linter.unusedVariables false

namespace Go.Proofs.YtcfcjabgkfehlaaGreat
def zai (B U V:Nat):Nat:=min (B - 1) (U / V)
theorem kcq {B:Nat} (hB:0 < B) (U V:Nat):zai B U V < B:=by
 unfold zai; omega
theorem ubz {B:Nat} (hB:0 < B) {u v U V K r r':Nat} (hK:0 < K) (hu:u=U * K+r) (hr:r < K) (hv:v=V * K+r') (hr':r' < K) (hV:B<=V) (hq:u < v * B) :
 u / v<=zai B U V/\zai B U V<=u / v+1:=by
 have hV0:0 < V:=Nat.lt_of_lt_of_le hB hV;have hv0:0 < v:=by rw [hv]; have:=Nat.mul_pos hV0 hK; omega
 have hqB:u / v < B:=Nat.div_lt_of_lt_mul hq
 constructor
 · have h1:u / v * v<=u:=Nat.div_mul_le_self u v;have h2:u / v * V * K<=u / v * v:=by rw [hv,Nat.mul_assoc]; exact Nat.mul_le_mul_left _ (by omega)
   have h3:u / v * V * K < (U+1) * K:=by rw [Nat.add_mul,Nat.one_mul]; omega
   have h4:u / v * V < U+1:=Nat.lt_of_mul_lt_mul_right h3;have h5:u / v<=U / V:=(Nat.le_div_iff_mul_le hV0).2 (by omega);unfold zai; omega
 · rcases Nat.lt_or_ge (u / v+1) (U / V) with h | h
   · exfalso
     generalize hQ:u / v=Q at *;have h1:(Q+2) * V<=U:=(Nat.le_div_iff_mul_le hV0).1 h;have h2:(Q+2) * V * K<=u:=by
      have:=Nat.mul_le_mul_right K h1;omega
     have h3:u < (Q+1) * v:=by
      rw [Nat.add_mul,Nat.one_mul,Nat.mul_comm,<- hQ];have h7:=Nat.mod_lt u hv0;have h8:=Nat.div_add_mod u v;omega
     have h4:(Q+1) * v < (Q+1) * ((V+1) * K):=Nat.mul_lt_mul_of_pos_left (by rw [hv,Nat.add_mul,Nat.one_mul]; omega) (by omega);have h5:(Q+2) * V * K < (Q+1) * (V+1) * K:=by rw [Nat.mul_assoc (Q+1)]; omega
     have h6:=Nat.lt_of_mul_lt_mul_right h5;rw [Nat.add_mul,Nat.add_mul,Nat.one_mul,Nat.mul_add,Nat.mul_one] at h6;omega
   · unfold zai; omega
def zaw (B U2 U V v1 q r o:Nat):Prop:=q < B/\r < B/\o<=1/\r+B * o+q * v1=U2/\zai B U V<=q
theorem zbn {B:Nat} (hB:0 < B) {u2 u1 u0 v1 v2:Nat} (h1:u1 < B) (hv1:v1 < B) (he:u2=v1):zaw B (u2 * B+u1) (u2 * B * B+u1 * B+u0) (v1 * B+v2) v1 (B - 1) ((u1+v1) % B) ((u1+v1) / B):=by
 refine ⟨by omega,Nat.mod_lt _ hB,by have:=(Nat.div_lt_iff_lt_mul hB).2 (show u1+v1 < 2 * B by omega); omega,?_,by unfold zai; omega⟩;rw [Nat.mod_add_div,he,Nat.sub_mul,Nat.one_mul,Nat.mul_comm B v1];have:v1<=v1 * B:=Nat.le_mul_of_pos_right _ hB;omega
theorem qci {B:Nat} (hB:0 < B) {u2 u1 u0 v1 v2:Nat} (h1:u1 < B) (h0:u0 < B) (hv1:v1 < B) (hlt:u2 < v1) :
 zaw B (u2 * B+u1) (u2 * B * B+u1 * B+u0) (v1 * B+v2) v1 ((u2 * B+u1) / v1) ((u2 * B+u1) % v1) 0:=by
 have hv0:0 < v1:=by omega
 have hm:=Nat.mod_lt (u2 * B+u1) hv0;have hq:u2 * B+u1 < v1 * B:=by
  have:(u2+1) * B<=v1 * B:=Nat.mul_le_mul_right _ hlt;rw [Nat.add_mul,Nat.one_mul] at this; omega
 refine ⟨Nat.div_lt_of_lt_mul hq,by omega,by omega,?_,?_⟩
 · rw [Nat.mul_zero,Nat.add_zero,Nat.mul_comm _ v1,Nat.add_comm]; exact Nat.div_add_mod _ _
 · have hV0:0 < v1 * B+v2:=by have:=Nat.mul_pos hv0 hB; omega
   have h2:(u2 * B * B+u1 * B+u0) / (v1 * B+v2)<=(u2 * B+u1) / v1:=by
    rw [Nat.le_div_iff_mul_le hv0];have h3:=Nat.div_mul_le_self (u2 * B * B+u1 * B+u0) (v1 * B+v2);generalize (u2 * B * B+u1 * B+u0) / (v1 * B+v2)=t at *;have h4:t * v1 * B<=t * (v1 * B+v2):=by rw [Nat.mul_assoc]; exact Nat.mul_le_mul_left _ (by omega)
    have h5:t * v1 * B < (u2 * B+u1+1) * B:=by rw [Nat.add_mul,Nat.add_mul,Nat.one_mul]; omega
    have:=Nat.lt_of_mul_lt_mul_right h5;omega
   unfold zai; omega
theorem ybn {B:Nat} (hB:0 < B) {u2 u1 u0 v1 v2 q r o:Nat} (h:zaw B (u2 * B+u1) (u2 * B * B+u1 * B+u0) (v1 * B+v2) v1 q r o) (hv1:0 < v1) (hstop:o=1\/q * v2<=r * B+u0) (hv2:v2 < B) :
 q=zai B (u2 * B * B+u1 * B+u0) (v1 * B+v2):=by
 obtain ⟨hq,hr,ho,he,hle⟩:=h;have hV0:0 < v1 * B+v2:=by have:=Nat.mul_pos hv1 hB; omega
 have hU:u2 * B * B+u1 * B+u0=(r+B * o) * B+q * v1 * B+u0:=by
  rw [<- Nat.add_mul,<- he,Nat.add_mul]
 have hqv:q * v2<=(r+B * o) * B+u0:=by
  rcases hstop with ho1 | h1
  · subst ho1;have h2:q * v2<=B * B:=Nat.mul_le_mul (by omega) (by omega);rw [Nat.add_mul,Nat.mul_one]; omega
  · rw [Nat.add_mul]; omega
 have h3:q<=(u2 * B * B+u1 * B+u0) / (v1 * B+v2):=by
  rw [Nat.le_div_iff_mul_le hV0,hU,Nat.mul_add,<- Nat.mul_assoc];omega
 unfold zai at *; omega
theorem wbm {B:Nat} (hB:0 < B) {u2 u1 u0 v1 v2 q r:Nat} (h:zaw B (u2 * B+u1) (u2 * B * B+u1 * B+u0) (v1 * B+v2) v1 q r 0) (hv1:0 < v1) (hv1B:v1 < B) (hgo:r * B+u0 < q * v2) :
 0 < q/\zaw B (u2 * B+u1) (u2 * B * B+u1 * B+u0) (v1 * B+v2) v1 (q - 1) ((r+v1) % B) ((r+v1) / B):=by
 obtain ⟨hq,hr,ho,he,hle⟩:=h;have hV0:0 < v1 * B+v2:=by have:=Nat.mul_pos hv1 hB; omega
 have hq0:0 < q:=by
  rcases Nat.eq_zero_or_pos q with e | e
  · rw [e,Nat.zero_mul] at hgo; omega
  · exact e
 have hU:u2 * B * B+u1 * B+u0=r * B+q * v1 * B+u0:=by
  rw [<- Nat.add_mul,<- he,Nat.mul_zero,Nat.add_zero,Nat.add_mul]
 have h3:(u2 * B * B+u1 * B+u0) / (v1 * B+v2) < q:=by
  rw [Nat.div_lt_iff_lt_mul hV0,hU,Nat.mul_add,<- Nat.mul_assoc];omega
 refine ⟨hq0,by omega,Nat.mod_lt _ hB,by have:=(Nat.div_lt_iff_lt_mul hB).2 (show r+v1 < 2 * B by omega); omega,?_,by unfold zai; omega⟩;rw [Nat.mod_add_div,Nat.sub_mul,Nat.one_mul];have:v1<=q * v1:=Nat.le_mul_of_pos_left _ hq0;omega
end Go.Proofs.YtcfcjabgkfehlaaGreat
