/- Layer 3 (division): long division. -/
import Derived.Test.YtcfcjabgkfehlaaGreatMf7
import Derived.Test.YtcfcjabgkfehlaaGreatLen
set_option linter.unusedSimpArgs false
set_option linter.unusedVariables false

set_option maxRecDepth 100000
set_option maxHeartbeats 8000000
namespace Go.Proofs.YtcfcjabgkfehlaaGreat
open Go.RowKit
def gbf (q r:Nat) (w:World) (e:Ending) (w':World):Prop:=∃ vq vr,e=.returned (.tuple #[vq,vr])/\jb w' vq (dg q)/\jb w' vr (dg r)/\Ext w w'
theorem xbn (u v:Value) (ds es:List Nat) (w:World) (h:jb w u ds) (k:jb w v es) (hs:ds.length<=17592186044416) (hs':es.length<=17592186044416) (hlt:val ds < val es) :
 Calls Tryz.prog 182 #[u,v] w (gbf (val ds / val es) (val ds % val es) w):=by
 have H:=Lib.hid h;have K:=Lib.hid k;have HLT:=Lib.hid hlt;clear h k hlt;go_enter Tryz.func182,Tryz.ntmps182;go_wp2_with fail
 go_step3
 go_wp2_with fail;refine (gab _ _ _ K.out (by omega)).mono ?_;rintro e w1 ⟨v1,rfl,hv1,x1⟩;go_wp2_with fail;refine (kap _ _ _ _ _ (H.out.ext x1) hv1).mono ?_;rw [je,uaf (by have:=HLT.out; omega)];rintro e w2 ⟨rfl,n2,hw2⟩;have x2:Ext w w2:=by rw [hw2]; exact x1.drewN n2
 have X2:=Lib.hid x2;clear hw2 hv1 x1 x2;go_wp2_with fail;refine (gab _ _ _ (H.out.ext X2.out) (by omega)).mono ?_;rintro e w3 ⟨v3,rfl,hv3,x3⟩;have HV3:=Lib.hid hv3;have X3:=Lib.hid x3;clear hv3 x3;go_wp2_with fail;rw [Exit.noGoto_ret]
 go_ret2
 refine ⟨_,_,rfl,?_,?_,X2.out.trans X3.out⟩
 · rw [Nat.div_eq_of_lt HLT.out,jk]; exact jb.nil _
 · rw [Nat.mod_eq_of_lt HLT.out]; exact HV3.out
theorem gbz (u v:Value) (ds es:List Nat) (w:World) (h:jb w u ds) (k:jb w v es) (hs:ds.length<=17592186044416) (hs':es.length<=17592186044416) (hge:val es<=val ds) (h0:val es ≠ 0) (hone:val es < B32) :
 Calls Tryz.prog 182 #[u,v] w (gbf (val ds / val es) (val ds % val es) w):=by
 have H:=Lib.hid h;have K:=Lib.hid k;have HGE:=Lib.hid hge;have H0:=Lib.hid h0;have HONE:=Lib.hid hone;clear h k hge h0 hone;go_enter Tryz.func182,Tryz.ntmps182;go_wp2_with fail
 go_step3
 go_wp2_with fail;refine (gab _ _ _ K.out (by omega)).mono ?_;rintro e w1 ⟨v1,rfl,hv1,x1⟩;go_wp2_with fail;refine (kap _ _ _ _ _ (H.out.ext x1) hv1).mono ?_;rw [je];have hcm:0<=xh (val ds) (val es):=by have:=HGE.out; unfold xh; split <;> (try split) <;> omega
 have hcm2:=(zan (val ds) (val es)).2;generalize xh (val ds) (val es)=cm at *;rintro e w2 ⟨rfl,n2,hw2⟩;have y2:Ext w1 w2:=by rw [hw2]; exact (Ext.refl w1).drewN n2
 have X2:=Lib.hid (x1.trans y2);have hv2:=hv1.ext y2;rw [jap H0.out HONE.out] at hv2;clear hw2 hv1 x1 y2;obtain ⟨A,c,rfl,q1,q2,q3⟩:=hv2;obtain ⟨ad,rfl,hb,hcell,hd1⟩:=q3.at_ 0 (by simp);rw [show ad.add 0=ad from by simp [Addr.add]] at hcell
 change w2.cell? ad=some (.int .u32 (val es:Nat)) at hcell
 change val es < 4294967296 at hd1
 clear q3;go_wp2_with fail;refine (ga0 _ _ _ _ (H.out.ext X2.out) (by omega) (Nat.pos_of_ne_zero H0.out) hd1).mono ?_;rintro e w3 ⟨v3,rfl,hv3,-,x3⟩;have HV3:=Lib.hid hv3;have X3:=Lib.hid x3;have hm:val ds % val es < 4294967296:=Nat.lt_trans (Nat.mod_lt _ (Nat.pos_of_ne_zero H0.out)) hd1;clear hv3 x3;generalize val ds % val es=M at *;go_wp2_with fail;refine (jaq _ _ (by omega)).mono ?_;rintro e w4 ⟨v4,rfl,hv4,x4⟩;have HV4:=Lib.hid hv4;have X4:=Lib.hid x4;clear hv4 x4;go_wp2_with fail;rw [Exit.noGoto_ret]
 go_ret2
 exact ⟨_,_,rfl,HV3.out.ext X4.out,HV4.out,X2.out.trans (X3.out.trans X4.out)⟩
end Go.Proofs.YtcfcjabgkfehlaaGreat
