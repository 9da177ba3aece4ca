/- Layer 38: prenex.body, prenex.joined: the formula of a matrix. -/
import Derived.Test.YtaedbimbbeploaaGreatDoorMb38
import Derived.Test.YtaedbimbbeploaaGreatDoorMb9
import Derived.Test.YtaedbimbbeploaaGreatDoorMb31
import Derived.Test.YtaedbimbbeploaaGreatDoorMb29
import Derived.Deep.RegionLaw
set_option linter.unusedSimpArgs false
set_option linter.unusedVariables false

set_option maxRecDepth 100000
set_option maxHeartbeats 8000000
namespace Go.Proofs.YtaedbimbbeploaaGreatDoor
open Go.RowKit
theorem kaa.coef {l:Sp} (h:kaa l):∀ x ∈ l,qc l x.2=x.1/\x.1 ≠ 0:=by
 induction l with
 | nil=>intro x hx; cases hx
 | cons y r ih =>
   obtain ⟨c,m⟩:=y;intro x hx;rcases List.mem_cons.1 hx with rfl | hx
   · exact ⟨(uaj h).1,h.1⟩
   · have hlt:=h.2.1 x hx;obtain ⟨h1,h2⟩:=ih h.2.2 x hx;refine ⟨?_,h2⟩;rw [qc,if_neg (fun e=>Mo.lt_irrefl m (by rw [<- e] at hlt; exact hlt)),h1]; omega
theorem gba {p:Pl} {n:Nat} (h:p.nf.lv<=n):∀ x ∈ jc (p.terms Mo.one),∀ k:Nat,k < 4->0 < x.2.get ((k:Int)+1)->k < n:=by
 intro x hx k hk hpos;rcases Nat.lt_or_ge k n with hlt | hge
 · exact hlt
 · exfalso
   obtain ⟨h1,h2⟩:=(ww (p.terms Mo.one)).coef x hx;have h3:qc (p.nf.terms Mo.one) x.2=x.1:=by rw [Pl.nf_coef,<- vad p.terms_one_nonneg,h1]
   have h4:¬ ∀ y ∈ p.nf.terms Mo.one,y.2 ≠ x.2:=fun hh=>h2 (by rw [<- h3]; exact xad hh)
   apply h4;intro y hy e;have h5:=Pl.exp_above p.nf_can h y hy (k+1) (by omega) (by omega);rw [e] at h5;have h6:((k+1:Nat):Int)=(k:Int)+1:=by omega
   rw [h6] at h5;omega
def wad (k : Int) : List Fm -> Fm
 | []=>.truth (k == 3)
 | f :: r=>r.foldl (fun a g=>if k=3 then .and a g else .or a g) f
mutual
def Mx.bodyF (nms : List ByteArray) : Mx -> Fm
 | .mk k r p ks=>if k=1 then .truth true else if k=2 then .atom (sumT (jc (p.terms Mo.one)) nms) (zad r) (.num 0) else if k=3\/k=4 then wad k (xa2 nms ks) else .truth false
def xa2 (nms : List ByteArray) : List Mx -> List Fm
 | []=>[]
 | t :: r=>t.bodyF nms :: xa2 nms r
end
theorem ub4 (nms:List ByteArray) (l:List Mx):xa2 nms l=l.map (Mx.bodyF nms):=by
 induction l with
 | nil=>rfl
 | cons t r ih=>rw [xa2,ih]; rfl
theorem Mx.bodyF_eq (nms:List ByteArray) (t:Mx):t.bodyF nms=if t.kind=1 then .truth true else if t.kind=2 then .atom (sumT (jc (t.p.terms Mo.one)) nms) (zad t.rel) (.num 0) else if t.kind=3\/t.kind=4 then wad t.kind (t.ks.map (Mx.bodyF nms)) else .truth false:=by
 cases t; rw [Mx.bodyF,ub4]; rfl
theorem zb3 (k:Int) (f:Fm) (r:List Fm) (j:Nat) (hj:j < r.length):wad k (f :: r.take (j+1))=if k=3 then .and (wad k (f :: r.take j)) r[j] else .or (wad k (f :: r.take j)) r[j]:=by
 simp only [wad];rw [List.take_succ_eq_append_getElem hj,List.foldl_append]; rfl
theorem zbd (l:List Mx) (n:Int):∀ (a:Int),ut a l<=n->a<=n/\∀ t ∈ l,t.lvl<=n:=by
 induction l with
 | nil=>intro a h; rw [ut] at h; exact ⟨h,fun t ht=>by cases ht⟩
 | cons x r ih =>
   intro a h;rw [ut] at h;obtain ⟨h1,h2⟩:=ih _ h;refine ⟨by omega,fun t ht=>?_⟩;rcases List.mem_cons.1 ht with rfl | ht
   · omega
   · exact h2 t ht
def ybs (L:Nat) (f:Fm) (w:World) (e:Ending) (w':World):Prop:=∃ v,e=.returned v/\FmV w' L f v/\Ext w w'
def kcd (L:Nat) (nms:List ByteArray) (n:Nat):Prop:=∀ (q:Nat->Prop) (t:Mx) (v nv:Value) (w:World),t.sz < n->t.sz<=1000000->t.small->t.lvl<=(nms.length:Int)->MxV w q t v->SlR (fun _ (s:ByteArray) x=>x=.string s) w nv nms->Calls Tryz.prog 75 #[v,nv] w (ybs L (t.bodyF nms) w)
theorem uca {L:Nat} {nms:List ByteArray} {n:Nat} (ih:kcd L nms n) (q:Nat->Prop) (t:Mx) (v nv:Value) (w:World) (hn:t.sz < n+1) (hbig:t.sz<=1000000) (hsm:t.small) (hlv:ut 0 t.ks<=(nms.length:Int)) (hk34:t.kind=3\/t.kind=4) (h:MxV w q t v) (hs:SlR (fun _ (s:ByteArray) x=>x=.string s) w nv nms) :
 Calls Tryz.prog 132 #[v,nv] w (ybs L (wad t.kind (t.ks.map (Mx.bodyF nms))) w):=by
 have hkl:t.ks.length<=1000000:=by have:=t.ks_len; omega
 have HS:=Lib.hid hs;have HSZ:=Lib.hid (fun k hk=>t.kid_le k hk);have HSM:=Lib.hid (Mx.ks_small hsm);have HLV:=Lib.hid (zbd t.ks nms.length 0 hlv).2;have IH:=Lib.hid ih;obtain ⟨A0,n0,c0,A,n1,c1,K,c,rfl,hp,hl1,hl2,h4⟩:=h.open_;have H4:=Lib.hid h4;obtain ⟨NA,cn,rfl,hn1,hn2,-⟩:=hs;obtain ⟨W,hW⟩:∃ W,w.alloc (.cells #[.int .i64 t.kind,.int .i64 t.rel,.int .i64 t.p.lv,.bool t.p.neg,.slice A0 n0 c0,.slice A n1 c1,.slice K t.ks.length c] 45)=W:=⟨_,rfl⟩;have hWx:Ext w W:=by rw [<- hW]; exact (Ext.refl w).alloc _
 have hWs:w.heap.size < W.heap.size:=by rw [<- hW]; simp
 have hbx:um W w.heap.size t (.slice A0 n0 c0) (.slice A n1 c1) (.slice K t.ks.length c):=by rw [<- hW]; exact um.new w t _ _ _ _
 have HWX:=Lib.hid hWx;have HBX:=Lib.hid hbx;have HWS:=Lib.hid hWs;obtain ⟨b0,b1,b2,b3,b4,b5,b6⟩:=id hbx;clear h h4 hp hsm hWx hbx hWs ih hlv;unfold mxV;go_enter Tryz.func132,Tryz.ntmps132
 by_cases he:t.ks.length=0
 · have hd:((t.ks.length:Int) == 0)=true:=by simp [he]
   have hd2:decide ((t.ks.length:Int)=0)=true:=by simp [he]
   have HF:Hid (wad t.kind (t.ks.map (Mx.bodyF nms))=.truth (t.kind == 3)):=Lib.hid (by rw [List.eq_nil_of_length_eq_zero he]; rfl);clear he;go_wp2_with fail;go_ret;exact ⟨_,rfl,by rw [HF.out]; rfl,HWX.out⟩
 · have hd:((t.ks.length:Int) == 0)=false:=by simpa using he
   have hpos:0 < t.ks.length:=by omega
   obtain ⟨ad,B0,m0,d0,B1,m1,d1,K2,n2,c2,hA,hadb,hnd,hkt⟩:=jg.kid H4.out 0 hpos;subst hA;have hndW:=hnd.ext HWX.out (by rw [ja]; exact hadb);obtain ⟨e0,e1,e2,e3,e4,e5,e6⟩:=hndW;have ha0:ad.add 0=ad:=by simp [Addr.add]
   rw [Nat.zero_mul,ha0] at e0 e1 e2 e3 e4 e5 e6;clear ha0;have h0z:=HSZ.out 0 hpos;have HC:=Lib.hid (IH.out _ t.ks[0] _ _ W (by omega) (by omega) (kae HSM.out (List.getElem_mem hpos)) (HLV.out _ (List.getElem_mem hpos)) (hkt.ext HWX.out) (SlR.ext HS.out (fun _ _ h=>h) HWX.out));unfold mxV at HC;have hc1:(1:Int)<=(t.ks.length:Int):=by omega
   have hp1:(0:Int) < (t.ks.length:Int):=by omega
   have hcl:(t.ks.length:Int)<=(c:Int):=by omega
   go_wp2_with fail;refine HC.out.mono ?_;rintro e w1 ⟨v1,rfl,f1,x1⟩;obtain ⟨T1,u1,rfl⟩:=f1.iface;have F1:=Lib.hid f1;have X1:=Lib.hid x1;obtain ⟨b0',b1',b2',b3',b4',b5',b6'⟩:=HBX.out.ext x1 HWS.out;clear f1 x1 HC e0 e1 e2 e3 e4 e5 e6 b0 b1 b2 b3 b4 b5 b6 hW;obtain ⟨r,hr⟩:∃ r,(t.ks.drop 1).map (Mx.bodyF nms)=r:=⟨_,rfl⟩;have HR:Hid (t.ks.map (Mx.bodyF nms)=t.ks[0].bodyF nms :: r):=Lib.hid (by
    have h1:t.ks.map (Mx.bodyF nms)=(t.ks.drop 0).map (Mx.bodyF nms):=by rw [List.drop_zero]
    rw [h1,List.drop_eq_getElem_cons hpos,<- hr]; rfl)
   have hrl:r.length=t.ks.length - 1:=by rw [<- hr]; simp
   have HRG:Hid (∀ k (hk:k < r.length) (hk':k+1 < t.ks.length),r[k]=t.ks[k+1].bodyF nms):=Lib.hid (fun k hk hk'=>by
    simp only [<- hr,List.getElem_map,List.getElem_drop]
    congr 2; omega)
   have HBK:=Lib.hid (fun (wr:World) (hx:Ext W wr)=>(HBX.out.ext hx HWS.out).1);have HELQ:Hid (∀ k (hk:k+1 < t.ks.length),∃ B0 m0 d0 B1 m1 d1 K2 n2 c2,(∀ W',Ext w W'->jak W' (ad.add ((k+1) * 7)) t.ks[k+1] (.slice B0 m0 d0) (.slice B1 m1 d1) (.slice K2 n2 c2))/\MxV w q t.ks[k+1] (mxV t.ks[k+1] (.slice B0 m0 d0) (.slice B1 m1 d1) (.slice K2 n2 c2))):=Lib.hid (fun k hk=>by
    obtain ⟨ad',B0,m0,d0,B1,m1,d1,K2,n2,c2,hA,hadb,hnd,hkt⟩:=jg.kid H4.out (k+1) hk;injection hA with hA
    subst hA
    exact ⟨B0,m0,d0,B1,m1,d1,K2,n2,c2,fun W' hx=>hnd.ext hx (by rw [ja]; exact hadb),hkt⟩)
   clear hr h0z;generalize t.ks[0].bodyF nms=f0 at *;obtain ⟨N,hN⟩:∃ N,t.ks.length - 1=N:=⟨_,rfl⟩;go_wp2_with fail
   case inl =>
    have hN0:N=0:=by omega
    clear b0' b1' b2' b3' b4' b5' b6' hc1 hp1 HELQ
    go_loopw [5,28] (fun u5 iv wr=>∃ k:Nat,k<=N/\iv=.int .i64 k/\Hid (FmV wr L (wad t.kind (f0 :: r.take k)) u5/\Ext W wr)) (fun _ iv _=>N - (intOf iv).toNat)
    case atStart=>exact ⟨0,Nat.zero_le _,rfl,Lib.hid ⟨by rw [List.take_zero]; exact F1.out,X1.out⟩⟩
    case round =>
     obtain ⟨k,hk,rfl,HG⟩:=hrel;have HF:Hid (FmV wr L (wad t.kind (t.ks.map (Mx.bodyF nms))) u5):=Lib.hid (by
      have h1:=HG.out.1;rw [show k=r.length by omega,List.take_length,<- HR.out] at h1
      exact h1)
     obtain ⟨T5,y5,rfl⟩:=FmV.iface HF.out;have hkN:¬ k < t.ks.length - 1:=by omega
     go_wp2_with fail;go_ret;exact ⟨_,rfl,HF.out,HWX.out.trans HG.out.2⟩
   case' inr =>
    have hadd:∀ k:Nat,(⟨ad.block,ad.off+7+k * 7,none⟩:Addr)=ad.add ((k+1) * 7):=fun k=>by simp [Addr.add]; omega
    have HEL:Hid (∀ k (hk:k+1 < t.ks.length),∃ B0 m0 d0 B1 m1 d1 K2 n2 c2,(∀ W',Ext w W'->jak W' (⟨ad.block,ad.off+7+k * 7,none⟩:Addr) t.ks[k+1] (.slice B0 m0 d0) (.slice B1 m1 d1) (.slice K2 n2 c2))/\MxV w q t.ks[k+1] (mxV t.ks[k+1] (.slice B0 m0 d0) (.slice B1 m1 d1) (.slice K2 n2 c2))):=Lib.hid (fun k hk=>by rw [hadd]; exact HELQ.out k hk);clear hadd
   case inr =>
    clear b0' b1' b2' b3' b4' b5' b6' hc1 hp1 HELQ
    go_loopw [5,28] (fun u5 iv wr=>∃ k:Nat,k<=N/\iv=.int .i64 k/\Hid (FmV wr L (wad t.kind (f0 :: r.take k)) u5/\Ext W wr)) (fun _ iv _=>N - (intOf iv).toNat)
    case atStart=>exact ⟨0,Nat.zero_le _,rfl,Lib.hid ⟨by rw [List.take_zero]; exact F1.out,X1.out⟩⟩
    case round =>
     obtain ⟨k,hk,rfl,HG⟩:=hrel
     by_cases hlt:k < N
     · obtain ⟨B0',m0',d0',B1',m1',d1',K2',n2',c2',hat,hkt'⟩:=HEL.out k (by omega);obtain ⟨e0,e1,e2,e3,e4,e5,e6⟩:=hat wr (HWX.out.trans HG.out.2);obtain ⟨T5,y5,rfl⟩:=FmV.iface HG.out.1;have hkz:=HSZ.out (k+1) (by omega);have HTK:=Lib.hid (zb3 t.kind f0 r k (by omega));have hrk:=HRG.out k (by omega) (by omega);have hmem:=List.getElem_mem (l:=t.ks) (n:=k+1) (by omega);obtain ⟨V,hV⟩:∃ V,wr.alloc (.cells #[.int .i64 t.ks[k+1].kind,.int .i64 t.ks[k+1].rel,.int .i64 t.ks[k+1].p.lv,.bool t.ks[k+1].p.neg,.slice B0' m0' d0',.slice B1' m1' d1',.slice K2' n2' c2'] 45)=V:=⟨_,rfl⟩;have hVx:Ext wr V:=by rw [<- hV]; exact (Ext.refl wr).alloc _
       have hbv:um V wr.heap.size t.ks[k+1] (.slice B0' m0' d0') (.slice B1' m1' d1') (.slice K2' n2' c2'):=by rw [<- hV]; exact um.new wr t.ks[k+1] _ _ _ _
       have HV:=Lib.hid (HG.out.2.trans hVx);have HCB:=Lib.hid (IH.out _ t.ks[k+1] _ _ V (by omega) (by omega) (kae HSM.out hmem) (HLV.out _ hmem) (hkt'.ext (HWX.out.trans HV.out)) (SlR.ext HS.out (fun _ _ h=>h) (HWX.out.trans HV.out)));rw [<- hrk] at HCB;unfold mxV at HCB;have HGV:=Lib.hid (FmV.ext hVx HG.out.1);obtain ⟨g0,g1,g2,g3,g4,g5,g6⟩:=hbv;have hkN:(k:Int) < (N:Int):=by omega
       have hkL:(k:Int) < ((t.ks.length - 1:Nat):Int):=by omega
       clear hat hkt' hkz hVx hmem hrk;generalize r[k]=rk at *;generalize t.ks[k+1]=tk at *;go_wp2_with fail;clear hV e0 e1 e2 e3 e4 e5 e6 g0 g1 g2 g3 g4 g5 g6;refine HCB.out.mono ?_;rintro e w3 ⟨v3,rfl,f3,x3⟩;obtain ⟨T3,u3,rfl⟩:=f3.iface;have F3:=Lib.hid f3;have X3:=Lib.hid (HV.out.trans x3);have FG:=Lib.hid (FmV.ext x3 HGV.out);have g0:=HBK.out w3 X3.out;clear f3 x3 HCB HGV HV;rcases hk34 with h3 | h3
       · have hk3:(t.kind == 3)=true:=by rw [h3]; rfl
         have hk3':decide (t.kind=3)=true:=by rw [h3]; rfl
         have HN:Hid (FmV w3 L (wad t.kind (f0 :: r.take (k+1))) (.iface 158 (.agg #[.iface T5 y5,.iface T3 u3]))):=Lib.hid (by rw [HTK.out,if_pos h3]; exact ⟨_,_,rfl,FG.out,F3.out⟩);clear h3 HTK;go_wp2_with fail
         go_roundw
         case rel=>exact ⟨k+1,by omega,by go_num,Lib.hid ⟨HN.out,X3.out⟩⟩
         case measure=>simp [intOf]; omega
       · have hk3:(t.kind == 3)=false:=by rw [h3]; rfl
         have hk3':decide (t.kind=3)=false:=by rw [h3]; rfl
         have HN:Hid (FmV w3 L (wad t.kind (f0 :: r.take (k+1))) (.iface 159 (.agg #[.iface T5 y5,.iface T3 u3]))):=Lib.hid (by rw [HTK.out,if_neg (by rw [h3]; decide)]; exact ⟨_,_,rfl,FG.out,F3.out⟩);clear h3 HTK;go_wp2_with fail
         go_roundw
         case rel=>exact ⟨k+1,by omega,by go_num,Lib.hid ⟨HN.out,X3.out⟩⟩
         case measure=>simp [intOf]; omega
     · have HF:Hid (FmV wr L (wad t.kind (t.ks.map (Mx.bodyF nms))) u5):=Lib.hid (by
        have h1:=HG.out.1;rw [show k=r.length by omega,List.take_length,<- HR.out] at h1
        exact h1)
       obtain ⟨T5,y5,rfl⟩:=FmV.iface HF.out;have hkN:¬ (k:Int) < (N:Int):=by omega
       go_wp2_with fail;go_ret;exact ⟨_,rfl,HF.out,HWX.out.trans HG.out.2⟩
theorem xcv {L:Nat} (hL:5<=L) (nms:List ByteArray) (n:Nat):kcd L nms n:=by
 induction n with
 | zero=>intro q t v nv w h; omega
 | succ n ih =>
 intro q t v nv w hn hbig hsm hlv h hs;have HS:=Lib.hid hs;have HT:=Lib.hid h;have HSM:=Lib.hid hsm;have hps:=Mx.p_small hsm;have IH:=Lib.hid ih;have hle:=t.lvl_eq;have hbe:=Mx.bodyF_eq nms t;obtain ⟨A0,n0,c0,A,n1,c1,K,c,rfl,hp,hl1,hl2,h4⟩:=h.open_;have HP:=Lib.hid hp;have hkind:=fun w':World=>xbp (w:=w') t (.slice A0 n0 c0) (.slice A n1 c1) (.slice K t.ks.length c)
 obtain ⟨NA,cn,rfl,hn1,hn2,-⟩:=hs;obtain ⟨W,hW⟩:∃ W,w.alloc (.cells #[.int .i64 t.kind,.int .i64 t.rel,.int .i64 t.p.lv,.bool t.p.neg,.slice A0 n0 c0,.slice A n1 c1,.slice K t.ks.length c] 45)=W:=⟨_,rfl⟩;have hWx:Ext w W:=by rw [<- hW]; exact (Ext.refl w).alloc _
 have hWs:w.heap.size < W.heap.size:=by rw [<- hW]; simp
 have hbx:um W w.heap.size t (.slice A0 n0 c0) (.slice A n1 c1) (.slice K t.ks.length c):=by rw [<- hW]; exact um.new w t _ _ _ _
 have HWX:=Lib.hid hWx;have HBX:=Lib.hid hbx;have HWS:=Lib.hid hWs;obtain ⟨b0,b1,b2,b3,b4,b5,b6⟩:=id hbx;clear h h4 hp hsm hWx hbx hWs ih;unfold mxV at hkind HT;unfold mxV;go_enter Tryz.func75,Tryz.ntmps75
 by_cases k1:t.kind=1
 · rw [if_pos k1] at hbe;have HF:=Lib.hid hbe;have hkn:qag t.kind=1:=by unfold qag; split <;> omega
   rw [hkn] at hkind;have HKIND:=Lib.hid hkind;clear hkind hkn k1 hbe hle;go_wp2_with fail;refine (HKIND.out _).mono ?_;rintro e w3 ⟨rfl,x3⟩;have X3:=Lib.hid (HWX.out.trans x3);clear x3 b0 b1 b2 b3 b4 b5 b6 hW HKIND;go_wp2_with fail;go_ret;exact ⟨_,rfl,by rw [HF.out]; rfl,X3.out⟩
 by_cases k2:t.kind=2
 · rw [if_neg k1,if_pos k2] at hbe;rw [if_pos k2] at hle;have HF:=Lib.hid hbe;have hfit:=gba (p:=t.p) (n:=nms.length) (by omega);have hkn:qag t.kind=2:=by unfold qag; split <;> omega
   rw [hkn] at hkind;have HKIND:=Lib.hid hkind;have HSUM:=Lib.hid (fun W' (hx:Ext W W')=>sum_any (L:=L) (HP.out.ext (HWX.out.trans hx)) (by omega) (by omega) (SlR.ext HS.out (fun _ _ h=>h) (HWX.out.trans hx)) (by omega) (by omega) hfit);unfold plV at HSUM;have HREL:=Lib.hid (fun w':World=>qbn t.rel w');have HOF:=Lib.hid (fun w'=>of_int 0 w' (by omega) (by omega));clear hkind hkn k1 k2 hbe hle hfit;go_wp2_with fail;refine (HKIND.out _).mono ?_;rintro e w3 ⟨rfl,x3⟩;have X3:=Lib.hid x3;clear x3 b0 b1 b2 b3 b4 b5 b6 hW HKIND;go_wp2_with fail;refine (HOF.out _).mono ?_;rintro e w4 ⟨ov,rfl,ho,x4⟩;obtain ⟨ob,oA,on,oc,rfl⟩:=ho.unpack;have HO:=Lib.hid (xq.mono ho.raw (show (dg (0:Int).natAbs).length<=L by simp [qm]));obtain ⟨V,hV⟩:∃ V,w4.alloc (.cells #[.bool ob,.slice oA on oc] 120)=V:=⟨_,rfl⟩;have hVx:Ext w4 V:=by rw [<- hV]; exact (Ext.refl w4).alloc _
   have hVs:w4.heap.size < V.heap.size:=by rw [<- hV]; simp
   have hv0:V.cell? ⟨w4.heap.size,0,none⟩=some (.bool ob)/\V.cell? ⟨w4.heap.size,1,none⟩=some (.slice oA on oc):=by rw [<- hV]; exact ⟨by simp [go_sem],by simp [go_sem]⟩
   have XV:=Lib.hid ((X3.out.trans x4).trans hVx);have HSS:Hid (∀ W2,Ext V W2->(Ext V W2/\W2.cell? ⟨w.heap.size,1,none⟩=some (.int .i64 t.rel)/\W2.cell? ⟨w.heap.size,2,none⟩=some (.int .i64 t.p.lv)/\W2.cell? ⟨w.heap.size,3,none⟩=some (.bool t.p.neg)/\W2.cell? ⟨w.heap.size,4,none⟩=some (.slice A0 n0 c0)/\W2.cell? ⟨w.heap.size,5,none⟩=some (.slice A n1 c1)/\W2.cell? ⟨w4.heap.size,0,none⟩=some (.bool ob)/\W2.cell? ⟨w4.heap.size,1,none⟩=some (.slice oA on oc))):=Lib.hid (fun W2 hx=>by
    obtain ⟨b0,b1,b2,b3,b4,b5,b6⟩:=HBX.out.ext (XV.out.trans hx) HWS.out
    exact ⟨hx,b1,b2,b3,b4,b5,(hx.cell (p:=⟨w4.heap.size,0,none⟩) hVs).trans hv0.1,(hx.cell (p:=⟨w4.heap.size,1,none⟩) hVs).trans hv0.2⟩)
   have HOV:=Lib.hid (fun W2 (hx:Ext V W2)=>HO.out.ext (hVx.trans hx));have Y0:=Lib.hid ((Ext.refl V).drew);clear x4 ho hVx hVs hv0 HOF HO;go_upto_region 6 with fail;clear hV
   go_region_held3 (fun W2 => Ext V W2 /\ W2.cell? ⟨w.heap.size, 1, none⟩ = some (.int .i64 t.rel) /\ W2.cell? ⟨w.heap.size, 2, none⟩ = some (.int .i64 t.p.lv) /\ W2.cell? ⟨w.heap.size, 3, none⟩ = some (.bool t.p.neg) /\ W2.cell? ⟨w.heap.size, 4, none⟩ = some (.slice A0 n0 c0) /\ W2.cell? ⟨w.heap.size, 5, none⟩ = some (.slice A n1 c1) /\ W2.cell? ⟨w4.heap.size, 0, none⟩ = some (.bool ob) /\ W2.cell? ⟨w4.heap.size, 1, none⟩ = some (.slice oA on oc))
    (first | with_reducible exact HSS.out _ Y0.out | with_reducible exact HSS.out _ z1)
    (first
      | (go_at_call 131
         refine (HSUM.out _ (XV.out.trans Y0.out)).mono ?_;rintro e v1 ⟨sv,rfl,s1,x1⟩;obtain ⟨ST,sx,rfl⟩:=s1.iface
         have z1:Ext V v1:=Ext.trans Y0.out x1)
      | (go_at_call 105
         refine (HREL.out _).mono ?_
         rintro e v2 ⟨rfl,rfl⟩))
   all_goals
    have S1:=Lib.hid s1;have Z1:=Lib.hid z1;clear s1 z1 x1 HSS HSUM HREL;go_wp2_with fail;go_ret;exact ⟨_,rfl,by rw [HF.out]; exact ⟨_,_,rfl,S1.out,⟨_,rfl,HOV.out _ Z1.out⟩⟩,HWX.out.trans (XV.out.trans Z1.out)⟩
 by_cases k34:t.kind=3\/t.kind=4
 · rw [if_neg k1,if_neg k2,if_pos k34] at hbe;rw [if_neg k2,if_pos k34] at hle;have HF:=Lib.hid hbe;have HJ:=Lib.hid (fun W' (hx:Ext W W')=>uca IH.out q t _ _ W' hn hbig HSM.out (by omega) k34 (HT.out.ext (HWX.out.trans hx)) (SlR.ext HS.out (fun _ _ h=>h) (HWX.out.trans hx)));unfold mxV at HJ;have hkn:qag t.kind=t.kind:=by unfold qag; split <;> omega
   rw [hkn] at hkind;have HKIND:=Lib.hid hkind;clear hbe hle hkn hkind;rcases k34 with h3 | h3
   case' inl =>
    have hq1:(t.kind == 1)=false:=by rw [h3]; rfl
    have hq2:(t.kind == 2)=false:=by rw [h3]; rfl
    have hq3:(t.kind == 3)=true:=by rw [h3]; rfl
    clear h3 k1 k2;go_wp2_with fail
   case' inr =>
    have hq1:(t.kind == 1)=false:=by rw [h3]; rfl
    have hq2:(t.kind == 2)=false:=by rw [h3]; rfl
    have hq3:(t.kind == 3)=false:=by rw [h3]; rfl
    have hq4:(t.kind == 4)=true:=by rw [h3]; rfl
    clear h3 k1 k2;go_wp2_with fail
   all_goals
    refine (HKIND.out _).mono ?_;rintro e w3 ⟨rfl,x3⟩;have X3:=Lib.hid x3;obtain ⟨b0',b1',b2',b3',b4',b5',b6'⟩:=HBX.out.ext x3 HWS.out;clear x3 b0 b1 b2 b3 b4 b5 b6 hW HKIND;go_wp2_with fail;refine (HJ.out _ X3.out).mono ?_;rintro e w5 ⟨v5,rfl,f5,x5⟩;obtain ⟨T5,u5,rfl⟩:=f5.iface;have F5:=Lib.hid f5;have X5:=Lib.hid (X3.out.trans x5);clear f5 x5 b0' b1' b2' b3' b4' b5' b6';go_wp2_with fail;go_ret;exact ⟨_,rfl,by rw [HF.out]; exact F5.out,HWX.out.trans X5.out⟩
 · rw [if_neg k1,if_neg k2,if_neg k34] at hbe;have HF:=Lib.hid hbe;have hkn:qag t.kind=0:=by unfold qag; split <;> omega
   rw [hkn] at hkind;have HKIND:=Lib.hid hkind;clear hkind hkn k1 k2 k34 hbe hle;go_wp2_with fail;refine (HKIND.out _).mono ?_;rintro e w3 ⟨rfl,x3⟩;have X3:=Lib.hid (HWX.out.trans x3);clear x3 b0 b1 b2 b3 b4 b5 b6 hW HKIND;go_wp2_with fail;go_ret;exact ⟨_,rfl,by rw [HF.out]; rfl,X3.out⟩
theorem wcn {L:Nat} (hL:5<=L) {nms:List ByteArray} {q:Nat->Prop} (t:Mx) (v nv:Value) (w:World) (hbig:t.sz<=1000000) (hsm:t.small) (hlv:t.lvl<=(nms.length:Int)) (h:MxV w q t v) (hs:SlR (fun _ (s:ByteArray) x=>x=.string s) w nv nms):Calls Tryz.prog 75 #[v,nv] w (ybs L (t.bodyF nms) w):=
 xcv hL nms (t.sz+1) q t v nv w (Nat.lt_succ_self _) hbig hsm hlv h hs
end Go.Proofs.YtaedbimbbeploaaGreatDoor
