/- One operation of a region taken first: its side conditions by themselves. -/
import Derived.OrdersHeld
import Derived.Deep.RegionHeld3
import Derived.Test.YtaedbimbbeploaaGreatDoorValid
set_option linter.unusedSimpArgs false
set_option linter.unusedVariables false
namespace Go.Proofs.YtaedbimbbeploaaGreatDoor
theorem tk {P : Program} {ops : Array Oper} {Q : Exit -> Act -> World -> Prop} {md : Region.Mode} {S : World -> Prop} {oi : Oper} {v : Value} {fuel : Nat} {listed l' : Array Bool} {a a' : Act} {w : World} (i : Nat) (h : wpAnyH P md ops Q S fuel l' a' w) (hi : ops[i]? = some oi := by rfl) (hs : Region.noSelect ops = true := by kernel_rfl) (hf : Region.free md ops listed i = true := by kernel_rfl) (hr : (Region.ready md ops listed).contains i = true := by kernel_rfl)
 (hy:YieldsIf P ops S oi v a:=by (first | exact Or.inl ⟨by rfl,by intro w' hSw; (try dsimp only at hSw); go_simp; (try (with_reducible rfl))⟩ | exact Or.inr ⟨by rfl,rfl⟩)) (hS:S w:=by assumption)
 (ha:a.put oi.dst v=a':=by ((try simp only [Act.put,List.getElem_toArray,List.getElem_cons_zero,List.getElem_cons_succ,List.setIfInBounds_toArray,List.set_cons_zero,List.set_cons_succ]) <;> rfl))
 (hl:listed.setIfInBounds i true=l':=by ((try simp only [List.setIfInBounds_toArray,List.set_cons_zero,List.set_cons_succ]) <;> rfl)) (hq:∀ c a w,Q (.panic c) (a.put oi.dst v) w->Q (.panic c) a w:=by exact fun _ _ _ h=>h):wpAnyH P md ops Q S (fuel+1) listed a w:=
 wpAnyH_take hi hs hf hr hq hy hS (by rw [ha,hl]; exact h)
/- Layer 38: lists of names: slices.Index, slices.Contains, prenex.different; the reference's last and Names. -/
set_option maxRecDepth 100000
set_option maxHeartbeats 8000000
open Go.RowKit
theorem xcw {α:Type} {P:α->Value->Prop} {w:World} {A:Option Addr} {n c:Nat} {l:List α} (h:SlR (fun _=>P) w (.slice A n c) l) (k:Nat) (hk:k < l.length):∃ ad x,A=some ad/\ad.block < w.heap.size/\w.cell? (ad.add k)=some x/\P l[k] x:=by
 obtain ⟨A',c',e,-,-,h3⟩:=h;injection e with e1
 obtain ⟨ad,x,e4,hb,a0,hp⟩:=h3 k hk;exact ⟨ad,x,e1.trans e4,hb,a0,hp⟩
theorem zbm {w:World} {A:Option Addr} {n c:Nat} {l:List ByteArray} (h:SlR (fun _ (s:ByteArray) x=>x=.string s) w (.slice A n c) l) (k:Nat) (hk:k<=l.length):SlR (fun _ (s:ByteArray) x=>x=.string s) w (.slice A k c) (l.take k):=by
 obtain ⟨A',c',e,h1,h2,h3⟩:=h;injection e with e1 e2 e3
 subst e1 e2 e3;have hl:(l.take k).length=k:=by rw [List.length_take]; omega
 refine ⟨A,c,by rw [hl],by omega,h2,fun j hj=>?_⟩;obtain ⟨ad,x,e1,e2,e3,e4⟩:=h3 j (by omega);exact ⟨ad,x,e1,e2,e3,by rw [List.getElem_take]; exact e4⟩
def vby (l:List ByteArray) (s:ByteArray) (w:World) (e:Ending) (w':World):Prop:=∃ r:Int,e=.returned (.int .i64 r)/\decide (0<=r)=hasB l s/\Ext w w'
theorem xcb {w:World} {v:Value} {l:List ByteArray} (h:SlR (fun _ (s:ByteArray) x=>x=.string s) w v l) (nm:ByteArray):Calls Tryz.prog 167 #[v,.string nm] w (vby l nm w):=by
 have H:=Lib.hid h;obtain ⟨A,c,rfl,h1,h2,-⟩:=h;have hlen:l.length<=9223372036854775807:=by omega
 go_enter Tryz.func167,Tryz.ntmps167;go_wp2_with fail
 go_loopw [8] (fun iv wr=>∃ k:Nat,k<=l.length/\iv=.int .i64 k/\Hid (hasB (l.take k) nm=false/\Ext w wr)) (fun iv _=>l.length - (intOf iv).toNat)
 case atStart=>exact ⟨0,Nat.zero_le _,rfl,⟨by simp [hasB],Ext.refl w⟩⟩
 case round =>
  obtain ⟨k,hk,rfl,⟨hno,hx⟩⟩:=hrel;have HNO:=Lib.hid hno;have HX:=Lib.hid hx;clear hno hx
  by_cases hlt:k < l.length
  · obtain ⟨ad,x,rfl,hc,hp⟩:=SlR.get_ (SlR.ext H.out (fun _ _ h=>h) HX.out) k hlt;subst hp;have HTK:Hid (hasB (l.take (k+1)) nm=(hasB (l.take k) nm || l[k] == nm)):=by
     have:hasB (l.take (k+1)) nm=(hasB (l.take k) nm || l[k] == nm):=by unfold hasB; rw [List.take_succ_eq_append_getElem hlt,List.any_append]; simp
     exact this
    have HIT:Hid ((l[k] == nm)=true->hasB l nm=true):=by
     intro h; unfold hasB; exact List.any_eq_true.2 ⟨l[k],List.getElem_mem hlt,h⟩
    generalize l[k]=q at *
    by_cases hs:q=nm
    · have hb:(q == nm)=true:=(MapKept.bytes_beq q nm).2 hs;have hb2:(q.toList == nm.toList)=true:=by rw [hs]; simp
      have hb3:(nm.toList == q.toList)=true:=by rw [hs]; simp
      have HF:=Lib.hid (HIT.out hb);clear HTK HIT;go_wp2_with fail;go_ret;exact ⟨k,rfl,by rw [HF.out]; simp,HX.out⟩
    · have hb:(q == nm)=false:=by rw [Bool.eq_false_iff]; exact fun e=>hs ((MapKept.bytes_beq q nm).1 e)
      have hb2:(q.toList == nm.toList)=false:=by rw [<- beq_toListBytes]; exact hb
      have hb3:(nm.toList == q.toList)=false:=by
       rw [Bool.eq_false_iff] at hb2 ⊢;intro e;exact hb2 (by rw [beq_iff_eq] at e ⊢; exact e.symm)
      have HN:Hid (hasB (l.take (k+1)) nm=false):=by
       have:hasB (l.take (k+1)) nm=false:=by rw [HTK.out,HNO.out,hb]; rfl
       exact this
      clear HTK HIT;go_wp2_with fail
      go_roundw
      case rel=>exact ⟨k+1,by omega,by go_num,⟨HN.out,HX.out⟩⟩
      case measure=>simp [intOf]; omega
  · have HF:Hid (hasB l nm=false):=by
     have hke:k=l.length:=by omega
     have h:=HNO.out;rw [hke,List.take_length] at h;exact h
    go_wp2_with fail;go_ret;exact ⟨-1,rfl,by rw [HF.out]; simp,HX.out⟩
theorem zbr {w:World} {v:Value} {l:List ByteArray} (h:SlR (fun _ (s:ByteArray) x=>x=.string s) w v l) (nm:ByteArray):Calls Tryz.prog 113 #[v,.string nm] w fun e w'=>e=.returned (.bool (hasB l nm))/\Ext w w':=by
 have H:=Lib.hid (xcb h nm);clear h;go_enter Tryz.func113,Tryz.ntmps113;go_wp2_with fail;refine H.out.mono ?_;rintro e w2 ⟨r,rfl,hr,hx⟩;have HX:=Lib.hid hx;have HR:=Lib.hid hr;clear hx hr;go_wp2_with fail;go_ret;exact ⟨by rw [<- HR.out]; rfl,HX.out⟩
theorem last_any {w:World} {v:Value} {l:List ByteArray} (h:SlR (fun _ (s:ByteArray) x=>x=.string s) w v l) (nm:ByteArray):Calls Tryz.prog 61 #[v,.string nm] w (vby l nm w):=by
 have H:=Lib.hid h;obtain ⟨A,c,rfl,h1,h2,-⟩:=h;have hlen:l.length<=9223372036854775807:=by omega
 go_enter Tryz.func61,Tryz.ntmps61;go_wp2_with fail
 go_loopw [5] (fun iv wr=>∃ k:Nat,k<=l.length/\iv=.int .i64 ((k:Int) - 1)/\Hid (hasB (l.drop k) nm=false/\Ext w wr)) (fun iv _=>(intOf iv+1).toNat)
 case atStart=>exact ⟨l.length,Nat.le_refl _,by first | rfl | go_num,⟨by simp [hasB],Ext.refl w⟩⟩
 case round =>
  obtain ⟨k,hk,rfl,⟨hno,hx⟩⟩:=hrel;have HNO:=Lib.hid hno;have HX:=Lib.hid hx;clear hno hx;cases k with
  | succ k =>
    have e1:((k+1:Nat):Int) - 1=(k:Int):=by omega
    rw [e1];obtain ⟨ad,x,rfl,hc,hp⟩:=SlR.get_ (SlR.ext H.out (fun _ _ h=>h) HX.out) k (by omega);subst hp;have hk1:k < l.length:=by omega
    have HTK:Hid (hasB (l.drop k) nm=(l[k] == nm || hasB (l.drop (k+1)) nm)):=by
     have:hasB (l.drop k) nm=(l[k] == nm || hasB (l.drop (k+1)) nm):=by unfold hasB; rw [List.drop_eq_getElem_cons hk1]; rfl
     exact this
    have HIT:Hid ((l[k] == nm)=true->hasB l nm=true):=by
     intro h; unfold hasB; exact List.any_eq_true.2 ⟨l[k],List.getElem_mem hk1,h⟩
    have HM:Hid (k+1=k+1):=Lib.hid rfl;clear e1;generalize l[k]=q at *
    by_cases hs:q=nm
    · have hb:(q == nm)=true:=(MapKept.bytes_beq q nm).2 hs;have hb2:(q.toList == nm.toList)=true:=by rw [hs]; simp
      have hb3:(nm.toList == q.toList)=true:=by rw [hs]; simp
      have HF:=Lib.hid (HIT.out hb);clear HTK HIT;go_wp2_with fail;go_ret;exact ⟨k,rfl,by rw [HF.out]; simp,HX.out⟩
    · have hb:(q == nm)=false:=by rw [Bool.eq_false_iff]; exact fun e=>hs ((MapKept.bytes_beq q nm).1 e)
      have hb2:(q.toList == nm.toList)=false:=by rw [<- beq_toListBytes]; exact hb
      have hb3:(nm.toList == q.toList)=false:=by
       rw [Bool.eq_false_iff] at hb2 ⊢;intro e;exact hb2 (by rw [beq_iff_eq] at e ⊢; exact e.symm)
      have HN:Hid (hasB (l.drop k) nm=false):=by
       have:hasB (l.drop k) nm=false:=by rw [HTK.out,HNO.out,hb]; rfl
       exact this
      clear HTK HIT;go_wp2_with fail
      go_roundw
      case rel=>exact ⟨k,by omega,by first | rfl | go_num,⟨HN.out,HX.out⟩⟩
      case measure=>simp [intOf]
  | zero =>
    have e1:((0:Nat):Int) - 1=-1:=by omega
    rw [e1];clear e1;have HF:Hid (hasB l nm=false):=by
     have h:=HNO.out;rw [List.drop_zero] at h;exact h
    go_wp2_with fail;go_ret;exact ⟨-1,rfl,by rw [HF.out]; simp,HX.out⟩
def jy (l:List ByteArray):Bool:=decide (l.length<=4/\∀ i (h:i < l.length),yt l[i]=true/\hasB (l.take i) l[i]=false)
theorem qa5 {l:List ByteArray} (h1:l.length<=4) (h2:∀ i (h:i < l.length),yt l[i]=true/\hasB (l.take i) l[i]=false):jy l=true:=decide_eq_true ⟨h1,h2⟩
theorem ja5 {l:List ByteArray} (h:4 < l.length):jy l=false:=decide_eq_false (fun hh=>by omega)
theorem ga9 {l:List ByteArray} (k:Nat) (hk:k < l.length) (h:yt l[k]=true->hasB (l.take k) l[k]=true):jy l=false:=decide_eq_false (fun hh=>by
 have:=hh.2 k hk;rw [h this.1] at this
 cases this.2)
theorem vaz {w:World} {v:Value} {l:List ByteArray} (h:SlR (fun _ (s:ByteArray) x=>x=.string s) w v l):Calls Tryz.prog 58 #[v] w fun e w'=>e=.returned (.bool (jy l))/\Ext w w':=by
 have H:=Lib.hid h;obtain ⟨A,c,rfl,h1,h2,-⟩:=h;have hlen:l.length<=9223372036854775807:=by omega
 go_enter Tryz.func58,Tryz.ntmps58
 by_cases h4:l.length<=4
 case neg =>
  have hd:decide ((4:Int) < (l.length:Int))=true:=by simp; omega
  have HF:=Lib.hid (ja5 (l:=l) (by omega));clear h4;go_wp2_with fail;go_ret;exact ⟨by rw [HF.out]; rfl,Ext.refl w⟩
 have hd:decide ((4:Int) < (l.length:Int))=false:=by simp; omega
 have H4:=Lib.hid h4;clear h4;go_wp2_with fail;clear hd
 go_loopw [10] (fun iv wr=>∃ k:Nat,k<=l.length/\iv=.int .i64 k/\Hid ((∀ i (h:i < l.length),i < k->yt l[i]=true/\hasB (l.take i) l[i]=false)/\Ext w wr)) (fun iv _=>l.length - (intOf iv).toNat)
 case atStart=>exact ⟨0,Nat.zero_le _,rfl,⟨fun i _ h=>by omega,Ext.refl w⟩⟩
 case round =>
  obtain ⟨k,hk,rfl,⟨hno,hx⟩⟩:=hrel;have HNO:=Lib.hid hno;have HX:=Lib.hid hx;clear hno hx
  by_cases hlt:k < l.length
  · obtain ⟨ad,x,rfl,hc,hp⟩:=SlR.get_ (SlR.ext H.out (fun _ _ h=>h) HX.out) k hlt;subst hp;have hkc:(k:Int)<=(c:Int):=by omega
    have HV:=Lib.hid (fun w'=>ybe l[k] w');have HTAKE:=Lib.hid (zbm (SlR.ext H.out (fun _ _ h=>h) HX.out) k hk);have HBAD:=Lib.hid (ga9 k hlt);have HGO:Hid (yt l[k]=true->hasB (l.take k) l[k]=false->∀ i (h:i < l.length),i < k+1->yt l[i]=true/\hasB (l.take i) l[i]=false):=Lib.hid (fun e1 e2 i hi hik=>by
     rcases Nat.lt_or_ge i k with h | h
     · exact HNO.out i hi h
     · obtain rfl:i=k:=by omega
       exact ⟨e1,e2⟩)
    generalize l[k]=q at *
    by_cases hv:yt q=true
    · rw [hv] at HV HBAD;have HVT:=Lib.hid hv;clear hv;go_upto_region 6 with fail;go_wp2_with fail;refine (HV.out _).mono ?_;rintro e w2 ⟨rfl,rfl⟩;go_wp2_with fail;refine (zbr HTAKE.out q).mono ?_;rintro e w3 ⟨rfl,x3⟩;have X3:=Lib.hid (HX.out.trans x3);clear x3
      by_cases hh:hasB (l.take k) q=true
      · rw [hh];have HF:=Lib.hid (HBAD.out (fun _=>hh));clear hh HBAD HGO;go_wp2_with fail;go_ret;exact ⟨by rw [HF.out]; rfl,X3.out⟩
      · have hh':hasB (l.take k) q=false:=by simpa using hh
        rw [hh'];have HN:=Lib.hid (HGO.out HVT.out hh');clear hh hh' HBAD HGO;go_wp2_with fail
        go_roundw
        case rel=>exact ⟨k+1,by omega,by go_num,⟨HN.out,X3.out⟩⟩
        case measure=>simp [intOf]; omega
    · have hv':yt q=false:=by simpa using hv
      rw [hv'] at HV;have HF:=Lib.hid (HBAD.out (fun e=>absurd e hv));clear hv hv' HBAD HGO;go_upto_region 6 with fail;go_wp2_with fail;refine (HV.out _).mono ?_;rintro e w2 ⟨rfl,rfl⟩;go_wp2_with fail;go_ret;exact ⟨by rw [HF.out]; rfl,HX.out⟩
  · have HF:Hid (jy l=true):=by
     have hke:k=l.length:=by omega
     exact qa5 H4.out (fun i hi=>HNO.out i hi (by omega))
    go_wp2_with fail;go_ret;exact ⟨by rw [HF.out]; rfl,HX.out⟩
theorem wb0 {w:World} {v:Value} {l:List ByteArray} (h:SlR (fun _ (s:ByteArray) x=>x=.string s) w v l):Calls Tryz.prog 22 #[v] w fun e w'=>e=.returned (.bool (jy l))/\Ext w w':=by
 have H:=Lib.hid h;obtain ⟨A,c,rfl,h1,h2,-⟩:=h;have hlen:l.length<=9223372036854775807:=by omega
 go_enter Tryz.func22,Tryz.ntmps22;go_wp2_with fail
 go_loopw [6] (fun iv wr=>∃ k:Nat,k<=l.length/\iv=.int .i64 k/\Hid ((∀ i (h:i < l.length),i < k->yt l[i]=true/\hasB (l.take i) l[i]=false)/\Ext w wr)) (fun iv _=>l.length - (intOf iv).toNat)
 case atStart=>exact ⟨0,Nat.zero_le _,rfl,⟨fun i _ h=>by omega,Ext.refl w⟩⟩
 case round =>
  obtain ⟨k,hk,rfl,⟨hno,hx⟩⟩:=hrel;have HNO:=Lib.hid hno;have HX:=Lib.hid hx;clear hno hx
  by_cases hlt:k < l.length
  · obtain ⟨ad,x,rfl,hc,hp⟩:=SlR.get_ (SlR.ext H.out (fun _ _ h=>h) HX.out) k hlt;subst hp;have hkc:(k:Int)<=(c:Int):=by omega
    have hkl:(k:Int) < (l.length:Int):=by omega
    have hab:(ad.add k).block < wr.heap.size:=by
     obtain ⟨ad',x',e,hb,-,-⟩:=xcw (SlR.ext H.out (fun _ _ h=>h) HX.out) k hlt;injection e with e
     rw [ja,e]; exact hb
    have HV:=Lib.hid (fun w'=>wbm l[k] w');have HTAKE:=Lib.hid (fun w' (hx:Ext wr w')=>zbm (SlR.ext H.out (fun _ _ h=>h) (HX.out.trans hx)) k hk);have HBAD:=Lib.hid (ga9 k hlt);have HGO:Hid (yt l[k]=true->hasB (l.take k) l[k]=false->∀ i (h:i < l.length),i < k+1->yt l[i]=true/\hasB (l.take i) l[i]=false):=Lib.hid (fun e1 e2 i hi hik=>by
     rcases Nat.lt_or_ge i k with h | h
     · exact HNO.out i hi h
     · obtain rfl:i=k:=by omega
       exact ⟨e1,e2⟩)
    generalize l[k]=q at *;have HSS:Hid (∀ W2,Ext wr W2->(Ext wr W2/\W2.cell? (ad.add k)=some (.string q))):=Lib.hid (fun W2 hx2=>⟨hx2,(hx2.cell hab).trans hc⟩);have Y0:=Lib.hid ((Ext.refl wr).drew);clear hc hab
    by_cases hv:yt q=true
    · rw [hv] at HV HBAD;have HVT:=Lib.hid hv;clear hv;go_upto_region 4 with fail
      go_region_held3 (fun W2 => Ext wr W2 /\ W2.cell? (ad.add k) = some (.string q))
       (first | with_reducible exact HSS.out _ Y0.out | with_reducible exact HSS.out _ z1 | with_reducible exact HSS.out _ z2)
       (first
         | (go_at_call 60
            refine (HV.out _).mono ?_;rintro e v1 ⟨rfl,x1⟩
            have z1:Ext wr v1:=Ext.trans Y0.out x1)
         | (go_at_call 61
            refine (last_any (HTAKE.out _ z1) q).mono ?_;rintro e v2 ⟨r,rfl,hr,x2⟩
            have z2:Ext wr v2:=Ext.trans z1 x2))
      all_goals
       have X3:=Lib.hid (HX.out.trans z2);clear z1 z2 x1 x2
       by_cases hh:hasB (l.take k) q=true
       · have HF:=Lib.hid (HBAD.out (fun _=>hh));clear hr;simp only [hh];clear hh HBAD HGO;go_wp2_with fail;go_ret;exact ⟨by rw [HF.out]; rfl,X3.out⟩
       · have hh':hasB (l.take k) q=false:=by simpa using hh
         have HN:=Lib.hid (HGO.out HVT.out hh');clear hr;simp only [hh'];clear hh hh' HBAD HGO;go_wp2_with fail
         go_roundw
         case rel=>exact ⟨k+1,by omega,by go_num,⟨HN.out,X3.out⟩⟩
         case measure=>simp [intOf]; omega
    · have hv':yt q=false:=by simpa using hv
      rw [hv'] at HV;have HF:=Lib.hid (HBAD.out (fun e=>absurd e hv));clear hv hv' HBAD HGO;have HX1:=Lib.hid (fun w' (x1:Ext wr w')=>HX.out.trans x1);go_upto_region 4 with fail;refine wp_region_held_drew (S:=fun W2=>Ext wr W2/\W2.cell? (ad.add k)=some (.string q)) (by kernel_rfl) (HSS.out _ Y0.out) (fun hHeld=>?_);refine wpAnyH_take (i:=0) (v:=?v0x1) rfl (by kernel_rfl) (by kernel_rfl) (by kernel_rfl) (fun _ _ _ h=>h) (Or.inl ⟨by rfl,?hy0x1⟩) (by assumption) ?rest0x1
      case hy0x1 =>
       intro w' hSw
       try dsimp only at hSw
       go_simp
       try (with_reducible rfl)
      try simp only [Act.put,List.getElem_toArray,List.getElem_cons_zero,List.getElem_cons_succ,List.setIfInBounds_toArray,List.set_cons_zero,List.set_cons_succ]
      refine wpAnyH_take (i:=1) (v:=?v1x2) rfl (by kernel_rfl) (by kernel_rfl) (by kernel_rfl) (fun _ _ _ h=>h) (Or.inl ⟨by rfl,?hy1x2⟩) (by assumption) ?rest1x2
      case hy1x2 =>
       intro w' hSw
       try dsimp only at hSw
       go_simp
       try (with_reducible rfl)
      try simp only [Act.put,List.getElem_toArray,List.getElem_cons_zero,List.getElem_cons_succ,List.setIfInBounds_toArray,List.set_cons_zero,List.set_cons_succ]
      refine wpAnyH_take (i:=2) (v:=?v2x3) rfl (by kernel_rfl) (by kernel_rfl) (by kernel_rfl) (fun _ _ _ h=>h) (Or.inl ⟨by rfl,?hy2x3⟩) (by assumption) ?rest2x3
      case hy2x3 =>
       intro w' hSw
       try dsimp only at hSw
       go_simp
       try (with_reducible rfl)
      try simp only [Act.put,List.getElem_toArray,List.getElem_cons_zero,List.getElem_cons_succ,List.setIfInBounds_toArray,List.set_cons_zero,List.set_cons_succ]
      refine wpAnyH_take (i:=3) (v:=?v3x4) rfl (by kernel_rfl) (by kernel_rfl) (by kernel_rfl) (fun _ _ _ h=>h) (Or.inl ⟨by rfl,?hy3x4⟩) (by assumption) ?rest3x4
      case hy3x4 =>
       intro w' hSw
       try dsimp only at hSw
       go_simp
       try (with_reducible rfl)
      try simp only [Act.put,List.getElem_toArray,List.getElem_cons_zero,List.getElem_cons_succ,List.setIfInBounds_toArray,List.set_cons_zero,List.set_cons_succ]
      refine wpAnyH_ready (rs:=[4]) (by kernel_rfl) (by simp) ?_;refine AllReadyH.cons rfl (fun K hK=>?_) AllReadyH.nil;go_simp
      go_at_call 60
      refine (HV.out _).mono ?_;rintro e v1 ⟨rfl,x1⟩;have z1:Ext wr v1:=Ext.trans Y0.out x1;refine hK.out _ _ (HSS.out _ z1) (fun hHeld=>?_);clear hK K
      try simp only [Act.put,List.getElem_toArray,List.getElem_cons_zero,List.getElem_cons_succ,List.setIfInBounds_toArray,List.set_cons_zero,List.set_cons_succ]
      refine wpAnyH_take (i:=5) (v:=?v5x5) rfl (by kernel_rfl) (by kernel_rfl) (by kernel_rfl) (fun _ _ _ h=>h) (Or.inl ⟨by rfl,?hy5x5⟩) (by assumption) ?rest5x5
      case hy5x5 =>
       intro w' hSw
       try dsimp only at hSw
       go_simp
       try (with_reducible rfl)
      try simp only [Act.put,List.getElem_toArray,List.getElem_cons_zero,List.getElem_cons_succ,List.setIfInBounds_toArray,List.set_cons_zero,List.set_cons_succ]
      refine wpAnyH_take (i:=6) (v:=?v6x6) rfl (by kernel_rfl) (by kernel_rfl) (by kernel_rfl) (fun _ _ _ h=>h) (Or.inl ⟨by rfl,?hy6x6⟩) (by assumption) ?rest6x6
      case hy6x6 =>
       intro w' hSw
       try dsimp only at hSw
       go_simp
       try (with_reducible rfl)
      try simp only [Act.put,List.getElem_toArray,List.getElem_cons_zero,List.getElem_cons_succ,List.setIfInBounds_toArray,List.set_cons_zero,List.set_cons_succ]
      refine tk 7 ?_;refine tk 8 ?_;refine tk 9 ?_;refine tk 10 ?_;refine tk 11 ?_;refine tk 12 ?_;refine tk 13 ?_;refine tk 14 ?_;refine tk 15 ?_;refine wpAnyH_take (i:=16) (v:=?v16x16) rfl (by kernel_rfl) (by kernel_rfl) (by kernel_rfl) (fun _ _ _ h=>h) (Or.inl ⟨by rfl,?hy16x16⟩) (by assumption) ?rest16x16
      case hy16x16 =>
       intro w' hSw
       try dsimp only at hSw
       go_simp
       try (with_reducible rfl)
      try simp only [Act.put,List.getElem_toArray,List.getElem_cons_zero,List.getElem_cons_succ,List.setIfInBounds_toArray,List.set_cons_zero,List.set_cons_succ]
      refine wpAnyH_done (by kernel_rfl) ?_ _;have X3:=Lib.hid (HX1.out _ z1);clear z1 x1;go_wp2_with fail;go_ret;exact ⟨by rw [HF.out]; rfl,X3.out⟩
  · have hke:k=l.length:=by omega
    by_cases h4:l.length<=4
    · have hd:decide ((l.length:Int)<=4)=true:=by simp; omega
      have HF:Hid (jy l=true):=qa5 h4 (fun i hi=>HNO.out i hi (by omega));clear h4;go_wp2_with fail;go_ret;exact ⟨by rw [HF.out]; rfl,HX.out⟩
    · have hd:decide ((l.length:Int)<=4)=false:=by simp; omega
      have HF:Hid (jy l=false):=ja5 (by omega);clear h4;go_wp2_with fail;go_ret;exact ⟨by rw [HF.out]; rfl,HX.out⟩
end Go.Proofs.YtaedbimbbeploaaGreatDoor
