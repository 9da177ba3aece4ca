/- Layer 34: formula.small, limited. -/
import Derived.Test.YtheefiaoimbeiaaGreatDoorMp18
set_option linter.unusedSimpArgs false
set_option linter.unusedVariables false

set_option maxRecDepth 100000
set_option maxHeartbeats 8000000
namespace Go.Proofs.YtheefiaoimbeiaaGreatDoor
open Lib (hid)
open Go.RowKit
attribute [local go_sem] uds ydr qdt kds zdt wds vds ydp xdr gds xdt udv qdn ydt xdp
def Tm.small : Tm -> Bool
 | .num z=>decide (qdx z.natAbs<=40)
 | .name _=>true
 | .add a b=>a.small && b.small
 | .sub a b=>a.small && b.small
 | .mul a b=>a.small && b.small
 | .neg a=>a.small
 | .pow a e=>decide (e<=8) && a.small
theorem TmV.three {w:World} {L:Nat} {t:Tm} {v:Value} (h:TmV w L t v):(∃ z x,t=.num z/\v=.iface 110 x/\wdl w x z L)\/(∃ a e x,t=.pow a e/\v=.iface 173 (.agg #[x,.int .i64 e])/\TmV w L a x/\t.small=(decide (e<=8) && t.kids.all Tm.small))\/(t.small=t.kids.all Tm.small/\∃ T x,v=.iface T x/\¬ T=110/\¬ T=173):=by
 cases t <;> (simp only [TmV] at h)
 case num z=>obtain ⟨x,e,h⟩:=h; exact .inl ⟨z,x,rfl,e,h⟩
 case pow a e=>obtain ⟨x,e',h⟩:=h; exact .inr (.inl ⟨a,e,x,rfl,e',h,by simp [Tm.small,Tm.kids]⟩)
 case name s=>exact .inr (.inr ⟨by simp [Tm.small,Tm.kids],_,_,h,by decide,by decide⟩)
 all_goals first | (obtain ⟨_,e,_⟩:=h; exact .inr (.inr ⟨by simp [Tm.small,Tm.kids],_,_,e,by decide,by decide⟩)) | (obtain ⟨_,_,e,_⟩:=h; exact .inr (.inr ⟨by simp [Tm.small,Tm.kids],_,_,e,by decide,by decide⟩))
theorem qeq {α:Type} (p:α->Bool) (l:List α) (k:Nat) (h:k < l.length):(l.take (k+1)).all p=((l.take k).all p && p l[k]):=by
 rw [pg h,ur]; simp
theorem xel {α:Type} (p:α->Bool) (l:List α) (k:Nat) (h:k < l.length) (hp:p l[k]=false):l.all p=false:=by
 rw [tn]; exact ⟨l[k],pt h,by simp [hp]⟩
theorem kfw {w0:World} {L:Nat} (hs:L<=1000000000000) (n:Nat):∀ (t:Tm) (v:Value) (W:World),t.sz < n->Ext w0 W->TmV w0 L t v->Calls Tryz.prog 75 #[v] W (wdr t.small W):=by
 induction n with
 | zero=>intro t v W h; omega
 | succ n ih =>
   intro t v W hn hx0 h;have IH:=hid ih;have H:=hid h;have HX0:=hid hx0;have hlen:=t.qz;clear ih hx0;rcases h.three with ⟨z,x,rfl,rfl,hz⟩ | anH
   · have HZ:=hid (hz.ext HX0.out);obtain ⟨b,A,m,c,rfl⟩:=hz.unpack;rw [show (Tm.num z).small=decide (qdx z.natAbs<=40) from rfl];have anZ:decide ((qdx z.natAbs:Int)<=40)=decide (qdx z.natAbs<=40):=decide_eq_decide.2 (by omega);rw [<- anZ];obtain ⟨bb,hbb⟩:=n_m (decide ((qdx z.natAbs:Int)<=40));rw [hbb];clear hz h hn hlen anZ;go_enter Tryz.func75,Tryz.ntmps75;go_wp2_with fail;refine (keu _ z L _ (HZ.out.ext ((Ext.refl W).alloc _)) hs).mono ?_;rintro e w1 ⟨rfl,x1⟩;have X1:=hid (Ext.trans ((Ext.refl W).alloc _) x1);clear x1;go_wp2_with fail;exact bodyPost_ret (v:=.bool bb) (by simp [results,Tryz.results75,go_sem]) rfl ⟨rfl,X1.out⟩
   · obtain ⟨b0,T,x,rfl,hb0⟩:∃ b0 T x,v=.iface T x/\((b0=false/\t.small=false/\∃ Y y e,T=173/\x=.agg #[.iface Y y,.int .i64 e]/\8 < e)\/(t.small=t.kids.all Tm.small/\((∃ Y y e,T=173/\x=.agg #[.iface Y y,.int .i64 e]/\¬ 8 < e)\/(¬ T=110/\¬ T=173)))):=by
      rcases anH with ⟨a,e,x,-,rfl,hx,hsm⟩ | ⟨hsm,T,x,rfl,h1,h2⟩
      · obtain ⟨X,x,rfl⟩:=hx.iface
        by_cases he:8 < e
        · exact ⟨false,_,_,rfl,.inl ⟨rfl,by rw [hsm,decide_eq_false (show ¬ e<=8 by omega)]; rfl,X,x,e,rfl,rfl,he⟩⟩
        · exact ⟨true,_,_,rfl,.inr ⟨by rw [hsm,decide_eq_true (show e<=8 by omega)]; rfl,.inl ⟨X,x,e,rfl,rfl,he⟩⟩⟩
      · exact ⟨true,_,_,rfl,.inr ⟨hsm,.inr ⟨h1,h2⟩⟩⟩
     clear anH;rcases hb0 with ⟨-,hsm,Y,y,e,rfl,rfl,he⟩ | ⟨hsm,hb0⟩
     · rw [hsm];clear hsm h;go_enter Tryz.func75,Tryz.ntmps75;go_wp2_with fail;go_ret;exact ⟨rfl,(Ext.refl _).alloc _⟩
     · rcases hb0 with ⟨Y,y,e,rfl,rfl,he⟩ | ⟨h1,h2⟩
       focus
        have HSM:=hid hsm;clear hsm h;go_enter Tryz.func75,Tryz.ntmps75;go_upto_region 9 with fail
       rotate_left
       focus
        have HSM:=hid hsm;clear hsm h;go_enter Tryz.func75,Tryz.ntmps75;go_upto_region 9 with fail
       all_goals
        go_wp2_with fail;refine (qd6 t H.out).mono ?_;rintro e w2 ⟨s2,rfl,hss,-,hx⟩;obtain ⟨A,c,rfl⟩:=hss.len;have HS:=hid hss;have HX:=hid (show Ext W w2 from by first | exact Ext.trans ((Ext.refl W).alloc _) hx | exact hx);clear hss hx;go_wp2_with fail
        go_loopw [24] (fun iv wr=>∃ k:Nat,k<=t.kids.length/\iv=.int .i64 k/\Hid ((t.kids.take k).all Tm.small=true/\Ext w2 wr)) (fun iv _=>t.kids.length - (intOf iv).toNat)
        case atStart=>exact ⟨0,pM _,rfl,⟨rfl,Ext.refl _⟩⟩
        case round =>
         obtain ⟨k,hk,rfl,⟨ha0,hx0⟩⟩:=hrel;have HXR:=hid hx0;have HA:=hid ha0;clear hx0 ha0
         by_cases hlt:k < t.kids.length
         · obtain ⟨ad,y1,rfl,hc,hp⟩:=SlR.qt (SlR.ext HS.out (fun _ _ h=>h) HXR.out) k hlt;have HP:=hid hp;obtain ⟨U,y1,rfl⟩:=hp.iface;clear hp;have hkl:t.kids[k].sz < t.sz:=Tm.qD _ _ (pt hlt);have IH1:=hid (IH.out t.kids[k] (.iface U y1) wr (by omega) (HX0.out.trans (HX.out.trans HXR.out)) HP.out);have HT:=hid (qeq Tm.small t.kids k hlt);have HFL:=hid (xel Tm.small t.kids k hlt);generalize t.kids[k].small=z at *;cases z
           · have HF:Hid (t.small=false):=hid (HSM.out.trans (HFL.out rfl));rw [HF.out];go_wp2_with fail;refine IH1.out.mono ?_;rintro e w3 ⟨rfl,x3⟩;have X3:=hid (HXR.out.trans x3);clear x3 hc;go_wp2_with fail;go_ret;exact ⟨rfl,HX.out.trans X3.out⟩
           · go_wp2_with fail;refine IH1.out.mono ?_;rintro e w3 ⟨rfl,x3⟩;have X3:=hid (HXR.out.trans x3);clear x3 hc;go_wp2_with fail
             go_roundw
             case rel=>exact ⟨k+1,by omega,by go_num,⟨by rw [HT.out,HA.out]; rfl,X3.out⟩⟩
             case measure=>simp [intOf]; omega
         · have hke:k=t.kids.length:=by omega
           have HZ:Hid (t.small=true):=hid (by rw [HSM.out,<- pw (l:=t.kids),<- hke]; exact HA.out);go_wp2_with fail;go_ret;exact ⟨by rw [HZ.out]; rfl,HX.out.trans HXR.out⟩
theorem gfn {w0 W:World} {L:Nat} (hs:L<=1000000000000) (t:Tm) {v:Value} (hx:Ext w0 W) (h:TmV w0 L t v):Calls Tryz.prog 75 #[v] W (wdr t.small W):=kfw hs (t.sz+1) t v W (pO _) hx h
def uew (w0:World) (L:Nat) (t:Tm):Prop:=(∀ (v:Value) (w:World),TmV w0 L t v->Calls Tryz.prog 73 #[v] w (zdn t.qw w))/\(∀ (v:Value) (w:World),Ext w0 w->TmV w0 L t v->Calls Tryz.prog 74 #[v] w (zdn t.wt w))/\∀ (v:Value) (w:World),Ext w0 w->TmV w0 L t v->Calls Tryz.prog 75 #[v] w (wdr t.small w)
theorem ue1 {w0:World} {L:Nat} (hs:L<=1000000000000) (t:Tm):uew w0 L t:=⟨qei t,zer hs t,fun _ _ hx h=>gfn hs t hx h⟩
def Tm.lim (t:Tm):Bool:=!decide (8 < t.qw) && !decide (320 < t.wt) && t.small
def Fm.lim : Fm -> Bool
 | .truth _=>true
 | .atom l _ k=>l.lim && k.lim
 | .not f=>f.lim
 | .and f g=>f.lim && g.lim
 | .or f g=>f.lim && g.lim
 | .imp f g=>f.lim && g.lim
 | .iff f g=>f.lim && g.lim
 | .quant _ _ f=>f.lim
theorem Fm.yw (f:Fm) (h:f.isAtom=false):f.lim=f.kids.all Fm.lim:=by cases f <;> simp_all [Fm.isAtom,Fm.kids,Fm.lim]
theorem jfj {w0:World} {L:Nat} (hs:L<=1000000000000) (n:Nat):∀ (f:Fm) (v:Value) (W:World),f.sz < n->Ext w0 W->FmV w0 L f v->f.qe (uew w0 L)->Calls Tryz.prog 35 #[v] W (wdr f.lim W):=by
 induction n with
 | zero=>intro t v W h; omega
 | succ n ih =>
   intro f v W hn hx0 h hok;have IH:=hid ih;have H:=hid h;have HX0:=hid hx0;have hlen:=f.qz;clear ih hx0;have awU:=hid (f.zx hok);have as9:=hid hok;clear hok;rcases h.two with ⟨l,r,k0,x,y,rfl,rfl,hl,hr⟩ | ⟨hna,T,x,rfl,hT⟩
   · have HL:=hid hl;have HR:=hid hr;have HLK:Hid ((Fm.atom l r k0).lim=[l,k0].all Tm.lim):=hid (by simp [Fm.lim]);obtain ⟨T,x,rfl⟩:=hl.iface;obtain ⟨U,y,rfl⟩:=hr.iface;clear hl hr h hn hlen;obtain ⟨W1,hW⟩:=n_m ((W.alloc (.cells #[.iface T x,.int .i64 r,.iface U y] 77)).alloc (.cells #[.iface T x,.iface U y] 75));have HX1:Hid (Ext W W1):=hid (by rw [<- hW]; exact ((Ext.refl W).alloc _).alloc _);have HS:Hid (SlR (fun _ t v=>TmV w0 L t v) W1 (.slice (some ⟨W.heap.size+1,0,none⟩) 2 2) [l,k0]):=hid (by
      rw [<- hW]
      exact SlR.two (by simp) (by simp [go_sem]) (by simp [go_sem]) HL.out HR.out)
     go_enter Tryz.func35,Tryz.ntmps35;go_wp2_with fail;clear hW
     go_loopw [21] (fun iv wr=>∃ k:Nat,k<=2/\iv=.int .i64 k/\Hid (([l,k0].take k).all Tm.lim=true/\Ext W1 wr)) (fun iv _=>2 - (intOf iv).toNat)
     case atStart=>exact ⟨0,by omega,rfl,⟨rfl,Ext.refl _⟩⟩
     case round =>
      obtain ⟨k,hk,rfl,⟨ha0,hx0⟩⟩:=hrel;have HXR:=hid hx0;have HA:=hid ha0;clear hx0 ha0
      by_cases hlt:k < 2
      · obtain ⟨ad,y1,e1,hc,hp⟩:=SlR.qt (SlR.ext HS.out (fun _ _ h=>h) HXR.out) k hlt;injection e1 with e1
        have HT:=hid (qeq Tm.lim [l,k0] k hlt);have HFL:=hid (xel Tm.lim [l,k0] k hlt);have HTK:Hid (uew w0 L ([l,k0])[k]):=hid (by
         have hm:=pt (l:=[l,k0]) hlt;simp only [pI,rM,or_false] at hm;rcases hm with e | e
         · rw [e]; exact as9.out.1
         · rw [e]; exact as9.out.2)
        generalize ([l,k0])[k]=u at *;have HP:=hid hp;obtain ⟨V,y1,rfl⟩:=hp.iface;have HLM:Hid (u.lim=(!decide (8 < u.qw) && !decide (320 < u.wt) && u.small)):=hid rfl;have HD:=hid (HTK.out.1 _ wr hp);have HWT:=hid (fun w1 (x1:Ext wr w1)=>HTK.out.2.1 _ w1 ((HX0.out.trans (HX1.out.trans HXR.out)).trans x1) hp);have HSM:=hid (fun w1 (x1:Ext wr w1)=>HTK.out.2.2 _ w1 ((HX0.out.trans (HX1.out.trans HXR.out)).trans x1) hp);subst e1;rw [kdo,pH] at hc;clear hp;generalize u.lim=lm at *;generalize u.qw=d at *;generalize u.wt=wt at *;generalize u.small=sm at *
        by_cases hd:8 < d
        · have HF:Hid ((Fm.atom l r k0).lim=false):=hid (HLK.out.trans (HFL.out (by rw [HLM.out]; simp [hd])));go_wp2_with fail;refine HD.out.mono ?_;rintro e w3 ⟨rfl,x3⟩;have X3:=hid (HXR.out.trans x3);clear x3 hc;go_wp2_with fail;go_ret;exact ⟨by rw [HF.out]; rfl,HX1.out.trans X3.out⟩
        · go_wp2_with fail;refine HD.out.mono ?_;rintro e w3 ⟨rfl,x3⟩;have X3:=hid x3;clear x3 hc
          by_cases hw:320 < wt
          · have HF:Hid ((Fm.atom l r k0).lim=false):=hid (HLK.out.trans (HFL.out (by rw [HLM.out]; simp [hw])));go_wp2_with fail;refine (HWT.out _ X3.out).mono ?_;rintro e w4 ⟨rfl,x4⟩;have X4:=hid (HXR.out.trans (X3.out.trans x4));clear x4;go_wp2_with fail;go_ret;exact ⟨by rw [HF.out]; rfl,HX1.out.trans X4.out⟩
          · go_wp2_with fail;refine (HWT.out _ X3.out).mono ?_;rintro e w4 ⟨rfl,x4⟩;have X4:=hid (X3.out.trans x4);clear x4;cases sm
            · have HF:Hid ((Fm.atom l r k0).lim=false):=hid (HLK.out.trans (HFL.out (by rw [HLM.out]; simp)));go_wp2_with fail;refine (HSM.out _ X4.out).mono ?_;rintro e w5 ⟨rfl,x5⟩;have X5:=hid (HXR.out.trans (X4.out.trans x5));clear x5;go_wp2_with fail;go_ret;exact ⟨by rw [HF.out]; rfl,HX1.out.trans X5.out⟩
            · have HTR:Hid (lm=true):=hid (by rw [HLM.out]; simp [hd,hw]);go_wp2_with fail;refine (HSM.out _ X4.out).mono ?_;rintro e w5 ⟨rfl,x5⟩;have X5:=hid (HXR.out.trans (X4.out.trans x5));clear x5;go_wp2_with fail
              go_roundw
              case rel=>exact ⟨k+1,by omega,by go_num,⟨by rw [HT.out,HA.out,HTR.out]; rfl,X5.out⟩⟩
              case measure=>simp [intOf]; omega
      · have hke:k=2:=by omega
        have HZ:Hid ((Fm.atom l r k0).lim=true):=hid (HLK.out.trans (by rw [hke] at HA; exact HA.out));have HXE:=hid (HX1.out.trans HXR.out);clear HXR HA;go_wp2_with fail;refine (ydw (Fm.atom l r k0) H.out).mono ?_;rintro e w2 ⟨s2,rfl,hss,-,hx⟩;obtain ⟨A,cc,rfl⟩:=hss.len;have HX:=hid (HXE.out.trans hx);have hl0:(Fm.atom l r k0).kids.length=0:=rfl;rw [hl0];clear hss hx hl0;go_wp2_with fail
        go_loopw [42] (fun iv wr=>iv=.int .i64 0/\Hid (Ext W wr)) (fun _ _=>0)
        case atStart=>exact ⟨rfl,HX⟩
        case round =>
         obtain ⟨rfl,hx0⟩:=hrel;go_wp2_with fail;go_ret;exact ⟨by rw [HZ.out]; rfl,hx0.out⟩
   · have HLK:=hid (f.yw hna);clear h hna;go_enter Tryz.func35,Tryz.ntmps35;go_wp2_with fail;refine (ydw f H.out).mono ?_;rintro e w2 ⟨s2,rfl,hss,-,hx⟩;obtain ⟨A,c,rfl⟩:=hss.len;have HS:=hid hss;have HX:=hid (Ext.trans ((Ext.refl W).alloc _) hx);clear hss hx;go_wp2_with fail
     go_loopw [42] (fun iv wr=>∃ k:Nat,k<=f.kids.length/\iv=.int .i64 k/\Hid ((f.kids.take k).all Fm.lim=true/\Ext w2 wr)) (fun iv _=>f.kids.length - (intOf iv).toNat)
     case atStart=>exact ⟨0,pM _,rfl,⟨rfl,Ext.refl _⟩⟩
     case round =>
      obtain ⟨k,hk,rfl,⟨ha0,hx0⟩⟩:=hrel;have HXR:=hid hx0;have HA:=hid ha0;clear hx0 ha0
      by_cases hlt:k < f.kids.length
      · obtain ⟨ad,y1,rfl,hc,hp⟩:=SlR.qt (SlR.ext HS.out (fun _ _ h=>h) HXR.out) k hlt;have HP:=hid hp;obtain ⟨U,y1,rfl⟩:=hp.iface;clear hp;have hkl:f.kids[k].sz < f.sz:=Fm.qD _ _ (pt hlt);have IH1:=hid (IH.out f.kids[k] (.iface U y1) wr (by omega) (HX0.out.trans (HX.out.trans HXR.out)) HP.out (awU.out _ (pt hlt)));have HT:=hid (qeq Fm.lim f.kids k hlt);have HFL:=hid (xel Fm.lim f.kids k hlt);generalize f.kids[k].lim=z at *;cases z
        · have HF:Hid (f.lim=false):=hid (HLK.out.trans (HFL.out rfl));go_wp2_with fail;refine IH1.out.mono ?_;rintro e w3 ⟨rfl,x3⟩;have X3:=hid (HXR.out.trans x3);clear x3 hc;go_wp2_with fail;go_ret;exact ⟨by rw [HF.out]; rfl,HX.out.trans X3.out⟩
        · go_wp2_with fail;refine IH1.out.mono ?_;rintro e w3 ⟨rfl,x3⟩;have X3:=hid (HXR.out.trans x3);clear x3 hc;go_wp2_with fail
          go_roundw
          case rel=>exact ⟨k+1,by omega,by go_num,⟨by rw [HT.out,HA.out]; rfl,X3.out⟩⟩
          case measure=>simp [intOf]; omega
      · have hke:k=f.kids.length:=by omega
        have HZ:Hid (f.lim=true):=hid (by rw [HLK.out,<- pw (l:=f.kids),<- hke]; exact HA.out);go_wp2_with fail;go_ret;exact ⟨by rw [HZ.out]; rfl,HX.out.trans HXR.out⟩
theorem wfa {w0 W:World} {L:Nat} (hs:L<=1000000000000) (f:Fm) {v:Value} (hx:Ext w0 W) (h:FmV w0 L f v) (hok:f.qe (uew w0 L)):Calls Tryz.prog 35 #[v] W (wdr f.lim W):=jfj hs (f.sz+1) f v W (pO _) hx h hok
end Go.Proofs.YtheefiaoimbeiaaGreatDoor

namespace Go.Proofs.YtheefiaoimbeiaaGreatDoor
open Lib (hid)
open Go.RowKit
def has (l:List ByteArray) (s:ByteArray):Bool:=l.any fun t=>decide (t=s)
theorem ygg (l:List ByteArray) (s:ByteArray):has l s=true ↔ s ∈ l:=by simp [has]
theorem ye6 (l:List ByteArray) (s t:ByteArray):has (l ++ [s]) t=(has l t || decide (s=t)):=by simp [has]
structure veb (base Ma Ms ba bs bl : Nat) : Prop where
 h1:ba ≠ bl
 h2:ba ≠ Ms
 h3:bs ≠ bl
 h4:bs ≠ Ms
 h5:Ma ≠ bl
 h6:Ma ≠ Ms
 h7:bl ≠ Ms
 h8:ba ≠ Ma
 h9:bs ≠ Ma
 k1:ba < base
 k2:bs < base
 k3:bl < base
 k4:Ma < base
 k5:Ms < base
def keb (base Ma Ms ba bs bl N:Nat) (b:Nat) (W:World) (own:Nat->Prop) (acc:List ByteArray):Prop:=
 ∃ v ls,W.cell? ⟨ba,0,none⟩=some (.map (some Ma))/\W.cell? ⟨bs,0,none⟩=some (.map (some Ms))/\W.heap[bl]?=some (.cells #[v] 34 (0,0))/\jdp W Ms ls/\(∀ s,(xds ls s).getD (.bool false)=.bool (has acc s)) /\
   jdl W base v acc/\acc.length+b<=N/\(own=fun i=>i=bl\/i=Ms\/v.ownBlock=some i)/\base<=W.heap.size
def vdl (a:ByteArray->Int) (s:ByteArray) (acc:List ByteArray):List ByteArray:=if a s=0/\has acc s=false then acc ++ [s] else acc
section
variable {base Ma Ms ba bs bl N:Nat}
theorem keb.ql {b b' : Nat} {W W' : World} {own : Nat -> Prop} {acc : List ByteArray} (h : keb base Ma Ms ba bs bl N b W own acc) (hb : b' <= b) (hs : W.heap.size <= W'.heap.size) (h1 : W'.heap[ba]? = W.heap[ba]?) (h2 : W'.heap[bs]? = W.heap[bs]?) (h3 : W'.heap[bl]? = W.heap[bl]?) (h4 : W'.heap[Ms]? = W.heap[Ms]?)
 (h5:∀ v acc,jdl W base v acc->jdl W' base v acc):keb base Ma Ms ba bs bl N b' W' own acc:=by
 obtain ⟨v,ls,c1,c2,c3,c4,c5,c6,c7,c8,c9⟩:=h;exact ⟨v,ls,(ph h1).trans c1,(ph h2).trans c2,h3.trans c3,c4.block h4,c5,h5 _ _ c6,by omega,c8,po c9 hs⟩
theorem keb.zC {b:Nat} {W:World} {own:Nat->Prop} {acc:List ByteArray} (h:keb base Ma Ms ba bs bl N b W own acc):ba < W.heap.size/\bs < W.heap.size/\bl < W.heap.size/\Ms < W.heap.size:=by
 obtain ⟨v,ls,c1,c2,c3,c4,c5,c6,c7,c8,c9⟩:=h;have lt:∀ {g:Nat} {x:Value},W.cell? ⟨g,0,none⟩=some x->g < W.heap.size:=fun {g x} hc=>by
  rcases rz g W.heap.size with hlt | hge
  · exact hlt
  · simp [World.cell?,sY hge] at hc
 exact ⟨lt c1,lt c2,lt_of_block c3,c4.lt⟩
theorem jdl.only {w w':World} {base g:Nat} {v:Value} {l:List ByteArray} (h:jdl w base v l) (hx:Only g w w') (hg:g < base):jdl w' base v l:=
 World.ownsRow.kept h hx.g (.inr (fun e=>by have:=(h.lt g e).1; omega))
theorem xez:(Tryz.prog.info? 4).map (·.zero)=some (some (.bool false)):=by kernel_rfl
def ge8 (base Ma Ms ba bs bl N b:Nat) (W:World) (own:Nat->Prop) (acc:List ByteArray) (e:Ending) (W':World):Prop:=
 (∃ v,e=.returned v)/\∃ own',keb base Ma Ms ba bs bl N b W' own' acc/\qdk own W own' W'
theorem zfk (hd : veb base Ma Ms ba bs bl) {b : Nat} {W W1 w2 : World} {own : Nat -> Prop} {acc : List ByteArray} {s : ByteArray} {v v' : Value} {ls : List (ByteArray × Value)} {o : Obj}
 (c1:W.cell? ⟨ba,0,none⟩=some (.map (some Ma))) (c2:W.cell? ⟨bs,0,none⟩=some (.map (some Ms))) (c3:W.heap[bl]?=some (.cells #[v] 34 (0,0))) (c5:∀ s,(xds ls s).getD (.bool false)=.bool (has acc s)) (c6:jdl W base v acc) (c8:own=fun i=>i=bl\/i=Ms\/v.ownBlock=some i)
 (hM1:jdp W1 Ms (vd0 ls s (.bool true))) (ho1:Only Ms W W1) (hb:base<=W.heap.size) (hN:acc.length+1+b<=N) (hg:(W1.alloc o).grownBy w2 v.ownBlock) (aen:w2.ownsRow base 9 1 v' (acc.length+1) (strs acc ++ [.string s])) (hat:v'.ownBlock=v.ownBlock\/v'.ownBlock=some (W1.alloc o).heap.size) :
 ge8 base Ma Ms ba bs bl N b W own (acc ++ [s]) (.returned (.tuple #[])) (w2.setCell ⟨bl,0,none⟩ v')/\w2.cell? ⟨bl,0,none⟩=some v/\w2.frozen? ⟨bl,0,none⟩=false:=by
 have hs1:=ho1.size;have k1:=hd.k1;have k2:=hd.k2;have k3:=hd.k3;have k5:=hd.k5;have hx1:Ext W1 (W1.alloc o):=(Ext.refl W1).alloc o;have hr0:=c6.lt;have low:∀ i,i < base->i ≠ Ms->w2.heap[i]?=W.heap[i]?:=fun i hi hne=>by
  rw [pW hg i (by simp; omega) (fun e=>by have:=(hr0 i e.symm).1; omega),hx1.below.block i (by omega)];exact ho1.block (by omega) hne
 have hMs:w2.heap[Ms]?=W1.heap[Ms]?:=by
  rw [pW hg Ms (by simp; omega) (fun e=>by have:=(hr0 Ms e.symm).1; omega),hx1.below.block Ms (by omega)]
 have hbl:w2.heap[bl]?=some (.cells #[v] 34 (0,0)):=by rw [low bl k3 hd.h7]; exact c3
 have auW:∀ k,v'.ownBlock=some k->base<=k/\k < w2.heap.size:=uO aen;have hs2:=ud hg;simp only [pU] at hs2;refine ⟨⟨⟨_,rfl⟩,fun i=>i=bl\/i=Ms\/v'.ownBlock=some i,?_,?_⟩,cell_of_one hbl,free_of_one hbl⟩
 · refine ⟨v',vd0 ls s (.bool true),?_,?_,one_setCell hbl,?_,?_,?_,?_,rfl,?_⟩
   · rw [ph ((Below.heap_setCell w2 ⟨bl,0,none⟩ v' ba hd.h1).trans (low ba k1 hd.h2))]; exact c1
   · rw [ph ((Below.heap_setCell w2 ⟨bl,0,none⟩ v' bs hd.h3).trans (low bs k2 hd.h4))]; exact c2
   · exact (hM1.block hMs).setCell _ _ (fun e=>hd.h7 e.symm)
   · intro t;rw [yee,ye6]
     by_cases ht:t=s
     · rw [if_pos ht]; simp [ht]
     · have ht':¬ s=t:=fun e=>ht e.symm
       rw [if_neg ht,c5]; simp [ht']
   · unfold jdl;rw [wed];have:=ownsRow_setCell_other aen (a:=⟨bl,0,none⟩) (fun e=>by have:=(auW bl e).1; omega) v';simpa using this
   · simp; omega
   · simp; omega
 · rw [c8];have q1:w2.os=W.os:=(rR hg).trans (hx1.below.os.trans (rR ho1));have q2:w2.tape=W.tape:=(rK hg).trans (hx1.below.tape.trans (rK ho1));have q3:w2.output=W.output:=(rE hg).trans (hx1.below.output.trans (rE ho1));refine ⟨q1,q2,q3,by simp; omega,fun i hi hn=>?_,fun i hi ho=>?_⟩
   · have n1:i ≠ bl:=fun e=>hn (.inl e)
     have n2:i ≠ Ms:=fun e=>hn (.inr (.inl e))
     have n3:¬ v.ownBlock=some i:=fun e=>hn (.inr (.inr e))
     rw [Below.heap_setCell w2 ⟨bl,0,none⟩ v' i n1,pW hg i (by simp; omega) (fun e=>n3 e.symm),hx1.below.block i (by omega)];exact ho1.block hi n2
   · rcases ho with h | h | h
     · exact .inl h
     · exact .inr (.inl h)
     · refine .inr (.inr ?_);rcases hat with k | k
       · rw [<- k]; exact h
       · rw [k] at h; injection h with e; simp at e; omega
theorem xfs (hd:veb base Ma Ms ba bs bl) (hN:N<=1099511627776) (b:Nat) (a:ByteArray->Int) (W:World) (own:Nat->Prop) (acc:List ByteArray) (s:ByteArray) (hJ:keb base Ma Ms ba bs bl N (b+1) W own acc) (hA:jdv W Ma a) :
 Calls Tryz.prog 71 #[.string s,.pointer (some ⟨ba,0,none⟩),.pointer (some ⟨bs,0,none⟩),.pointer (some ⟨bl,0,none⟩)] W (ge8 base Ma Ms ba bs bl N b W own (vdl a s acc)):=by
 have HJ:=hid hJ;have HD:=hid hd;have hbd:=hJ.zC;obtain ⟨v,ls,c1,c2,c3,c4,c5,c6,c7,c8,c9⟩:=hJ;have hl:=hA.look s;have hls:(Instr.lookup 91 (.map (some Ms)) (.string s) false).run Tryz.prog W=.ok (.bool (has acc s)) W:=by
  have:=c4.look (P:=Tryz.prog) uy ss xez s false;rw [this,if_neg (by simp),c5]
 obtain ⟨aBv,av7,av6,aBu⟩:=hbd;have C3:=hid c3;have C4:=hid c4;have C5:=hid c5;have C6:=hid c6;have C8:=hid c8;have C2:=hid c2;have C1:=hid c1;have cl:=cell_of_one c3;have HA:=hid hA;clear c3 c4 c5 c6 c8 hA hd
 by_cases ha:a s=0
 · by_cases hh:has acc s=true
   · have acb:vdl a s acc=acc:=by unfold vdl; rw [if_neg (by rw [hh]; simp)]
     rw [acb];rw [ha] at hl;rw [hh] at hls;clear acb ha hh cl;go_enter Tryz.func71,Tryz.ntmps71;go_wp2_with fail
     go_end0
     exact ⟨⟨_,rfl⟩,own,HJ.out.ql (by omega) (pf _) rfl rfl rfl rfl (fun _ _ h=>h),qdk.refl _ _⟩
   · have hh':has acc s=false:=by simpa using hh
     have acb:vdl a s acc=acc ++ [s]:=by unfold vdl; rw [if_pos ⟨ha,hh'⟩]
     rw [acb];rw [ha] at hl;rw [hh'] at hls;have HH:=hid hh';obtain ⟨W1,ahu,hM1,ho1⟩:=C4.out.put (P:=Tryz.prog) uy ss s (.bool true);have cl1:W1.cell? ⟨bl,0,none⟩=some v:=by rw [ho1.cell (p:=⟨bl,0,none⟩) av6 HD.out.h7]; exact cl
     have c21:W1.cell? ⟨bs,0,none⟩=some (.map (some Ms)):=by rw [ho1.cell (p:=⟨bs,0,none⟩) av7 HD.out.h4]; exact c2
     have HM1:=hid hM1;have HO1:=hid ho1;have hw1:=ho1.size;obtain ⟨i0,hi,hz0,hz1,hz2⟩:=info_parts zei;have HI0:Hid (Tryz.prog.info? 9=some i0/\i0.zero=some (.string ByteArray.empty)/\i0.size=1/\i0.bytes=16):=by
      have:Tryz.prog.info? 9=some i0/\i0.zero=some (.string ByteArray.empty)/\i0.size=1/\i0.bytes=16:=⟨hi,hz0,hz1,hz2⟩;exact this
     have HR1:Hid (jdl W1 base v acc):=by
      have:jdl W1 base v acc:=C6.out.only ho1 HD.out.k5;exact this
     clear acb ha hh hh' hM1 ho1 hi hz0 hz1 hz2;go_enter Tryz.func71,Tryz.ntmps71
     go_wp2_with (at_builtin
                  refine wpList_append_own_at _ rfl (.tmp 17) (.tmp 19) _ rfl base 9 i0 (.string ByteArray.empty) 1 16 Tryz.underlying34 HI0.out.1 HI0.out.2.1 HI0.out.2.2.1 HI0.out.2.2.2 rfl (by omega) _ acc.length (strs acc) rfl (World.ownsRow.alloc HR1.out _) ⟨W1.heap.size,0,none⟩ 1 1 [.string s] rfl rfl (jfi ?_) ?_ ?_ ?_ ?_ ?_)
     · simp [go_sem]
     · simp [Value.oneCell']
     · unfold maxLen; omega
     · omega
     · simp; omega
     · intro v' w2 ad8 hg' _ afH;obtain ⟨g',cap',rfl⟩:=ownsRow_succ ad8;have adw:(Value.slice (some ⟨g',0,none⟩) (acc.length+1) cap').ownBlock=v.ownBlock\/(Value.slice (some ⟨g',0,none⟩) (acc.length+1) cap').ownBlock=some (W1.alloc (Obj.cells #[.string s] 9)).heap.size:=by simpa using afH
       obtain ⟨HF,hcl,hfl⟩:=zfk (b:=b) (N:=N) HD.out C1.out C2.out C3.out C5.out C6.out C8.out HM1.out HO1.out c9 (by omega) hg' ad8 adw;have ach:=hid HF;clear HF ad8 hg' afH adw ahu hl hls cl1 c21;go_wp2_with fail
       go_end0
       exact ach.out
 · have acb:vdl a s acc=acc:=by unfold vdl; rw [if_neg (fun e=>ha e.1)]
   have hab:(a s == 0)=false:=by simpa using ha
   rw [acb];clear acb ha cl;go_enter Tryz.func71,Tryz.ntmps71;go_wp2_with fail
   go_end0
   exact ⟨⟨_,rfl⟩,own,HJ.out.ql (by omega) (pf _) rfl rfl rfl rfl (fun _ _ h=>h),qdk.refl _ _⟩
theorem wfj (hd : veb base Ma Ms ba bs bl) (hN : N <= 1099511627776) : kee 71 #[.pointer (some ⟨ba, 0, none⟩), .pointer (some ⟨bs, 0, none⟩), .pointer (some ⟨bl, 0, none⟩)] Ma (keb base Ma Ms ba bs bl N) vdl where
 enter:=fun args W=>by simp [go_sem]
 ext:=fun b W W' own acc h hx=>by
  obtain ⟨h1,h2,h3,h4⟩:=h.zC;exact h.ql (pf _) hx.size (hx.below.block _ h1) (hx.below.block _ h2) (hx.below.block _ h3) (hx.below.block _ h4) (fun v acc hr=>hr.ext hx)
 less:=fun b b' W own acc h hb=>h.ql hb (pf _) rfl rfl rfl rfl (fun _ _ h=>h)
 map:=fun b W W' own acc h ho=>by
  obtain ⟨h1,h2,h3,h4⟩:=h.zC;exact h.ql (pf _) ho.size (ho.block h1 hd.h8) (ho.block h2 hd.h9) (ho.block h3 (fun e=>hd.h5 e.symm)) (ho.block h4 (fun e=>hd.h6 e.symm)) (fun v acc hr=>hr.only ho hd.k4)
 lt:=fun b W own acc h i hi=>by
  obtain ⟨h1,h2,h3,h4⟩:=h.zC;obtain ⟨v,ls,c1,c2,c3,c4,c5,c6,c7,c8,c9⟩:=h;rw [c8] at hi;rcases hi with rfl | rfl | hi
  · exact h3
  · exact h4
  · exact (c6.lt i hi).2
 ne:=fun b W own acc h hi=>by
  obtain ⟨v,ls,c1,c2,c3,c4,c5,c6,c7,c8,c9⟩:=h;rw [c8] at hi;rcases hi with hi | hi | hi
  · exact hd.h5 hi
  · exact hd.h6 hi
  · have:=(c6.lt _ hi).1; have:=hd.k4; omega
 call:=fun b a W own acc s h hA=>xfs hd hN b a W own acc s h hA
end
def Fm.free (t:Fm):List ByteArray:=t.fold vdl (fun _=>0) []
theorem yeq {w0 w:World} {L:Nat} (t:Fm) {v:Value} (h:FmV w0 L t v) (hl:t.sz<=1099511627776):Calls Tryz.prog 32 #[v] w (wew t.free w):=by
 have hmm:=@run_makeMap Tryz.prog;go_enter Tryz.func32,Tryz.ntmps32;go_wp2_with fail;obtain ⟨W,hW⟩:=n_m (((((w.alloc (Obj.cells #[.slice none 0 0] 34)).alloc (Obj.map #[] 0)).alloc (Obj.map #[] 0)).alloc (Obj.cells #[.map (some (w.heap.size+1))] 90)).alloc (Obj.cells #[.map (some (w.heap.size+1+1))] 91));rw [hW];have hsz:W.heap.size=w.heap.size+5:=by rw [<- hW]; simp
 have hx:Ext w W:=by rw [<- hW]; exact (((((Ext.refl w).alloc _).alloc _).alloc _).alloc _).alloc _
 have hd:veb (w.heap.size+5) (w.heap.size+1) (w.heap.size+1+1) (w.heap.size+1+1+1) (w.heap.size+1+1+1+1) w.heap.size:=by
  constructor <;> omega
 have m1:jdp W (w.heap.size+1) []:=by
  rw [<- hW];have:=jdp.made (w.alloc (Obj.cells #[.slice none 0 0] 34));rw [pU] at this;exact ((this.alloc _).alloc _).alloc _
 have m2:jdp W (w.heap.size+1+1) []:=by
  rw [<- hW];have:=jdp.made ((w.alloc (Obj.cells #[.slice none 0 0] 34)).alloc (Obj.map #[] 0));rw [pU,pU] at this;exact (this.alloc _).alloc _
 have hJ:keb (w.heap.size+5) (w.heap.size+1) (w.heap.size+1+1) (w.heap.size+1+1+1) (w.heap.size+1+1+1+1) w.heap.size t.sz (0+t.sz) W (fun i=>i=w.heap.size\/i=w.heap.size+1+1\/(Value.slice none 0 0).ownBlock=some i) []:=by
  refine ⟨.slice none 0 0,[],?_,?_,?_,m2,fun s=>by simp [xds,has],jdl.nil _ _,by simp,rfl,by omega⟩
  · rw [<- hW]; simp [go_sem]
  · rw [<- hW]; simp [go_sem]
  · rw [<- hW,Below.heap_alloc _ _ _ (by simp; omega),Below.heap_alloc _ _ _ (by simp; omega),Below.heap_alloc _ _ _ (by simp; omega),Below.heap_alloc _ _ _ (by simp)];exact heap_alloc_new w _
 refine (xfc (wfj hd hl) (t.sz+1) t v (pO _) h 0 W _ (fun _=>0) [] hJ ⟨[],m1,fun s=>by simp [xds]⟩ (fun s=>by omega)).mono ?_;rintro e w1 ⟨⟨v1,rfl⟩,own',hJ',hA',hk'⟩;have hx1:Ext w w1:=hk'.ext hx (fun i hi=>by
  rcases hi with (hi | hi | hi) | hi
  · omega
  · omega
  · simp [Value.ownBlock] at hi
  · omega)
 obtain ⟨v2,ls,c1,c2,c3,c4,c5,c6,c7,c8,c9⟩:=hJ';have cl:=cell_of_one c3;have HR:Hid (jdl w1 w.heap.size v2 t.free):=by
  have:jdl w1 w.heap.size v2 t.free:=by
   have h6:=c6;unfold jdl World.ownsRow at h6 ⊢;refine ⟨h6.1,?_⟩;rcases h6.2 with h | ⟨g,cap,cur,h1,h2,h3⟩
   · exact .inl h
   · exact .inr ⟨g,cap,cur,h1,by omega,h3⟩
  exact this
 have HX1:=hid hx1;clear hW hx m1 m2 hJ hA' hk' hd c1 c2 c3 c4 c5 c6 c8 hx1;go_wp2_with fail;go_ret;exact ⟨_,rfl,HR.out,HX1.out⟩
theorem jdl.yC {w:World} {base:Nat} {v:Value} {l:List ByteArray} (h:jdl w base v l):SlR (fun _ (s:ByteArray) x=>x=.string s) w v l:=by
 have h':=h;obtain ⟨h1,h2⟩:=h;rcases h2 with ⟨rfl,h0⟩ | ⟨g,cap,cur,rfl,hb,hg,hc,hm,-⟩
 · have:l=[]:=pV h0;subst this;exact SlR.nil _ _
 · refine ⟨_,cap,rfl,hc,by unfold maxLen at hm; omega,fun j hj=>⟨_,_,rfl,(rA.1 hg).1,?_,rfl⟩⟩;rw [kdo,pH,World.ownsRow.cellAt h' j (by omega)];simp [strs,hj]
end Go.Proofs.YtheefiaoimbeiaaGreatDoor
