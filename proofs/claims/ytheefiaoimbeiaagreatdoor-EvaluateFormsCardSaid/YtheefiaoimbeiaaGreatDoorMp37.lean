/- Reference 34: kids, isTerm, Is. -/
import Derived.Test.YtheefiaoimbeiaaGreatDoorMp36
set_option linter.unusedSimpArgs false
set_option linter.unusedVariables false

set_option maxRecDepth 100000
set_option maxHeartbeats 8000000
namespace Go.Proofs.YtheefiaoimbeiaaGreatDoor
open Lib (hid)
open Go.RowKit
def udt (k:Int):Int:=if k=1 then 0 else if k=2 then 0 else if k=3 then 2 else if k=4 then 2 else if k=5 then 2 else if k=6 then 1 else if k=7 then 1 else if k=8 then 0 else if k=9 then 2 else if k=10 then 1 else if k=11 then 2 else if k=12 then 2 else if k=13 then 2 else if k=14 then 2 else if k=15 then 1 else -1
def kdz (k:Int):Bool:=k == 1 || k == 2 || k == 8 || k == 6 || k == 7 || k == 3 || k == 4 || k == 5 || k == 9
def wdw (k:Int):Bool:=decide (1<=k) && decide (k<=7)
theorem vgo (w:World):Calls Tryz.prog 57 #[.int .i64 1] w fun e w'=>e=.returned (.tuple #[.int .i64 0,.bool true])/\w=w':=by
 go_enter sB,rZ;go_wp2_with fail
 go_ret2
 exact ⟨rfl,rfl⟩
theorem kgo (w:World):Calls Tryz.prog 57 #[.int .i64 2] w fun e w'=>e=.returned (.tuple #[.int .i64 0,.bool true])/\w=w':=by
 go_enter sB,rZ;go_wp2_with fail
 go_ret2
 exact ⟨rfl,rfl⟩
theorem jgo (w:World):Calls Tryz.prog 57 #[.int .i64 3] w fun e w'=>e=.returned (.tuple #[.int .i64 2,.bool true])/\w=w':=by
 go_enter sB,rZ;go_wp2_with fail
 go_ret2
 exact ⟨rfl,rfl⟩
theorem qgo (w:World):Calls Tryz.prog 57 #[.int .i64 4] w fun e w'=>e=.returned (.tuple #[.int .i64 2,.bool true])/\w=w':=by
 go_enter sB,rZ;go_wp2_with fail
 go_ret2
 exact ⟨rfl,rfl⟩
theorem xgo (w:World):Calls Tryz.prog 57 #[.int .i64 5] w fun e w'=>e=.returned (.tuple #[.int .i64 2,.bool true])/\w=w':=by
 go_enter sB,rZ;go_wp2_with fail
 go_ret2
 exact ⟨rfl,rfl⟩
theorem ygo (w:World):Calls Tryz.prog 57 #[.int .i64 6] w fun e w'=>e=.returned (.tuple #[.int .i64 1,.bool true])/\w=w':=by
 go_enter sB,rZ;go_wp2_with fail
 go_ret2
 exact ⟨rfl,rfl⟩
theorem zgo (w:World):Calls Tryz.prog 57 #[.int .i64 7] w fun e w'=>e=.returned (.tuple #[.int .i64 1,.bool true])/\w=w':=by
 go_enter sB,rZ;go_wp2_with fail
 go_ret2
 exact ⟨rfl,rfl⟩
theorem wgn (w:World):Calls Tryz.prog 57 #[.int .i64 8] w fun e w'=>e=.returned (.tuple #[.int .i64 0,.bool true])/\w=w':=by
 go_enter sB,rZ;go_wp2_with fail
 go_ret2
 exact ⟨rfl,rfl⟩
theorem ugn (w:World):Calls Tryz.prog 57 #[.int .i64 9] w fun e w'=>e=.returned (.tuple #[.int .i64 2,.bool true])/\w=w':=by
 go_enter sB,rZ;go_wp2_with fail
 go_ret2
 exact ⟨rfl,rfl⟩
theorem zgf (w:World):Calls Tryz.prog 57 #[.int .i64 10] w fun e w'=>e=.returned (.tuple #[.int .i64 1,.bool false])/\w=w':=by
 go_enter sB,rZ;go_wp2_with fail
 go_ret2
 exact ⟨rfl,rfl⟩
theorem wge (w:World):Calls Tryz.prog 57 #[.int .i64 11] w fun e w'=>e=.returned (.tuple #[.int .i64 2,.bool false])/\w=w':=by
 go_enter sB,rZ;go_wp2_with fail
 go_ret2
 exact ⟨rfl,rfl⟩
theorem uge (w:World):Calls Tryz.prog 57 #[.int .i64 12] w fun e w'=>e=.returned (.tuple #[.int .i64 2,.bool false])/\w=w':=by
 go_enter sB,rZ;go_wp2_with fail
 go_ret2
 exact ⟨rfl,rfl⟩
theorem vge (w:World):Calls Tryz.prog 57 #[.int .i64 13] w fun e w'=>e=.returned (.tuple #[.int .i64 2,.bool false])/\w=w':=by
 go_enter sB,rZ;go_wp2_with fail
 go_ret2
 exact ⟨rfl,rfl⟩
theorem kge (w:World):Calls Tryz.prog 57 #[.int .i64 14] w fun e w'=>e=.returned (.tuple #[.int .i64 2,.bool false])/\w=w':=by
 go_enter sB,rZ;go_wp2_with fail
 go_ret2
 exact ⟨rfl,rfl⟩
theorem jge (w:World):Calls Tryz.prog 57 #[.int .i64 15] w fun e w'=>e=.returned (.tuple #[.int .i64 1,.bool false])/\w=w':=by
 go_enter sB,rZ;go_wp2_with fail
 go_ret2
 exact ⟨rfl,rfl⟩
theorem qge (k:Int) (w:World) (h1:¬ k=1) (h2:¬ k=2) (h3:¬ k=3) (h4:¬ k=4) (h5:¬ k=5) (h6:¬ k=6) (h7:¬ k=7) (h8:¬ k=8) (h9:¬ k=9) (h10:¬ k=10) (h11:¬ k=11) (h12:¬ k=12) (h13:¬ k=13) (h14:¬ k=14) (h15:¬ k=15):Calls Tryz.prog 57 #[.int .i64 k] w fun e w'=>e=.returned (.tuple #[.int .i64 (-1),.bool false])/\w=w':=by
 have b1:(k == 1)=false:=by simpa using h1
 have b2:(k == 2)=false:=by simpa using h2
 have b3:(k == 3)=false:=by simpa using h3
 have b4:(k == 4)=false:=by simpa using h4
 have b5:(k == 5)=false:=by simpa using h5
 have b6:(k == 6)=false:=by simpa using h6
 have b7:(k == 7)=false:=by simpa using h7
 have b8:(k == 8)=false:=by simpa using h8
 have b9:(k == 9)=false:=by simpa using h9
 have b10:(k == 10)=false:=by simpa using h10
 have b11:(k == 11)=false:=by simpa using h11
 have b12:(k == 12)=false:=by simpa using h12
 have b13:(k == 13)=false:=by simpa using h13
 have b14:(k == 14)=false:=by simpa using h14
 have b15:(k == 15)=false:=by simpa using h15
 clear h1 h2 h3 h4 h5 h6 h7 h8 h9 h10 h11 h12 h13 h14 h15;go_enter sB,rZ;go_wp2_with fail
 go_ret2
 exact ⟨rfl,rfl⟩
theorem qf3 (k:Int) (w:World):Calls Tryz.prog 57 #[.int .i64 k] w fun e w'=>e=.returned (.tuple #[.int .i64 (udt k),.bool (kdz k)])/\w=w':=by
 by_cases h1:k=1
 · subst h1; exact vgo w
 by_cases h2:k=2
 · subst h2; exact kgo w
 by_cases h3:k=3
 · subst h3; exact jgo w
 by_cases h4:k=4
 · subst h4; exact qgo w
 by_cases h5:k=5
 · subst h5; exact xgo w
 by_cases h6:k=6
 · subst h6; exact ygo w
 by_cases h7:k=7
 · subst h7; exact zgo w
 by_cases h8:k=8
 · subst h8; exact wgn w
 by_cases h9:k=9
 · subst h9; exact ugn w
 by_cases h10:k=10
 · subst h10; exact zgf w
 by_cases h11:k=11
 · subst h11; exact wge w
 by_cases h12:k=12
 · subst h12; exact uge w
 by_cases h13:k=13
 · subst h13; exact vge w
 by_cases h14:k=14
 · subst h14; exact kge w
 by_cases h15:k=15
 · subst h15; exact jge w
 have hn:udt k=-1:=by simp [udt,h1,h2,h3,h4,h5,h6,h7,h8,h9,h10,h11,h12,h13,h14,h15]
 have ht:kdz k=false:=by simp [kdz,h1,h2,h3,h4,h5,h6,h7,h8,h9,h10,h11,h12,h13,h14,h15]
 rw [hn,ht];exact qge k w h1 h2 h3 h4 h5 h6 h7 h8 h9 h10 h11 h12 h13 h14 h15
theorem ygf (k:Int):-1<=udt k/\udt k<=2:=by
 unfold udt
 repeat' split
 all_goals omega
theorem weh (k:Int) (w:World):Calls Tryz.prog 58 #[.int .i64 k] w fun e w'=>e=.returned (.bool (wdw k))/\w=w':=by
 by_cases h1:1<=k
 · have hv:wdw k=decide (k<=7):=by simp [wdw,h1]
   rw [hv];have hd:decide (1<=k)=true:=by simpa using h1
   clear hv;go_enter Tryz.func58,Tryz.ntmps58;go_wp2_with fail;go_ret;exact ⟨rfl,rfl⟩
 · have hv:wdw k=false:=by simp [wdw,h1]
   rw [hv];have hd:decide (1<=k)=false:=by simpa using h1
   clear hv;go_enter Tryz.func58,Tryz.ntmps58;go_wp2_with fail;go_ret;exact ⟨rfl,rfl⟩
def Nd.qQ (d:Nd):Bool:=if d.kind=7 then decide (0<=d.exp) else if d.kind=9 then decide (1<=d.rel) && decide (d.rel<=6) else true
mutual
def Tr.is : Tr -> Bool -> Bool
 | .mk d ks,term=>(udt d.kind == ks.length) && (wdw d.kind == term) && d.qQ && isL ks (kdz d.kind)
def isL : List Tr -> Bool -> Bool
 | [],_=>true
 | t :: r,b=>t.is b && isL r b
end
theorem jes (l r:List Tr) (b:Bool):isL (l ++ r) b=(isL l b && isL r b):=by
 induction l with
 | nil=>simp [isL]
 | cons t l ih=>simp [isL,ih,sS]
theorem uf3 (l:List Tr) (k:Nat) (hk:k < l.length) (b:Bool):isL (l.take (k+1)) b=(isL (l.take k) b && (l[k]).is b):=by
 rw [pg hk,jes]; simp [isL]
theorem jgf (l:List Tr) (k:Nat) (hk:k < l.length) (b:Bool) (h:(l[k]).is b=false):isL l b=false:=by
 have h1:l=l.take k ++ l.drop k:=(rl k l).symm;rw [h1,jes,pY hk];simp [isL,h]
theorem ufm (l:List Tr) (k:Nat) (hk:k < l.length):(l[k]).sz<=qdq l:=by
 induction l generalizing k with
 | nil=>simp at hk
 | cons t l ih =>
   cases k with
   | zero=>simp [qdq]
   | succ k=>simp only [rW,qdq]; have:=ih k (by simpa using hk); omega
theorem Tr.yy (t:Tr) (k:Nat) (hk:k < t.ks.length):(t.ks[k]).sz < t.sz:=by
 obtain ⟨d,ks⟩:=t;have:=ufm ks k hk;show (ks[k]).sz < qdq ks+1;omega
theorem wgq {p:Nat->Prop} (m:Nat):∀ (t:Tr) (v:Value) (w:World) (term:Bool),t.sz < m->TrV w p t v->Calls Tryz.prog 20 #[v,.bool term] w (wdr (t.is term) w):=by
 induction m with
 | zero=>intro t v w term h; omega
 | succ m ih =>
 intro t v w term hm h;have IH:=hid ih;obtain ⟨A0,n0,c0,A,c,rfl,-,hl1,hl2,h4⟩:=h.open_;have HSZ:=hid (fun k hk=>t.yy k hk);clear h ih;obtain ⟨⟨kind,neg,ds,name,exp,rel,truth,all⟩,ks⟩:=t
 change xdl w p ks A 0 at h4
 have H4:=hid h4;clear h4;unfold ndV;simp only [Tr.d,Tr.ks] at hl1 hl2 HSZ ⊢;have hlen:ks.length<=9223372036854775807:=by omega
 obtain ⟨W,hW⟩:=n_m (w.alloc (.cells #[.int .i64 kind,.bool neg,.slice A0 n0 c0,.string name,.int .i64 exp,.int .i64 rel,.bool truth,.bool all,.slice A ks.length c] 29));have hWx:Ext w W:=by rw [<- hW]; exact (Ext.refl w).alloc _
 have hWs:w.heap.size < W.heap.size:=by rw [<- hW]; simp
 have a0:W.cell? ⟨w.heap.size,0,none⟩=some (.int .i64 kind):=by rw [<- hW]; simp [go_sem]
 have a4:W.cell? ⟨w.heap.size,4,none⟩=some (.int .i64 exp):=by rw [<- hW]; simp [go_sem]
 have a5:W.cell? ⟨w.heap.size,5,none⟩=some (.int .i64 rel):=by rw [<- hW]; simp [go_sem]
 have a8:W.cell? ⟨w.heap.size,8,none⟩=some (.slice A ks.length c):=by rw [<- hW]; simp [go_sem]
 have HWX:=hid hWx;have A8:=hid a8;have hkb:=ygf kind;have HV:Hid ((Tr.mk ⟨kind,neg,ds,name,exp,rel,truth,all⟩ ks).is term=((udt kind == (ks.length:Int)) && (wdw kind == term) && (Nd.qQ ⟨kind,neg,ds,name,exp,rel,truth,all⟩) && isL ks (kdz kind))):=by
  have:(Tr.mk ⟨kind,neg,ds,name,exp,rel,truth,all⟩ ks).is term=((udt kind == (ks.length:Int)) && (wdw kind == term) && (Nd.qQ ⟨kind,neg,ds,name,exp,rel,truth,all⟩) && isL ks (kdz kind)):=by simp only [Tr.is]
  exact this
 clear hWx;generalize (Tr.mk ⟨kind,neg,ds,name,exp,rel,truth,all⟩ ks).is term=res at *;have HK:=hid (qf3 kind);have HT:=hid (weh kind);generalize hkn:udt kind=kn at *;generalize hkt:kdz kind=kt at *;generalize htk:wdw kind=tk at *;clear hkn hkt htk
 by_cases h1:kn=ks.length
 · have b1:(kn != (ks.length:Int))=false:=by simpa using h1
   have e1:(kn == (ks.length:Int))=true:=by simpa using h1
   by_cases h2:tk=term
   · subst h2;have b2:(!tk == tk)=false:=by simp
     by_cases h3:Nd.qQ ⟨kind,neg,ds,name,exp,rel,truth,all⟩=true
     · have aed:res=isL ks kt:=by rw [HV.out,e1,h3]; simp
       subst aed;clear e1 h1;have hgo:((kind == 7)=true/\decide (exp < 0)=false/\(kind == 9)=false)\/((kind == 7)=false/\(kind == 9)=true/\decide (rel < 1)=false/\decide (6 < rel)=false)\/((kind == 7)=false/\(kind == 9)=false):=by
        unfold Nd.qQ at h3
        by_cases k7:kind=7
        · simp [k7] at h3 ⊢; omega
        · by_cases k9:kind=9
          · simp [k9] at h3 ⊢; omega
          · simp [k7,k9]
       clear h3 HV;rcases hgo with ⟨g7,ge,g9⟩ | ⟨g7,g9,gr1,gr6⟩ | ⟨g7,g9⟩
       all_goals
        go_enter Tryz.func20,Tryz.ntmps20;go_wp2_with fail;refine (HK.out _).mono ?_;rintro e w1 ⟨rfl,rfl⟩;go_wp2_with fail;refine (HT.out _).mono ?_;rintro e w1 ⟨rfl,rfl⟩;go_wp2_with fail;clear hW a0 a4 a5 a8
        go_loopw [52] (fun iv wr=>∃ k:Nat,k<=ks.length/\iv=.int .i64 k/\Hid (isL (ks.take k) kt=true/\Ext W wr)) (fun iv _=>ks.length - (intOf iv).toNat)
        case atStart=>exact ⟨0,pM _,rfl,⟨by simp [isL],Ext.refl W⟩⟩
        case round =>
         obtain ⟨k,hk,rfl,⟨hi,hxw⟩⟩:=hrel;have HI:=hid hi;have HXW:=hid hxw;have a8:wr.cell? ⟨w.heap.size,8,none⟩=some (.slice A ks.length c):=(hxw.cell (p:=⟨w.heap.size,8,none⟩) hWs).trans A8.out
         by_cases hlt:k < ks.length
         · obtain ⟨ad,B0,m0,d0,B1,m1,d1,rfl,abW,⟨e0,e1,e2,e3,e4,e5,e6,e7,e8⟩,hkt⟩:=xdl.kid (xdl.ext H4.out (HWX.out.trans hxw)) k hlt;have HKT:=hid hkt;have hsz:=HSZ.out k hlt;have HC:=hid (IH.out (ks[k]) _ wr kt (by omega) HKT.out);clear hkt hi hxw abW hsz
           by_cases hb:(ks[k]).is kt=true
           · rw [hb] at HC;have HN:Hid (isL (ks.take (k+1)) kt=true):=by
              have:isL (ks.take (k+1)) kt=true:=by rw [uf3 _ _ hlt,HI.out,hb]; rfl
              exact this
             clear hb;go_wp2_with fail;refine HC.out.mono ?_;rintro e w2 ⟨rfl,x2⟩;have X2:=hid x2;clear x2 e0 e1 e2 e3 e4 e5 e6 e7 e8 a8 HC;go_wp2_with fail
             go_roundw
             case rel=>exact ⟨k+1,by omega,by go_num,⟨HN.out,HXW.out.trans X2.out⟩⟩
             case measure=>simp [intOf]; omega
           · have hb':(ks[k]).is kt=false:=by simpa using hb
             rw [hb'] at HC;have HN:=hid (jgf ks k hlt kt hb');clear hb hb';go_wp2_with fail;refine HC.out.mono ?_;rintro e w2 ⟨rfl,x2⟩;have X2:=hid x2;clear x2 e0 e1 e2 e3 e4 e5 e6 e7 e8 a8 HC;go_wp2_with fail;go_ret;exact ⟨by rw [HN.out]; rfl,HWX.out.trans (HXW.out.trans X2.out)⟩
         · have hke:k=ks.length:=by omega
           have HN:Hid (isL ks kt=true):=by
            rw [hke,pw] at hi;exact hi
           clear hi hxw hke;go_wp2_with fail;go_ret;exact ⟨by rw [HN.out]; rfl,HWX.out.trans HXW.out⟩
     · have aed:res=false:=by rw [HV.out]; simp [h3]
       subst aed;have hgo:((kind == 7)=true/\decide (exp < 0)=true)\/((kind == 7)=false/\(kind == 9)=true/\decide (rel < 1)=true)\/((kind == 7)=false/\(kind == 9)=true/\decide (rel < 1)=false/\decide (6 < rel)=true):=by
        unfold Nd.qQ at h3
        by_cases k7:kind=7
        · simp [k7] at h3 ⊢; omega
        · by_cases k9:kind=9
          · simp [k9] at h3 ⊢; omega
          · simp [k7,k9] at h3
       clear h3 HV e1 h1;rcases hgo with ⟨g7,ge⟩ | ⟨g7,g9,gr1⟩ | ⟨g7,g9,gr1,gr6⟩
       all_goals
        go_enter Tryz.func20,Tryz.ntmps20;go_wp2_with fail;refine (HK.out _).mono ?_;rintro e w1 ⟨rfl,rfl⟩;go_wp2_with fail;refine (HT.out _).mono ?_;rintro e w1 ⟨rfl,rfl⟩;go_wp2_with fail;go_ret;exact ⟨rfl,HWX.out⟩
   · have aed:res=false:=by rw [HV.out]; simp [h2]
     subst aed;have b2:(!tk == term)=true:=by simpa using h2
     clear HV e1 h1 h2;go_enter Tryz.func20,Tryz.ntmps20;go_wp2_with fail;refine (HK.out _).mono ?_;rintro e w1 ⟨rfl,rfl⟩;go_wp2_with fail;refine (HT.out _).mono ?_;rintro e w1 ⟨rfl,rfl⟩;go_wp2_with fail;go_ret;exact ⟨rfl,HWX.out⟩
 · have aed:res=false:=by rw [HV.out]; simp [h1]
   subst aed;have b1:(kn != (ks.length:Int))=true:=by simpa using h1
   clear HV h1;go_enter Tryz.func20,Tryz.ntmps20;go_wp2_with fail;refine (HK.out _).mono ?_;rintro e w1 ⟨rfl,rfl⟩;go_wp2_with fail;go_ret;exact ⟨rfl,HWX.out⟩
theorem ugo {p:Nat->Prop} (t:Tr) (v:Value) (w:World) (term:Bool) (h:TrV w p t v):Calls Tryz.prog 20 #[v,.bool term] w (wdr (t.is term) w):=wgq (t.sz+1) t v w term (pO _) h
mutual
def Tr.list : Tr -> List Tr
 | .mk d ks=>.mk d ks :: udo ks
def udo : List Tr -> List Tr
 | []=>[]
 | t :: r=>t.list ++ udo r
end
mutual
theorem Tr.qI : ∀ t : Tr, t.list.length = t.sz
 | .mk d ks=>by simp only [Tr.list,Tr.sz,py,yek ks]
theorem yek : ∀ l : List Tr, (udo l).length = qdq l
 | []=>by simp only [udo,qdq,pQ]
 | t :: r=>by simp only [udo,qdq,pz,Tr.qI t,yek r]
end
theorem ue5 (l r:List Tr):udo (l ++ r)=udo l ++ udo r:=by
 induction l with
 | nil=>simp [udo]
 | cons t l ih=>simp [udo,ih]
theorem xfj (l:List Tr) (k:Nat) (hk:k < l.length):udo (l.take (k+1))=udo (l.take k) ++ (l[k]).list:=by
 rw [pg hk,ue5]; simp [udo]
theorem ye1 (l r:List Tr):qdq (l ++ r)=qdq l+qdq r:=by
 induction l with
 | nil=>simp [qdq]
 | cons t l ih=>simp [qdq,ih]; omega
theorem jff (l:List Tr) (k:Nat) (hk:k < l.length):qdq (l.take k)+(l[k]).sz<=qdq l:=by
 have h1:l=l.take k ++ l.drop k:=(rl k l).symm;have h2:qdq l=qdq (l.take k)+qdq (l.drop k):=by rw [<- ye1,rl]
 rw [h2,pY hk];simp only [qdq]; omega
theorem Tr.zg (t:Tr):0 < t.sz:=by cases t; simp [Tr.sz]
def qd0 (r:Tr × Value × Value):List Value:=[.int .i64 r.1.d.kind,.bool r.1.d.neg,r.2.1,.string r.1.d.name,.int .i64 r.1.d.exp,.int .i64 r.1.d.rel,.bool r.1.d.truth,.bool r.1.d.all,r.2.2]
def zd1 (rs:List (Tr × Value × Value)):List Value:=rs.flatMap qd0
theorem kfs (rs:List (Tr × Value × Value)):(zd1 rs).length=rs.length * 9:=by
 induction rs with
 | nil=>simp [zd1]
 | cons r rs ih=>simp only [zd1,rG,pz,py] at *; rw [ih]; simp [qd0]; omega
theorem ve6 (a b:List (Tr × Value × Value)):zd1 (a ++ b)=zd1 a ++ zd1 b:=by simp [zd1]
theorem vfs (rs:List (Tr × Value × Value)) (k:Nat) (hk:k < rs.length) (j:Nat) (hj:j < 9):(zd1 rs)[k * 9+j]?=(qd0 rs[k])[j]?:=by
 induction rs generalizing k with
 | nil=>simp at hk
 | cons r rs ih =>
   have hl:(qd0 r).length=9:=rfl;simp only [zd1,rG];cases k with
   | zero=>simp only [tc,pH,pR]; rw [List.getElem?_append_left (by omega)]
   | succ k =>
     rw [vc (by omega),hl,show (k+1) * 9+j - 9=k * 9+j by omega];exact ih k (by simpa using hk)
def jdr (w:World) (p:Nat->Prop) (base:Nat) (W:World) (v:Value) (l:List Tr):Prop:=
 ∃ rs:List (Tr × Value × Value),rs.map (fun r=>r.1)=l/\W.ownsRow base 29 9 v rs.length (zd1 rs)/\∀ r ∈ rs,TrV w p r.1 (ndV r.1.d r.2.1 r.2.2)
def xdo (base:Nat) (W:World) (u:Value) (n:Nat):Prop:=∃ xs:List Value,W.ownsRow base 3 1 u n xs/\∀ x ∈ xs,∃ z:Int,x=.int .i64 z
theorem ownsRow_base {w:World} {base base' size n:Nat} {e:TypeId} {v:Value} {xs:List Value} (h:w.ownsRow base e size v n xs) (hb:base'<=base):w.ownsRow base' e size v n xs:=by
 obtain ⟨h1,h2⟩:=h;refine ⟨h1,?_⟩;rcases h2 with h2 | ⟨g,cap,cur,e1,e2,e3⟩
 · exact .inl h2
 · exact .inr ⟨g,cap,cur,e1,po hb e2,e3⟩
section
variable {w W W':World} {p:Nat->Prop} {base base':Nat} {v u:Value} {l:List Tr} {n:Nat}
theorem jdr.zV (h:jdr w p base W v l) (hb:base'<=base):jdr w p base' W v l:=by
 obtain ⟨rs,h1,h2,h3⟩:=h;exact ⟨rs,h1,ownsRow_base h2 hb,h3⟩
theorem xdo.zV (h:xdo base W u n) (hb:base'<=base):xdo base' W u n:=by
 obtain ⟨xs,h1,h2⟩:=h;exact ⟨xs,ownsRow_base h1 hb,h2⟩
theorem jdr.kept {row:Option Nat} (h:jdr w p base W v l) (hg:W.grownBy W' row) (hne:v.ownBlock=none\/v.ownBlock ≠ row):jdr w p base W' v l:=by
 obtain ⟨rs,h1,h2,h3⟩:=h;exact ⟨rs,h1,World.ownsRow.kept h2 hg hne,h3⟩
theorem xdo.kept {row:Option Nat} (h:xdo base W u n) (hg:W.grownBy W' row) (hne:u.ownBlock=none\/u.ownBlock ≠ row):xdo base W' u n:=by
 obtain ⟨xs,h1,h2⟩:=h;exact ⟨xs,World.ownsRow.kept h1 hg hne,h2⟩
theorem jdr.ext (h:jdr w p base W v l) (hx:Ext W W'):jdr w p base W' v l:=h.kept (row:=none) hx.xW (by cases hv:v.ownBlock <;> simp)
theorem xdo.ext (h:xdo base W u n) (hx:Ext W W'):xdo base W' u n:=h.kept (row:=none) hx.xW (by cases hv:u.ownBlock <;> simp)
theorem jdr.lt (h:jdr w p base W v l):∀ k,v.ownBlock=some k->base<=k/\k < W.heap.size:=by
 obtain ⟨rs,h1,h2,h3⟩:=h;exact uO h2
theorem xdo.lt (h:xdo base W u n):∀ k,u.ownBlock=some k->base<=k/\k < W.heap.size:=by
 obtain ⟨xs,h1,h2⟩:=h;exact uO h1
theorem jdr.pos (h:jdr w p base W v l) (hl:0 < l.length):∃ g cap,v=.slice (some ⟨g,0,none⟩) l.length cap/\l.length<=cap/\cap<=maxLen:=by
 obtain ⟨rs,rfl,h2,h3⟩:=h;rw [pC] at hl ⊢;rcases h2.2 with ⟨-,e⟩ | ⟨g,cap,cur,e1,-,-,e4,e5,-⟩
 · omega
 · exact ⟨g,cap,e1,e4,e5⟩
theorem xdo.pos (h:xdo base W u n) (hl:0 < n):∃ g cap,u=.slice (some ⟨g,0,none⟩) n cap/\n<=cap/\cap<=maxLen:=by
 obtain ⟨xs,h2,h3⟩:=h;rcases h2.2 with ⟨-,e⟩ | ⟨g,cap,cur,e1,-,-,e4,e5,-⟩
 · omega
 · exact ⟨g,cap,e1,e4,e5⟩
theorem jdr.at_ {g m cap:Nat} (h:jdr w p base W (.slice (some ⟨g,0,none⟩) m cap) l) (k:Nat) (hk:k < l.length):∃ A0 n0 c0 A1 n1 c1,udx W ((⟨g,0,none⟩:Addr).add (k * 9)) l[k].d (.slice A0 n0 c0) (.slice A1 n1 c1)/\TrV w p l[k] (ndV l[k].d (.slice A0 n0 c0) (.slice A1 n1 c1)):=by
 obtain ⟨rs,rfl,h2,h3⟩:=h;rw [pC] at hk;have hc:∀ j,j < 9->W.cell? ⟨g,k * 9+j,none⟩=(qd0 rs[k])[j]?:=by
  intro j hj;have hm:m=rs.length:=by
   rcases h2.2 with ⟨e,-⟩ | ⟨g',cap',cur,e1,-⟩
   · cases e
   · injection e1
  subst hm;rw [World.ownsRow.cellAt h2 (k * 9+j) (by omega)];exact vfs rs k hk j hj
 have ht:=h3 rs[k] (pt hk);obtain ⟨A0,n0,c0,A1,c1,e2,-,-⟩:=ht.open_;unfold ndV at e2;simp only [rS,rX,ru,and_true,true_and] at e2;obtain ⟨e3,e4⟩:=e2;rw [rJ];rw [e3,e4] at ht;refine ⟨A0,n0,c0,A1,_,c1,?_,ht⟩;rw [kdo,pH];refine ⟨hc 0 (by omega),hc 1 (by omega),?_,hc 3 (by omega),hc 4 (by omega),hc 5 (by omega),hc 6 (by omega),hc 7 (by omega),?_⟩
 · rw [<- e3]; exact hc 2 (by omega)
 · rw [<- e4]; exact hc 8 (by omega)
end
theorem jdr.one {w W:World} {p:Nat->Prop} {base:Nat} {l:List Tr} {v:Value} (h:jdr w p base W v l):∃ rs:List (Tr × Value × Value),rs.map (fun r=>r.1)=l/\W.ownsRow base 29 9 v rs.length (zd1 rs)/\(∀ r ∈ rs,TrV w p r.1 (ndV r.1.d r.2.1 r.2.2))/\∀ u ∈ zd1 rs,u.oneCell'=true:=by
 obtain ⟨rs,h1,h2,h3⟩:=h;refine ⟨rs,h1,h2,h3,fun u hu=>?_⟩;unfold zd1 at hu;obtain ⟨r,hr,hu⟩:=tu.1 hu;obtain ⟨A0,n0,c0,A1,c1,e2,-,-⟩:=(h3 r hr).open_;unfold ndV at e2;simp only [rS,rX,ru,and_true,true_and] at e2;obtain ⟨e3,e4⟩:=e2;unfold qd0 at hu;rw [e3,e4] at hu;simp only [pI,rM,or_false] at hu;rcases hu with rfl | rfl | rfl | rfl | rfl | rfl | rfl | rfl | rfl <;> rfl
theorem vfr:(Tryz.prog.info? 29).map (fun i=>(i.zero,i.size,i.bytes))=some (some (.agg #[.int .i64 0,.bool false,.slice none 0 0,.string ByteArray.empty,.int .i64 0,.int .i64 0,.bool false,.bool false,.slice none 0 0]),9,104):=by kernel_rfl
theorem wfr:(Tryz.prog.info? 3).map (fun i=>(i.zero,i.size,i.bytes))=some (some (.int .i64 0),1,8):=by kernel_rfl
theorem xec {w W:World} {p:Nat->Prop} {base base':Nat} {v v2:Value} {l l2:List Tr} (h:jdr w p base W v l) (h2:jdr w p base' W v2 l2) (hl2:0 < l2.length) (hb:base<=W.heap.size) (hlen:l.length+l2.length<=1000000000) (ty:TypeId) :
 ∃ v' w',(Builtin.append_ #[27,27] ty #[v,v2]).run Tryz.prog W=.ok v' w'/\jdr w p base w' v' (l ++ l2)/\W.grownBy w' v.ownBlock/\(v'.ownBlock=v.ownBlock\/v'.ownBlock=some W.heap.size):=by
 obtain ⟨i0,hi,hz0,hz1,hz2⟩:=info_parts vfr;obtain ⟨g,cap,rfl,-⟩:=h2.pos hl2;obtain ⟨rs2,rfl,o2,t2,c2⟩:=h2.one;obtain ⟨rs,rfl,o1,t1,-⟩:=h.one;simp only [pC] at hlen hl2 ⊢;obtain ⟨v',w',ab3,r1,r2,-,r3⟩:=run_append_own_at (P:=Tryz.prog) W base 27 ty 29 i0 _ 9 104 Tryz.underlying27 hi hz0 hz1 hz2 rfl (by omega) v rs.length (zd1 rs) o1 ⟨g,0,none⟩ rs2.length cap (zd1 rs2) (kfs _) (fun j u hu=>World.ownsRow.cells o2 rfl j u hu) c2 (by unfold maxLen; omega) (by omega) hb;refine ⟨v',w',ab3,⟨rs ++ rs2,by simp,by rw [ve6,pz]; exact r1,fun r hr=>?_⟩,r2,r3⟩;rcases rq.1 hr with hr | hr
 · exact t1 r hr
 · exact t2 r hr
theorem zee {W:World} {base base':Nat} {v v2:Value} {n n2:Nat} (h:xdo base W v n) (h2:xdo base' W v2 n2) (hl2:0 < n2) (hb:base<=W.heap.size) (hlen:n+n2<=1000000000) (ty:TypeId) :
 ∃ v' w',(Builtin.append_ #[81,81] ty #[v,v2]).run Tryz.prog W=.ok v' w'/\xdo base w' v' (n+n2)/\W.grownBy w' v.ownBlock/\(v'.ownBlock=v.ownBlock\/v'.ownBlock=some W.heap.size):=by
 obtain ⟨i0,hi,hz0,hz1,hz2⟩:=info_parts wfr;obtain ⟨g,cap,rfl,-⟩:=h2.pos hl2;obtain ⟨xs2,o2,t2⟩:=h2;obtain ⟨xs,o1,t1⟩:=h;obtain ⟨v',w',ab3,r1,r2,-,r3⟩:=run_append_own_at (P:=Tryz.prog) W base 81 ty 3 i0 _ 1 8 Tryz.underlying81 hi hz0 hz1 hz2 rfl (by omega) v n xs o1 ⟨g,0,none⟩ n2 cap xs2 o2.1 (fun j u hu=>World.ownsRow.cells o2 rfl j u hu) (fun u hu=>by obtain ⟨z,rfl⟩:=t2 u hu; rfl) (by unfold maxLen; omega) (by omega) hb;refine ⟨v',w',ab3,⟨xs ++ xs2,r1,fun r hr=>?_⟩,r2,r3⟩;rcases rq.1 hr with hr | hr
 · exact t1 r hr
 · exact t2 r hr
def zex (w0:World) (p:Nat->Prop) (l:List Tr) (w:World) (e:Ending) (w':World):Prop:=
 ∃ v u,e=.returned (.tuple #[v,u])/\jdr w0 p w.heap.size w' v l/\xdo w.heap.size w' u l.length/\v.ownBlock ≠ u.ownBlock/\Ext w w'
theorem vfd {w0:World} {p:Nat->Prop} (m:Nat):∀ (t:Tr) (v:Value) (w:World) (d:Nat),t.sz < m->TrV w0 p t v->Ext w0 w->d+t.sz<=1000000->Calls Tryz.prog 47 #[v,.int .i64 d] w (zex w0 p t.list w):=by
 induction m with
 | zero=>intro t v w d h; omega
 | succ m ih =>
 intro t v w d hm h hx0 hd;have IH:=hid ih;have HT:=hid h;obtain ⟨A0,n0,c0,A,c,rfl,-,hl1,hl2,h4⟩:=h.open_;have HSZ:=hid (fun k hk=>t.yy k hk);have HX0:=hid hx0;clear h ih hx0;have htl:t.list=t :: udo t.ks:=by cases t; rfl
 have hts:t.sz=qdq t.ks+1:=by cases t; rfl
 rw [htl];clear htl;have H4:=hid h4;clear h4;unfold ndV;unfold ndV at HT;obtain ⟨W,hW⟩:=n_m (w.alloc (.cells #[.int .i64 t.d.kind,.bool t.d.neg,.slice A0 n0 c0,.string t.d.name,.int .i64 t.d.exp,.int .i64 t.d.rel,.bool t.d.truth,.bool t.d.all,.slice A t.ks.length c] 29));have hWx:Ext w W:=by rw [<- hW]; exact (Ext.refl w).alloc _
 have hWs:W.heap.size=w.heap.size+1:=by rw [<- hW]; simp
 have hbx:jd1 W w.heap.size t.d (.slice A0 n0 c0) (.slice A t.ks.length c):=by rw [<- hW]; exact jd1.new w t.d _ _ _
 obtain ⟨b0,b1,b2,b3,b4,b5,b6,b7,b8⟩:=id hbx;obtain ⟨V,hV⟩:=n_m ((W.alloc (.cells #[.int .i64 t.d.kind,.bool t.d.neg,.slice A0 n0 c0,.string t.d.name,.int .i64 t.d.exp,.int .i64 t.d.rel,.bool t.d.truth,.bool t.d.all,.slice A t.ks.length c] 29)).alloc (.cells #[.int .i64 d] 3));have hVx:Ext W V:=by rw [<- hV]; exact ((Ext.refl W).alloc _).alloc _
 have hVs:V.heap.size=W.heap.size+1+1:=by rw [<- hV]; simp
 have HBX:=hid hbx;have a8:V.cell? ⟨w.heap.size,8,none⟩=some (.slice A t.ks.length c):=(hVx.cell (p:=⟨w.heap.size,8,none⟩) (by rw [hWs]; exact pO _)).trans b8;have HL:Hid (jdr w0 p W.heap.size V (.slice (some ⟨W.heap.size,0,none⟩) 1 1) [t]):=by
  refine ⟨[(t,.slice A0 n0 c0,.slice A t.ks.length c)],rfl,⟨rfl,.inr ⟨W.heap.size,1,#[.int .i64 t.d.kind,.bool t.d.neg,.slice A0 n0 c0,.string t.d.name,.int .i64 t.d.exp,.int .i64 t.d.rel,.bool t.d.truth,.bool t.d.all,.slice A t.ks.length c],rfl,pf _,?_,pf _,by unfold maxLen; omega,rfl,rfl⟩⟩,?_⟩
  · rw [<- hV,Below.heap_alloc _ _ _ (by simp)]; exact heap_alloc_new W _
  · intro r hr;obtain rfl:r=(t,.slice A0 n0 c0,.slice A t.ks.length c):=by simpa using hr
    exact HT.out
 have HU:Hid (xdo W.heap.size V (.slice (some ⟨W.heap.size+1,0,none⟩) 1 1) 1):=by
  refine ⟨[.int .i64 d],⟨rfl,.inr ⟨W.heap.size+1,1,#[.int .i64 d],rfl,rY _,?_,pf _,by unfold maxLen; omega,rfl,rfl⟩⟩,?_⟩
  · rw [<- hV];have:=heap_alloc_new (W.alloc (.cells #[.int .i64 t.d.kind,.bool t.d.neg,.slice A0 n0 c0,.string t.d.name,.int .i64 t.d.exp,.int .i64 t.d.rel,.bool t.d.truth,.bool t.d.all,.slice A t.ks.length c] 29)) (.cells #[.int .i64 d] 3)
    rwa [pU] at this
  · intro x hx; exact ⟨d,by simpa using hx⟩
 have HWX:=hid hWx;have HVX:=hid hVx;clear hWx hVx hbx;go_enter Tryz.func47,Tryz.ntmps47;go_wp2_with fail;clear hW hV b0 b1 b2 b3 b4 b5 b6 b7 b8 a8
 go_loopw [6,7,18] (fun ov uv iv wr=>∃ k:Nat,k<=t.ks.length/\iv=.int .i64 k/\Hid (jdr w0 p W.heap.size wr ov (t :: udo (t.ks.take k))/\xdo W.heap.size wr uv (t :: udo (t.ks.take k)).length/\ov.ownBlock ≠ uv.ownBlock/\Ext W wr)) (fun _ _ iv _=>t.ks.length - (intOf iv).toNat)
 case atStart=>exact ⟨0,pM _,rfl,⟨by have h:=HL.out; rw [hWs] at h ⊢; simpa [udo] using h,by have h:=HU.out; rw [hWs] at h ⊢; simpa [udo] using h,by simp [Value.ownBlock],HVX.out⟩⟩
 case round =>
  obtain ⟨k,hk,rfl,⟨hlv,hiv,hne,hxw⟩⟩:=hrel;have HLV:=hid hlv;have HIV:=hid hiv;have HNE:=hid hne;have HXW:=hid hxw;have a8:wr.cell? ⟨w.heap.size,8,none⟩=some (.slice A t.ks.length c):=(HBX.out.ext hxw (by omega)).2.2.2.2.2.2.2.2;obtain ⟨g1,cap1,hov,-⟩:=hlv.pos (by simp);obtain ⟨g2,cap2,huv,-⟩:=hiv.pos (by simp);subst hov huv
  by_cases hlt:k < t.ks.length
  · obtain ⟨ad,B0,m0,d0,B1,m1,d1,hA,abW,hnd,hkt⟩:=xdl.kid H4.out k hlt;subst hA;have hx0:Ext w0 wr:=HX0.out.trans (HWX.out.trans hxw);obtain ⟨e0,e1,e2,e3,e4,e5,e6,e7,e8⟩:=hnd.ext hx0 (by rw [zc1]; exact abW);have hsz:=HSZ.out k hlt;have hwr:=HXW.out.size;have HC:=hid (IH.out (t.ks[k]) _ wr (d+1) (by omega) hkt hx0 (by omega));have HTK:=hid (xfj t.ks k hlt);have HLN:Hid ((t :: udo (t.ks.take k)).length+(t.ks[k]).list.length<=1000000000):=by
     have h1:=jff t.ks k hlt;have:(t :: udo (t.ks.take k)).length+(t.ks[k]).list.length<=1000000000:=by rw [py,yek,Tr.qI]; omega
     exact this
    have HP:Hid (0 < (t.ks[k]).list.length):=by
     have:0 < (t.ks[k]).list.length:=by rw [Tr.qI]; exact Tr.zg _
     exact this
    clear hkt hnd hlv hiv hne hxw abW hsz hx0;go_wp2_with fail;refine HC.out.mono ?_;rintro e w2 ⟨v2,u2,rfl,l2,i2,ne2,x2⟩;have hw2:=x2.size;obtain ⟨v3,w3,hr3,l3,gr3,o3⟩:=xec (HLV.out.ext x2) l2 HP.out (by omega) HLN.out 27;have hw3:=gr3.size;obtain ⟨v4,w4,hr4,l4,gr4,o4⟩:=zee ((HIV.out.ext x2).kept gr3 (.inr (fun e=>HNE.out e.symm))) (i2.kept gr3 (.inr (fun e=>by
     cases hu:u2.ownBlock with
     | none=>obtain ⟨g,cap,rfl,-⟩:=i2.pos HP.out; cases hu
     | some b =>
       have h1:=i2.lt b hu;have h2:=(HLV.out.lt b (by rw [<- e,hu])).2
       omega))) HP.out (by omega) HLN.out 81
    have acb:jdr w0 p W.heap.size w4 v3 (t :: udo (t.ks.take (k+1)))/\xdo W.heap.size w4 v4 (t :: udo (t.ks.take (k+1))).length/\v3.ownBlock ≠ v4.ownBlock/\Ext W w4:=by
     have hl3:∀ b,v3.ownBlock=some b->W.heap.size<=b/\b < w3.heap.size:=l3.lt;have hg2:=(HIV.out.lt g2 rfl);rw [HTK.out];refine ⟨?_,?_,?_,?_⟩
     · have:jdr w0 p W.heap.size w4 v3 ((t :: udo (t.ks.take k)) ++ (t.ks[k]).list):=l3.kept gr4 (.inr (fun e=>by
        rcases o3 with o3 | o3
        · exact HNE.out (by rw [<- o3,e])
        · rw [o3] at e;have e':w2.heap.size=g2:=by simpa [Value.ownBlock] using e
          omega))
       simpa using this
     · have:xdo W.heap.size w4 v4 ((t :: udo (t.ks.take k)).length+(t.ks[k]).list.length):=l4;have e:(t :: (udo (t.ks.take k) ++ (t.ks[k]).list)).length=(t :: udo (t.ks.take k)).length+(t.ks[k]).list.length:=by simp; omega
       rw [e]; exact this
     · intro e;rcases o4 with o4 | o4
       · rcases o3 with o3 | o3
         · exact HNE.out (by rw [<- o3,e,o4])
         · rw [o3,o4] at e;have e':w2.heap.size=g2:=by simpa [Value.ownBlock] using e
           omega
       · have:=(hl3 w3.heap.size (by rw [e,o4])).2;omega
     · exact ((HXW.out.trans x2).grown gr3 (fun b hb=>(HLV.out.lt b hb).1)).grown gr4 (fun b hb=>(HIV.out.lt b hb).1)
    have ach:=hid acb;clear acb l2 i2 ne2 x2 l3 gr3 o3 l4 gr4 o4 e0 e1 e2 e3 e4 e5 e6 e7 e8 a8 HC
    go_wp2_with (at_builtin
                 first
                 | refine wpList_append_run rfl (.tmp 32) (.tmp 33) _ _ rfl _ _ _ _ rfl rfl hr3 ?_
                 | refine wpList_append_run rfl (.tmp 35) (.tmp 36) _ _ rfl _ _ _ _ rfl rfl hr4 ?_)
    clear hr3 hr4
    go_roundw
    case rel=>exact ⟨k+1,by omega,by go_num,ach⟩
    case measure=>simp [intOf]; omega
  · have hke:k=t.ks.length:=by omega
    have htk:udo (t.ks.take k)=udo t.ks:=by rw [hke,pw]
    have hle:w.heap.size<=W.heap.size:=by omega
    have HF:Hid (zex w0 p (t :: udo t.ks) w (.returned (.tuple #[.slice (some ⟨g1,0,none⟩) (t :: udo (t.ks.take k)).length cap1,.slice (some ⟨g2,0,none⟩) (t :: udo (t.ks.take k)).length cap2])) wr):=
     ⟨_,_,rfl,by have h:=hlv.zV hle; rw [htk] at h ⊢; exact h,by have h:=hiv.zV hle; rw [htk] at h ⊢; exact h,hne,HWX.out.trans hxw⟩
    clear hlv hiv hne hxw hke htk;go_wp2_with fail
    go_ret2
    exact HF.out
theorem ve5 {w:World} {p:Nat->Prop} (t:Tr) (v:Value) (h:TrV w p t v) (hd:t.sz<=1000000):Calls Tryz.prog 47 #[v,.int .i64 0] w (zex w p t.list w):=
 vfd (t.sz+1) t v w 0 (pO _) h (Ext.refl w) (by omega)
end Go.Proofs.YtheefiaoimbeiaaGreatDoor
