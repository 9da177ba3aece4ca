/- Layer 34: formula.Valid, and the reference's Has, words, Valid. -/
import Derived.Test.YtaedbimbbeploaaGreatDoorMb25
import Derived.Laws.StructEq
set_option linter.unusedSimpArgs false
set_option linter.unusedVariables false

set_option maxRecDepth 100000
set_option maxHeartbeats 8000000
namespace Go.Proofs.YtaedbimbbeploaaGreatDoor
open Go.RowKit
def kap (c i:Nat):Bool:=decide ((97<=c/\c<=122)\/(65<=c/\c<=90)\/c=95\/(48<=c/\c<=57/\0 < i))
def qad:List (List UInt8):=[[116,114,117,101],[102,97,108,115,101],[97,110,100],[111,114],[110,111,116],[105,109,112,108,105,101,115],[105,102,102],[102,111,114,97,108,108],[101,120,105,115,116,115]]
def yt (s:ByteArray):Bool:=decide (1<=s.size/\s.size<=16/\(∀ i (h:i < s.size),kap s[i].toNat i=true)/\s.toList ∉ qad)
theorem va3 {s:ByteArray} (h1:¬ s.size < 1) (h2:¬ 16 < s.size) (h3:∀ i (h:i < s.size),kap s[i].toNat i=true) (h4:s.toList ∉ qad):yt s=true:=decide_eq_true ⟨by omega,by omega,h3,h4⟩
theorem va8 {s:ByteArray} (k:Nat) (hk:k < s.size) (h:kap s[k].toNat k=false):yt s=false:=decide_eq_false (fun hh=>by rw [hh.2.2.1 k hk] at h; cases h)
theorem zab {s:ByteArray} (h:s.toList ∈ qad):yt s=false:=decide_eq_false (fun hh=>hh.2.2.2 h)
theorem ybe (s:ByteArray) (w:World):Calls Tryz.prog 92 #[.string s] w fun e w'=>e=.returned (.bool (yt s))/\w'=w:=by
 by_cases h1:s.size < 1
 · have d1:decide ((s.size:Int) < 1)=true:=by simp; omega
   have hv:yt s=false:=decide_eq_false (by omega);rw [hv];go_enter Tryz.func92,Tryz.ntmps92;go_wp2_with fail;go_ret;exact ⟨rfl,rfl⟩
 · have d1:decide ((s.size:Int) < 1)=false:=by simp; omega
   by_cases h2:16 < s.size
   · have d2:decide ((16:Int) < s.size)=true:=by simp; omega
     have hv:yt s=false:=decide_eq_false (by omega);rw [hv];go_enter Tryz.func92,Tryz.ntmps92;go_wp2_with fail;go_ret;exact ⟨rfl,rfl⟩
   · have d2:decide ((16:Int) < s.size)=false:=by simp; omega
     generalize hvb:yt s=vb;have HVB:=Lib.hid hvb;clear hvb;go_enter Tryz.func92,Tryz.ntmps92;go_wp2_with fail
     go_loop [15] (fun iv=>∃ k:Nat,k<=s.size/\iv=.int .i64 k/\Hid (∀ i (h:i < s.size),i < k->kap s[i].toNat i=true)) (fun iv=>s.size - (intOf iv).toNat)
     case atStart=>exact ⟨0,Nat.zero_le _,rfl,(fun i h h0=>absurd h0 (by omega))⟩
     case round =>
      obtain ⟨k,hk,rfl,HG⟩:=hrel
      by_cases hlt:k < s.size
      · have HBAD:=Lib.hid (va8 (s:=s) k hlt);have HNEXT:Hid (kap s[k].toNat k=true->∀ i (h:i < s.size),i < k+1->kap s[i].toNat i=true):=by
         intro hg i h hi
         by_cases he:i=k
         · subst he; exact hg
         · exact HG.out i h (by omega)
        have hcc:s[k].toNat < 256:=s[k].toNat_lt;clear HG;go_upto_region 8 with fail;generalize s[k].toNat=cc at *
        by_cases h95:cc=95
        · have d95:((cc:Int) == 95)=true:=by simp; omega
          go_wp2_with fail
          all_goals first
            | exact ⟨⟨k+1,by omega,by go_num,HNEXT.out (decide_eq_true (by omega))⟩,by simp [intOf]; omega⟩
            | (exfalso; omega)
        · have d95:((cc:Int) == 95)=false:=by simp; omega
          go_wp2_with fail
          all_goals first
            | exact ⟨⟨k+1,by omega,by go_num,HNEXT.out (decide_eq_true (by omega))⟩,by simp [intOf]; omega⟩
            | (go_ret
               exact ⟨by rw [<- HVB.out,HBAD.out (decide_eq_false (by omega))]; rfl,rfl⟩)
            | (exfalso; omega)
      · have hall:∀ i (h:i < s.size),kap s[i].toNat i=true:=fun i h=>HG.out i h (by omega)
        have HALL:=Lib.hid hall;clear hall HG
        by_cases e0:(s.toList == ([116,114,117,101]:List UInt8))=true
        · have hv:vb=false:=by rw [<- HVB.out]; exact zab (by rw [(beq_iff_eq.1 e0:s.toList=[116,114,117,101])]; unfold qad; simp)
          clear HVB HALL;subst hv;go_wp2_with fail;go_ret;exact ⟨rfl,rfl⟩
        have n0:(s.toList == ([116,114,117,101]:List UInt8))=false:=by simpa using e0
        by_cases e1:(s.toList == ([102,97,108,115,101]:List UInt8))=true
        · have hv:vb=false:=by rw [<- HVB.out]; exact zab (by rw [(beq_iff_eq.1 e1:s.toList=[102,97,108,115,101])]; unfold qad; simp)
          clear HVB HALL;subst hv;go_wp2_with fail;go_ret;exact ⟨rfl,rfl⟩
        have n1:(s.toList == ([102,97,108,115,101]:List UInt8))=false:=by simpa using e1
        by_cases e2:(s.toList == ([97,110,100]:List UInt8))=true
        · have hv:vb=false:=by rw [<- HVB.out]; exact zab (by rw [(beq_iff_eq.1 e2:s.toList=[97,110,100])]; unfold qad; simp)
          clear HVB HALL;subst hv;go_wp2_with fail;go_ret;exact ⟨rfl,rfl⟩
        have n2:(s.toList == ([97,110,100]:List UInt8))=false:=by simpa using e2
        by_cases e3:(s.toList == ([111,114]:List UInt8))=true
        · have hv:vb=false:=by rw [<- HVB.out]; exact zab (by rw [(beq_iff_eq.1 e3:s.toList=[111,114])]; unfold qad; simp)
          clear HVB HALL;subst hv;go_wp2_with fail;go_ret;exact ⟨rfl,rfl⟩
        have n3:(s.toList == ([111,114]:List UInt8))=false:=by simpa using e3
        by_cases e4:(s.toList == ([110,111,116]:List UInt8))=true
        · have hv:vb=false:=by rw [<- HVB.out]; exact zab (by rw [(beq_iff_eq.1 e4:s.toList=[110,111,116])]; unfold qad; simp)
          clear HVB HALL;subst hv;go_wp2_with fail;go_ret;exact ⟨rfl,rfl⟩
        have n4:(s.toList == ([110,111,116]:List UInt8))=false:=by simpa using e4
        by_cases e5:(s.toList == ([105,109,112,108,105,101,115]:List UInt8))=true
        · have hv:vb=false:=by rw [<- HVB.out]; exact zab (by rw [(beq_iff_eq.1 e5:s.toList=[105,109,112,108,105,101,115])]; unfold qad; simp)
          clear HVB HALL;subst hv;go_wp2_with fail;go_ret;exact ⟨rfl,rfl⟩
        have n5:(s.toList == ([105,109,112,108,105,101,115]:List UInt8))=false:=by simpa using e5
        by_cases e6:(s.toList == ([105,102,102]:List UInt8))=true
        · have hv:vb=false:=by rw [<- HVB.out]; exact zab (by rw [(beq_iff_eq.1 e6:s.toList=[105,102,102])]; unfold qad; simp)
          clear HVB HALL;subst hv;go_wp2_with fail;go_ret;exact ⟨rfl,rfl⟩
        have n6:(s.toList == ([105,102,102]:List UInt8))=false:=by simpa using e6
        by_cases e7:(s.toList == ([102,111,114,97,108,108]:List UInt8))=true
        · have hv:vb=false:=by rw [<- HVB.out]; exact zab (by rw [(beq_iff_eq.1 e7:s.toList=[102,111,114,97,108,108])]; unfold qad; simp)
          clear HVB HALL;subst hv;go_wp2_with fail;go_ret;exact ⟨rfl,rfl⟩
        have n7:(s.toList == ([102,111,114,97,108,108]:List UInt8))=false:=by simpa using e7
        by_cases e8:(s.toList == ([101,120,105,115,116,115]:List UInt8))=true
        · have hv:vb=false:=by rw [<- HVB.out]; exact zab (by rw [(beq_iff_eq.1 e8:s.toList=[101,120,105,115,116,115])]; unfold qad; simp)
          clear HVB HALL;subst hv;go_wp2_with fail;go_ret;exact ⟨rfl,rfl⟩
        have n8:(s.toList == ([101,120,105,115,116,115]:List UInt8))=false:=by simpa using e8
        have hv:vb=true:=by
         rw [<- HVB.out];refine va3 h1 h2 HALL.out ?_;unfold qad;simp only [List.mem_cons,List.not_mem_nil,or_false,not_or];exact ⟨by simpa using n0,by simpa using n1,by simpa using n2,by simpa using n3,by simpa using n4,by simpa using n5,by simpa using n6,by simpa using n7,by simpa using n8⟩
        clear HVB HALL e0 e1 e2 e3 e4 e5 e6 e7 e8;subst hv;go_wp2_with fail;go_ret;exact ⟨rfl,rfl⟩
def hasB (l:List ByteArray) (s:ByteArray):Bool:=l.any fun x=>x == s
theorem wbp (l:List ByteArray) (s:ByteArray):hasB l s=true ↔ s ∈ l:=by
 unfold hasB;rw [List.any_eq_true]
 constructor
 · rintro ⟨x,hx,he⟩;rw [(MapKept.bytes_beq x s).1 he] at hx; exact hx
 · intro h; exact ⟨s,h,(MapKept.bytes_beq s s).2 rfl⟩
theorem qcu {w:World} {v:Value} {l:List ByteArray} (h:SlR (fun _ (s:ByteArray) x=>x=.string s) w v l) (nm:ByteArray):Calls Tryz.prog 120 #[v,.string nm] w fun e w'=>e=.returned (.bool (hasB l nm))/\Ext w w':=by
 have H:=Lib.hid h;obtain ⟨A,c,rfl,h1,h2,-⟩:=h;have hlen:l.length<=9223372036854775807:=by omega
 go_enter Tryz.func120,Tryz.ntmps120;go_wp2_with fail
 go_loopw [8] (fun iv wr=>∃ k:Nat,k<=l.length/\iv=.int .i64 k/\Hid (hasB (l.take k) nm=false/\Ext w wr)) (fun iv _=>l.length - (intOf iv).toNat)
 case atStart=>exact ⟨0,Nat.zero_le _,rfl,⟨by simp [hasB],Ext.refl w⟩⟩
 case round =>
  obtain ⟨k,hk,rfl,⟨hno,hx⟩⟩:=hrel;have HNO:=Lib.hid hno;have HX:=Lib.hid hx;clear hno hx
  by_cases hlt:k < l.length
  · obtain ⟨ad,x,rfl,hc,hp⟩:=SlR.get_ (SlR.ext H.out (fun _ _ h=>h) HX.out) k hlt;subst hp;have HTK:Hid (hasB (l.take (k+1)) nm=(hasB (l.take k) nm || l[k] == nm)):=by
     have:hasB (l.take (k+1)) nm=(hasB (l.take k) nm || l[k] == nm):=by unfold hasB; rw [List.take_succ_eq_append_getElem hlt,List.any_append]; simp
     exact this
    have HIT:Hid ((l[k] == nm)=true->hasB l nm=true):=by
     intro h; unfold hasB; exact List.any_eq_true.2 ⟨l[k],List.getElem_mem hlt,h⟩
    generalize l[k]=q at *
    by_cases hs:q=nm
    · have hb:(q == nm)=true:=(MapKept.bytes_beq q nm).2 hs;have hb2:(q.toList == nm.toList)=true:=by rw [hs]; simp
      have HF:=Lib.hid (HIT.out hb);clear HTK HIT;go_wp2_with fail;go_ret;exact ⟨by rw [HF.out]; rfl,HX.out⟩
    · have hb:(q == nm)=false:=by rw [Bool.eq_false_iff]; exact fun e=>hs ((MapKept.bytes_beq q nm).1 e)
      have hb2:(q.toList == nm.toList)=false:=by rw [<- beq_toListBytes]; exact hb
      have HN:Hid (hasB (l.take (k+1)) nm=false):=by
       have:hasB (l.take (k+1)) nm=false:=by rw [HTK.out,HNO.out,hb]; rfl
       exact this
      clear HTK HIT;go_wp2_with fail
      go_roundw
      case rel=>exact ⟨k+1,by omega,by go_num,⟨HN.out,HX.out⟩⟩
      case measure=>simp [intOf]; omega
  · have HF:Hid (hasB l nm=false):=by
     have hke:k=l.length:=by omega
     have h:=HNO.out;rw [hke,List.take_length] at h;exact h
    go_wp2_with fail;go_ret;exact ⟨by rw [HF.out]; rfl,HX.out⟩
def zaq:List ByteArray:=[⟨#[116,114,117,101]⟩,⟨#[102,97,108,115,101]⟩,⟨#[97,110,100]⟩,⟨#[111,114]⟩,⟨#[110,111,116]⟩,⟨#[105,109,112,108,105,101,115]⟩,⟨#[105,102,102]⟩,⟨#[102,111,114,97,108,108]⟩,⟨#[101,120,105,115,116,115]⟩]
theorem vb5 (w:World):Calls Tryz.prog 121 #[] w (yax zaq w):=by
 have HF:Hid (yax zaq w (.returned (.slice (some ⟨w.heap.size,0,none⟩) 9 9)) (w.alloc (.cells #[.string ⟨#[116,114,117,101]⟩,.string ⟨#[102,97,108,115,101]⟩,.string ⟨#[97,110,100]⟩,.string ⟨#[111,114]⟩,.string ⟨#[110,111,116]⟩,.string ⟨#[105,109,112,108,105,101,115]⟩,.string ⟨#[105,102,102]⟩,.string ⟨#[102,111,114,97,108,108]⟩,.string ⟨#[101,120,105,115,116,115]⟩] 9))):=by
  refine ⟨_,rfl,⟨rfl,.inr ⟨w.heap.size,9,_,rfl,Nat.le_refl _,heap_alloc_new w _,Nat.le_refl _,by unfold maxLen; omega,rfl,rfl⟩⟩,(Ext.refl w).alloc _⟩
 go_enter Tryz.func121,Tryz.ntmps121;go_wp2_with fail;go_ret;exact HF.out
theorem kb5 (s:ByteArray):hasB zaq s=true ↔ s.toList ∈ qad:=by
 rw [wbp];have key:∀ l:List UInt8,(⟨⟨l⟩⟩:ByteArray).toList=l:=fun l=>by simp
 constructor
 · intro h;unfold zaq at h;simp only [List.mem_cons,List.not_mem_nil,or_false] at h;unfold qad;rcases h with rfl | rfl | rfl | rfl | rfl | rfl | rfl | rfl | rfl <;> rw [key] <;> simp
 · intro h;have inj:∀ l:List UInt8,s.toList=l->s=⟨⟨l⟩⟩:=by
    intro l e;obtain ⟨⟨d⟩⟩:=s;rw [key] at e;rw [e]
   unfold qad at h;simp only [List.mem_cons,List.not_mem_nil,or_false] at h;unfold zaq;rcases h with h | h | h | h | h | h | h | h | h <;> rw [inj _ h] <;> simp
theorem wbm (s:ByteArray) (w:World):Calls Tryz.prog 60 #[.string s] w fun e w'=>e=.returned (.bool (yt s))/\Ext w w':=by
 by_cases h1:s.size < 1
 · have d1:decide ((s.size:Int) < 1)=true:=by simp; omega
   have hv:yt s=false:=decide_eq_false (by omega);rw [hv];go_enter Tryz.func60,Tryz.ntmps60;go_wp2_with fail;go_ret;exact ⟨rfl,Ext.refl w⟩
 · have d1:decide ((s.size:Int) < 1)=false:=by simp; omega
   by_cases h2:16 < s.size
   · have d2:decide ((16:Int) < s.size)=true:=by simp; omega
     have hv:yt s=false:=decide_eq_false (by omega);rw [hv];go_enter Tryz.func60,Tryz.ntmps60;go_wp2_with fail;go_ret;exact ⟨rfl,Ext.refl w⟩
   · have d2:decide ((16:Int) < s.size)=false:=by simp; omega
     have HVW:=Lib.hid (kb5 s);generalize hvb:yt s=vb;have HVB:=Lib.hid hvb;clear hvb;go_enter Tryz.func60,Tryz.ntmps60;go_wp2_with fail;refine (vb5 _).mono ?_;rintro e w1 ⟨v1,rfl,r1,x1⟩;have HH:=Lib.hid (qcu r1.slr s);obtain ⟨A1,c1,rfl⟩:=r1.slr.len;have X1:=Lib.hid x1;clear r1 x1;generalize zaq.length=nw at *;go_wp2_with fail;refine HH.out.mono ?_;rintro e w2 ⟨rfl,x2⟩;have X2:=Lib.hid (X1.out.trans x2);clear x2 HH X1
     by_cases hw:hasB zaq s=true
     · have hv:vb=false:=by rw [<- HVB.out]; exact zab (HVW.out.1 hw)
       rw [hw];clear HVB HVW hw;subst hv;go_wp2_with fail;go_ret;exact ⟨rfl,X2.out⟩
     · have hw':hasB zaq s=false:=by simpa using hw
       have HNW:Hid (s.toList ∉ qad):=by
        intro h; exact hw (HVW.out.2 h)
       rw [hw'];clear hw hw' HVW;go_wp2_with fail
       go_loopw [3] (fun iv wr=>∃ k:Nat,k<=s.size/\iv=.int .i64 k/\Hid ((∀ i (h:i < s.size),i < k->kap s[i].toNat i=true)/\Ext w wr)) (fun iv _=>s.size - (intOf iv).toNat)
       case atStart=>exact ⟨0,Nat.zero_le _,rfl,⟨(fun i h h0=>absurd h0 (by omega)),X2.out⟩⟩
       case round =>
        obtain ⟨k,hk,rfl,HG⟩:=hrel;have X3:=Lib.hid HG.out.2
        by_cases hlt:k < s.size
        · have HBAD:=Lib.hid (va8 (s:=s) k hlt);have HNEXT:Hid (kap s[k].toNat k=true->∀ i (h:i < s.size),i < k+1->kap s[i].toNat i=true):=by
           intro hg i h hi
           by_cases he:i=k
           · subst he; exact hg
           · exact HG.out.1 i h (by omega)
          have hcc:s[k].toNat < 256:=s[k].toNat_lt;clear HG;go_upto_region 7 with fail;generalize s[k].toNat=cc at *
          by_cases h95:cc=95
          · have d95:((cc:Int) == 95)=true:=by simp; omega
            go_wp2_with fail
            all_goals first
              | exact ⟨⟨k+1,by omega,by go_num,HNEXT.out (decide_eq_true (by omega)),X3.out⟩,by simp [intOf]; omega⟩
              | (exfalso; omega)
          · have d95:((cc:Int) == 95)=false:=by simp; omega
            by_cases hk0:k=0
            · have dk0:((k:Int) == 0)=true:=by simp; omega
              go_wp2_with fail
              all_goals first
                | exact ⟨⟨k+1,by omega,by go_num,HNEXT.out (decide_eq_true (by omega)),X3.out⟩,by simp [intOf]; omega⟩
                | (go_ret
                   exact ⟨by rw [<- HVB.out,HBAD.out (decide_eq_false (by omega))]; rfl,X3.out⟩)
                | (exfalso; omega)
                | (rename_i hlast
                   simp only [Bool.not_eq_false',decide_eq_true_eq] at hlast
                   first
                    | (exfalso; omega)
                    | exact ⟨⟨k+1,by omega,by go_num,HNEXT.out (decide_eq_true (by omega)),X3.out⟩,by simp [intOf]; omega⟩
                    | (go_ret
                       exact ⟨by rw [<- HVB.out,HBAD.out (decide_eq_false (by omega))]; rfl,X3.out⟩))
            · have dk0:((k:Int) == 0)=false:=by simp; omega
              go_wp2_with fail
              all_goals first
                | exact ⟨⟨k+1,by omega,by go_num,HNEXT.out (decide_eq_true (by omega)),X3.out⟩,by simp [intOf]; omega⟩
                | (go_ret
                   exact ⟨by rw [<- HVB.out,HBAD.out (decide_eq_false (by omega))]; rfl,X3.out⟩)
                | (exfalso; omega)
                | (rename_i hlast
                   simp only [Bool.not_eq_false',decide_eq_true_eq] at hlast
                   first
                    | (exfalso; omega)
                    | exact ⟨⟨k+1,by omega,by go_num,HNEXT.out (decide_eq_true (by omega)),X3.out⟩,by simp [intOf]; omega⟩
                    | (go_ret
                       exact ⟨by rw [<- HVB.out,HBAD.out (decide_eq_false (by omega))]; rfl,X3.out⟩))
        · have hv:vb=true:=by
           rw [<- HVB.out];exact va3 h1 h2 (fun i h=>HG.out.1 i h (by omega)) HNW.out
          clear HVB HNW HG;subst hv;go_wp2_with fail;go_ret;exact ⟨rfl,X3.out⟩
end Go.Proofs.YtaedbimbbeploaaGreatDoor
