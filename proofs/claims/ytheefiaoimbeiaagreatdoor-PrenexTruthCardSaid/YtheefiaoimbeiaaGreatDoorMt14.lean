/- Layer 5 (rational): integers as fractions, lowest terms, negation. -/
import Derived.Test.YtheefiaoimbeiaaGreatDoorMt13
import Derived.Test.YtheefiaoimbeiaaGreatDoorMt8
import Derived.Test.YtheefiaoimbeiaaGreatDoorMt0
import Derived.Test.YtheefiaoimbeiaaGreatDoorMt6
import Derived.Test.YtheefiaoimbeiaaGreatDoorMt3
set_option linter.unusedSimpArgs false
set_option linter.unusedVariables false

set_option maxRecDepth 100000
set_option maxHeartbeats 8000000
namespace Go.Proofs.YtheefiaoimbeiaaGreatDoor
open Go.RowKit
theorem qa6 (x:Value) (z:Int) (L:Nat) (w:World) (h:jg w x z L) (hs:L<=17592186044416):Calls Tryz.prog 36 #[x] w (jae (z:Rat) w):=by
 have H:=Lib.hid h;obtain ⟨neg,v,ds,rfl,⟨A,c,rfl,h1,h2,h3⟩,hz,hl⟩:=h;clear h3 hz;go_enter Tryz.func36,Tryz.ntmps36;go_wp2_with fail;generalize hW:(w.alloc (Obj.cells #[.bool neg,.slice A ds.length c] 25)).alloc (Obj.cells #[.bool false,.slice none 0 0,.slice none 0 0] 59)=W;have HX0:Hid (Ext w W):=by
  have:Ext w W:=by rw [<- hW]; exact ((Ext.refl w).alloc _).alloc _
  exact this
 have HWS:Hid (W.heap.size=w.heap.size+1+1):=by
  have:W.heap.size=w.heap.size+1+1:=by rw [<- hW]; simp
  exact this
 have HS:Hid (∀ W',Ext W W'->(Ext w W'/\W'.cell? ⟨w.heap.size,0,none⟩=some (.bool neg)/\W'.cell? ⟨w.heap.size,1,none⟩=some (.slice A ds.length c))):=by
  intro W' hx;obtain ⟨hc,hf⟩:=hx.cells;have hsz:=HWS.out;refine ⟨HX0.out.trans hx,?_,?_⟩ <;> (rw [hc _ _ (by omega),<- hW]; simp [go_sem])
 have HR:Hid (∀ W',Ext W W'->(W'.cell? ⟨w.heap.size+1,0,none⟩=some (.bool false)/\W'.cell? ⟨w.heap.size+1,1,none⟩=some (.slice none 0 0)/\W'.cell? ⟨w.heap.size+1,2,none⟩=some (.slice none 0 0)/\W'.frozen? ⟨w.heap.size+1,0,none⟩=false/\W'.frozen? ⟨w.heap.size+1,1,none⟩=false/\W'.frozen? ⟨w.heap.size+1,2,none⟩=false)):=by
  intro W' hx;obtain ⟨hc,hf⟩:=hx.cells;have hsz:=HWS.out;refine ⟨?_,?_,?_,?_,?_,?_⟩ <;> first | (rw [hc _ _ (by omega),<- hW]; simp [go_sem]; done) | (rw [hf _ _ (by omega),<- hW]; simp [go_sem]; done)
 clear hW;obtain ⟨e0,b0,b1⟩:=HS.out W (Ext.refl W);refine (jar _ z L _ (H.out.ext e0) (by omega)).mono ?_;rintro e w1 ⟨xn,rfl,⟨vn,rfl,An,cn,rfl,q1,q2,q3⟩,y1⟩;have Y1:=Lib.hid y1;have Q3:=Lib.hid q3;clear e0 b0 b1 y1 q3;go_wp2_with fail;refine (kaq 1 _ (by omega)).mono ?_;rintro e w2 ⟨v2,rfl,⟨A2,c2,rfl,p1,p2,p3⟩,y2⟩;obtain ⟨r0,r1,r2,f0,f1,f2⟩:=HR.out w2 (Y1.out.trans y2);have HF:=Lib.hid (qaf (q:=(z:Rat)) (g:=w.heap.size+1) (HX0.out.trans (Y1.out.trans y2)) (by omega) r0 r1 r2 rfl rfl rfl ⟨_,_,rfl,⟨An,cn,rfl,q1,q2,Q3.out.ext y2⟩,⟨A2,c2,rfl,p1,p2,p3⟩⟩);clear y2 p3;go_wp2_with fail;exact bodyPost_ret (v:=.agg #[.bool (decide (z < 0)),.slice An (dg z.natAbs).length cn,.slice A2 (dg 1).length c2]) (by simp [results,Tryz.results36,go_sem,r0,r1,r2]) rfl HF.out
theorem xbk (z:Int) (w:World) (h0:-9223372036854775808<=z) (h1:z<=9223372036854775807):Calls Tryz.prog 43 #[.int .i64 z] w (jae (z:Rat) w):=by
 go_enter Tryz.func43,Tryz.ntmps43;go_wp2_with fail;generalize hW:w.alloc (Obj.cells #[.bool false,.slice none 0 0,.slice none 0 0] 59)=W;have HX0:Hid (Ext w W):=by
  have:Ext w W:=by rw [<- hW]; exact (Ext.refl w).alloc _
  exact this
 have HWS:Hid (W.heap.size=w.heap.size+1):=by
  have:W.heap.size=w.heap.size+1:=by rw [<- hW]; simp
  exact this
 have HS:Hid (∀ W',Ext W W'->(Ext w W')):=by
  intro W' hx;obtain ⟨hc,hf⟩:=hx.cells;have hsz:=HWS.out;exact HX0.out.trans hx
 have HR:Hid (∀ W',Ext W W'->(W'.cell? ⟨w.heap.size,0,none⟩=some (.bool false)/\W'.cell? ⟨w.heap.size,1,none⟩=some (.slice none 0 0)/\W'.cell? ⟨w.heap.size,2,none⟩=some (.slice none 0 0)/\W'.frozen? ⟨w.heap.size,0,none⟩=false/\W'.frozen? ⟨w.heap.size,1,none⟩=false/\W'.frozen? ⟨w.heap.size,2,none⟩=false)):=by
  intro W' hx;obtain ⟨hc,hf⟩:=hx.cells;have hsz:=HWS.out;refine ⟨?_,?_,?_,?_,?_,?_⟩ <;> first | (rw [hc _ _ (by omega),<- hW]; simp [go_sem]; done) | (rw [hf _ _ (by omega),<- hW]; simp [go_sem]; done)
 clear hW;refine (of_int z _ h0 h1).mono ?_;rintro e w1 ⟨xn,rfl,nn,y1⟩;have hl:(dg z.natAbs).length<=2:=zh (by (have h6:B32 ^ 2=18446744073709551616:=by decide); omega);have Y1:=Lib.hid y1;have NN:=Lib.hid nn;clear y1 nn;go_wp2_with fail;refine (qa6 _ z _ _ NN.out.raw (by omega)).mono ?_;rintro e w2 ⟨x2,rfl,m2,y2⟩;obtain ⟨bz,Az,nz,cz,Bz,mz,dz,rfl⟩:=m2.unpack;obtain ⟨r0,r1,r2,f0,f1,f2⟩:=HR.out w2 (Y1.out.trans y2);have HF:=Lib.hid (qaf (g:=w.heap.size) (HX0.out.trans (Y1.out.trans y2)) (by omega) r0 r1 r2 rfl rfl rfl m2);clear y2 m2;go_wp2_with fail;exact bodyPost_ret (v:=.agg #[.bool bz,.slice Az nz cz,.slice Bz mz dz]) (by simp [results,Tryz.results43,go_sem,r0,r1,r2]) rfl HF.out
def ya1 (p q:Rat):Int:=if p < q then -1 else if q < p then 1 else 0
theorem qcg {n1 n2:Int} {d1 d2:Nat} (h1:0 < d1) (h2:0 < d2):mkRat n1 d1<=mkRat n2 d2 ↔ n1 * d2<=n2 * d1:=by
 rw [Rat.le_iff_sub_nonneg,Rat.sub_eq_add_neg,Rat.neg_mkRat,Rat.mkRat_add_mkRat _ _ (by omega) (by omega),Int.neg_mul,<- Int.sub_eq_add_neg,<- Rat.divInt_ofNat];rw [Rat.divInt_nonneg_iff_of_pos_right (Int.natCast_pos.2 (Nat.mul_pos h2 h1))];omega
theorem kbk {n1 n2:Int} {d1 d2:Nat} (h1:0 < d1) (h2:0 < d2):mkRat n1 d1 < mkRat n2 d2 ↔ n1 * d2 < n2 * d1:=by
 rw [<- Rat.not_le,qcg h2 h1];omega
theorem vbz {n1 n2:Int} {d1 d2:Nat} (h1:0 < d1) (h2:0 < d2):xw (n1 * d2) (n2 * d1)=ya1 (mkRat n1 d1) (mkRat n2 d2):=by
 unfold xw ya1;simp only [kbk h1 h2,kbk h2 h1]
end Go.Proofs.YtheefiaoimbeiaaGreatDoor

/- Layer 40: evaluate.first, covers: values of names. -/
namespace Go.Proofs.YtheefiaoimbeiaaGreatDoor
open Go.RowKit
def qaj (l:List (ByteArray × Rat)) (s:ByteArray):Option Rat:=match l with
 | []=>none
 | (k,q) :: r=>if s=k then some q else qaj r s
theorem wbc (l:List (ByteArray × Rat)) (k s:ByteArray) (q:Rat):qaj (l ++ [(k,q)]) s=(qaj l s).or (if s=k then some q else none):=by
 induction l with
 | nil=>simp [qaj]
 | cons x r ih =>
   obtain ⟨k',q'⟩:=x;simp only [List.cons_append,qaj]
   by_cases h:s=k'
   · simp [h]
   · simp [h,ih]
def ww (g:ByteArray->Option Rat) (l:List ByteArray):Bool:=l.all fun s=>(g s).isSome
end Go.Proofs.YtheefiaoimbeiaaGreatDoor

/- Matrices: what holds of every polynomial in them. -/
namespace Go.Proofs.YtheefiaoimbeiaaGreatDoor
open Go.RowKit
end Go.Proofs.YtheefiaoimbeiaaGreatDoor

/- Layer 40: Holds, and the reference's Holds. -/
namespace Go.Proofs.YtheefiaoimbeiaaGreatDoor
open Go.RowKit
def jac (r s:Int):Bool:=if r=1 then decide (s < 0) else if r=2 then decide (s<=0) else if r=4 then s != 0 else if r=5 then decide (0<=s) else if r=6 then decide (0 < s) else s == 0
end Go.Proofs.YtheefiaoimbeiaaGreatDoor

/- Relations of atoms. -/
namespace Go.Proofs.YtheefiaoimbeiaaGreatDoor
end Go.Proofs.YtheefiaoimbeiaaGreatDoor

/- Layer 3: rational.Sub, rational.Cmp. -/
namespace Go.Proofs.YtheefiaoimbeiaaGreatDoor
open Go.RowKit
end Go.Proofs.YtheefiaoimbeiaaGreatDoor

/- Layer 3: rational.Normal, Neg, Cmp. -/
namespace Go.Proofs.YtheefiaoimbeiaaGreatDoor
open Go.RowKit
end Go.Proofs.YtheefiaoimbeiaaGreatDoor

/- Short lists. -/
namespace Go.Proofs.YtheefiaoimbeiaaGreatDoor
open Go.RowKit
theorem len0 {α:Type} {l:List α} (h:l.length=0):l=[]:=List.eq_nil_of_length_eq_zero h
theorem len1 {α:Type} {l:List α} (h:l.length=1):∃ x,l=[x]:=by
 cases l with
 | nil=>simp at h
 | cons x r=>exact ⟨x,by rw [len0 (l:=r) (by simpa using h)]⟩
theorem qbb {α:Type} {l:List α} (h:l.length=2):∃ x y,l=[x,y]:=by
 cases l with
 | nil=>simp at h
 | cons x r =>
   obtain ⟨y,rfl⟩:=len1 (l:=r) (by simpa using h);exact ⟨x,y,rfl⟩
end Go.Proofs.YtheefiaoimbeiaaGreatDoor

/- The nine cells of a tree's box. -/
namespace Go.Proofs.YtheefiaoimbeiaaGreatDoor
open Go.RowKit
def yai (w:World) (g:Nat) (d:Nd) (s A:Value):Prop:=
 w.cell? ⟨g,0,none⟩=some (.int .i64 d.kind)/\w.cell? ⟨g,1,none⟩=some (.bool d.neg)/\w.cell? ⟨g,2,none⟩=some s/\w.cell? ⟨g,3,none⟩=some (.string d.name)/\w.cell? ⟨g,4,none⟩=some (.int .i64 d.exp)/\w.cell? ⟨g,5,none⟩=some (.int .i64 d.rel)/\w.cell? ⟨g,6,none⟩=some (.bool d.truth)/\w.cell? ⟨g,7,none⟩=some (.bool d.all)/\w.cell? ⟨g,8,none⟩=some A
theorem yai.ext {w w':World} {g:Nat} {d:Nd} {s A:Value} (h:yai w g d s A) (hx:Ext w w') (hg:g < w.heap.size):yai w' g d s A:=by
 obtain ⟨h0,h1,h2,h3,h4,h5,h6,h7,h8⟩:=h;have k:∀ i,w'.cell? ⟨g,i,none⟩=w.cell? ⟨g,i,none⟩:=fun i=>hx.cell (p:=⟨g,i,none⟩) hg
 exact ⟨(k _).trans h0,(k _).trans h1,(k _).trans h2,(k _).trans h3,(k _).trans h4,(k _).trans h5,(k _).trans h6,(k _).trans h7,(k _).trans h8⟩
theorem yai.new (w:World) (d:Nd) (s A:Value) (T:TypeId):yai (w.alloc (.cells #[.int .i64 d.kind,.bool d.neg,s,.string d.name,.int .i64 d.exp,.int .i64 d.rel,.bool d.truth,.bool d.all,A] T)) w.heap.size d s A:=by
 refine ⟨?_,?_,?_,?_,?_,?_,?_,?_,?_⟩ <;> simp [go_sem]
end Go.Proofs.YtheefiaoimbeiaaGreatDoor

/- Reference 34: room: how many trees a tree has in it, up to a limit. -/
set_option maxRecDepth 100000
set_option maxHeartbeats 8000000
namespace Go.Proofs.YtheefiaoimbeiaaGreatDoor
open Go.RowKit
mutual
def Tr.room : Tr -> Int -> Nat -> Int
 | .mk _ ks,n,deep=>match deep with
   | 0=>-1
   | d+1=>xu ks (n - 1) d
def xu : List Tr -> Int -> Nat -> Int
 | [],n,_=>n
 | t :: r,n,d=>if n < 0 then -1 else xu r (t.room n d) d
end
mutual
theorem Tr.room_bd : ∀ (t : Tr) (n : Int) (d : Nat), 0 <= n -> -1 <= t.room n d /\ t.room n d <= n
 | .mk _ ks,n,deep,h=>by
   cases deep with
   | zero=>simp only [Tr.room]; omega
   | succ d=>simp only [Tr.room]; have:=zax ks (n - 1) d (by omega); omega
theorem zax : ∀ (l : List Tr) (n : Int) (d : Nat), -1 <= n -> -1 <= xu l n d /\ xu l n d <= n
 | [],n,d,h=>by simp only [xu]; omega
 | t :: r,n,d,h=>by
   simp only [xu]
   split
   · omega
   · have h1:=Tr.room_bd t n d (by omega);have h2:=zax r (t.room n d) d h1.1;omega
end
theorem kbd (l:List Tr) (d:Nat):xu l (-1) d=-1:=by cases l <;> simp [xu]
theorem vaz (l r:List Tr) (n:Int) (d:Nat) (hn:-1<=n):xu (l ++ r) n d=xu r (xu l n d) d:=by
 induction l generalizing n with
 | nil=>simp [xu]
 | cons t l ih =>
   simp only [List.cons_append,xu]
   split
   · rw [kbd]
   · exact ih _ (Tr.room_bd t n d (by omega)).1
theorem ubv (l:List Tr) (k:Nat) (hk:k < l.length) (n:Int) (d:Nat) (hn:-1<=n):xu (l.take (k+1)) n d=if xu (l.take k) n d < 0 then -1 else (l[k]).room (xu (l.take k) n d) d:=by
 rw [List.take_succ_eq_append_getElem hk,vaz _ _ _ _ hn];simp [xu]
theorem ub3 (l:List Tr) (k:Nat) (n:Int) (d:Nat) (hn:-1<=n) (hk:k < l.length) (h:xu (l.take k) n d < 0):xu l n d=-1:=by
 have h1:l=l.take k ++ l.drop k:=(List.take_append_drop k l).symm;have hb:=(zax (l.take k) n d hn).1;have h2:xu (l.take k) n d=-1:=by omega
 rw [h1,vaz _ _ _ _ hn,h2,kbd]
mutual
def Tr.sz : Tr -> Nat
 | .mk _ ks=>qw ks+1
def qw : List Tr -> Nat
 | []=>0
 | t :: r=>t.sz+qw r
end
mutual
theorem Tr.room_sz : ∀ (t : Tr) (n : Int) (d : Nat), 0 <= n -> 0 <= t.room n d -> t.room n d = n - t.sz
 | .mk _ ks,n,deep,h,h'=>by
   cases deep with
   | zero=>simp only [Tr.room] at h'; omega
   | succ d =>
     simp only [Tr.room,Tr.sz] at h' ⊢;have:=xbj ks (n - 1) d (by omega) h';omega
theorem xbj : ∀ (l : List Tr) (n : Int) (d : Nat), -1 <= n -> 0 <= xu l n d -> xu l n d = n - qw l
 | [],n,d,h,h'=>by simp only [xu,qw]; omega
 | t :: r,n,d,h,h'=>by
   simp only [xu] at h' ⊢
   split at h'
   · omega
   · rename_i hn;rw [if_neg hn];have hb:=Tr.room_bd t n d (by omega);have h2:=xbj r (t.room n d) d hb.1 h';have hb2:=zax r (t.room n d) d hb.1;have h1:=Tr.room_sz t n d (by omega) (by omega);simp only [qw];omega
end
theorem Tr.room_le (t:Tr) (n d:Nat) (h:0<=t.room n d):t.sz<=n:=by
 have h1:=Tr.room_sz t n d (by omega) h;omega
theorem xcn {p:Nat->Prop} (dd:Nat):∀ (t:Tr) (v:Value) (w:World) (n:Int) (deep:Nat),deep < dd->TrV w p t v->0<=n->n<=1000000->deep<=1000000 ->
 Calls Tryz.prog 87 #[v,.int .i64 n,.int .i64 deep] w (qp (t.room n deep) w):=by
 induction dd with
 | zero=>intro t v w n deep h; omega
 | succ dd ih =>
 intro t v w n deep hdd h hn hn' hd';have IH:=Lib.hid ih;obtain ⟨A0,n0,c0,A,c,rfl,-,hl1,hl2,h4⟩:=h.open_;have H4:=Lib.hid h4;clear h4 ih h;unfold ndV;cases deep with
 | zero =>
   obtain ⟨d,ks⟩:=t;show Calls _ _ _ _ (qp (-1) w);go_enter Tryz.func87,Tryz.ntmps87;go_wp2_with fail;go_ret;exact ⟨rfl,(Ext.refl w).alloc _⟩
 | succ deep =>
   have hde:(((deep+1:Nat):Int) == 0)=false:=by simp; omega
   have HR:Hid (t.room n (deep+1)=xu t.ks (n - 1) deep):=by
    have:t.room n (deep+1)=xu t.ks (n - 1) deep:=by cases t; rfl
    exact this
   obtain ⟨dI,hdI⟩:∃ dI:Int,((deep+1:Nat):Int)=dI:=⟨_,rfl⟩;rw [hdI] at hde ⊢;have hdI1:1<=dI:=by omega
   have hdI2:dI<=1000000:=by omega
   have HDI:Hid (dI - 1=(deep:Int)):=by
    have:dI - 1=(deep:Int):=by omega
    exact this
   clear hdI;obtain ⟨W,hW⟩:=n_m (w.alloc (.cells #[.int .i64 t.d.kind,.bool t.d.neg,.slice A0 n0 c0,.string t.d.name,.int .i64 t.d.exp,.int .i64 t.d.rel,.bool t.d.truth,.bool t.d.all,.slice A t.ks.length c] 29));have hWx:Ext w W:=by rw [<- hW]; exact (Ext.refl w).alloc _
   have hWs:w.heap.size < W.heap.size:=by rw [<- hW]; simp
   have d8:W.cell? ⟨w.heap.size,8,none⟩=some (.slice A t.ks.length c):=by rw [<- hW]; simp [go_sem]
   have HWX:=Lib.hid hWx;have D8:=Lib.hid d8;clear hWx;go_enter Tryz.func87,Tryz.ntmps87;go_wp2_with fail;clear hW d8
   go_loopw [1,15] (fun nv iv wr=>∃ (k:Nat) (m:Int),k<=t.ks.length/\iv=.int .i64 k/\nv=.int .i64 m/\-1<=m/\m<=1000000/\Hid (xu (t.ks.take k) (n - 1) deep=m/\Ext W wr)) (fun _ iv _=>t.ks.length - (intOf iv).toNat)
   case atStart=>exact ⟨0,n - 1,Nat.zero_le _,rfl,rfl,by omega,by omega,⟨by simp [xu],Ext.refl W⟩⟩
   case round =>
    obtain ⟨k,m,hk,rfl,rfl,hm1,hm2,⟨hm,hxw⟩⟩:=hrel;have HM:=Lib.hid hm;have HXW:=Lib.hid hxw;have d8:wr.cell? ⟨w.heap.size,8,none⟩=some (.slice A t.ks.length c):=(hxw.cell (p:=⟨w.heap.size,8,none⟩) hWs).trans D8.out
    by_cases hlt:k < t.ks.length
    · by_cases hneg:m < 0
      · have HF:Hid (xu t.ks (n - 1) deep=-1):=by
         have:xu t.ks (n - 1) deep=-1:=ub3 t.ks k (n - 1) deep (by omega) hlt (by omega);exact this
        clear hm hxw;go_wp2_with fail;go_ret;exact ⟨by rw [HR.out,HF.out]; rfl,HWX.out.trans HXW.out⟩
      · obtain ⟨ad,B0,m0,d0,B1,m1,d1,rfl,hadb,⟨e0,e1,e2,e3,e4,e5,e6,e7,e8⟩,hkt⟩:=ug.kid (ug.ext H4.out (HWX.out.trans hxw)) k hlt;have HKT:=Lib.hid hkt;have HSTEP:Hid (xu (t.ks.take (k+1)) (n - 1) deep=(t.ks[k]).room m deep):=by
         have:xu (t.ks.take (k+1)) (n - 1) deep=(t.ks[k]).room m deep:=by rw [ubv _ _ hlt _ _ (by omega),hm,if_neg hneg]
         exact this
        clear hkt hm hxw hadb;have hm0:decide (m < 0)=false:=by simpa using hneg
        go_wp2_with fail;rw [HDI.out];have hbd:=Tr.room_bd (t.ks[k]) m deep (by omega);refine (IH.out (t.ks[k]) _ wr m deep (by omega) HKT.out (by omega) (by omega) (by omega)).mono ?_;rintro e w2 ⟨rfl,x2⟩;have X2:=Lib.hid x2;clear x2 e0 e1 e2 e3 e4 e5 e6 e7 e8 d8;generalize hrm:(t.ks[k]).room m deep=m2 at *;have HRM:=Lib.hid hrm;clear hrm;go_wp2_with fail
        go_roundw
        case rel=>exact ⟨k+1,m2,by omega,by go_num,rfl,by omega,by omega,⟨HSTEP.out,HXW.out.trans X2.out⟩⟩
        case measure=>simp [intOf]; omega
    · have hke:k=t.ks.length:=by omega
      have HF:Hid (xu t.ks (n - 1) deep=m):=by
       rw [hke,List.take_length] at hm;exact hm
      clear hm hxw hke;go_wp2_with fail;go_ret;exact ⟨by rw [HR.out,HF.out]; rfl,HWX.out.trans HXW.out⟩
theorem zcc {p:Nat->Prop} (t:Tr) (v:Value) (w:World) (n:Int) (deep:Nat) (h:TrV w p t v) (hn:0<=n) (hn':n<=1000000) (hd:deep<=1000000) :
 Calls Tryz.prog 87 #[v,.int .i64 n,.int .i64 deep] w (qp (t.room n deep) w):=xcn (deep+1) t v w n deep (Nat.lt_succ_self _) h hn hn' hd
end Go.Proofs.YtheefiaoimbeiaaGreatDoor

/- Reference 34: kids, isTerm, Is. -/
set_option maxRecDepth 100000
set_option maxHeartbeats 8000000
namespace Go.Proofs.YtheefiaoimbeiaaGreatDoor
open Go.RowKit
def xab (k:Int):Int:=if k=1 then 0 else if k=2 then 0 else if k=3 then 2 else if k=4 then 2 else if k=5 then 2 else if k=6 then 1 else if k=7 then 1 else if k=8 then 0 else if k=9 then 2 else if k=10 then 1 else if k=11 then 2 else if k=12 then 2 else if k=13 then 2 else if k=14 then 2 else if k=15 then 1 else -1
def uag (k:Int):Bool:=k == 1 || k == 2 || k == 8 || k == 6 || k == 7 || k == 3 || k == 4 || k == 5 || k == 9
def gad (k:Int):Bool:=decide (1<=k) && decide (k<=7)
theorem qcz (w:World):Calls Tryz.prog 57 #[.int .i64 1] w fun e w'=>e=.returned (.tuple #[.int .i64 0,.bool true])/\w=w':=by
 go_enter Tryz.func57,Tryz.ntmps57;go_wp2_with fail
 go_ret2
 exact ⟨rfl,rfl⟩
theorem xcz (w:World):Calls Tryz.prog 57 #[.int .i64 2] w fun e w'=>e=.returned (.tuple #[.int .i64 0,.bool true])/\w=w':=by
 go_enter Tryz.func57,Tryz.ntmps57;go_wp2_with fail
 go_ret2
 exact ⟨rfl,rfl⟩
theorem ycz (w:World):Calls Tryz.prog 57 #[.int .i64 3] w fun e w'=>e=.returned (.tuple #[.int .i64 2,.bool true])/\w=w':=by
 go_enter Tryz.func57,Tryz.ntmps57;go_wp2_with fail
 go_ret2
 exact ⟨rfl,rfl⟩
theorem zcz (w:World):Calls Tryz.prog 57 #[.int .i64 4] w fun e w'=>e=.returned (.tuple #[.int .i64 2,.bool true])/\w=w':=by
 go_enter Tryz.func57,Tryz.ntmps57;go_wp2_with fail
 go_ret2
 exact ⟨rfl,rfl⟩
theorem wcy (w:World):Calls Tryz.prog 57 #[.int .i64 5] w fun e w'=>e=.returned (.tuple #[.int .i64 2,.bool true])/\w=w':=by
 go_enter Tryz.func57,Tryz.ntmps57;go_wp2_with fail
 go_ret2
 exact ⟨rfl,rfl⟩
theorem gcy (w:World):Calls Tryz.prog 57 #[.int .i64 6] w fun e w'=>e=.returned (.tuple #[.int .i64 1,.bool true])/\w=w':=by
 go_enter Tryz.func57,Tryz.ntmps57;go_wp2_with fail
 go_ret2
 exact ⟨rfl,rfl⟩
theorem ucy (w:World):Calls Tryz.prog 57 #[.int .i64 7] w fun e w'=>e=.returned (.tuple #[.int .i64 1,.bool true])/\w=w':=by
 go_enter Tryz.func57,Tryz.ntmps57;go_wp2_with fail
 go_ret2
 exact ⟨rfl,rfl⟩
theorem vcy (w:World):Calls Tryz.prog 57 #[.int .i64 8] w fun e w'=>e=.returned (.tuple #[.int .i64 0,.bool true])/\w=w':=by
 go_enter Tryz.func57,Tryz.ntmps57;go_wp2_with fail
 go_ret2
 exact ⟨rfl,rfl⟩
theorem kcy (w:World):Calls Tryz.prog 57 #[.int .i64 9] w fun e w'=>e=.returned (.tuple #[.int .i64 2,.bool true])/\w=w':=by
 go_enter Tryz.func57,Tryz.ntmps57;go_wp2_with fail
 go_ret2
 exact ⟨rfl,rfl⟩
theorem ycr (w:World):Calls Tryz.prog 57 #[.int .i64 10] w fun e w'=>e=.returned (.tuple #[.int .i64 1,.bool false])/\w=w':=by
 go_enter Tryz.func57,Tryz.ntmps57;go_wp2_with fail
 go_ret2
 exact ⟨rfl,rfl⟩
theorem zcr (w:World):Calls Tryz.prog 57 #[.int .i64 11] w fun e w'=>e=.returned (.tuple #[.int .i64 2,.bool false])/\w=w':=by
 go_enter Tryz.func57,Tryz.ntmps57;go_wp2_with fail
 go_ret2
 exact ⟨rfl,rfl⟩
theorem wcq (w:World):Calls Tryz.prog 57 #[.int .i64 12] w fun e w'=>e=.returned (.tuple #[.int .i64 2,.bool false])/\w=w':=by
 go_enter Tryz.func57,Tryz.ntmps57;go_wp2_with fail
 go_ret2
 exact ⟨rfl,rfl⟩
theorem gcq (w:World):Calls Tryz.prog 57 #[.int .i64 13] w fun e w'=>e=.returned (.tuple #[.int .i64 2,.bool false])/\w=w':=by
 go_enter Tryz.func57,Tryz.ntmps57;go_wp2_with fail
 go_ret2
 exact ⟨rfl,rfl⟩
theorem ucq (w:World):Calls Tryz.prog 57 #[.int .i64 14] w fun e w'=>e=.returned (.tuple #[.int .i64 2,.bool false])/\w=w':=by
 go_enter Tryz.func57,Tryz.ntmps57;go_wp2_with fail
 go_ret2
 exact ⟨rfl,rfl⟩
theorem vcq (w:World):Calls Tryz.prog 57 #[.int .i64 15] w fun e w'=>e=.returned (.tuple #[.int .i64 1,.bool false])/\w=w':=by
 go_enter Tryz.func57,Tryz.ntmps57;go_wp2_with fail
 go_ret2
 exact ⟨rfl,rfl⟩
theorem kcq (k:Int) (w:World) (h1:¬ k=1) (h2:¬ k=2) (h3:¬ k=3) (h4:¬ k=4) (h5:¬ k=5) (h6:¬ k=6) (h7:¬ k=7) (h8:¬ k=8) (h9:¬ k=9) (h10:¬ k=10) (h11:¬ k=11) (h12:¬ k=12) (h13:¬ k=13) (h14:¬ k=14) (h15:¬ k=15):Calls Tryz.prog 57 #[.int .i64 k] w fun e w'=>e=.returned (.tuple #[.int .i64 (-1),.bool false])/\w=w':=by
 have b1:(k == 1)=false:=by simpa using h1
 have b2:(k == 2)=false:=by simpa using h2
 have b3:(k == 3)=false:=by simpa using h3
 have b4:(k == 4)=false:=by simpa using h4
 have b5:(k == 5)=false:=by simpa using h5
 have b6:(k == 6)=false:=by simpa using h6
 have b7:(k == 7)=false:=by simpa using h7
 have b8:(k == 8)=false:=by simpa using h8
 have b9:(k == 9)=false:=by simpa using h9
 have b10:(k == 10)=false:=by simpa using h10
 have b11:(k == 11)=false:=by simpa using h11
 have b12:(k == 12)=false:=by simpa using h12
 have b13:(k == 13)=false:=by simpa using h13
 have b14:(k == 14)=false:=by simpa using h14
 have b15:(k == 15)=false:=by simpa using h15
 clear h1 h2 h3 h4 h5 h6 h7 h8 h9 h10 h11 h12 h13 h14 h15;go_enter Tryz.func57,Tryz.ntmps57;go_wp2_with fail
 go_ret2
 exact ⟨rfl,rfl⟩
theorem zch (k:Int) (w:World):Calls Tryz.prog 57 #[.int .i64 k] w fun e w'=>e=.returned (.tuple #[.int .i64 (xab k),.bool (uag k)])/\w=w':=by
 by_cases h1:k=1
 · subst h1; exact qcz w
 by_cases h2:k=2
 · subst h2; exact xcz w
 by_cases h3:k=3
 · subst h3; exact ycz w
 by_cases h4:k=4
 · subst h4; exact zcz w
 by_cases h5:k=5
 · subst h5; exact wcy w
 by_cases h6:k=6
 · subst h6; exact gcy w
 by_cases h7:k=7
 · subst h7; exact ucy w
 by_cases h8:k=8
 · subst h8; exact vcy w
 by_cases h9:k=9
 · subst h9; exact kcy w
 by_cases h10:k=10
 · subst h10; exact ycr w
 by_cases h11:k=11
 · subst h11; exact zcr w
 by_cases h12:k=12
 · subst h12; exact wcq w
 by_cases h13:k=13
 · subst h13; exact gcq w
 by_cases h14:k=14
 · subst h14; exact ucq w
 by_cases h15:k=15
 · subst h15; exact vcq w
 have hn:xab k=-1:=by simp [xab,h1,h2,h3,h4,h5,h6,h7,h8,h9,h10,h11,h12,h13,h14,h15]
 have ht:uag k=false:=by simp [uag,h1,h2,h3,h4,h5,h6,h7,h8,h9,h10,h11,h12,h13,h14,h15]
 rw [hn,ht];exact kcq k w h1 h2 h3 h4 h5 h6 h7 h8 h9 h10 h11 h12 h13 h14 h15
theorem xcr (k:Int):-1<=xab k/\xab k<=2:=by
 unfold xab
 repeat' split
 all_goals omega
theorem zay (k:Int) (w:World):Calls Tryz.prog 58 #[.int .i64 k] w fun e w'=>e=.returned (.bool (gad k))/\w=w':=by
 by_cases h1:1<=k
 · have hv:gad k=decide (k<=7):=by simp [gad,h1]
   rw [hv];have hd:decide (1<=k)=true:=by simpa using h1
   clear hv;go_enter Tryz.func58,Tryz.ntmps58;go_wp2_with fail;go_ret;exact ⟨rfl,rfl⟩
 · have hv:gad k=false:=by simp [gad,h1]
   rw [hv];have hd:decide (1<=k)=false:=by simpa using h1
   clear hv;go_enter Tryz.func58,Tryz.ntmps58;go_wp2_with fail;go_ret;exact ⟨rfl,rfl⟩
def Nd.inRange (d:Nd):Bool:=if d.kind=7 then decide (0<=d.exp) else if d.kind=9 then decide (1<=d.rel) && decide (d.rel<=6) else true
mutual
def Tr.is : Tr -> Bool -> Bool
 | .mk d ks,term=>(xab d.kind == ks.length) && (gad d.kind == term) && d.inRange && isL ks (uag d.kind)
def isL : List Tr -> Bool -> Bool
 | [],_=>true
 | t :: r,b=>t.is b && isL r b
end
theorem ja8 (l r:List Tr) (b:Bool):isL (l ++ r) b=(isL l b && isL r b):=by
 induction l with
 | nil=>simp [isL]
 | cons t l ih=>simp [isL,ih,Bool.and_assoc]
theorem jch (l:List Tr) (k:Nat) (hk:k < l.length) (b:Bool):isL (l.take (k+1)) b=(isL (l.take k) b && (l[k]).is b):=by
 rw [List.take_succ_eq_append_getElem hk,ja8]; simp [isL]
theorem kcr (l:List Tr) (k:Nat) (hk:k < l.length) (b:Bool) (h:(l[k]).is b=false):isL l b=false:=by
 have h1:l=l.take k ++ l.drop k:=(List.take_append_drop k l).symm;rw [h1,ja8,List.drop_eq_getElem_cons hk];simp [isL,h]
theorem jb1 (l:List Tr) (k:Nat) (hk:k < l.length):(l[k]).sz<=qw l:=by
 induction l generalizing k with
 | nil=>simp at hk
 | cons t l ih =>
   cases k with
   | zero=>simp [qw]
   | succ k=>simp only [List.getElem_cons_succ,qw]; have:=ih k (by simpa using hk); omega
theorem Tr.kid_sz (t:Tr) (k:Nat) (hk:k < t.ks.length):(t.ks[k]).sz < t.sz:=by
 obtain ⟨d,ks⟩:=t;have:=jb1 ks k hk;show (ks[k]).sz < qw ks+1;omega
theorem gc1 {p:Nat->Prop} (m:Nat):∀ (t:Tr) (v:Value) (w:World) (term:Bool),t.sz < m->TrV w p t v->Calls Tryz.prog 20 #[v,.bool term] w (kad (t.is term) w):=by
 induction m with
 | zero=>intro t v w term h; omega
 | succ m ih =>
 intro t v w term hm h;have IH:=Lib.hid ih;obtain ⟨A0,n0,c0,A,c,rfl,-,hl1,hl2,h4⟩:=h.open_;have HSZ:=Lib.hid (fun k hk=>t.kid_sz k hk);clear h ih;obtain ⟨⟨kind,neg,ds,name,exp,rel,truth,all⟩,ks⟩:=t
 change ug w p ks A 0 at h4
 have H4:=Lib.hid h4;clear h4;unfold ndV;simp only [Tr.d,Tr.ks] at hl1 hl2 HSZ ⊢;have hlen:ks.length<=9223372036854775807:=by omega
 obtain ⟨W,hW⟩:=n_m (w.alloc (.cells #[.int .i64 kind,.bool neg,.slice A0 n0 c0,.string name,.int .i64 exp,.int .i64 rel,.bool truth,.bool all,.slice A ks.length c] 29));have hWx:Ext w W:=by rw [<- hW]; exact (Ext.refl w).alloc _
 have hWs:w.heap.size < W.heap.size:=by rw [<- hW]; simp
 have a0:W.cell? ⟨w.heap.size,0,none⟩=some (.int .i64 kind):=by rw [<- hW]; simp [go_sem]
 have a4:W.cell? ⟨w.heap.size,4,none⟩=some (.int .i64 exp):=by rw [<- hW]; simp [go_sem]
 have a5:W.cell? ⟨w.heap.size,5,none⟩=some (.int .i64 rel):=by rw [<- hW]; simp [go_sem]
 have a8:W.cell? ⟨w.heap.size,8,none⟩=some (.slice A ks.length c):=by rw [<- hW]; simp [go_sem]
 have HWX:=Lib.hid hWx;have A8:=Lib.hid a8;have hkb:=xcr kind;have HV:Hid ((Tr.mk ⟨kind,neg,ds,name,exp,rel,truth,all⟩ ks).is term=((xab kind == (ks.length:Int)) && (gad kind == term) && (Nd.inRange ⟨kind,neg,ds,name,exp,rel,truth,all⟩) && isL ks (uag kind))):=by
  have:(Tr.mk ⟨kind,neg,ds,name,exp,rel,truth,all⟩ ks).is term=((xab kind == (ks.length:Int)) && (gad kind == term) && (Nd.inRange ⟨kind,neg,ds,name,exp,rel,truth,all⟩) && isL ks (uag kind)):=by simp only [Tr.is]
  exact this
 clear hWx;generalize (Tr.mk ⟨kind,neg,ds,name,exp,rel,truth,all⟩ ks).is term=res at *;have HK:=Lib.hid (zch kind);have HT:=Lib.hid (zay kind);generalize hkn:xab kind=kn at *;generalize hkt:uag kind=kt at *;generalize htk:gad kind=tk at *;clear hkn hkt htk
 by_cases h1:kn=ks.length
 · have b1:(kn != (ks.length:Int))=false:=by simpa using h1
   have e1:(kn == (ks.length:Int))=true:=by simpa using h1
   by_cases h2:tk=term
   · subst h2;have b2:(!tk == tk)=false:=by simp
     by_cases h3:Nd.inRange ⟨kind,neg,ds,name,exp,rel,truth,all⟩=true
     · have hres:res=isL ks kt:=by rw [HV.out,e1,h3]; simp
       subst hres;clear e1 h1;have hgo:((kind == 7)=true/\decide (exp < 0)=false/\(kind == 9)=false)\/((kind == 7)=false/\(kind == 9)=true/\decide (rel < 1)=false/\decide (6 < rel)=false)\/((kind == 7)=false/\(kind == 9)=false):=by
        unfold Nd.inRange at h3
        by_cases k7:kind=7
        · simp [k7] at h3 ⊢; omega
        · by_cases k9:kind=9
          · simp [k9] at h3 ⊢; omega
          · simp [k7,k9]
       clear h3 HV;rcases hgo with ⟨g7,ge,g9⟩ | ⟨g7,g9,gr1,gr6⟩ | ⟨g7,g9⟩
       all_goals
        go_enter Tryz.func20,Tryz.ntmps20;go_wp2_with fail;refine (HK.out _).mono ?_;rintro e w1 ⟨rfl,rfl⟩;go_wp2_with fail;refine (HT.out _).mono ?_;rintro e w1 ⟨rfl,rfl⟩;go_wp2_with fail;clear hW a0 a4 a5 a8
        go_loopw [52] (fun iv wr=>∃ k:Nat,k<=ks.length/\iv=.int .i64 k/\Hid (isL (ks.take k) kt=true/\Ext W wr)) (fun iv _=>ks.length - (intOf iv).toNat)
        case atStart=>exact ⟨0,Nat.zero_le _,rfl,⟨by simp [isL],Ext.refl W⟩⟩
        case round =>
         obtain ⟨k,hk,rfl,⟨hi,hxw⟩⟩:=hrel;have HI:=Lib.hid hi;have HXW:=Lib.hid hxw;have a8:wr.cell? ⟨w.heap.size,8,none⟩=some (.slice A ks.length c):=(hxw.cell (p:=⟨w.heap.size,8,none⟩) hWs).trans A8.out
         by_cases hlt:k < ks.length
         · obtain ⟨ad,B0,m0,d0,B1,m1,d1,rfl,hadb,⟨e0,e1,e2,e3,e4,e5,e6,e7,e8⟩,hkt⟩:=ug.kid (ug.ext H4.out (HWX.out.trans hxw)) k hlt;have HKT:=Lib.hid hkt;have hsz:=HSZ.out k hlt;have HC:=Lib.hid (IH.out (ks[k]) _ wr kt (by omega) HKT.out);clear hkt hi hxw hadb hsz
           by_cases hb:(ks[k]).is kt=true
           · rw [hb] at HC;have HN:Hid (isL (ks.take (k+1)) kt=true):=by
              have:isL (ks.take (k+1)) kt=true:=by rw [jch _ _ hlt,HI.out,hb]; rfl
              exact this
             clear hb;go_wp2_with fail;refine HC.out.mono ?_;rintro e w2 ⟨rfl,x2⟩;have X2:=Lib.hid x2;clear x2 e0 e1 e2 e3 e4 e5 e6 e7 e8 a8 HC;go_wp2_with fail
             go_roundw
             case rel=>exact ⟨k+1,by omega,by go_num,⟨HN.out,HXW.out.trans X2.out⟩⟩
             case measure=>simp [intOf]; omega
           · have hb':(ks[k]).is kt=false:=by simpa using hb
             rw [hb'] at HC;have HN:=Lib.hid (kcr ks k hlt kt hb');clear hb hb';go_wp2_with fail;refine HC.out.mono ?_;rintro e w2 ⟨rfl,x2⟩;have X2:=Lib.hid x2;clear x2 e0 e1 e2 e3 e4 e5 e6 e7 e8 a8 HC;go_wp2_with fail;go_ret;exact ⟨by rw [HN.out]; rfl,HWX.out.trans (HXW.out.trans X2.out)⟩
         · have hke:k=ks.length:=by omega
           have HN:Hid (isL ks kt=true):=by
            rw [hke,List.take_length] at hi;exact hi
           clear hi hxw hke;go_wp2_with fail;go_ret;exact ⟨by rw [HN.out]; rfl,HWX.out.trans HXW.out⟩
     · have hres:res=false:=by rw [HV.out]; simp [h3]
       subst hres;have hgo:((kind == 7)=true/\decide (exp < 0)=true)\/((kind == 7)=false/\(kind == 9)=true/\decide (rel < 1)=true)\/((kind == 7)=false/\(kind == 9)=true/\decide (rel < 1)=false/\decide (6 < rel)=true):=by
        unfold Nd.inRange at h3
        by_cases k7:kind=7
        · simp [k7] at h3 ⊢; omega
        · by_cases k9:kind=9
          · simp [k9] at h3 ⊢; omega
          · simp [k7,k9] at h3
       clear h3 HV e1 h1;rcases hgo with ⟨g7,ge⟩ | ⟨g7,g9,gr1⟩ | ⟨g7,g9,gr1,gr6⟩
       all_goals
        go_enter Tryz.func20,Tryz.ntmps20;go_wp2_with fail;refine (HK.out _).mono ?_;rintro e w1 ⟨rfl,rfl⟩;go_wp2_with fail;refine (HT.out _).mono ?_;rintro e w1 ⟨rfl,rfl⟩;go_wp2_with fail;go_ret;exact ⟨rfl,HWX.out⟩
   · have hres:res=false:=by rw [HV.out]; simp [h2]
     subst hres;have b2:(!tk == term)=true:=by simpa using h2
     clear HV e1 h1 h2;go_enter Tryz.func20,Tryz.ntmps20;go_wp2_with fail;refine (HK.out _).mono ?_;rintro e w1 ⟨rfl,rfl⟩;go_wp2_with fail;refine (HT.out _).mono ?_;rintro e w1 ⟨rfl,rfl⟩;go_wp2_with fail;go_ret;exact ⟨rfl,HWX.out⟩
 · have hres:res=false:=by rw [HV.out]; simp [h1]
   subst hres;have b1:(kn != (ks.length:Int))=true:=by simpa using h1
   clear HV h1;go_enter Tryz.func20,Tryz.ntmps20;go_wp2_with fail;refine (HK.out _).mono ?_;rintro e w1 ⟨rfl,rfl⟩;go_wp2_with fail;go_ret;exact ⟨rfl,HWX.out⟩
theorem kcz {p:Nat->Prop} (t:Tr) (v:Value) (w:World) (term:Bool) (h:TrV w p t v):Calls Tryz.prog 20 #[v,.bool term] w (kad (t.is term) w):=gc1 (t.sz+1) t v w term (Nat.lt_succ_self _) h
end Go.Proofs.YtheefiaoimbeiaaGreatDoor

/- Reference 34: List: a tree and all trees in it, in one row. -/
set_option maxRecDepth 100000
set_option maxHeartbeats 8000000
namespace Go.Proofs.YtheefiaoimbeiaaGreatDoor
open Go.RowKit
mutual
def Tr.list : Tr -> List Tr
 | .mk d ks=>.mk d ks :: jq ks
def jq : List Tr -> List Tr
 | []=>[]
 | t :: r=>t.list ++ jq r
end
mutual
theorem Tr.list_len : ∀ t : Tr, t.list.length = t.sz
 | .mk d ks=>by simp only [Tr.list,Tr.sz,List.length_cons,ka0 ks]
theorem ka0 : ∀ l : List Tr, (jq l).length = qw l
 | []=>by simp only [jq,qw,List.length_nil]
 | t :: r=>by simp only [jq,qw,List.length_append,Tr.list_len t,ka0 r]
end
theorem wbk (l r:List Tr):jq (l ++ r)=jq l ++ jq r:=by
 induction l with
 | nil=>simp [jq]
 | cons t l ih=>simp [jq,ih]
theorem ubx (l:List Tr) (k:Nat) (hk:k < l.length):jq (l.take (k+1))=jq (l.take k) ++ (l[k]).list:=by
 rw [List.take_succ_eq_append_getElem hk,wbk]; simp [jq]
theorem wbg (l r:List Tr):qw (l ++ r)=qw l+qw r:=by
 induction l with
 | nil=>simp [qw]
 | cons t l ih=>simp [qw,ih]; omega
theorem xbu (l:List Tr) (k:Nat) (hk:k < l.length):qw (l.take k)+(l[k]).sz<=qw l:=by
 have h1:l=l.take k ++ l.drop k:=(List.take_append_drop k l).symm;have h2:qw l=qw (l.take k)+qw (l.drop k):=by rw [<- wbg,List.take_append_drop]
 rw [h2,List.drop_eq_getElem_cons hk];simp only [qw]; omega
theorem Tr.sz_pos (t:Tr):0 < t.sz:=by cases t; simp [Tr.sz]
def xah (r:Tr × Value × Value):List Value:=[.int .i64 r.1.d.kind,.bool r.1.d.neg,r.2.1,.string r.1.d.name,.int .i64 r.1.d.exp,.int .i64 r.1.d.rel,.bool r.1.d.truth,.bool r.1.d.all,r.2.2]
def wah (rs:List (Tr × Value × Value)):List Value:=rs.flatMap xah
theorem jb7 (rs:List (Tr × Value × Value)):(wah rs).length=rs.length * 9:=by
 induction rs with
 | nil=>simp [wah]
 | cons r rs ih=>simp only [wah,List.flatMap_cons,List.length_append,List.length_cons] at *; rw [ih]; simp [xah]; omega
theorem wbl (a b:List (Tr × Value × Value)):wah (a ++ b)=wah a ++ wah b:=by simp [wah]
theorem kb7 (rs:List (Tr × Value × Value)) (k:Nat) (hk:k < rs.length) (j:Nat) (hj:j < 9):(wah rs)[k * 9+j]?=(xah rs[k])[j]?:=by
 induction rs generalizing k with
 | nil=>simp at hk
 | cons r rs ih =>
   have hl:(xah r).length=9:=rfl;simp only [wah,List.flatMap_cons];cases k with
   | zero=>simp only [Nat.zero_mul,Nat.zero_add,List.getElem_cons_zero]; rw [List.getElem?_append_left (by omega)]
   | succ k =>
     rw [List.getElem?_append_right (by omega),hl,show (k+1) * 9+j - 9=k * 9+j by omega];exact ih k (by simpa using hk)
def uy (w:World) (p:Nat->Prop) (base:Nat) (W:World) (v:Value) (l:List Tr):Prop:=
 ∃ rs:List (Tr × Value × Value),rs.map (fun r=>r.1)=l/\W.ownsRow base 29 9 v rs.length (wah rs)/\∀ r ∈ rs,TrV w p r.1 (ndV r.1.d r.2.1 r.2.2)
def qo (base:Nat) (W:World) (u:Value) (n:Nat):Prop:=∃ xs:List Value,W.ownsRow base 3 1 u n xs/\∀ x ∈ xs,∃ z:Int,x=.int .i64 z
theorem ownsRow_base {w:World} {base base' size n:Nat} {e:TypeId} {v:Value} {xs:List Value} (h:w.ownsRow base e size v n xs) (hb:base'<=base):w.ownsRow base' e size v n xs:=by
 obtain ⟨h1,h2⟩:=h;refine ⟨h1,?_⟩;rcases h2 with h2 | ⟨g,cap,cur,e1,e2,e3⟩
 · exact .inl h2
 · exact .inr ⟨g,cap,cur,e1,Nat.le_trans hb e2,e3⟩
section
variable {w W W':World} {p:Nat->Prop} {base base':Nat} {v u:Value} {l:List Tr} {n:Nat}
theorem uy.base_ (h:uy w p base W v l) (hb:base'<=base):uy w p base' W v l:=by
 obtain ⟨rs,h1,h2,h3⟩:=h;exact ⟨rs,h1,ownsRow_base h2 hb,h3⟩
theorem qo.base_ (h:qo base W u n) (hb:base'<=base):qo base' W u n:=by
 obtain ⟨xs,h1,h2⟩:=h;exact ⟨xs,ownsRow_base h1 hb,h2⟩
theorem uy.kept {row:Option Nat} (h:uy w p base W v l) (hg:W.grownBy W' row) (hne:v.ownBlock=none\/v.ownBlock ≠ row):uy w p base W' v l:=by
 obtain ⟨rs,h1,h2,h3⟩:=h;exact ⟨rs,h1,World.ownsRow.kept h2 hg hne,h3⟩
theorem qo.kept {row:Option Nat} (h:qo base W u n) (hg:W.grownBy W' row) (hne:u.ownBlock=none\/u.ownBlock ≠ row):qo base W' u n:=by
 obtain ⟨xs,h1,h2⟩:=h;exact ⟨xs,World.ownsRow.kept h1 hg hne,h2⟩
theorem uy.ext (h:uy w p base W v l) (hx:Ext W W'):uy w p base W' v l:=h.kept (row:=none) hx.grownN (by cases hv:v.ownBlock <;> simp)
theorem qo.ext (h:qo base W u n) (hx:Ext W W'):qo base W' u n:=h.kept (row:=none) hx.grownN (by cases hv:u.ownBlock <;> simp)
theorem uy.lt (h:uy w p base W v l):∀ k,v.ownBlock=some k->base<=k/\k < W.heap.size:=by
 obtain ⟨rs,h1,h2,h3⟩:=h;exact World.ownsRow.lt h2
theorem qo.lt (h:qo base W u n):∀ k,u.ownBlock=some k->base<=k/\k < W.heap.size:=by
 obtain ⟨xs,h1,h2⟩:=h;exact World.ownsRow.lt h1
theorem uy.pos (h:uy w p base W v l) (hl:0 < l.length):∃ g cap,v=.slice (some ⟨g,0,none⟩) l.length cap/\l.length<=cap/\cap<=maxLen:=by
 obtain ⟨rs,rfl,h2,h3⟩:=h;rw [List.length_map] at hl ⊢;rcases h2.2 with ⟨-,e⟩ | ⟨g,cap,cur,e1,-,-,e4,e5,-⟩
 · omega
 · exact ⟨g,cap,e1,e4,e5⟩
theorem qo.pos (h:qo base W u n) (hl:0 < n):∃ g cap,u=.slice (some ⟨g,0,none⟩) n cap/\n<=cap/\cap<=maxLen:=by
 obtain ⟨xs,h2,h3⟩:=h;rcases h2.2 with ⟨-,e⟩ | ⟨g,cap,cur,e1,-,-,e4,e5,-⟩
 · omega
 · exact ⟨g,cap,e1,e4,e5⟩
theorem uy.at_ {g m cap:Nat} (h:uy w p base W (.slice (some ⟨g,0,none⟩) m cap) l) (k:Nat) (hk:k < l.length):∃ A0 n0 c0 A1 n1 c1,zah W ((⟨g,0,none⟩:Addr).add (k * 9)) l[k].d (.slice A0 n0 c0) (.slice A1 n1 c1)/\TrV w p l[k] (ndV l[k].d (.slice A0 n0 c0) (.slice A1 n1 c1)):=by
 obtain ⟨rs,rfl,h2,h3⟩:=h;rw [List.length_map] at hk;have hc:∀ j,j < 9->W.cell? ⟨g,k * 9+j,none⟩=(xah rs[k])[j]?:=by
  intro j hj;have hm:m=rs.length:=by
   rcases h2.2 with ⟨e,-⟩ | ⟨g',cap',cur,e1,-⟩
   · cases e
   · injection e1
  subst hm;rw [World.ownsRow.cellAt h2 (k * 9+j) (by omega)];exact kb7 rs k hk j hj
 have ht:=h3 rs[k] (List.getElem_mem hk);obtain ⟨A0,n0,c0,A1,c1,e2,-,-⟩:=ht.open_;unfold ndV at e2;simp only [Value.agg.injEq,Array.mk.injEq,List.cons.injEq,and_true,true_and] at e2;obtain ⟨e3,e4⟩:=e2;rw [List.getElem_map];rw [e3,e4] at ht;refine ⟨A0,n0,c0,A1,_,c1,?_,ht⟩;rw [yx,Nat.zero_add];refine ⟨hc 0 (by omega),hc 1 (by omega),?_,hc 3 (by omega),hc 4 (by omega),hc 5 (by omega),hc 6 (by omega),hc 7 (by omega),?_⟩
 · rw [<- e3]; exact hc 2 (by omega)
 · rw [<- e4]; exact hc 8 (by omega)
end
theorem uy.one {w W:World} {p:Nat->Prop} {base:Nat} {l:List Tr} {v:Value} (h:uy w p base W v l):∃ rs:List (Tr × Value × Value),rs.map (fun r=>r.1)=l/\W.ownsRow base 29 9 v rs.length (wah rs)/\(∀ r ∈ rs,TrV w p r.1 (ndV r.1.d r.2.1 r.2.2))/\∀ u ∈ wah rs,u.oneCell'=true:=by
 obtain ⟨rs,h1,h2,h3⟩:=h;refine ⟨rs,h1,h2,h3,fun u hu=>?_⟩;unfold wah at hu;obtain ⟨r,hr,hu⟩:=List.mem_flatMap.1 hu;obtain ⟨A0,n0,c0,A1,c1,e2,-,-⟩:=(h3 r hr).open_;unfold ndV at e2;simp only [Value.agg.injEq,Array.mk.injEq,List.cons.injEq,and_true,true_and] at e2;obtain ⟨e3,e4⟩:=e2;unfold xah at hu;rw [e3,e4] at hu;simp only [List.mem_cons,List.not_mem_nil,or_false] at hu;rcases hu with rfl | rfl | rfl | rfl | rfl | rfl | rfl | rfl | rfl <;> rfl
theorem vb6:(Tryz.prog.info? 29).map (fun i=>(i.zero,i.size,i.bytes))=some (some (.agg #[.int .i64 0,.bool false,.slice none 0 0,.string ByteArray.empty,.int .i64 0,.int .i64 0,.bool false,.bool false,.slice none 0 0]),9,104):=by kernel_rfl
theorem wb6:(Tryz.prog.info? 3).map (fun i=>(i.zero,i.size,i.bytes))=some (some (.int .i64 0),1,8):=by kernel_rfl
theorem yat {w W:World} {p:Nat->Prop} {base base':Nat} {v v2:Value} {l l2:List Tr} (h:uy w p base W v l) (h2:uy w p base' W v2 l2) (hl2:0 < l2.length) (hb:base<=W.heap.size) (hlen:l.length+l2.length<=1000000000) (ty:TypeId) :
 ∃ v' w',(Builtin.append_ #[27,27] ty #[v,v2]).run Tryz.prog W=.ok v' w'/\uy w p base w' v' (l ++ l2)/\W.grownBy w' v.ownBlock/\(v'.ownBlock=v.ownBlock\/v'.ownBlock=some W.heap.size):=by
 obtain ⟨i0,hi,hz0,hz1,hz2⟩:=info_parts vb6;obtain ⟨g,cap,rfl,-⟩:=h2.pos hl2;obtain ⟨rs2,rfl,o2,t2,c2⟩:=h2.one;obtain ⟨rs,rfl,o1,t1,-⟩:=h.one;simp only [List.length_map] at hlen hl2 ⊢;obtain ⟨v',w',hrun,r1,r2,-,r3⟩:=run_append_own_at (P:=Tryz.prog) W base 27 ty 29 i0 _ 9 104 Tryz.underlying27 hi hz0 hz1 hz2 rfl (by omega) v rs.length (wah rs) o1 ⟨g,0,none⟩ rs2.length cap (wah rs2) (jb7 _) (fun j u hu=>World.ownsRow.cells o2 rfl j u hu) c2 (by unfold maxLen; omega) (by omega) hb;refine ⟨v',w',hrun,⟨rs ++ rs2,by simp,by rw [wbl,List.length_append]; exact r1,fun r hr=>?_⟩,r2,r3⟩;rcases List.mem_append.1 hr with hr | hr
 · exact t1 r hr
 · exact t2 r hr
theorem gau {W:World} {base base':Nat} {v v2:Value} {n n2:Nat} (h:qo base W v n) (h2:qo base' W v2 n2) (hl2:0 < n2) (hb:base<=W.heap.size) (hlen:n+n2<=1000000000) (ty:TypeId) :
 ∃ v' w',(Builtin.append_ #[81,81] ty #[v,v2]).run Tryz.prog W=.ok v' w'/\qo base w' v' (n+n2)/\W.grownBy w' v.ownBlock/\(v'.ownBlock=v.ownBlock\/v'.ownBlock=some W.heap.size):=by
 obtain ⟨i0,hi,hz0,hz1,hz2⟩:=info_parts wb6;obtain ⟨g,cap,rfl,-⟩:=h2.pos hl2;obtain ⟨xs2,o2,t2⟩:=h2;obtain ⟨xs,o1,t1⟩:=h;obtain ⟨v',w',hrun,r1,r2,-,r3⟩:=run_append_own_at (P:=Tryz.prog) W base 81 ty 3 i0 _ 1 8 Tryz.underlying81 hi hz0 hz1 hz2 rfl (by omega) v n xs o1 ⟨g,0,none⟩ n2 cap xs2 o2.1 (fun j u hu=>World.ownsRow.cells o2 rfl j u hu) (fun u hu=>by obtain ⟨z,rfl⟩:=t2 u hu; rfl) (by unfold maxLen; omega) (by omega) hb;refine ⟨v',w',hrun,⟨xs ++ xs2,r1,fun r hr=>?_⟩,r2,r3⟩;rcases List.mem_append.1 hr with hr | hr
 · exact t1 r hr
 · exact t2 r hr
def jbc (w0:World) (p:Nat->Prop) (l:List Tr) (w:World) (e:Ending) (w':World):Prop:=
 ∃ v u,e=.returned (.tuple #[v,u])/\uy w0 p w.heap.size w' v l/\qo w.heap.size w' u l.length/\v.ownBlock ≠ u.ownBlock/\Ext w w'
theorem jbs {w0:World} {p:Nat->Prop} (m:Nat):∀ (t:Tr) (v:Value) (w:World) (d:Nat),t.sz < m->TrV w0 p t v->Ext w0 w->d+t.sz<=1000000->Calls Tryz.prog 47 #[v,.int .i64 d] w (jbc w0 p t.list w):=by
 induction m with
 | zero=>intro t v w d h; omega
 | succ m ih =>
 intro t v w d hm h hx0 hd;have IH:=Lib.hid ih;have HT:=Lib.hid h;obtain ⟨A0,n0,c0,A,c,rfl,-,hl1,hl2,h4⟩:=h.open_;have HSZ:=Lib.hid (fun k hk=>t.kid_sz k hk);have HX0:=Lib.hid hx0;clear h ih hx0;have htl:t.list=t :: jq t.ks:=by cases t; rfl
 have hts:t.sz=qw t.ks+1:=by cases t; rfl
 rw [htl];clear htl;have H4:=Lib.hid h4;clear h4;unfold ndV;unfold ndV at HT;obtain ⟨W,hW⟩:=n_m (w.alloc (.cells #[.int .i64 t.d.kind,.bool t.d.neg,.slice A0 n0 c0,.string t.d.name,.int .i64 t.d.exp,.int .i64 t.d.rel,.bool t.d.truth,.bool t.d.all,.slice A t.ks.length c] 29));have hWx:Ext w W:=by rw [<- hW]; exact (Ext.refl w).alloc _
 have hWs:W.heap.size=w.heap.size+1:=by rw [<- hW]; simp
 have hbx:yai W w.heap.size t.d (.slice A0 n0 c0) (.slice A t.ks.length c):=by rw [<- hW]; exact yai.new w t.d _ _ _
 obtain ⟨b0,b1,b2,b3,b4,b5,b6,b7,b8⟩:=id hbx;obtain ⟨V,hV⟩:=n_m ((W.alloc (.cells #[.int .i64 t.d.kind,.bool t.d.neg,.slice A0 n0 c0,.string t.d.name,.int .i64 t.d.exp,.int .i64 t.d.rel,.bool t.d.truth,.bool t.d.all,.slice A t.ks.length c] 29)).alloc (.cells #[.int .i64 d] 3));have hVx:Ext W V:=by rw [<- hV]; exact ((Ext.refl W).alloc _).alloc _
 have hVs:V.heap.size=W.heap.size+1+1:=by rw [<- hV]; simp
 have HBX:=Lib.hid hbx;have a8:V.cell? ⟨w.heap.size,8,none⟩=some (.slice A t.ks.length c):=(hVx.cell (p:=⟨w.heap.size,8,none⟩) (by rw [hWs]; exact Nat.lt_succ_self _)).trans b8;have HL:Hid (uy w0 p W.heap.size V (.slice (some ⟨W.heap.size,0,none⟩) 1 1) [t]):=by
  refine ⟨[(t,.slice A0 n0 c0,.slice A t.ks.length c)],rfl,⟨rfl,.inr ⟨W.heap.size,1,#[.int .i64 t.d.kind,.bool t.d.neg,.slice A0 n0 c0,.string t.d.name,.int .i64 t.d.exp,.int .i64 t.d.rel,.bool t.d.truth,.bool t.d.all,.slice A t.ks.length c],rfl,Nat.le_refl _,?_,Nat.le_refl _,by unfold maxLen; omega,rfl,rfl⟩⟩,?_⟩
  · rw [<- hV,Below.heap_alloc _ _ _ (by simp)]; exact heap_alloc_new W _
  · intro r hr;obtain rfl:r=(t,.slice A0 n0 c0,.slice A t.ks.length c):=by simpa using hr
    exact HT.out
 have HU:Hid (qo W.heap.size V (.slice (some ⟨W.heap.size+1,0,none⟩) 1 1) 1):=by
  refine ⟨[.int .i64 d],⟨rfl,.inr ⟨W.heap.size+1,1,#[.int .i64 d],rfl,Nat.le_succ _,?_,Nat.le_refl _,by unfold maxLen; omega,rfl,rfl⟩⟩,?_⟩
  · rw [<- hV];have:=heap_alloc_new (W.alloc (.cells #[.int .i64 t.d.kind,.bool t.d.neg,.slice A0 n0 c0,.string t.d.name,.int .i64 t.d.exp,.int .i64 t.d.rel,.bool t.d.truth,.bool t.d.all,.slice A t.ks.length c] 29)) (.cells #[.int .i64 d] 3)
    rwa [World.size_alloc] at this
  · intro x hx; exact ⟨d,by simpa using hx⟩
 have HWX:=Lib.hid hWx;have HVX:=Lib.hid hVx;clear hWx hVx hbx;go_enter Tryz.func47,Tryz.ntmps47;go_wp2_with fail;clear hW hV b0 b1 b2 b3 b4 b5 b6 b7 b8 a8
 go_loopw [6,7,18] (fun ov uv iv wr=>∃ k:Nat,k<=t.ks.length/\iv=.int .i64 k/\Hid (uy w0 p W.heap.size wr ov (t :: jq (t.ks.take k))/\qo W.heap.size wr uv (t :: jq (t.ks.take k)).length/\ov.ownBlock ≠ uv.ownBlock/\Ext W wr)) (fun _ _ iv _=>t.ks.length - (intOf iv).toNat)
 case atStart=>exact ⟨0,Nat.zero_le _,rfl,⟨by have h:=HL.out; rw [hWs] at h ⊢; simpa [jq] using h,by have h:=HU.out; rw [hWs] at h ⊢; simpa [jq] using h,by simp [Value.ownBlock],HVX.out⟩⟩
 case round =>
  obtain ⟨k,hk,rfl,⟨hlv,hiv,hne,hxw⟩⟩:=hrel;have HLV:=Lib.hid hlv;have HIV:=Lib.hid hiv;have HNE:=Lib.hid hne;have HXW:=Lib.hid hxw;have a8:wr.cell? ⟨w.heap.size,8,none⟩=some (.slice A t.ks.length c):=(HBX.out.ext hxw (by omega)).2.2.2.2.2.2.2.2;obtain ⟨g1,cap1,hov,-⟩:=hlv.pos (by simp);obtain ⟨g2,cap2,huv,-⟩:=hiv.pos (by simp);subst hov huv
  by_cases hlt:k < t.ks.length
  · obtain ⟨ad,B0,m0,d0,B1,m1,d1,hA,hadb,hnd,hkt⟩:=ug.kid H4.out k hlt;subst hA;have hx0:Ext w0 wr:=HX0.out.trans (HWX.out.trans hxw);obtain ⟨e0,e1,e2,e3,e4,e5,e6,e7,e8⟩:=hnd.ext hx0 (by rw [jb]; exact hadb);have hsz:=HSZ.out k hlt;have hwr:=HXW.out.size;have HC:=Lib.hid (IH.out (t.ks[k]) _ wr (d+1) (by omega) hkt hx0 (by omega));have HTK:=Lib.hid (ubx t.ks k hlt);have HLN:Hid ((t :: jq (t.ks.take k)).length+(t.ks[k]).list.length<=1000000000):=by
     have h1:=xbu t.ks k hlt;have:(t :: jq (t.ks.take k)).length+(t.ks[k]).list.length<=1000000000:=by rw [List.length_cons,ka0,Tr.list_len]; omega
     exact this
    have HP:Hid (0 < (t.ks[k]).list.length):=by
     have:0 < (t.ks[k]).list.length:=by rw [Tr.list_len]; exact Tr.sz_pos _
     exact this
    clear hkt hnd hlv hiv hne hxw hadb hsz hx0;go_wp2_with fail;refine HC.out.mono ?_;rintro e w2 ⟨v2,u2,rfl,l2,i2,ne2,x2⟩;have hw2:=x2.size;obtain ⟨v3,w3,hr3,l3,gr3,o3⟩:=yat (HLV.out.ext x2) l2 HP.out (by omega) HLN.out 27;have hw3:=gr3.size;obtain ⟨v4,w4,hr4,l4,gr4,o4⟩:=gau ((HIV.out.ext x2).kept gr3 (.inr (fun e=>HNE.out e.symm))) (i2.kept gr3 (.inr (fun e=>by
     cases hu:u2.ownBlock with
     | none=>obtain ⟨g,cap,rfl,-⟩:=i2.pos HP.out; cases hu
     | some b =>
       have h1:=i2.lt b hu;have h2:=(HLV.out.lt b (by rw [<- e,hu])).2
       omega))) HP.out (by omega) HLN.out 81
    have hfin:uy w0 p W.heap.size w4 v3 (t :: jq (t.ks.take (k+1)))/\qo W.heap.size w4 v4 (t :: jq (t.ks.take (k+1))).length/\v3.ownBlock ≠ v4.ownBlock/\Ext W w4:=by
     have hl3:∀ b,v3.ownBlock=some b->W.heap.size<=b/\b < w3.heap.size:=l3.lt;have hg2:=(HIV.out.lt g2 rfl);rw [HTK.out];refine ⟨?_,?_,?_,?_⟩
     · have:uy w0 p W.heap.size w4 v3 ((t :: jq (t.ks.take k)) ++ (t.ks[k]).list):=l3.kept gr4 (.inr (fun e=>by
        rcases o3 with o3 | o3
        · exact HNE.out (by rw [<- o3,e])
        · rw [o3] at e;have e':w2.heap.size=g2:=by simpa [Value.ownBlock] using e
          omega))
       simpa using this
     · have:qo W.heap.size w4 v4 ((t :: jq (t.ks.take k)).length+(t.ks[k]).list.length):=l4;have e:(t :: (jq (t.ks.take k) ++ (t.ks[k]).list)).length=(t :: jq (t.ks.take k)).length+(t.ks[k]).list.length:=by simp; omega
       rw [e]; exact this
     · intro e;rcases o4 with o4 | o4
       · rcases o3 with o3 | o3
         · exact HNE.out (by rw [<- o3,e,o4])
         · rw [o3,o4] at e;have e':w2.heap.size=g2:=by simpa [Value.ownBlock] using e
           omega
       · have:=(hl3 w3.heap.size (by rw [e,o4])).2;omega
     · exact ((HXW.out.trans x2).grown gr3 (fun b hb=>(HLV.out.lt b hb).1)).grown gr4 (fun b hb=>(HIV.out.lt b hb).1)
    have HFIN:=Lib.hid hfin;clear hfin l2 i2 ne2 x2 l3 gr3 o3 l4 gr4 o4 e0 e1 e2 e3 e4 e5 e6 e7 e8 a8 HC
    go_wp2_with (at_builtin
                 first
                 | refine wpList_append_run rfl (.tmp 32) (.tmp 33) _ _ rfl _ _ _ _ rfl rfl hr3 ?_
                 | refine wpList_append_run rfl (.tmp 35) (.tmp 36) _ _ rfl _ _ _ _ rfl rfl hr4 ?_)
    clear hr3 hr4
    go_roundw
    case rel=>exact ⟨k+1,by omega,by go_num,HFIN⟩
    case measure=>simp [intOf]; omega
  · have hke:k=t.ks.length:=by omega
    have htk:jq (t.ks.take k)=jq t.ks:=by rw [hke,List.take_length]
    have hle:w.heap.size<=W.heap.size:=by omega
    have HF:Hid (jbc w0 p (t :: jq t.ks) w (.returned (.tuple #[.slice (some ⟨g1,0,none⟩) (t :: jq (t.ks.take k)).length cap1,.slice (some ⟨g2,0,none⟩) (t :: jq (t.ks.take k)).length cap2])) wr):=
     ⟨_,_,rfl,by have h:=hlv.base_ hle; rw [htk] at h ⊢; exact h,by have h:=hiv.base_ hle; rw [htk] at h ⊢; exact h,hne,HWX.out.trans hxw⟩
    clear hlv hiv hne hxw hke htk;go_wp2_with fail
    go_ret2
    exact HF.out
theorem gbk {w:World} {p:Nat->Prop} (t:Tr) (v:Value) (h:TrV w p t v) (hd:t.sz<=1000000):Calls Tryz.prog 47 #[v,.int .i64 0] w (jbc w p t.list w):=
 jbs (t.sz+1) t v w 0 (Nat.lt_succ_self _) h (Ext.refl w) (by omega)
end Go.Proofs.YtheefiaoimbeiaaGreatDoor
