/- Layer 20: the sparse form of a canonical polynomial; what sums and products of sparse forms are, and their sizes. -/
import Derived.Test.YtaedbimbbeploaaGreatDoorMb23
import Derived.Test.YtaedbimbbeploaaGreatDoorMb20
import Derived.Test.YtaedbimbbeploaaGreatDoorMb9
import Derived.Test.YtaedbimbbeploaaGreatDoorMb32
set_option linter.unusedSimpArgs false
set_option linter.unusedVariables false

namespace Go.Proofs.YtaedbimbbeploaaGreatDoor
def Pl.sp (p:Pl):Sp:=jc (p.terms Mo.one)
theorem Pl.sp_can (p:Pl):kaa p.sp:=ww _
theorem Pl.sp_nn (p:Pl):∀ x ∈ p.sp,x.2.nonneg:=fun x hx=>(jr hx).1
theorem Pl.sp_val (ρ:Int->Rat) (p:Pl):yl ρ p.sp=p.val ρ:=by
 rw [<- Pl.terms_sval ρ p];exact yaq ρ (vad p.terms_one_nonneg)
theorem Pl.sp_uniq {l:Sp} {p:Pl} (hc:kaa l) (hn:∀ x ∈ l,x.2.nonneg) (h:∀ ρ,yl ρ l=p.val ρ):l=p.sp:=
 kaa.uniq _ _ hc p.sp_can (fun m=>za0 hn p.sp_nn (fun ρ=>by rw [h,Pl.sp_val]) m)
def Mo.var (n:Int):Mo:=Mo.one.put n 1
theorem Pl.sp_var {n:Int} (h1:1<=n) (h4:n<=4):(Pl.var n).sp=[(1,Mo.var n)]:=by
 refine (Pl.sp_uniq (by unfold kaa; simp [kaa]) (by intro x hx; rw [List.mem_singleton] at hx; rw [hx]; exact Mo.put_nonneg Mo.one_nonneg (by omega)) (fun ρ=>?_)).symm;have hv:=Mo.val_put ρ Mo.one n 0 (by omega) h4 (Int.le_refl _);have h0:Mo.one.put n 0=Mo.one:=by unfold Mo.put Mo.one; split <;> (try split) <;> (try split) <;> rfl
 rw [h0,Mo.val_one] at hv;rw [Pl.var,if_pos ⟨h1,h4⟩,Pl.mk_val ρ _ _ _ (by omega) h4];simp only [qh,Pl.zero_val,Pl.const_val,yl,Mo.var];rw [show (1:Int)=0+1 from rfl,hv]
 push_cast
 grind
end Go.Proofs.YtaedbimbbeploaaGreatDoor

/- An exponent out of a monomial by its index. -/
namespace Go.Proofs.YtaedbimbbeploaaGreatDoor
open Go.RowKit
theorem gau (h:3 < Tryz.prog.types.size):(Tryz.prog.types[3]'h).size=1:=by kernel_rfl
theorem ubp (v0 v1 v2 v3:Value) (w:World):(Instr.index 188 (.agg #[v0,v1,v2,v3]) (.int .i64 0)).run Tryz.prog w=.ok v0 w:=by
 simp [Instr.index,run_underlying Tryz.underlying188,asIntOf,go_sem,gau]
theorem vbp (v0 v1 v2 v3:Value) (w:World):(Instr.index 188 (.agg #[v0,v1,v2,v3]) (.int .i64 1)).run Tryz.prog w=.ok v1 w:=by
 simp [Instr.index,run_underlying Tryz.underlying188,asIntOf,go_sem,gau]
theorem kbp (v0 v1 v2 v3:Value) (w:World):(Instr.index 188 (.agg #[v0,v1,v2,v3]) (.int .i64 2)).run Tryz.prog w=.ok v2 w:=by
 simp [Instr.index,run_underlying Tryz.underlying188,asIntOf,go_sem,gau]
theorem jbp (v0 v1 v2 v3:Value) (w:World):(Instr.index 188 (.agg #[v0,v1,v2,v3]) (.int .i64 3)).run Tryz.prog w=.ok v3 w:=by
 simp [Instr.index,run_underlying Tryz.underlying188,asIntOf,go_sem,gau]
theorem vbx (v0 v1 v2 v3:Value) (w:World):(Instr.index 188 (.agg #[v0,v1,v2,v3]) (.int .i64 ((0:Nat):Int))).run Tryz.prog w=.ok v0 w:=ubp v0 v1 v2 v3 w
theorem kbx (v0 v1 v2 v3:Value) (w:World):(Instr.index 188 (.agg #[v0,v1,v2,v3]) (.int .i64 ((1:Nat):Int))).run Tryz.prog w=.ok v1 w:=vbp v0 v1 v2 v3 w
theorem jbx (v0 v1 v2 v3:Value) (w:World):(Instr.index 188 (.agg #[v0,v1,v2,v3]) (.int .i64 ((2:Nat):Int))).run Tryz.prog w=.ok v2 w:=kbp v0 v1 v2 v3 w
theorem qbx (v0 v1 v2 v3:Value) (w:World):(Instr.index 188 (.agg #[v0,v1,v2,v3]) (.int .i64 ((3:Nat):Int))).run Tryz.prog w=.ok v3 w:=jbp v0 v1 v2 v3 w
end Go.Proofs.YtaedbimbbeploaaGreatDoor

/- Layer 38: prenex.monomial: the term of a coefficient and a monomial. -/
set_option maxRecDepth 100000
set_option maxHeartbeats 8000000
namespace Go.Proofs.YtaedbimbbeploaaGreatDoor
open Go.RowKit
attribute [local go_sem] ubp vbp kbp jbp vbx kbx jbx qbx
def jo (nms:List ByteArray) (i:Nat) (n:Int):Tm:=if 1 < n then .pow (.name (nms.getD i ByteArray.empty)) n else .name (nms.getD i ByteArray.empty)
def uav : Option Tm -> Tm -> Tm
 | none,f=>f
 | some p,f=>.mul p f
def kz (c : Int) (m : Mo) (nms : List ByteArray) : Nat -> Option Tm
 | 0=>if c=1 then none else some (.num c)
 | k+1=>if m.get ((k:Int)+1) < 1 then kz c m nms k else some (uav (kz c m nms k) (jo nms k (m.get ((k:Int)+1))))
def monT (c:Int) (m:Mo) (nms:List ByteArray):Tm:=(kz c m nms 4).getD (.num c)
def OTm (w : World) (L : Nat) : Option Tm -> Value -> Prop
 | none,v=>v=.nilIface
 | some t,v=>TmV w L t v
theorem OTm.ext {w w':World} {L:Nat} {o:Option Tm} {v:Value} (h:OTm w L o v) (hx:Ext w w'):OTm w' L o v:=by
 cases o with
 | none=>exact h
 | some t=>exact TmV.ext hx h
theorem vbo {w : World} {L : Nat} {c : Int} {x nv : Value} {m : Mo} {nms : List ByteArray} (hc : xae w x c) (hL : (dg c.natAbs).length <= L) (hs : SlR (fun _ (s : ByteArray) x => x = .string s) w nv nms)
 (hfit:∀ k:Nat,k < 4->0 < m.get ((k:Int)+1)->k < nms.length):Calls Tryz.prog 179 #[x,moV m,nv] w fun e w'=>∃ v,e=.returned v/\TmV w' L (monT c m nms) v/\Ext w w':=by
 have HS:=Lib.hid hs;have HC:=Lib.hid hc;have HL:=Lib.hid hL;have HFIT:=Lib.hid hfit;obtain ⟨bb,IA,ni,ci,rfl⟩:=hc.unpack;obtain ⟨NA,cn,rfl,hn1,hn2,-⟩:=hs;clear hc hL hfit;have hnl:nms.length<=9223372036854775807:=by omega
 obtain ⟨W,hW⟩:∃ W,(w.alloc (.cells #[.bool bb,.slice IA ni ci] 25)).alloc (.cells #[.int .i64 m.a,.int .i64 m.b,.int .i64 m.c,.int .i64 m.d] 188)=W:=⟨_,rfl⟩;have hWx:Ext w W:=by rw [<- hW]; exact ((Ext.refl w).alloc _).alloc _
 have HCEL:Hid (∀ W',Ext W W'->(Ext W W'/\W'.cell? ⟨w.heap.size,0,none⟩=some (.bool bb)/\W'.cell? ⟨w.heap.size,1,none⟩=some (.slice IA ni ci)/\W'.cell? ⟨w.heap.size+1,0,none⟩=some (.int .i64 m.a)/\W'.cell? ⟨w.heap.size+1,1,none⟩=some (.int .i64 m.b)/\W'.cell? ⟨w.heap.size+1,2,none⟩=some (.int .i64 m.c)/\W'.cell? ⟨w.heap.size+1,3,none⟩=some (.int .i64 m.d))):=Lib.hid (by
  have hsz:W.heap.size=w.heap.size+1+1:=by rw [<- hW]; simp
  intro W' hx;have k:∀ j,W'.cell? ⟨w.heap.size,j,none⟩=W.cell? ⟨w.heap.size,j,none⟩:=fun j=>hx.cell (p:=⟨w.heap.size,j,none⟩) (by show w.heap.size < _; omega)
  have k':∀ j,W'.cell? ⟨w.heap.size+1,j,none⟩=W.cell? ⟨w.heap.size+1,j,none⟩:=fun j=>hx.cell (p:=⟨w.heap.size+1,j,none⟩) (by show w.heap.size+1 < _; omega)
  refine ⟨hx,(k 0).trans ?_,(k 1).trans ?_,(k' 0).trans ?_,(k' 1).trans ?_,(k' 2).trans ?_,(k' 3).trans ?_⟩ <;> (rw [<- hW]; simp [go_sem]))
 have HWX:=Lib.hid hWx;have Y0:=Lib.hid ((Ext.refl W).drew);have HCMP:=Lib.hid (fun W' (hx:Ext W W') y (hy:xae W' y 1)=>zcv _ y c 1 _ _ W' (HC.out.ext (HWX.out.trans hx)).raw hy.raw);have HOF:=Lib.hid (fun W'=>of_int 1 W' (by omega) (by omega));clear hWx;unfold moV;go_enter Tryz.func179,Tryz.ntmps179;go_upto_region 2 with fail;clear hW
 go_region_held3 (fun W2 => Ext W W2 /\ W2.cell? ⟨w.heap.size, 0, none⟩ = some (.bool bb) /\ W2.cell? ⟨w.heap.size, 1, none⟩ = some (.slice IA ni ci) /\ W2.cell? ⟨w.heap.size + 1, 0, none⟩ = some (.int .i64 m.a) /\ W2.cell? ⟨w.heap.size + 1, 1, none⟩ = some (.int .i64 m.b) /\ W2.cell? ⟨w.heap.size + 1, 2, none⟩ = some (.int .i64 m.c) /\ W2.cell? ⟨w.heap.size + 1, 3, none⟩ = some (.int .i64 m.d))
  (first | with_reducible exact HCEL.out _ Y0.out | with_reducible exact HCEL.out _ z1 | with_reducible exact HCEL.out _ z2)
  (first
    | (go_at_call 100
       refine (HOF.out _).mono ?_;rintro e v1 ⟨ov,rfl,ho,x1⟩;obtain ⟨ob,OA,no,co,rfl⟩:=ho.unpack
       have z1:Ext W v1:=Ext.trans Y0.out x1)
    | (go_at_call 101
       refine (HCMP.out _ z1 _ ho).mono ?_;rintro e v2 ⟨rfl,x2⟩
       have z2:Ext W v2:=Ext.trans z1 x2))
 all_goals
  have Z2:=Lib.hid z2;clear z1 z2 x1 x2 ho HCMP HOF Y0
  by_cases hc1:c=1
  case' pos =>
   have hci:(vg c 1 != 0)=false:=by rw [uaa hc1]; rfl
   have HK0:Hid (kz c m nms 0=none):=Lib.hid (if_pos hc1);have HO:Hid (∀ W',Ext W W'->OTm W' L none .nilIface):=Lib.hid (fun _ _=>rfl);obtain ⟨ot,hot⟩:∃ ot:Option Tm,ot=none:=⟨_,rfl⟩;rw [<- hot] at HK0 HO;clear hc1 hot;go_wp2_with fail
  case' neg =>
   have hci:(vg c 1 != 0)=true:=by
    have:vg c 1 ≠ 0:=by unfold vg; split <;> (try split) <;> omega
    simpa using this
   have HK0:Hid (kz c m nms 0=some (.num c)):=Lib.hid (if_neg hc1);have HO:Hid (∀ W',Ext W W'->OTm W' L (some (.num c)) (.iface 120 (.agg #[.bool bb,.slice IA ni ci]))):=Lib.hid (fun W' hx=>⟨_,rfl,(HC.out.ext (HWX.out.trans hx)).raw.mono HL.out⟩);obtain ⟨ot,hot⟩:∃ ot:Option Tm,ot=some (.num c):=⟨_,rfl⟩;rw [<- hot] at HK0 HO;obtain ⟨-,q0,q1,-⟩:=HCEL.out _ Z2.out;clear hc1 hot;go_upto_region 4 with fail
  all_goals
   obtain ⟨-,q0,q1,q2,q3,q4,q5⟩:=HCEL.out _ Z2.out;go_wp2_with fail;clear q0 q1 q2 q3 q4 q5 hci
   go_loopw [7,19] (fun u7 iv wr=>∃ k:Nat,k<=4/\iv=.int .i64 k/\∃ o:Option Tm,Hid (kz c m nms k=o/\OTm wr L o u7)/\Hid (Ext W wr)) (fun _ iv _=>4 - (intOf iv).toNat)
   case atStart=>exact ⟨0,by omega,rfl,ot,Lib.hid ⟨HK0.out,HO.out _ Z2.out⟩,Z2⟩
   case round =>
    obtain ⟨k,hk,rfl,o,HOK,HX⟩:=hrel;have HK:=Lib.hid HOK.out.1;have HOV:=Lib.hid HOK.out.2;clear HOK HK0 HO Z2
    by_cases hlt:k < 4
    · have HFK:=Lib.hid (HFIT.out k hlt);have HKS:Hid (∀ n,m.get ((k:Int)+1)=n->(n < 1->kz c m nms (k+1)=o)/\(¬ n < 1->kz c m nms (k+1)=some (uav o (jo nms k n)))):=Lib.hid (fun n hn=>⟨fun h=>by rw [kz,hn,if_pos h,HK.out],fun h=>by rw [kz,hn,if_neg h,HK.out]⟩);rcases (by omega:k=0\/k=1\/k=2\/k=3) with rfl | rfl | rfl | rfl
      · have HKN:=Lib.hid (HKS.out (m.a) rfl);have HFN:Hid (0 < m.a->0 < nms.length):=Lib.hid (fun h=>HFK.out h);clear HKS HFK;generalize m.a=n at *
        by_cases h1:n < 1
        · have hd:decide (n < 1)=true:=by simpa using h1
          have HN:=Lib.hid (HKN.out.1 h1);clear h1;go_wp2_with fail
          go_roundw
          case rel=>exact ⟨1,by omega,by first | rfl | go_num,o,Lib.hid ⟨HN.out,HOV.out⟩,HX⟩
          case measure=>simp [intOf]
        · have hd:decide (n < 1)=false:=by simpa using h1
          have HN:=Lib.hid (HKN.out.2 h1);have hkn:=HFN.out (by omega);obtain ⟨ad,y,rfl,hcy,hp⟩:=SlR.get_ (SlR.ext HS.out (fun _ _ h=>h) (HWX.out.trans HX.out)) 0 hkn;subst hp;have hcy0:wr.cell? ad=some (.string nms[0]):=by simpa [Addr.add] using hcy
          clear hcy;have HGD:Hid (nms.getD 0 ByteArray.empty=nms[0]):=Lib.hid (by rw [List.getD_eq_getElem?_getD,List.getElem?_eq_getElem hkn]; rfl);generalize nms[0]=s at *;clear h1 HKN HFN
          by_cases h2:1 < n
          case' pos =>
           have hd2:decide (1 < n)=true:=by simpa using h2
           have HFC:Hid (jo nms 0 n=.pow (.name s) n):=Lib.hid (by unfold jo; rw [if_pos h2,HGD.out]);have HTV:Hid (∀ W',TmV W' L (jo nms 0 n) (.iface 124 (.agg #[.iface 91 (.agg #[.string s]),.int .i64 n]))):=Lib.hid (fun W'=>by rw [HFC.out]; exact ⟨_,rfl,rfl⟩);clear h2
          case' neg =>
           have hd2:decide (1 < n)=false:=by simpa using h2
           have HFC:Hid (jo nms 0 n=.name s):=Lib.hid (by unfold jo; rw [if_neg h2,HGD.out]);have HTV:Hid (∀ W',TmV W' L (jo nms 0 n) (.iface 91 (.agg #[.string s]))):=Lib.hid (fun W'=>by rw [HFC.out]; exact rfl);clear h2
          all_goals
           clear HFC HGD;generalize jo nms 0 n=ft at *;cases o with
           | none =>
             obtain rfl:u7=Value.nilIface:=HOV.out;clear HOV;go_wp2_with fail
             go_roundw
             case rel=>exact ⟨1,by omega,by first | rfl | go_num,some ft,Lib.hid ⟨HN.out,HTV.out _⟩,HX⟩
             case measure=>simp [intOf]
           | some t =>
             obtain ⟨PT,px,rfl⟩:=TmV.iface HOV.out;go_wp2_with fail
             go_roundw
             case rel=>exact ⟨1,by omega,by first | rfl | go_num,some (.mul t ft),Lib.hid ⟨HN.out,⟨_,_,rfl,HOV.out,HTV.out _⟩⟩,HX⟩
             case measure=>simp [intOf]
      · have HKN:=Lib.hid (HKS.out (m.b) rfl);have HFN:Hid (0 < m.b->1 < nms.length):=Lib.hid (fun h=>HFK.out h);clear HKS HFK;generalize m.b=n at *
        by_cases h1:n < 1
        · have hd:decide (n < 1)=true:=by simpa using h1
          have HN:=Lib.hid (HKN.out.1 h1);clear h1;go_wp2_with fail
          go_roundw
          case rel=>exact ⟨2,by omega,by first | rfl | go_num,o,Lib.hid ⟨HN.out,HOV.out⟩,HX⟩
          case measure=>simp [intOf]
        · have hd:decide (n < 1)=false:=by simpa using h1
          have HN:=Lib.hid (HKN.out.2 h1);have hkn:=HFN.out (by omega);obtain ⟨ad,y,rfl,hcy,hp⟩:=SlR.get_ (SlR.ext HS.out (fun _ _ h=>h) (HWX.out.trans HX.out)) 1 hkn;subst hp;have hcy0:wr.cell? ⟨ad.block,ad.off+1,none⟩=some (.string nms[1]):=by simpa [Addr.add] using hcy
          clear hcy;have HGD:Hid (nms.getD 1 ByteArray.empty=nms[1]):=Lib.hid (by rw [List.getD_eq_getElem?_getD,List.getElem?_eq_getElem hkn]; rfl);generalize nms[1]=s at *;clear h1 HKN HFN
          by_cases h2:1 < n
          case' pos =>
           have hd2:decide (1 < n)=true:=by simpa using h2
           have HFC:Hid (jo nms 1 n=.pow (.name s) n):=Lib.hid (by unfold jo; rw [if_pos h2,HGD.out]);have HTV:Hid (∀ W',TmV W' L (jo nms 1 n) (.iface 124 (.agg #[.iface 91 (.agg #[.string s]),.int .i64 n]))):=Lib.hid (fun W'=>by rw [HFC.out]; exact ⟨_,rfl,rfl⟩);clear h2
          case' neg =>
           have hd2:decide (1 < n)=false:=by simpa using h2
           have HFC:Hid (jo nms 1 n=.name s):=Lib.hid (by unfold jo; rw [if_neg h2,HGD.out]);have HTV:Hid (∀ W',TmV W' L (jo nms 1 n) (.iface 91 (.agg #[.string s]))):=Lib.hid (fun W'=>by rw [HFC.out]; exact rfl);clear h2
          all_goals
           clear HFC HGD;generalize jo nms 1 n=ft at *;cases o with
           | none =>
             obtain rfl:u7=Value.nilIface:=HOV.out;clear HOV;go_wp2_with fail
             go_roundw
             case rel=>exact ⟨2,by omega,by first | rfl | go_num,some ft,Lib.hid ⟨HN.out,HTV.out _⟩,HX⟩
             case measure=>simp [intOf]
           | some t =>
             obtain ⟨PT,px,rfl⟩:=TmV.iface HOV.out;go_wp2_with fail
             go_roundw
             case rel=>exact ⟨2,by omega,by first | rfl | go_num,some (.mul t ft),Lib.hid ⟨HN.out,⟨_,_,rfl,HOV.out,HTV.out _⟩⟩,HX⟩
             case measure=>simp [intOf]
      · have HKN:=Lib.hid (HKS.out (m.c) rfl);have HFN:Hid (0 < m.c->2 < nms.length):=Lib.hid (fun h=>HFK.out h);clear HKS HFK;generalize m.c=n at *
        by_cases h1:n < 1
        · have hd:decide (n < 1)=true:=by simpa using h1
          have HN:=Lib.hid (HKN.out.1 h1);clear h1;go_wp2_with fail
          go_roundw
          case rel=>exact ⟨3,by omega,by first | rfl | go_num,o,Lib.hid ⟨HN.out,HOV.out⟩,HX⟩
          case measure=>simp [intOf]
        · have hd:decide (n < 1)=false:=by simpa using h1
          have HN:=Lib.hid (HKN.out.2 h1);have hkn:=HFN.out (by omega);obtain ⟨ad,y,rfl,hcy,hp⟩:=SlR.get_ (SlR.ext HS.out (fun _ _ h=>h) (HWX.out.trans HX.out)) 2 hkn;subst hp;have hcy0:wr.cell? ⟨ad.block,ad.off+2,none⟩=some (.string nms[2]):=by simpa [Addr.add] using hcy
          clear hcy;have HGD:Hid (nms.getD 2 ByteArray.empty=nms[2]):=Lib.hid (by rw [List.getD_eq_getElem?_getD,List.getElem?_eq_getElem hkn]; rfl);generalize nms[2]=s at *;clear h1 HKN HFN
          by_cases h2:1 < n
          case' pos =>
           have hd2:decide (1 < n)=true:=by simpa using h2
           have HFC:Hid (jo nms 2 n=.pow (.name s) n):=Lib.hid (by unfold jo; rw [if_pos h2,HGD.out]);have HTV:Hid (∀ W',TmV W' L (jo nms 2 n) (.iface 124 (.agg #[.iface 91 (.agg #[.string s]),.int .i64 n]))):=Lib.hid (fun W'=>by rw [HFC.out]; exact ⟨_,rfl,rfl⟩);clear h2
          case' neg =>
           have hd2:decide (1 < n)=false:=by simpa using h2
           have HFC:Hid (jo nms 2 n=.name s):=Lib.hid (by unfold jo; rw [if_neg h2,HGD.out]);have HTV:Hid (∀ W',TmV W' L (jo nms 2 n) (.iface 91 (.agg #[.string s]))):=Lib.hid (fun W'=>by rw [HFC.out]; exact rfl);clear h2
          all_goals
           clear HFC HGD;generalize jo nms 2 n=ft at *;cases o with
           | none =>
             obtain rfl:u7=Value.nilIface:=HOV.out;clear HOV;go_wp2_with fail
             go_roundw
             case rel=>exact ⟨3,by omega,by first | rfl | go_num,some ft,Lib.hid ⟨HN.out,HTV.out _⟩,HX⟩
             case measure=>simp [intOf]
           | some t =>
             obtain ⟨PT,px,rfl⟩:=TmV.iface HOV.out;go_wp2_with fail
             go_roundw
             case rel=>exact ⟨3,by omega,by first | rfl | go_num,some (.mul t ft),Lib.hid ⟨HN.out,⟨_,_,rfl,HOV.out,HTV.out _⟩⟩,HX⟩
             case measure=>simp [intOf]
      · have HKN:=Lib.hid (HKS.out (m.d) rfl);have HFN:Hid (0 < m.d->3 < nms.length):=Lib.hid (fun h=>HFK.out h);clear HKS HFK;generalize m.d=n at *
        by_cases h1:n < 1
        · have hd:decide (n < 1)=true:=by simpa using h1
          have HN:=Lib.hid (HKN.out.1 h1);clear h1;go_wp2_with fail
          go_roundw
          case rel=>exact ⟨4,by omega,by first | rfl | go_num,o,Lib.hid ⟨HN.out,HOV.out⟩,HX⟩
          case measure=>simp [intOf]
        · have hd:decide (n < 1)=false:=by simpa using h1
          have HN:=Lib.hid (HKN.out.2 h1);have hkn:=HFN.out (by omega);obtain ⟨ad,y,rfl,hcy,hp⟩:=SlR.get_ (SlR.ext HS.out (fun _ _ h=>h) (HWX.out.trans HX.out)) 3 hkn;subst hp;have hcy0:wr.cell? ⟨ad.block,ad.off+3,none⟩=some (.string nms[3]):=by simpa [Addr.add] using hcy
          clear hcy;have HGD:Hid (nms.getD 3 ByteArray.empty=nms[3]):=Lib.hid (by rw [List.getD_eq_getElem?_getD,List.getElem?_eq_getElem hkn]; rfl);generalize nms[3]=s at *;clear h1 HKN HFN
          by_cases h2:1 < n
          case' pos =>
           have hd2:decide (1 < n)=true:=by simpa using h2
           have HFC:Hid (jo nms 3 n=.pow (.name s) n):=Lib.hid (by unfold jo; rw [if_pos h2,HGD.out]);have HTV:Hid (∀ W',TmV W' L (jo nms 3 n) (.iface 124 (.agg #[.iface 91 (.agg #[.string s]),.int .i64 n]))):=Lib.hid (fun W'=>by rw [HFC.out]; exact ⟨_,rfl,rfl⟩);clear h2
          case' neg =>
           have hd2:decide (1 < n)=false:=by simpa using h2
           have HFC:Hid (jo nms 3 n=.name s):=Lib.hid (by unfold jo; rw [if_neg h2,HGD.out]);have HTV:Hid (∀ W',TmV W' L (jo nms 3 n) (.iface 91 (.agg #[.string s]))):=Lib.hid (fun W'=>by rw [HFC.out]; exact rfl);clear h2
          all_goals
           clear HFC HGD;generalize jo nms 3 n=ft at *;cases o with
           | none =>
             obtain rfl:u7=Value.nilIface:=HOV.out;clear HOV;go_wp2_with fail
             go_roundw
             case rel=>exact ⟨4,by omega,by first | rfl | go_num,some ft,Lib.hid ⟨HN.out,HTV.out _⟩,HX⟩
             case measure=>simp [intOf]
           | some t =>
             obtain ⟨PT,px,rfl⟩:=TmV.iface HOV.out;go_wp2_with fail
             go_roundw
             case rel=>exact ⟨4,by omega,by first | rfl | go_num,some (.mul t ft),Lib.hid ⟨HN.out,⟨_,_,rfl,HOV.out,HTV.out _⟩⟩,HX⟩
             case measure=>simp [intOf]
    · obtain rfl:k=4:=by omega
      cases o with
      | none =>
        obtain rfl:u7=Value.nilIface:=HOV.out;have HF:Hid (monT c m nms=.num c):=Lib.hid (by unfold monT; rw [HK.out]; rfl);obtain ⟨-,q0,q1,-⟩:=HCEL.out _ HX.out;clear HOV;go_wp2_with fail;go_ret;exact ⟨_,rfl,by rw [HF.out]; exact ⟨_,rfl,(HC.out.ext (HWX.out.trans HX.out)).raw.mono HL.out⟩,HWX.out.trans HX.out⟩
      | some t =>
        obtain ⟨PT,px,rfl⟩:=TmV.iface HOV.out;have HF:Hid (monT c m nms=t):=Lib.hid (by unfold monT; rw [HK.out]; rfl);go_wp2_with fail;go_ret;exact ⟨_,rfl,by rw [HF.out]; exact HOV.out,HWX.out.trans HX.out⟩
end Go.Proofs.YtaedbimbbeploaaGreatDoor
