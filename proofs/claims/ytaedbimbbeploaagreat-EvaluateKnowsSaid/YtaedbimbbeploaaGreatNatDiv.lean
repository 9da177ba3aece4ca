/- Layer 1 (natural): division by one digit, shifts. -/
import Derived.Test.YtaedbimbbeploaaGreatNatProd2
set_option linter.unusedSimpArgs false
set_option linter.unusedVariables false

set_option maxRecDepth 100000
set_option maxHeartbeats 8000000
namespace Go.Proofs.YtaedbimbbeploaaGreat
open Go.RowKit
theorem kcb (d r x q:Nat) (hq:q=(r * B32+x) / d) (V Z X:Nat) (h:V=d * Z+r) (hX:X=x+B32 * V):X=d * (q+B32 * Z)+(r * B32+x) % d:=by
 have e:=Nat.div_add_mod (r * B32+x) d;rw [<- hq] at e;have e2:B32 * V=d * (B32 * Z)+r * B32:=by rw [h,Nat.mul_add,Nat.mul_left_comm,Nat.mul_comm B32 r]
 rw [hX,Nat.mul_add];omega
def wbj (w0:World) (g:Nat) (E:List Nat) (d k r:Nat) (wr:World):Prop:=
 ∃ zs:List Nat,Row wr g zs/\zs.length=E.length/\ve zs/\val (E.drop k)=d * val (zs.drop k)+r/\Ext w0 wr
def xcp (q r:Nat) (w:World) (e:Ending) (w':World):Prop:=∃ v,e=.returned (.tuple #[v,.int .u32 (r:Nat),.bool true])/\ja w' v (dg q)/\ul w.heap.size v/\Ext w w'
theorem gaw (u:Value) (ds:List Nat) (d:Nat) (w:World) (h:ja w u ds) (hs:ds.length<=35184372088832) (hd:0 < d) (hd1:d < 4294967296) :
 Calls Tryz.prog 139 #[u,.int .u32 (d:Nat)] w (xcp (val ds / d) (val ds % d) w):=by
 have hls:(dg (val ds)).length<=ds.length:=jd h.digs;have hdb:((d:Int) == 0)=false:=by simp; omega
 go_enter Tryz.func139,Tryz.ntmps139;go_wp2_with fail;refine (wu u ds _ h).mono ?_;rintro e w' ⟨u',rfl,hu,rfl⟩;obtain ⟨A,c,rfl,h1,h2,h3⟩:=hu;have G5:=Lib.hid h3;have HVD:=Lib.hid (je (val ds));clear h3 h;generalize hE:dg (val ds)=E at *;have HE:=Lib.hid hE;clear hE;have hmk:=fun W=>jy (E.length:Int) (by omega) (by omega) W
 go_wp2_with fail
 have hinv:wbj w w.heap.size E d E.length 0 (w.alloc (Obj.cells (jr (List.replicate E.length 0)).toArray 62)):=
  ⟨List.replicate E.length 0,Row.new w _,by simp,ve.replicate _,by simp,(Ext.refl _).alloc _⟩
 have HINV:=Lib.hid hinv;clear hinv
 go_loopw [8,9] (fun rv iv wr=>∃ k r:Nat,k<=E.length/\iv=.int .i64 ((k:Int) - 1)/\rv=.int .u32 r/\r < d/\Hid (wbj w w.heap.size E d k r wr)) (fun _ iv _=>(intOf iv+1).toNat)
 case atStart=>exact ⟨E.length,0,Nat.le_refl _,rfl,rfl,hd,HINV⟩
 case round =>
  clear HINV;obtain ⟨k,r,hk,rfl,rfl,hr,HI⟩:=hrel;obtain ⟨zs,hrow,hzl,hzd,hval,hext⟩:=HI.out;rcases k with _ | k
  · have HN:Hid (ja wr (.slice (some ⟨w.heap.size,0,none⟩) E.length E.length) zs):=hrow.natVn hzd _ _ hzl (Nat.le_refl _) (by omega);have hq:val zs=val ds / d/\r=val ds % d:=by
     rw [List.drop_zero,List.drop_zero,HVD.out] at hval;rw [hval];exact ⟨by rw [Nat.mul_add_div hd,Nat.div_eq_of_lt hr,Nat.add_zero],by rw [Nat.mul_add_mod,Nat.mod_eq_of_lt hr]⟩
    have HQ:=Lib.hid hq;have HX:=Lib.hid hext;clear HI hrow hzl hzd hval hext hq;go_wp2_with fail;refine (xav w.heap.size _ _ _ HN.out (ul.mk _ _ _ _ (Nat.le_refl _))).mono ?_;rintro e w' ⟨v',rfl,hv,hfr,rfl⟩;have HV2:=Lib.hid hv;have HFR:=Lib.hid hfr;clear hv hfr;go_wp2_with fail
    go_ret3
    refine ⟨v',by rw [<- HQ.out.2]; rfl,?_,HFR.out,HX.out⟩;rw [<- HQ.out.1];exact HV2.out
  · obtain ⟨ad,x,rfl,hb,hcell,hx1,HX⟩:=(G5.out.ext hext).get_ k (by omega);obtain ⟨z,hzc,hzf,_⟩:=hrow.get_ k (by omega);have hcur:r * B32+x < d * B32:=by
     have:(r+1) * B32<=d * B32:=Nat.mul_le_mul_right _ hr;rw [Nat.add_mul,Nat.one_mul] at this;rw [yf] at *; omega
    have hqlt:(r * B32+x) / d < B32:=Nat.div_lt_of_lt_mul hcur;have HS:Hid (∀ wq,Ext wr wq->wbj w w.heap.size E d k ((r * B32+x) % d) (wq.setCell ⟨w.heap.size,k,none⟩ (.int .u32 (((r * B32+x) / d:Nat):Int)))):=by
     intro wq hx;refine ⟨zs.set k ((r * B32+x) / d),(hrow.ext hx).set_ _ _,by rw [List.length_set]; exact hzl,hzd.set _ _ hqlt,?_,(hext.trans hx).setCell (by simp) _⟩;obtain ⟨hkl,hxe⟩:=List.getElem?_eq_some_iff.1 HX.out;rw [List.drop_eq_getElem_cons hkl,val_cons,hxe,List.drop_set,if_neg (by omega),Nat.sub_self];have hkz:k < zs.length:=by omega
     rw [List.drop_eq_getElem_cons hkz,List.set_cons_zero,val_cons];exact kcb d r x _ rfl _ _ _ hval rfl
    clear HI hrow hzl hzd hval hext;go_wp2_with fail;refine (qcd _ _ _ _ (by omega) (by omega) (by omega) (by omega) (by omega)).mono ?_;rintro e w2 ⟨rfl,n2,rfl⟩;have hx2:Ext wr (wr.drewN n2):=(Ext.refl wr).drewN n2;have HS2:=Lib.hid (HS.out _ hx2);clear hx2 HS;go_wp2_with fail
    go_roundw
    case rel =>
     have e1:((r:Int) * 4294967296+x) % d=(((r * B32+x) % d:Nat):Int):=by rw [yf]; simp
     have e2:((r:Int) * 4294967296+x) / d=(((r * B32+x) / d:Nat):Int):=by rw [yf]; simp
     rw [e1,e2];exact ⟨k,_,by omega,by go_num,rfl,Nat.mod_lt _ hd,HS2⟩
    case measure=>simp [intOf]
end Go.Proofs.YtaedbimbbeploaaGreat
