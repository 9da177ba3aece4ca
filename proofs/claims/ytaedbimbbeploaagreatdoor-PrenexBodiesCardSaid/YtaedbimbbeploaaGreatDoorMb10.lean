/- Type assertions to struct types. -/
import Derived.Test.YtaedbimbbeploaaGreatDoorMb0
import Derived.Test.YtaedbimbbeploaaGreatDoorMb5
import Derived.Test.YtaedbimbbeploaaGreatDoorMb9
set_option linter.unusedSimpArgs false
set_option linter.unusedVariables false

namespace Go.Proofs.YtaedbimbbeploaaGreatDoor
open Go.RowKit
def wa2 (P:Program) (T:TypeId):Bool:=match P.underlying T with
 | some (.struct _)=>true
 | _=>false
theorem qg {P:Program} {T:TypeId} {z:Value} (h:wa2 P T=true) (hz:(P.info? T).map (·.zero)=some (some z)) (t:TypeId) (v:Value) (xT:TypeId) (w:World) :
 (Instr.typeAssert (.iface t v) xT T true).run P w=.ok (.tuple #[if t=T then v else z,.bool (decide (t=T))]) w:=by
 obtain ⟨j,hj,hz'⟩:=Option.map_eq_some_iff.1 hz;unfold wa2 at h
 split at h
 · rename_i fs hu
   by_cases ht:t=T
   · subst ht;simp [Instr.typeAssert,run_underlying hu]
   · simp [Instr.typeAssert,run_underlying hu,ht,zeroValue,typeInfo,hj,hz']
 · cases h
theorem yac (t:TypeId) (v:Value) (xT:TypeId) (w:World):(Instr.typeAssert (.iface t v) xT 120 true).run Tryz.prog w=.ok (.tuple #[if t=120 then v else .agg #[.bool false,.slice none 0 0],.bool (decide (t=120))]) w:=
 qg (by kernel_rfl) (by kernel_rfl) t v xT w
theorem uz (t:TypeId) (v:Value) (xT:TypeId) (w:World):(Instr.typeAssert (.iface t v) xT 91 true).run Tryz.prog w=.ok (.tuple #[if t=91 then v else .agg #[.string ByteArray.empty],.bool (decide (t=91))]) w:=
 qg (by kernel_rfl) (by kernel_rfl) t v xT w
theorem uac (t:TypeId) (v:Value) (xT:TypeId) (w:World):(Instr.typeAssert (.iface t v) xT 126 true).run Tryz.prog w=.ok (.tuple #[if t=126 then v else .agg #[.nilIface,.nilIface],.bool (decide (t=126))]) w:=
 qg (by kernel_rfl) (by kernel_rfl) t v xT w
theorem wab (t:TypeId) (v:Value) (xT:TypeId) (w:World):(Instr.typeAssert (.iface t v) xT 127 true).run Tryz.prog w=.ok (.tuple #[if t=127 then v else .agg #[.nilIface,.nilIface],.bool (decide (t=127))]) w:=
 qg (by kernel_rfl) (by kernel_rfl) t v xT w
theorem jac (t:TypeId) (v:Value) (xT:TypeId) (w:World):(Instr.typeAssert (.iface t v) xT 128 true).run Tryz.prog w=.ok (.tuple #[if t=128 then v else .agg #[.nilIface,.nilIface],.bool (decide (t=128))]) w:=
 qg (by kernel_rfl) (by kernel_rfl) t v xT w
theorem qac (t:TypeId) (v:Value) (xT:TypeId) (w:World):(Instr.typeAssert (.iface t v) xT 122 true).run Tryz.prog w=.ok (.tuple #[if t=122 then v else .agg #[.nilIface],.bool (decide (t=122))]) w:=
 qg (by kernel_rfl) (by kernel_rfl) t v xT w
theorem zac (t:TypeId) (v:Value) (xT:TypeId) (w:World):(Instr.typeAssert (.iface t v) xT 124 true).run Tryz.prog w=.ok (.tuple #[if t=124 then v else .agg #[.nilIface,.int .i64 0],.bool (decide (t=124))]) w:=
 qg (by kernel_rfl) (by kernel_rfl) t v xT w
theorem jw (t:TypeId) (v:Value) (xT:TypeId) (w:World):(Instr.typeAssert (.iface t v) xT 100 true).run Tryz.prog w=.ok (.tuple #[if t=100 then v else .agg #[.bool false],.bool (decide (t=100))]) w:=
 qg (by kernel_rfl) (by kernel_rfl) t v xT w
theorem wz (t:TypeId) (v:Value) (xT:TypeId) (w:World):(Instr.typeAssert (.iface t v) xT 93 true).run Tryz.prog w=.ok (.tuple #[if t=93 then v else .agg #[.nilIface,.int .i64 0,.nilIface],.bool (decide (t=93))]) w:=
 qg (by kernel_rfl) (by kernel_rfl) t v xT w
theorem xac (t:TypeId) (v:Value) (xT:TypeId) (w:World):(Instr.typeAssert (.iface t v) xT 51 true).run Tryz.prog w=.ok (.tuple #[if t=51 then v else .agg #[.nilIface],.bool (decide (t=51))]) w:=
 qg (by kernel_rfl) (by kernel_rfl) t v xT w
theorem vac (t:TypeId) (v:Value) (xT:TypeId) (w:World):(Instr.typeAssert (.iface t v) xT 158 true).run Tryz.prog w=.ok (.tuple #[if t=158 then v else .agg #[.nilIface,.nilIface],.bool (decide (t=158))]) w:=
 qg (by kernel_rfl) (by kernel_rfl) t v xT w
theorem yaf (t:TypeId) (v:Value) (xT:TypeId) (w:World):(Instr.typeAssert (.iface t v) xT 159 true).run Tryz.prog w=.ok (.tuple #[if t=159 then v else .agg #[.nilIface,.nilIface],.bool (decide (t=159))]) w:=
 qg (by kernel_rfl) (by kernel_rfl) t v xT w
theorem ul (t:TypeId) (v:Value) (xT:TypeId) (w:World):(Instr.typeAssert (.iface t v) xT 160 true).run Tryz.prog w=.ok (.tuple #[if t=160 then v else .agg #[.nilIface,.nilIface],.bool (decide (t=160))]) w:=
 qg (by kernel_rfl) (by kernel_rfl) t v xT w
theorem kac (t:TypeId) (v:Value) (xT:TypeId) (w:World):(Instr.typeAssert (.iface t v) xT 161 true).run Tryz.prog w=.ok (.tuple #[if t=161 then v else .agg #[.nilIface,.nilIface],.bool (decide (t=161))]) w:=
 qg (by kernel_rfl) (by kernel_rfl) t v xT w
theorem kw (t:TypeId) (v:Value) (xT:TypeId) (w:World):(Instr.typeAssert (.iface t v) xT 95 true).run Tryz.prog w=.ok (.tuple #[if t=95 then v else .agg #[.bool false,.string ByteArray.empty,.nilIface],.bool (decide (t=95))]) w:=
 qg (by kernel_rfl) (by kernel_rfl) t v xT w
end Go.Proofs.YtaedbimbbeploaaGreatDoor

/- Layer 34: terms and formulas as values. -/
set_option maxRecDepth 100000
set_option maxHeartbeats 8000000
namespace Go.Proofs.YtaedbimbbeploaaGreatDoor
open Go.RowKit
attribute [local go_sem] yac uz uac wab jac qac zac jw wz xac vac yaf ul kac kw
inductive Tm where
 | num (z:Int) | name (s:ByteArray) | add (a b:Tm) | sub (a b:Tm) | mul (a b:Tm) | neg (a:Tm) | pow (a:Tm) (e:Int)
inductive Fm where
 | truth (b:Bool) | atom (l:Tm) (r:Int) (k:Tm) | not (f:Fm) | and (f g:Fm) | or (f g:Fm) | imp (f g:Fm) | iff (f g:Fm) | quant (all:Bool) (s:ByteArray) (f:Fm)
def TmV (w : World) (L : Nat) : Tm -> Value -> Prop
 | .num z,v=>∃ x,v=.iface 120 x/\xq w x z L
 | .name s,v=>v=.iface 91 (.agg #[.string s])
 | .add a b,v=>∃ x y,v=.iface 126 (.agg #[x,y])/\TmV w L a x/\TmV w L b y
 | .sub a b,v=>∃ x y,v=.iface 127 (.agg #[x,y])/\TmV w L a x/\TmV w L b y
 | .mul a b,v=>∃ x y,v=.iface 128 (.agg #[x,y])/\TmV w L a x/\TmV w L b y
 | .neg a,v=>∃ x,v=.iface 122 (.agg #[x])/\TmV w L a x
 | .pow a e,v=>∃ x,v=.iface 124 (.agg #[x,.int .i64 e])/\TmV w L a x
def FmV (w : World) (L : Nat) : Fm -> Value -> Prop
 | .truth b,v=>v=.iface 100 (.agg #[.bool b])
 | .atom l r k,v=>∃ x y,v=.iface 93 (.agg #[x,.int .i64 r,y])/\TmV w L l x/\TmV w L k y
 | .not f,v=>∃ x,v=.iface 51 (.agg #[x])/\FmV w L f x
 | .and f g,v=>∃ x y,v=.iface 158 (.agg #[x,y])/\FmV w L f x/\FmV w L g y
 | .or f g,v=>∃ x y,v=.iface 159 (.agg #[x,y])/\FmV w L f x/\FmV w L g y
 | .imp f g,v=>∃ x y,v=.iface 160 (.agg #[x,y])/\FmV w L f x/\FmV w L g y
 | .iff f g,v=>∃ x y,v=.iface 161 (.agg #[x,y])/\FmV w L f x/\FmV w L g y
 | .quant a s f,v=>∃ x,v=.iface 95 (.agg #[.bool a,.string s,x])/\FmV w L f x
theorem TmV.ext {w w':World} {L:Nat} (hx:Ext w w') {t:Tm} {v:Value} (h:TmV w L t v):TmV w' L t v:=by
 induction t generalizing v with
 | num z=>obtain ⟨x,e,h⟩:=h; exact ⟨x,e,h.ext hx⟩
 | name s=>exact h
 | add a b iha ihb=>obtain ⟨x,y,e,h,k⟩:=h; exact ⟨x,y,e,iha h,ihb k⟩
 | sub a b iha ihb=>obtain ⟨x,y,e,h,k⟩:=h; exact ⟨x,y,e,iha h,ihb k⟩
 | mul a b iha ihb=>obtain ⟨x,y,e,h,k⟩:=h; exact ⟨x,y,e,iha h,ihb k⟩
 | neg a iha=>obtain ⟨x,e,h⟩:=h; exact ⟨x,e,iha h⟩
 | pow a n iha=>obtain ⟨x,e,h⟩:=h; exact ⟨x,e,iha h⟩
theorem FmV.ext {w w':World} {L:Nat} (hx:Ext w w') {f:Fm} {v:Value} (h:FmV w L f v):FmV w' L f v:=by
 induction f generalizing v with
 | truth b=>exact h
 | atom l r k=>obtain ⟨x,y,e,h,k⟩:=h; exact ⟨x,y,e,h.ext hx,k.ext hx⟩
 | not f ihf=>obtain ⟨x,e,h⟩:=h; exact ⟨x,e,ihf h⟩
 | and f g ihf ihg=>obtain ⟨x,y,e,h,k⟩:=h; exact ⟨x,y,e,ihf h,ihg k⟩
 | or f g ihf ihg=>obtain ⟨x,y,e,h,k⟩:=h; exact ⟨x,y,e,ihf h,ihg k⟩
 | imp f g ihf ihg=>obtain ⟨x,y,e,h,k⟩:=h; exact ⟨x,y,e,ihf h,ihg k⟩
 | iff f g ihf ihg=>obtain ⟨x,y,e,h,k⟩:=h; exact ⟨x,y,e,ihf h,ihg k⟩
 | quant a s f ihf=>obtain ⟨x,e,h⟩:=h; exact ⟨x,e,ihf h⟩
theorem TmV.iface {w:World} {L:Nat} {t:Tm} {v:Value} (h:TmV w L t v):∃ T x,v=.iface T x:=by
 cases t <;> (simp only [TmV] at h) <;> first | exact ⟨_,_,h⟩ | (obtain ⟨_,e,_⟩:=h; exact ⟨_,_,e⟩) | (obtain ⟨_,_,e,_⟩:=h; exact ⟨_,_,e⟩)
theorem FmV.iface {w:World} {L:Nat} {f:Fm} {v:Value} (h:FmV w L f v):∃ T x,v=.iface T x:=by
 cases f <;> (simp only [FmV] at h) <;> first | exact ⟨_,_,h⟩ | (obtain ⟨_,e,_⟩:=h; exact ⟨_,_,e⟩) | (obtain ⟨_,_,e,_⟩:=h; exact ⟨_,_,e⟩)
def Fm.kids : Fm -> List Fm
 | .truth _=>[]
 | .atom _ _ _=>[]
 | .not f=>[f]
 | .and f g=>[f,g]
 | .or f g=>[f,g]
 | .imp f g=>[f,g]
 | .iff f g=>[f,g]
 | .quant _ _ f=>[f]
def Tm.kids : Tm -> List Tm
 | .num _=>[]
 | .name _=>[]
 | .add a b=>[a,b]
 | .sub a b=>[a,b]
 | .mul a b=>[a,b]
 | .neg a=>[a]
 | .pow a _=>[a]
def SlR {α:Type} (P:World->α->Value->Prop) (w:World) (v:Value) (l:List α):Prop:=
 ∃ A c,v=.slice A l.length c/\l.length<=c/\c<=9223372036854775807/\∀ j (h:j < l.length),∃ ad x,A=some ad/\ad.block < w.heap.size/\w.cell? (ad.add j)=some x/\P w l[j] x
theorem SlR.ext {α:Type} {P:World->α->Value->Prop} {w w':World} {v:Value} {l:List α} (h:SlR P w v l) (hP:∀ a x,P w a x->P w' a x) (k:Ext w w'):SlR P w' v l:=by
 obtain ⟨A,c,e,h1,h2,h3⟩:=h;refine ⟨A,c,e,h1,h2,fun j hj=>?_⟩;obtain ⟨ad,x,e,hb,hc,hp⟩:=h3 j hj;exact ⟨ad,x,e,Nat.lt_of_lt_of_le hb k.size,(k.cell (by rw [ja]; exact hb)).trans hc,hP _ _ hp⟩
theorem SlR.nil {α:Type} (P:World->α->Value->Prop) (w:World):SlR P w (.slice none 0 0) []:=⟨none,0,rfl,by simp,by simp,fun j h=>absurd h (by simp)⟩
theorem SlR.one {α:Type} {P:World->α->Value->Prop} {w:World} {g:Nat} {a:α} {x:Value} (hg:g < w.heap.size) (h0:w.cell? ⟨g,0,none⟩=some x) (p0:P w a x):SlR P w (.slice (some ⟨g,0,none⟩) 1 1) [a]:=by
 refine ⟨_,1,rfl,by simp,by simp,fun j hj=>?_⟩;have:j=0:=by simp at hj; omega
 subst this;exact ⟨_,x,rfl,hg,by rw [gp]; exact h0,p0⟩
theorem SlR.two {α:Type} {P:World->α->Value->Prop} {w:World} {g:Nat} {a b:α} {x y:Value} (hg:g < w.heap.size) (h0:w.cell? ⟨g,0,none⟩=some x) (h1:w.cell? ⟨g,1,none⟩=some y) (p0:P w a x) (p1:P w b y):SlR P w (.slice (some ⟨g,0,none⟩) 2 2) [a,b]:=by
 refine ⟨_,2,rfl,by simp,by simp,fun j hj=>?_⟩;rcases (show j=0\/j=1 by simp at hj; omega) with rfl | rfl
 · exact ⟨_,x,rfl,hg,by rw [gp]; exact h0,p0⟩
 · exact ⟨_,y,rfl,hg,by rw [gp]; exact h1,p1⟩
def gan (w0:World) (L:Nat) (l:List Fm) (w:World) (e:Ending) (w':World):Prop:=∃ s,e=.returned s/\SlR (fun _ f v=>FmV w0 L f v) w' s l/\zk w.heap.size s/\Ext w w'
def uaq (w0:World) (L:Nat) (l:List Tm) (w:World) (e:Ending) (w':World):Prop:=∃ s,e=.returned s/\SlR (fun _ f v=>TmV w0 L f v) w' s l/\zk w.heap.size s/\Ext w w'
theorem zbu {w0 w:World} {L:Nat} {b:Bool} {v:Value} (h:FmV w0 L (Fm.truth b) v):Calls Tryz.prog 134 #[v] w (gan w0 L [] w):=by
 obtain rfl:=h;go_enter Tryz.func134,Tryz.ntmps134;go_wp2_with fail;go_ret;exact ⟨_,rfl,SlR.nil _ _,zk.nil _ _ _,Ext.refl _⟩
theorem zb2 {w0 w:World} {L:Nat} {l k:Tm} {r:Int} {v:Value} (h:FmV w0 L (Fm.atom l r k) v):Calls Tryz.prog 134 #[v] w (gan w0 L [] w):=by
 obtain ⟨x,y,rfl,hx,hy⟩:=h;go_enter Tryz.func134,Tryz.ntmps134;go_wp2_with fail;go_ret;exact ⟨_,rfl,SlR.nil _ _,zk.nil _ _ _,Ext.refl _⟩
theorem xb9 {w0 w:World} {L:Nat} {f:Fm} {v:Value} (h:FmV w0 L (Fm.not f) v):Calls Tryz.prog 134 #[v] w (gan w0 L [f] w):=by
 obtain ⟨x,rfl,hx⟩:=h;obtain ⟨T,x,rfl⟩:=hx.iface;go_enter Tryz.func134,Tryz.ntmps134;go_wp2_with fail;go_ret;have hX:Ext w ((w.alloc (Obj.cells #[.iface T x] 51)).alloc (Obj.cells #[.iface T x] 34)):=((Ext.refl w).alloc _).alloc _;exact ⟨_,rfl,SlR.one (by simp) (by simp [go_sem]) hx,zk.mk _ _ _ _ (by simp),hX⟩
theorem kb9 {w0 w:World} {L:Nat} {f g:Fm} {v:Value} (h:FmV w0 L (Fm.and f g) v):Calls Tryz.prog 134 #[v] w (gan w0 L [f,g] w):=by
 obtain ⟨x,y,rfl,hx,hy⟩:=h;obtain ⟨T,x,rfl⟩:=hx.iface;obtain ⟨U,y,rfl⟩:=hy.iface;go_enter Tryz.func134,Tryz.ntmps134;go_wp2_with fail;go_ret;have hX:Ext w ((w.alloc (Obj.cells #[.iface T x,.iface U y] 158)).alloc (Obj.cells #[.iface T x,.iface U y] 34)):=((Ext.refl w).alloc _).alloc _;exact ⟨_,rfl,SlR.two (by simp) (by simp [go_sem]) (by simp [go_sem]) hx hy,zk.mk _ _ _ _ (by simp),hX⟩
theorem uch {w0 w:World} {L:Nat} {f g:Fm} {v:Value} (h:FmV w0 L (Fm.or f g) v):Calls Tryz.prog 134 #[v] w (gan w0 L [f,g] w):=by
 obtain ⟨x,y,rfl,hx,hy⟩:=h;obtain ⟨T,x,rfl⟩:=hx.iface;obtain ⟨U,y,rfl⟩:=hy.iface;go_enter Tryz.func134,Tryz.ntmps134;go_wp2_with fail;go_ret;have hX:Ext w ((w.alloc (Obj.cells #[.iface T x,.iface U y] 159)).alloc (Obj.cells #[.iface T x,.iface U y] 34)):=((Ext.refl w).alloc _).alloc _;exact ⟨_,rfl,SlR.two (by simp) (by simp [go_sem]) (by simp [go_sem]) hx hy,zk.mk _ _ _ _ (by simp),hX⟩
theorem qb9 {w0 w:World} {L:Nat} {f g:Fm} {v:Value} (h:FmV w0 L (Fm.imp f g) v):Calls Tryz.prog 134 #[v] w (gan w0 L [f,g] w):=by
 obtain ⟨x,y,rfl,hx,hy⟩:=h;obtain ⟨T,x,rfl⟩:=hx.iface;obtain ⟨U,y,rfl⟩:=hy.iface;go_enter Tryz.func134,Tryz.ntmps134;go_wp2_with fail;go_ret;have hX:Ext w ((w.alloc (Obj.cells #[.iface T x,.iface U y] 160)).alloc (Obj.cells #[.iface T x,.iface U y] 34)):=((Ext.refl w).alloc _).alloc _;exact ⟨_,rfl,SlR.two (by simp) (by simp [go_sem]) (by simp [go_sem]) hx hy,zk.mk _ _ _ _ (by simp),hX⟩
theorem jb9 {w0 w:World} {L:Nat} {f g:Fm} {v:Value} (h:FmV w0 L (Fm.iff f g) v):Calls Tryz.prog 134 #[v] w (gan w0 L [f,g] w):=by
 obtain ⟨x,y,rfl,hx,hy⟩:=h;obtain ⟨T,x,rfl⟩:=hx.iface;obtain ⟨U,y,rfl⟩:=hy.iface;go_enter Tryz.func134,Tryz.ntmps134;go_wp2_with fail;go_ret;have hX:Ext w ((w.alloc (Obj.cells #[.iface T x,.iface U y] 161)).alloc (Obj.cells #[.iface T x,.iface U y] 34)):=((Ext.refl w).alloc _).alloc _;exact ⟨_,rfl,SlR.two (by simp) (by simp [go_sem]) (by simp [go_sem]) hx hy,zk.mk _ _ _ _ (by simp),hX⟩
theorem ybu {w0 w:World} {L:Nat} {a:Bool} {s:ByteArray} {f:Fm} {v:Value} (h:FmV w0 L (Fm.quant a s f) v):Calls Tryz.prog 134 #[v] w (gan w0 L [f] w):=by
 obtain ⟨x,rfl,hx⟩:=h;obtain ⟨T,x,rfl⟩:=hx.iface;go_enter Tryz.func134,Tryz.ntmps134;go_wp2_with fail;go_ret;have hX:Ext w ((w.alloc (Obj.cells #[.bool a,.string s,.iface T x] 95)).alloc (Obj.cells #[.iface T x] 34)):=((Ext.refl w).alloc _).alloc _;exact ⟨_,rfl,SlR.one (by simp) (by simp [go_sem]) hx,zk.mk _ _ _ _ (by simp),hX⟩
theorem ubk {w0 w:World} {L:Nat} {z:Int} {v:Value} (h:TmV w0 L (Tm.num z) v):Calls Tryz.prog 181 #[v] w (uaq w0 L [] w):=by
 obtain ⟨x,rfl,hx⟩:=h;go_enter Tryz.func181,Tryz.ntmps181;go_wp2_with fail;go_ret;exact ⟨_,rfl,SlR.nil _ _,zk.nil _ _ _,Ext.refl _⟩
theorem qbi {w0 w:World} {L:Nat} {s:ByteArray} {v:Value} (h:TmV w0 L (Tm.name s) v):Calls Tryz.prog 181 #[v] w (uaq w0 L [] w):=by
 obtain rfl:=h;go_enter Tryz.func181,Tryz.ntmps181;go_wp2_with fail;go_ret;exact ⟨_,rfl,SlR.nil _ _,zk.nil _ _ _,Ext.refl _⟩
theorem ybl {w0 w:World} {L:Nat} {a b:Tm} {v:Value} (h:TmV w0 L (Tm.add a b) v):Calls Tryz.prog 181 #[v] w (uaq w0 L [a,b] w):=by
 obtain ⟨x,y,rfl,hx,hy⟩:=h;obtain ⟨T,x,rfl⟩:=hx.iface;obtain ⟨U,y,rfl⟩:=hy.iface;go_enter Tryz.func181,Tryz.ntmps181;go_wp2_with fail;go_ret;have hX:Ext w ((w.alloc (Obj.cells #[.iface T x,.iface U y] 126)).alloc (Obj.cells #[.iface T x,.iface U y] 58)):=((Ext.refl w).alloc _).alloc _;exact ⟨_,rfl,SlR.two (by simp) (by simp [go_sem]) (by simp [go_sem]) hx hy,zk.mk _ _ _ _ (by simp),hX⟩
theorem kbk {w0 w:World} {L:Nat} {a b:Tm} {v:Value} (h:TmV w0 L (Tm.sub a b) v):Calls Tryz.prog 181 #[v] w (uaq w0 L [a,b] w):=by
 obtain ⟨x,y,rfl,hx,hy⟩:=h;obtain ⟨T,x,rfl⟩:=hx.iface;obtain ⟨U,y,rfl⟩:=hy.iface;go_enter Tryz.func181,Tryz.ntmps181;go_wp2_with fail;go_ret;have hX:Ext w ((w.alloc (Obj.cells #[.iface T x,.iface U y] 127)).alloc (Obj.cells #[.iface T x,.iface U y] 58)):=((Ext.refl w).alloc _).alloc _;exact ⟨_,rfl,SlR.two (by simp) (by simp [go_sem]) (by simp [go_sem]) hx hy,zk.mk _ _ _ _ (by simp),hX⟩
theorem zbl {w0 w:World} {L:Nat} {a b:Tm} {v:Value} (h:TmV w0 L (Tm.mul a b) v):Calls Tryz.prog 181 #[v] w (uaq w0 L [a,b] w):=by
 obtain ⟨x,y,rfl,hx,hy⟩:=h;obtain ⟨T,x,rfl⟩:=hx.iface;obtain ⟨U,y,rfl⟩:=hy.iface;go_enter Tryz.func181,Tryz.ntmps181;go_wp2_with fail;go_ret;have hX:Ext w ((w.alloc (Obj.cells #[.iface T x,.iface U y] 128)).alloc (Obj.cells #[.iface T x,.iface U y] 58)):=((Ext.refl w).alloc _).alloc _;exact ⟨_,rfl,SlR.two (by simp) (by simp [go_sem]) (by simp [go_sem]) hx hy,zk.mk _ _ _ _ (by simp),hX⟩
theorem wbk {w0 w:World} {L:Nat} {a:Tm} {v:Value} (h:TmV w0 L (Tm.neg a) v):Calls Tryz.prog 181 #[v] w (uaq w0 L [a] w):=by
 obtain ⟨x,rfl,hx⟩:=h;obtain ⟨T,x,rfl⟩:=hx.iface;go_enter Tryz.func181,Tryz.ntmps181;go_wp2_with fail;go_ret;have hX:Ext w ((w.alloc (Obj.cells #[.iface T x] 122)).alloc (Obj.cells #[.iface T x] 58)):=((Ext.refl w).alloc _).alloc _;exact ⟨_,rfl,SlR.one (by simp) (by simp [go_sem]) hx,zk.mk _ _ _ _ (by simp),hX⟩
theorem vbk {w0 w:World} {L:Nat} {a:Tm} {n:Int} {v:Value} (h:TmV w0 L (Tm.pow a n) v):Calls Tryz.prog 181 #[v] w (uaq w0 L [a] w):=by
 obtain ⟨x,rfl,hx⟩:=h;obtain ⟨T,x,rfl⟩:=hx.iface;go_enter Tryz.func181,Tryz.ntmps181;go_wp2_with fail;go_ret;have hX:Ext w ((w.alloc (Obj.cells #[.iface T x,.int .i64 n] 124)).alloc (Obj.cells #[.iface T x] 58)):=((Ext.refl w).alloc _).alloc _;exact ⟨_,rfl,SlR.one (by simp) (by simp [go_sem]) hx,zk.mk _ _ _ _ (by simp),hX⟩
theorem jae {w0 w:World} {L:Nat} (f:Fm) {v:Value} (h:FmV w0 L f v):Calls Tryz.prog 134 #[v] w (gan w0 L f.kids w):=by
 cases f
 · exact zbu h
 · exact zb2 h
 · exact xb9 h
 · exact kb9 h
 · exact uch h
 · exact qb9 h
 · exact jb9 h
 · exact ybu h
theorem vam {w0 w:World} {L:Nat} (t:Tm) {v:Value} (h:TmV w0 L t v):Calls Tryz.prog 181 #[v] w (uaq w0 L t.kids w):=by
 cases t
 · exact ubk h
 · exact qbi h
 · exact ybl h
 · exact kbk h
 · exact zbl h
 · exact wbk h
 · exact vbk h
end Go.Proofs.YtaedbimbbeploaaGreatDoor

/- Layer 34: trees as values. -/
namespace Go.Proofs.YtaedbimbbeploaaGreatDoor
open Go.RowKit
structure Nd where
 kind:Int
 neg:Bool
 ds:List Nat
 name:ByteArray
 exp:Int
 rel:Int
 truth:Bool
 all:Bool
inductive Tr where
 | mk (d:Nd) (ks:List Tr)
def Tr.d : Tr -> Nd
 | .mk d _=>d
def Tr.ks : Tr -> List Tr
 | .mk _ ks=>ks
def ndV (d:Nd) (s A:Value):Value:=.agg #[.int .i64 d.kind,.bool d.neg,s,.string d.name,.int .i64 d.exp,.int .i64 d.rel,.bool d.truth,.bool d.all,A]
def uad (w:World) (ad:Addr) (d:Nd) (s A:Value):Prop:=
 w.cell? ad=some (.int .i64 d.kind)/\w.cell? ⟨ad.block,ad.off+1,none⟩=some (.bool d.neg)/\w.cell? ⟨ad.block,ad.off+2,none⟩=some s/\w.cell? ⟨ad.block,ad.off+3,none⟩=some (.string d.name)/\w.cell? ⟨ad.block,ad.off+4,none⟩=some (.int .i64 d.exp)/\w.cell? ⟨ad.block,ad.off+5,none⟩=some (.int .i64 d.rel)/\w.cell? ⟨ad.block,ad.off+6,none⟩=some (.bool d.truth)/\w.cell? ⟨ad.block,ad.off+7,none⟩=some (.bool d.all)/\w.cell? ⟨ad.block,ad.off+8,none⟩=some A
mutual
def TrV (w : World) (p : Nat -> Prop) : Tr -> Value -> Prop
 | .mk d ks,v=>∃ s A c,v=ndV d s (.slice A ks.length c)/\jb w s d.ds/\ks.length<=c/\c<=9223372036854775807/\ui w p ks A 0
def ui (w : World) (p : Nat -> Prop) : List Tr -> Option Addr -> Nat -> Prop
 | [],_,_=>True
 | t :: r,A,j=>(∃ ad s K,A=some ad/\ad.block < w.heap.size/\p ad.block/\uad w (ad.add (j * 9)) t.d s K/\TrV w p t (ndV t.d s K))/\ui w p r A (j+1)
end
section
variable {w w':World} {p q:Nat->Prop}
theorem ui.get_ (l:List Tr):∀ (A:Option Addr) (j:Nat),ui w p l A j->∀ i (h:i < l.length),∃ ad s K,A=some ad/\ad.block < w.heap.size/\p ad.block/\uad w (ad.add ((j+i) * 9)) l[i].d s K/\TrV w p l[i] (ndV l[i].d s K):=by
 induction l with
 | nil=>intro A j h i hi; simp at hi
 | cons t r ih =>
   intro A j h i hi;unfold ui at h;cases i with
   | zero=>exact h.1
   | succ i =>
     have:=ih A (j+1) h.2 i (by simpa using hi);rw [show j+(i+1)=j+1+i by omega];exact this
theorem uad.ext {ad:Addr} {d:Nd} {s A:Value} (h:uad w ad d s A) (hx:Ext w w') (hb:ad.block < w.heap.size):uad w' ad d s A:=by
 obtain ⟨h0,h1,h2,h3,h4,h5,h6,h7,h8⟩:=h;have k:∀ n,(⟨ad.block,ad.off+n,none⟩:Addr).block < w.heap.size:=fun n=>hb
 exact ⟨(hx.cell hb).trans h0,(hx.cell (k _)).trans h1,(hx.cell (k _)).trans h2,(hx.cell (k _)).trans h3,(hx.cell (k _)).trans h4,(hx.cell (k _)).trans h5,(hx.cell (k _)).trans h6,(hx.cell (k _)).trans h7,(hx.cell (k _)).trans h8⟩
mutual
theorem TrV.turn (hs : w.heap.size <= w'.heap.size) (hp : ∀ b, p b -> q b) (hn : ∀ v ds, jb w v ds -> jb w' v ds) (hc : ∀ (ad : Addr) d s A, ad.block < w.heap.size -> p ad.block -> uad w ad d s A -> uad w' ad d s A) : ∀ (t : Tr) (v : Value), TrV w p t v -> TrV w' q t v
 | .mk d ks,v,h=>by
   unfold TrV at h ⊢;obtain ⟨s,A,c,e,h1,h2,h3,h4⟩:=h;exact ⟨s,A,c,e,hn _ _ h1,h2,h3,ui.turn hs hp hn hc ks A 0 h4⟩
theorem ui.turn (hs : w.heap.size <= w'.heap.size) (hp : ∀ b, p b -> q b) (hn : ∀ v ds, jb w v ds -> jb w' v ds) (hc : ∀ (ad : Addr) d s A, ad.block < w.heap.size -> p ad.block -> uad w ad d s A -> uad w' ad d s A) : ∀ (l : List Tr) (A : Option Addr) (j : Nat), ui w p l A j -> ui w' q l A j
 | [],A,j,h=>by unfold ui; trivial
 | t :: r,A,j,h=>by
   unfold ui at h ⊢;obtain ⟨⟨ad,s,K,e,hb,hpb,h1,h2⟩,h3⟩:=h;exact ⟨⟨ad,s,K,e,Nat.lt_of_lt_of_le hb hs,hp _ hpb,hc _ _ _ _ (by rw [ja]; exact hb) (by rw [ja]; exact hpb) h1,TrV.turn hs hp hn hc t _ h2⟩,ui.turn hs hp hn hc r A (j+1) h3⟩
end
theorem TrV.ext {t:Tr} {v:Value} (h:TrV w p t v) (hx:Ext w w'):TrV w' p t v:=TrV.turn hx.size (fun _ h=>h) (fun _ _ h=>h.ext hx) (fun _ _ _ _ hb _ h=>h.ext hx hb) t v h
theorem ui.ext {l:List Tr} {A:Option Addr} {j:Nat} (h:ui w p l A j) (hx:Ext w w'):ui w' p l A j:=ui.turn hx.size (fun _ h=>h) (fun _ _ h=>h.ext hx) (fun _ _ _ _ hb _ h=>h.ext hx hb) l A j h
theorem TrV.mono {t:Tr} {v:Value} (h:TrV w p t v) (hp:∀ b,p b->q b):TrV w q t v:=TrV.turn (Nat.le_refl _) hp (fun _ _ h=>h) (fun _ _ _ _ _ _ h=>h) t v h
theorem TrV.open_ {t:Tr} {v:Value} (h:TrV w p t v):∃ A0 n0 c0 A c,v=ndV t.d (.slice A0 n0 c0) (.slice A t.ks.length c)/\jb w (.slice A0 n0 c0) t.d.ds/\t.ks.length<=c/\c<=9223372036854775807/\ui w p t.ks A 0:=by
 cases t with
 | mk d ks =>
   unfold TrV at h;obtain ⟨s,A,c,e,⟨A0,c0,rfl,hd⟩,h2,h3,h4⟩:=h;exact ⟨A0,_,c0,A,c,e,⟨A0,c0,rfl,hd⟩,h2,h3,h4⟩
theorem ui.kid {l:List Tr} {A:Option Addr} (h:ui w p l A 0) (k:Nat) (hk:k < l.length):∃ ad A0 n0 c0 A1 n1 c1,A=some ad/\ad.block < w.heap.size/\uad w (ad.add (k * 9)) l[k].d (.slice A0 n0 c0) (.slice A1 n1 c1)/\TrV w p l[k] (ndV l[k].d (.slice A0 n0 c0) (.slice A1 n1 c1)):=by
 obtain ⟨ad,s,K,e,hb,-,h1,h2⟩:=ui.get_ l A 0 h k hk;rw [Nat.zero_add] at h1;obtain ⟨A0,n0,c0,A1,c1,e2,-,-⟩:=h2.open_;unfold ndV at e2;simp only [Value.agg.injEq,Array.mk.injEq,List.cons.injEq,and_true,true_and] at e2;obtain ⟨rfl,rfl⟩:=e2;exact ⟨ad,A0,n0,c0,A1,_,c1,e,hb,h1,h2⟩
end
end Go.Proofs.YtaedbimbbeploaaGreatDoor
