/- Layer 34: terms and formulas as values. -/
import Derived.Test.YtopddaabiinboaaGreatMp5
import Derived.Test.YtopddaabiinboaaGreatMp8
import Derived.Test.YtopddaabiinboaaGreatMp7
import Derived.Test.YtopddaabiinboaaGreatMp2
set_option linter.unusedSimpArgs false
set_option linter.unusedVariables false

set_option maxRecDepth 100000
set_option maxHeartbeats 8000000
namespace Go.Proofs.YtopddaabiinboaaGreat
open Go.RowKit
attribute [local go_sem] gdg jde jdh vdg ydh zdh udg gdb kde wdg qdh wgt uc9 xdh wdb
inductive Tm where
 | num (z:Int) | name (s:ByteArray) | add (a b:Tm) | sub (a b:Tm) | mul (a b:Tm) | neg (a:Tm) | pow (a:Tm) (e:Int)
inductive Fm where
 | truth (b:Bool) | atom (l:Tm) (r:Int) (k:Tm) | not (f:Fm) | and (f g:Fm) | or (f g:Fm) | imp (f g:Fm) | iff (f g:Fm) | quant (all:Bool) (s:ByteArray) (f:Fm)
def TmV (w : World) (L : Nat) : Tm -> Value -> Prop
 | .num z,v=>∃ x,v=.iface 63 x/\xc4 w x z L
 | .name s,v=>v=.iface 60 (.agg #[.string s])
 | .add a b,v=>∃ x y,v=.iface 199 (.agg #[x,y])/\TmV w L a x/\TmV w L b y
 | .sub a b,v=>∃ x y,v=.iface 200 (.agg #[x,y])/\TmV w L a x/\TmV w L b y
 | .mul a b,v=>∃ x y,v=.iface 201 (.agg #[x,y])/\TmV w L a x/\TmV w L b y
 | .neg a,v=>∃ x,v=.iface 197 (.agg #[x])/\TmV w L a x
 | .pow a e,v=>∃ x,v=.iface 204 (.agg #[x,.int .i64 e])/\TmV w L a x
def FmV (w : World) (L : Nat) : Fm -> Value -> Prop
 | .truth b,v=>v=.iface 154 (.agg #[.bool b])
 | .atom l r k,v=>∃ x y,v=.iface 67 (.agg #[x,.int .i64 r,y])/\TmV w L l x/\TmV w L k y
 | .not f,v=>∃ x,v=.iface 158 (.agg #[x])/\FmV w L f x
 | .and f g,v=>∃ x y,v=.iface 160 (.agg #[x,y])/\FmV w L f x/\FmV w L g y
 | .or f g,v=>∃ x y,v=.iface 161 (.agg #[x,y])/\FmV w L f x/\FmV w L g y
 | .imp f g,v=>∃ x y,v=.iface 162 (.agg #[x,y])/\FmV w L f x/\FmV w L g y
 | .iff f g,v=>∃ x y,v=.iface 163 (.agg #[x,y])/\FmV w L f x/\FmV w L g y
 | .quant a s f,v=>∃ x,v=.iface 185 (.agg #[.bool a,.string s,x])/\FmV w L f x
theorem TmV.ext {w w':World} {L:Nat} (hx:Ext w w') {t:Tm} {v:Value} (h:TmV w L t v):TmV w' L t v:=by
 induction t generalizing v with
 | num z=>obtain ⟨x,e,h⟩:=h; exact ⟨x,e,h.ext hx⟩
 | name s=>exact h
 | add a b iha ihb=>obtain ⟨x,y,e,h,k⟩:=h; exact ⟨x,y,e,iha h,ihb k⟩
 | sub a b iha ihb=>obtain ⟨x,y,e,h,k⟩:=h; exact ⟨x,y,e,iha h,ihb k⟩
 | mul a b iha ihb=>obtain ⟨x,y,e,h,k⟩:=h; exact ⟨x,y,e,iha h,ihb k⟩
 | neg a iha=>obtain ⟨x,e,h⟩:=h; exact ⟨x,e,iha h⟩
 | pow a n iha=>obtain ⟨x,e,h⟩:=h; exact ⟨x,e,iha h⟩
theorem FmV.ext {w w':World} {L:Nat} (hx:Ext w w') {f:Fm} {v:Value} (h:FmV w L f v):FmV w' L f v:=by
 induction f generalizing v with
 | truth b=>exact h
 | atom l r k=>obtain ⟨x,y,e,h,k⟩:=h; exact ⟨x,y,e,h.ext hx,k.ext hx⟩
 | not f ihf=>obtain ⟨x,e,h⟩:=h; exact ⟨x,e,ihf h⟩
 | and f g ihf ihg=>obtain ⟨x,y,e,h,k⟩:=h; exact ⟨x,y,e,ihf h,ihg k⟩
 | or f g ihf ihg=>obtain ⟨x,y,e,h,k⟩:=h; exact ⟨x,y,e,ihf h,ihg k⟩
 | imp f g ihf ihg=>obtain ⟨x,y,e,h,k⟩:=h; exact ⟨x,y,e,ihf h,ihg k⟩
 | iff f g ihf ihg=>obtain ⟨x,y,e,h,k⟩:=h; exact ⟨x,y,e,ihf h,ihg k⟩
 | quant a s f ihf=>obtain ⟨x,e,h⟩:=h; exact ⟨x,e,ihf h⟩
theorem TmV.iface {w:World} {L:Nat} {t:Tm} {v:Value} (h:TmV w L t v):∃ T x,v=.iface T x:=by
 cases t <;> (simp only [TmV] at h) <;> first | exact ⟨_,_,h⟩ | (obtain ⟨_,e,_⟩:=h; exact ⟨_,_,e⟩) | (obtain ⟨_,_,e,_⟩:=h; exact ⟨_,_,e⟩)
theorem FmV.iface {w:World} {L:Nat} {f:Fm} {v:Value} (h:FmV w L f v):∃ T x,v=.iface T x:=by
 cases f <;> (simp only [FmV] at h) <;> first | exact ⟨_,_,h⟩ | (obtain ⟨_,e,_⟩:=h; exact ⟨_,_,e⟩) | (obtain ⟨_,_,e,_⟩:=h; exact ⟨_,_,e⟩)
def Fm.kids : Fm -> List Fm
 | .truth _=>[]
 | .atom _ _ _=>[]
 | .not f=>[f]
 | .and f g=>[f,g]
 | .or f g=>[f,g]
 | .imp f g=>[f,g]
 | .iff f g=>[f,g]
 | .quant _ _ f=>[f]
def Tm.kids : Tm -> List Tm
 | .num _=>[]
 | .name _=>[]
 | .add a b=>[a,b]
 | .sub a b=>[a,b]
 | .mul a b=>[a,b]
 | .neg a=>[a]
 | .pow a _=>[a]
def SlR {α:Type} (P:World->α->Value->Prop) (w:World) (v:Value) (l:List α):Prop:=
 ∃ A c,v=.slice A l.length c/\l.length<=c/\c<=9223372036854775807/\∀ j (h:j < l.length),∃ ad x,A=some ad/\ad.block < w.heap.size/\w.cell? (ad.add j)=some x/\P w l[j] x
theorem SlR.ext {α:Type} {P:World->α->Value->Prop} {w w':World} {v:Value} {l:List α} (h:SlR P w v l) (hP:∀ a x,P w a x->P w' a x) (k:Ext w w'):SlR P w' v l:=by
 obtain ⟨A,c,e,h1,h2,h3⟩:=h;refine ⟨A,c,e,h1,h2,fun j hj=>?_⟩;obtain ⟨ad,x,e,hb,hc,hp⟩:=h3 j hj;exact ⟨ad,x,e,Nat.lt_of_lt_of_le hb k.size,(k.cell (by rw [uc2]; exact hb)).trans hc,hP _ _ hp⟩
theorem SlR.nil {α:Type} (P:World->α->Value->Prop) (w:World):SlR P w (.slice none 0 0) []:=⟨none,0,rfl,by simp,by simp,fun j h=>absurd h (by simp)⟩
theorem SlR.one {α:Type} {P:World->α->Value->Prop} {w:World} {g:Nat} {a:α} {x:Value} (hg:g < w.heap.size) (h0:w.cell? ⟨g,0,none⟩=some x) (p0:P w a x):SlR P w (.slice (some ⟨g,0,none⟩) 1 1) [a]:=by
 refine ⟨_,1,rfl,by simp,by simp,fun j hj=>?_⟩;have:j=0:=by simp at hj; omega
 subst this;exact ⟨_,x,rfl,hg,by rw [zc9]; exact h0,p0⟩
theorem SlR.two {α:Type} {P:World->α->Value->Prop} {w:World} {g:Nat} {a b:α} {x y:Value} (hg:g < w.heap.size) (h0:w.cell? ⟨g,0,none⟩=some x) (h1:w.cell? ⟨g,1,none⟩=some y) (p0:P w a x) (p1:P w b y):SlR P w (.slice (some ⟨g,0,none⟩) 2 2) [a,b]:=by
 refine ⟨_,2,rfl,by simp,by simp,fun j hj=>?_⟩;rcases (show j=0\/j=1 by simp at hj; omega) with rfl | rfl
 · exact ⟨_,x,rfl,hg,by rw [zc9]; exact h0,p0⟩
 · exact ⟨_,y,rfl,hg,by rw [zc9]; exact h1,p1⟩
def wgx (w0:World) (L:Nat) (l:List Fm) (w:World) (e:Ending) (w':World):Prop:=∃ s,e=.returned s/\SlR (fun _ f v=>FmV w0 L f v) w' s l/\wc6 w.heap.size s/\Ext w w'
def vgz (w0:World) (L:Nat) (l:List Tm) (w:World) (e:Ending) (w':World):Prop:=∃ s,e=.returned s/\SlR (fun _ f v=>TmV w0 L f v) w' s l/\wc6 w.heap.size s/\Ext w w'
theorem xh2 {w0 w:World} {L:Nat} {b:Bool} {v:Value} (h:FmV w0 L (Fm.truth b) v):Calls Tryz.prog 113 #[v] w (wgx w0 L [] w):=by
 obtain rfl:=h;go_enter Tryz.func113,Tryz.ntmps113;go_wp2_with fail;go_ret;exact ⟨_,rfl,SlR.nil _ _,wc6.nil _ _ _,Ext.refl _⟩
theorem jh9 {w0 w:World} {L:Nat} {l k:Tm} {r:Int} {v:Value} (h:FmV w0 L (Fm.atom l r k) v):Calls Tryz.prog 113 #[v] w (wgx w0 L [] w):=by
 obtain ⟨x,y,rfl,hx,hy⟩:=h;go_enter Tryz.func113,Tryz.ntmps113;go_wp2_with fail;go_ret;exact ⟨_,rfl,SlR.nil _ _,wc6.nil _ _ _,Ext.refl _⟩
theorem gih {w0 w:World} {L:Nat} {f:Fm} {v:Value} (h:FmV w0 L (Fm.not f) v):Calls Tryz.prog 113 #[v] w (wgx w0 L [f] w):=by
 obtain ⟨x,rfl,hx⟩:=h;obtain ⟨T,x,rfl⟩:=hx.iface;go_enter Tryz.func113,Tryz.ntmps113;go_wp2_with fail;go_ret;have hX:Ext w ((w.alloc (Obj.cells #[.iface T x] 158)).alloc (Obj.cells #[.iface T x] 91)):=((Ext.refl w).alloc _).alloc _;exact ⟨_,rfl,SlR.one (by simp) (by simp [go_sem]) hx,wc6.mk _ _ _ _ (by simp),hX⟩
theorem yii {w0 w:World} {L:Nat} {f g:Fm} {v:Value} (h:FmV w0 L (Fm.and f g) v):Calls Tryz.prog 113 #[v] w (wgx w0 L [f,g] w):=by
 obtain ⟨x,y,rfl,hx,hy⟩:=h;obtain ⟨T,x,rfl⟩:=hx.iface;obtain ⟨U,y,rfl⟩:=hy.iface;go_enter Tryz.func113,Tryz.ntmps113;go_wp2_with fail;go_ret;have hX:Ext w ((w.alloc (Obj.cells #[.iface T x,.iface U y] 160)).alloc (Obj.cells #[.iface T x,.iface U y] 91)):=((Ext.refl w).alloc _).alloc _;exact ⟨_,rfl,SlR.two (by simp) (by simp [go_sem]) (by simp [go_sem]) hx hy,wc6.mk _ _ _ _ (by simp),hX⟩
theorem viq {w0 w:World} {L:Nat} {f g:Fm} {v:Value} (h:FmV w0 L (Fm.or f g) v):Calls Tryz.prog 113 #[v] w (wgx w0 L [f,g] w):=by
 obtain ⟨x,y,rfl,hx,hy⟩:=h;obtain ⟨T,x,rfl⟩:=hx.iface;obtain ⟨U,y,rfl⟩:=hy.iface;go_enter Tryz.func113,Tryz.ntmps113;go_wp2_with fail;go_ret;have hX:Ext w ((w.alloc (Obj.cells #[.iface T x,.iface U y] 161)).alloc (Obj.cells #[.iface T x,.iface U y] 91)):=((Ext.refl w).alloc _).alloc _;exact ⟨_,rfl,SlR.two (by simp) (by simp [go_sem]) (by simp [go_sem]) hx hy,wc6.mk _ _ _ _ (by simp),hX⟩
theorem wih {w0 w:World} {L:Nat} {f g:Fm} {v:Value} (h:FmV w0 L (Fm.imp f g) v):Calls Tryz.prog 113 #[v] w (wgx w0 L [f,g] w):=by
 obtain ⟨x,y,rfl,hx,hy⟩:=h;obtain ⟨T,x,rfl⟩:=hx.iface;obtain ⟨U,y,rfl⟩:=hy.iface;go_enter Tryz.func113,Tryz.ntmps113;go_wp2_with fail;go_ret;have hX:Ext w ((w.alloc (Obj.cells #[.iface T x,.iface U y] 162)).alloc (Obj.cells #[.iface T x,.iface U y] 91)):=((Ext.refl w).alloc _).alloc _;exact ⟨_,rfl,SlR.two (by simp) (by simp [go_sem]) (by simp [go_sem]) hx hy,wc6.mk _ _ _ _ (by simp),hX⟩
theorem zii {w0 w:World} {L:Nat} {f g:Fm} {v:Value} (h:FmV w0 L (Fm.iff f g) v):Calls Tryz.prog 113 #[v] w (wgx w0 L [f,g] w):=by
 obtain ⟨x,y,rfl,hx,hy⟩:=h;obtain ⟨T,x,rfl⟩:=hx.iface;obtain ⟨U,y,rfl⟩:=hy.iface;go_enter Tryz.func113,Tryz.ntmps113;go_wp2_with fail;go_ret;have hX:Ext w ((w.alloc (Obj.cells #[.iface T x,.iface U y] 163)).alloc (Obj.cells #[.iface T x,.iface U y] 91)):=((Ext.refl w).alloc _).alloc _;exact ⟨_,rfl,SlR.two (by simp) (by simp [go_sem]) (by simp [go_sem]) hx hy,wc6.mk _ _ _ _ (by simp),hX⟩
theorem jh2 {w0 w:World} {L:Nat} {a:Bool} {s:ByteArray} {f:Fm} {v:Value} (h:FmV w0 L (Fm.quant a s f) v):Calls Tryz.prog 113 #[v] w (wgx w0 L [f] w):=by
 obtain ⟨x,rfl,hx⟩:=h;obtain ⟨T,x,rfl⟩:=hx.iface;go_enter Tryz.func113,Tryz.ntmps113;go_wp2_with fail;go_ret;have hX:Ext w ((w.alloc (Obj.cells #[.bool a,.string s,.iface T x] 185)).alloc (Obj.cells #[.iface T x] 91)):=((Ext.refl w).alloc _).alloc _;exact ⟨_,rfl,SlR.one (by simp) (by simp [go_sem]) hx,wc6.mk _ _ _ _ (by simp),hX⟩
theorem whs {w0 w:World} {L:Nat} {z:Int} {v:Value} (h:TmV w0 L (Tm.num z) v):Calls Tryz.prog 158 #[v] w (vgz w0 L [] w):=by
 obtain ⟨x,rfl,hx⟩:=h;go_enter Tryz.func158,Tryz.ntmps158;go_wp2_with fail;go_ret;exact ⟨_,rfl,SlR.nil _ _,wc6.nil _ _ _,Ext.refl _⟩
theorem ghq {w0 w:World} {L:Nat} {s:ByteArray} {v:Value} (h:TmV w0 L (Tm.name s) v):Calls Tryz.prog 158 #[v] w (vgz w0 L [] w):=by
 obtain rfl:=h;go_enter Tryz.func158,Tryz.ntmps158;go_wp2_with fail;go_ret;exact ⟨_,rfl,SlR.nil _ _,wc6.nil _ _ _,Ext.refl _⟩
theorem xht {w0 w:World} {L:Nat} {a b:Tm} {v:Value} (h:TmV w0 L (Tm.add a b) v):Calls Tryz.prog 158 #[v] w (vgz w0 L [a,b] w):=by
 obtain ⟨x,y,rfl,hx,hy⟩:=h;obtain ⟨T,x,rfl⟩:=hx.iface;obtain ⟨U,y,rfl⟩:=hy.iface;go_enter Tryz.func158,Tryz.ntmps158;go_wp2_with fail;go_ret;have hX:Ext w ((w.alloc (Obj.cells #[.iface T x,.iface U y] 199)).alloc (Obj.cells #[.iface T x,.iface U y] 65)):=((Ext.refl w).alloc _).alloc _;exact ⟨_,rfl,SlR.two (by simp) (by simp [go_sem]) (by simp [go_sem]) hx hy,wc6.mk _ _ _ _ (by simp),hX⟩
theorem uhs {w0 w:World} {L:Nat} {a b:Tm} {v:Value} (h:TmV w0 L (Tm.sub a b) v):Calls Tryz.prog 158 #[v] w (vgz w0 L [a,b] w):=by
 obtain ⟨x,y,rfl,hx,hy⟩:=h;obtain ⟨T,x,rfl⟩:=hx.iface;obtain ⟨U,y,rfl⟩:=hy.iface;go_enter Tryz.func158,Tryz.ntmps158;go_wp2_with fail;go_ret;have hX:Ext w ((w.alloc (Obj.cells #[.iface T x,.iface U y] 200)).alloc (Obj.cells #[.iface T x,.iface U y] 65)):=((Ext.refl w).alloc _).alloc _;exact ⟨_,rfl,SlR.two (by simp) (by simp [go_sem]) (by simp [go_sem]) hx hy,wc6.mk _ _ _ _ (by simp),hX⟩
theorem yht {w0 w:World} {L:Nat} {a b:Tm} {v:Value} (h:TmV w0 L (Tm.mul a b) v):Calls Tryz.prog 158 #[v] w (vgz w0 L [a,b] w):=by
 obtain ⟨x,y,rfl,hx,hy⟩:=h;obtain ⟨T,x,rfl⟩:=hx.iface;obtain ⟨U,y,rfl⟩:=hy.iface;go_enter Tryz.func158,Tryz.ntmps158;go_wp2_with fail;go_ret;have hX:Ext w ((w.alloc (Obj.cells #[.iface T x,.iface U y] 201)).alloc (Obj.cells #[.iface T x,.iface U y] 65)):=((Ext.refl w).alloc _).alloc _;exact ⟨_,rfl,SlR.two (by simp) (by simp [go_sem]) (by simp [go_sem]) hx hy,wc6.mk _ _ _ _ (by simp),hX⟩
theorem zht {w0 w:World} {L:Nat} {a:Tm} {v:Value} (h:TmV w0 L (Tm.neg a) v):Calls Tryz.prog 158 #[v] w (vgz w0 L [a] w):=by
 obtain ⟨x,rfl,hx⟩:=h;obtain ⟨T,x,rfl⟩:=hx.iface;go_enter Tryz.func158,Tryz.ntmps158;go_wp2_with fail;go_ret;have hX:Ext w ((w.alloc (Obj.cells #[.iface T x] 197)).alloc (Obj.cells #[.iface T x] 65)):=((Ext.refl w).alloc _).alloc _;exact ⟨_,rfl,SlR.one (by simp) (by simp [go_sem]) hx,wc6.mk _ _ _ _ (by simp),hX⟩
theorem ghs {w0 w:World} {L:Nat} {a:Tm} {n:Int} {v:Value} (h:TmV w0 L (Tm.pow a n) v):Calls Tryz.prog 158 #[v] w (vgz w0 L [a] w):=by
 obtain ⟨x,rfl,hx⟩:=h;obtain ⟨T,x,rfl⟩:=hx.iface;go_enter Tryz.func158,Tryz.ntmps158;go_wp2_with fail;go_ret;have hX:Ext w ((w.alloc (Obj.cells #[.iface T x,.int .i64 n] 204)).alloc (Obj.cells #[.iface T x] 65)):=((Ext.refl w).alloc _).alloc _;exact ⟨_,rfl,SlR.one (by simp) (by simp [go_sem]) hx,wc6.mk _ _ _ _ (by simp),hX⟩
theorem wgv {w0 w:World} {L:Nat} (f:Fm) {v:Value} (h:FmV w0 L f v):Calls Tryz.prog 113 #[v] w (wgx w0 L f.kids w):=by
 cases f
 · exact xh2 h
 · exact jh9 h
 · exact gih h
 · exact yii h
 · exact viq h
 · exact wih h
 · exact zii h
 · exact jh2 h
theorem xha {w0 w:World} {L:Nat} (t:Tm) {v:Value} (h:TmV w0 L t v):Calls Tryz.prog 158 #[v] w (vgz w0 L t.kids w):=by
 cases t
 · exact whs h
 · exact ghq h
 · exact xht h
 · exact uhs h
 · exact yht h
 · exact zht h
 · exact ghs h
end Go.Proofs.YtopddaabiinboaaGreat

/- Layer 34: trees as values. -/
namespace Go.Proofs.YtopddaabiinboaaGreat
open Go.RowKit
structure Nd where
 kind:Int
 neg:Bool
 ds:List Nat
 name:ByteArray
 exp:Int
 rel:Int
 truth:Bool
 all:Bool
inductive Tr where
 | mk (d:Nd) (ks:List Tr)
def Tr.d : Tr -> Nd
 | .mk d _=>d
def Tr.ks : Tr -> List Tr
 | .mk _ ks=>ks
def ndV (d:Nd) (s A:Value):Value:=.agg #[.int .i64 d.kind,.bool d.neg,s,.string d.name,.int .i64 d.exp,.int .i64 d.rel,.bool d.truth,.bool d.all,A]
def zgt (w:World) (ad:Addr) (d:Nd) (s A:Value):Prop:=
 w.cell? ad=some (.int .i64 d.kind)/\w.cell? ⟨ad.block,ad.off+1,none⟩=some (.bool d.neg)/\w.cell? ⟨ad.block,ad.off+2,none⟩=some s/\w.cell? ⟨ad.block,ad.off+3,none⟩=some (.string d.name)/\w.cell? ⟨ad.block,ad.off+4,none⟩=some (.int .i64 d.exp)/\w.cell? ⟨ad.block,ad.off+5,none⟩=some (.int .i64 d.rel)/\w.cell? ⟨ad.block,ad.off+6,none⟩=some (.bool d.truth)/\w.cell? ⟨ad.block,ad.off+7,none⟩=some (.bool d.all)/\w.cell? ⟨ad.block,ad.off+8,none⟩=some A
mutual
def TrV (w : World) (p : Nat -> Prop) : Tr -> Value -> Prop
 | .mk d ks,v=>∃ s A c,v=ndV d s (.slice A ks.length c)/\vc2 w s d.ds/\ks.length<=c/\c<=9223372036854775807/\jc6 w p ks A 0
def jc6 (w : World) (p : Nat -> Prop) : List Tr -> Option Addr -> Nat -> Prop
 | [],_,_=>True
 | t :: r,A,j=>(∃ ad s K,A=some ad/\ad.block < w.heap.size/\p ad.block/\zgt w (ad.add (j * 9)) t.d s K/\TrV w p t (ndV t.d s K))/\jc6 w p r A (j+1)
end
section
variable {w w':World} {p q:Nat->Prop}
theorem jc6.get_ (l:List Tr):∀ (A:Option Addr) (j:Nat),jc6 w p l A j->∀ i (h:i < l.length),∃ ad s K,A=some ad/\ad.block < w.heap.size/\p ad.block/\zgt w (ad.add ((j+i) * 9)) l[i].d s K/\TrV w p l[i] (ndV l[i].d s K):=by
 induction l with
 | nil=>intro A j h i hi; simp at hi
 | cons t r ih =>
   intro A j h i hi;unfold jc6 at h;cases i with
   | zero=>exact h.1
   | succ i =>
     have:=ih A (j+1) h.2 i (by simpa using hi);rw [show j+(i+1)=j+1+i by omega];exact this
theorem zgt.ext {ad:Addr} {d:Nd} {s A:Value} (h:zgt w ad d s A) (hx:Ext w w') (hb:ad.block < w.heap.size):zgt w' ad d s A:=by
 obtain ⟨h0,h1,h2,h3,h4,h5,h6,h7,h8⟩:=h;have k:∀ n,(⟨ad.block,ad.off+n,none⟩:Addr).block < w.heap.size:=fun n=>hb
 exact ⟨(hx.cell hb).trans h0,(hx.cell (k _)).trans h1,(hx.cell (k _)).trans h2,(hx.cell (k _)).trans h3,(hx.cell (k _)).trans h4,(hx.cell (k _)).trans h5,(hx.cell (k _)).trans h6,(hx.cell (k _)).trans h7,(hx.cell (k _)).trans h8⟩
mutual
theorem TrV.turn (hs : w.heap.size <= w'.heap.size) (hp : ∀ b, p b -> q b) (hn : ∀ v ds, vc2 w v ds -> vc2 w' v ds) (hc : ∀ (ad : Addr) d s A, ad.block < w.heap.size -> p ad.block -> zgt w ad d s A -> zgt w' ad d s A) : ∀ (t : Tr) (v : Value), TrV w p t v -> TrV w' q t v
 | .mk d ks,v,h=>by
   unfold TrV at h ⊢;obtain ⟨s,A,c,e,h1,h2,h3,h4⟩:=h;exact ⟨s,A,c,e,hn _ _ h1,h2,h3,jc6.turn hs hp hn hc ks A 0 h4⟩
theorem jc6.turn (hs : w.heap.size <= w'.heap.size) (hp : ∀ b, p b -> q b) (hn : ∀ v ds, vc2 w v ds -> vc2 w' v ds) (hc : ∀ (ad : Addr) d s A, ad.block < w.heap.size -> p ad.block -> zgt w ad d s A -> zgt w' ad d s A) : ∀ (l : List Tr) (A : Option Addr) (j : Nat), jc6 w p l A j -> jc6 w' q l A j
 | [],A,j,h=>by unfold jc6; trivial
 | t :: r,A,j,h=>by
   unfold jc6 at h ⊢;obtain ⟨⟨ad,s,K,e,hb,hpb,h1,h2⟩,h3⟩:=h;exact ⟨⟨ad,s,K,e,Nat.lt_of_lt_of_le hb hs,hp _ hpb,hc _ _ _ _ (by rw [uc2]; exact hb) (by rw [uc2]; exact hpb) h1,TrV.turn hs hp hn hc t _ h2⟩,jc6.turn hs hp hn hc r A (j+1) h3⟩
end
theorem TrV.ext {t:Tr} {v:Value} (h:TrV w p t v) (hx:Ext w w'):TrV w' p t v:=TrV.turn hx.size (fun _ h=>h) (fun _ _ h=>h.ext hx) (fun _ _ _ _ hb _ h=>h.ext hx hb) t v h
theorem jc6.ext {l:List Tr} {A:Option Addr} {j:Nat} (h:jc6 w p l A j) (hx:Ext w w'):jc6 w' p l A j:=jc6.turn hx.size (fun _ h=>h) (fun _ _ h=>h.ext hx) (fun _ _ _ _ hb _ h=>h.ext hx hb) l A j h
theorem TrV.mono {t:Tr} {v:Value} (h:TrV w p t v) (hp:∀ b,p b->q b):TrV w q t v:=TrV.turn (Nat.le_refl _) hp (fun _ _ h=>h) (fun _ _ _ _ _ _ h=>h) t v h
theorem TrV.open_ {t:Tr} {v:Value} (h:TrV w p t v):∃ A0 n0 c0 A c,v=ndV t.d (.slice A0 n0 c0) (.slice A t.ks.length c)/\vc2 w (.slice A0 n0 c0) t.d.ds/\t.ks.length<=c/\c<=9223372036854775807/\jc6 w p t.ks A 0:=by
 cases t with
 | mk d ks =>
   unfold TrV at h;obtain ⟨s,A,c,e,⟨A0,c0,rfl,hd⟩,h2,h3,h4⟩:=h;exact ⟨A0,_,c0,A,c,e,⟨A0,c0,rfl,hd⟩,h2,h3,h4⟩
theorem jc6.kid {l:List Tr} {A:Option Addr} (h:jc6 w p l A 0) (k:Nat) (hk:k < l.length):∃ ad A0 n0 c0 A1 n1 c1,A=some ad/\ad.block < w.heap.size/\zgt w (ad.add (k * 9)) l[k].d (.slice A0 n0 c0) (.slice A1 n1 c1)/\TrV w p l[k] (ndV l[k].d (.slice A0 n0 c0) (.slice A1 n1 c1)):=by
 obtain ⟨ad,s,K,e,hb,-,h1,h2⟩:=jc6.get_ l A 0 h k hk;rw [Nat.zero_add] at h1;obtain ⟨A0,n0,c0,A1,c1,e2,-,-⟩:=h2.open_;unfold ndV at e2;simp only [Value.agg.injEq,Array.mk.injEq,List.cons.injEq,and_true,true_and] at e2;obtain ⟨rfl,rfl⟩:=e2;exact ⟨ad,A0,n0,c0,A1,_,c1,e,hb,h1,h2⟩
end
end Go.Proofs.YtopddaabiinboaaGreat

/- Layer 34: trees of a call's own: each row of kids lies in a block of its own, in an interval of blocks. -/
namespace Go.Proofs.YtopddaabiinboaaGreat
open Go.RowKit
mutual
def TrO (w : World) : Nat -> Nat -> Tr -> Value -> Prop
 | lo,hi,.mk d ks,v=>∃ s A c,v=ndV d s (.slice A ks.length c)/\vc2 w s d.ds/\ks.length<=c/\c<=9223372036854775807/\(ks=[]\/∃ b,A=some ⟨b,0,none⟩/\lo<=b/\b < hi/\b < w.heap.size/\(∀ o,w.frozen? ⟨b,o,none⟩=false)/\gde w lo b ks b 0)
def gde (w : World) : Nat -> Nat -> List Tr -> Nat -> Nat -> Prop
 | _,_,[],_,_=>True
 | lo,hi,t :: r,b,j=>∃ m s K,lo<=m/\m<=hi/\zgt w ⟨b,j * 9,none⟩ t.d s K/\TrO w lo m t (ndV t.d s K)/\gde w m hi r b (j+1)
end
section
variable {w w':World}
theorem zgt.same {ad:Addr} {d:Nd} {s A:Value} (h:zgt w ad d s A) (k0:w'.cell? ad=w.cell? ad) (k:∀ n,n < 9->w'.cell? ⟨ad.block,ad.off+n,none⟩=w.cell? ⟨ad.block,ad.off+n,none⟩):zgt w' ad d s A:=by
 obtain ⟨h0,h1,h2,h3,h4,h5,h6,h7,h8⟩:=h;exact ⟨k0.trans h0,(k 1 (by omega)).trans h1,(k 2 (by omega)).trans h2,(k 3 (by omega)).trans h3,(k 4 (by omega)).trans h4,(k 5 (by omega)).trans h5,(k 6 (by omega)).trans h6,(k 7 (by omega)).trans h7,(k 8 (by omega)).trans h8⟩
theorem uhj {a:Addr} (h:w'.heap[a.block]?=w.heap[a.block]?):w'.frozen? a=w.frozen? a:=by
 unfold World.frozen?; rw [h]
mutual
theorem TrO.turn (hs : w.heap.size <= w'.heap.size) (hn : ∀ v ds, vc2 w v ds -> vc2 w' v ds) : ∀ (t : Tr) (v : Value) (lo hi lo' hi' : Nat), lo' <= lo -> hi <= hi' -> (∀ i, lo <= i -> i < hi -> i < w.heap.size -> w'.heap[i]? = w.heap[i]?) -> TrO w lo hi t v -> TrO w' lo' hi' t v
 | .mk d ks,v,lo,hi,lo',hi',hl,hh,hc,h=>by
   unfold TrO at h ⊢;obtain ⟨s,A,c,e,h1,h2,h3,h4⟩:=h;refine ⟨s,A,c,e,hn _ _ h1,h2,h3,?_⟩;rcases h4 with h4 | ⟨b,eA,hb1,hb2,hb3,hf,h4⟩
   · exact .inl h4
   · exact .inr ⟨b,eA,by omega,by omega,by omega,fun o=>(uhj (hc b hb1 hb2 hb3)).trans (hf o),gde.turn hs hn ks b 0 lo b lo' b hl (Nat.le_refl _) (fun i h1 h2 h3=>hc i h1 (by omega) h3) (hc b hb1 hb2 hb3) h4⟩
theorem gde.turn (hs : w.heap.size <= w'.heap.size) (hn : ∀ v ds, vc2 w v ds -> vc2 w' v ds) : ∀ (l : List Tr) (b j lo hi lo' hi' : Nat), lo' <= lo -> hi <= hi' -> (∀ i, lo <= i -> i < hi -> i < w.heap.size -> w'.heap[i]? = w.heap[i]?) -> w'.heap[b]? = w.heap[b]? -> gde w lo hi l b j -> gde w' lo' hi' l b j
 | [],b,j,lo,hi,lo',hi',hl,hh,hc,hb,h=>by unfold gde; trivial
 | t :: r,b,j,lo,hi,lo',hi',hl,hh,hc,hb,h=>by
   unfold gde at h ⊢;obtain ⟨m,s,K,h1,h2,h3,h4,h5⟩:=h;exact ⟨m,s,K,by omega,by omega,h3.same (World.cell?_of_block hb) (fun n _=>World.cell?_of_block hb),TrO.turn hs hn t _ lo m lo' m hl (Nat.le_refl _) (fun i h1 h2 h3=>hc i h1 (by omega) h3) h4,gde.turn hs hn r b (j+1) m hi m hi' (Nat.le_refl _) hh (fun i h1 h2 h3=>hc i (by omega) h2 h3) hb h5⟩
end
theorem TrO.ext {t:Tr} {v:Value} {lo hi:Nat} (h:TrO w lo hi t v) (hx:Ext w w'):TrO w' lo hi t v:=TrO.turn hx.size (fun _ _ h=>h.ext hx) t v lo hi lo hi (Nat.le_refl _) (Nat.le_refl _) (fun i _ _ hi=>hx.below.block i hi) h
theorem TrO.mono {t:Tr} {v:Value} {lo hi lo' hi':Nat} (h:TrO w lo hi t v) (hl:lo'<=lo) (hh:hi<=hi'):TrO w lo' hi' t v:=TrO.turn (Nat.le_refl _) (fun _ _ h=>h) t v lo hi lo' hi' hl hh (fun i _ _ _=>rfl) h
mutual
theorem TrO.trV_ {p : Nat -> Prop} : ∀ (t : Tr) (v : Value) (lo hi : Nat), (∀ b, lo <= b -> b < hi -> p b) -> TrO w lo hi t v -> TrV w p t v
 | .mk d ks,v,lo,hi,hp,h=>by
   unfold TrO at h;unfold TrV;obtain ⟨s,A,c,e,h1,h2,h3,h4⟩:=h;refine ⟨s,A,c,e,h1,h2,h3,?_⟩;rcases h4 with rfl | ⟨b,rfl,hb1,hb2,hb3,-,h4⟩
   · unfold jc6; trivial
   · exact gde.trsAt ks b 0 lo b (fun i h1 h2=>hp i h1 (by omega)) hb3 (hp b hb1 hb2) h4
theorem gde.trsAt {p : Nat -> Prop} : ∀ (l : List Tr) (b j lo hi : Nat), (∀ i, lo <= i -> i < hi -> p i) -> b < w.heap.size -> p b -> gde w lo hi l b j -> jc6 w p l (some ⟨b, 0, none⟩) j
 | [],b,j,lo,hi,hp,hb,hpb,h=>by unfold jc6; trivial
 | t :: r,b,j,lo,hi,hp,hb,hpb,h=>by
   unfold gde at h;unfold jc6;obtain ⟨m,s,K,h1,h2,h3,h4,h5⟩:=h;exact ⟨⟨⟨b,0,none⟩,s,K,rfl,hb,hpb,by rw [zc9,Nat.zero_add]; exact h3,TrO.trV_ t _ lo m (fun i h1 h2=>hp i h1 (by omega)) h4⟩,gde.trsAt r b (j+1) m hi (fun i h1 h2=>hp i (by omega) h2) hb hpb h5⟩
end
theorem TrO.trV {t:Tr} {v:Value} {lo hi:Nat} (h:TrO w lo hi t v):TrV w (fun b=>lo<=b) t v:=TrO.trV_ t v lo hi (fun _ h _=>h) h
theorem TrO.open_ {t:Tr} {v:Value} {lo hi:Nat} (h:TrO w lo hi t v):∃ A0 n0 c0 A c,v=ndV t.d (.slice A0 n0 c0) (.slice A t.ks.length c)/\vc2 w (.slice A0 n0 c0) t.d.ds/\t.ks.length<=c/\c<=9223372036854775807/\(t.ks=[]\/∃ b,A=some ⟨b,0,none⟩/\lo<=b/\b < hi/\b < w.heap.size/\(∀ o,w.frozen? ⟨b,o,none⟩=false)/\gde w lo b t.ks b 0):=by
 cases t with
 | mk d ks =>
   unfold TrO at h;obtain ⟨s,A,c,e,⟨A0,c0,rfl,hd⟩,h2,h3,h4⟩:=h;exact ⟨A0,_,c0,A,c,e,⟨A0,c0,rfl,hd⟩,h2,h3,h4⟩
theorem TrO.mk {t:Tr} {s:Value} {A:Option Addr} {c lo hi:Nat} (h1:vc2 w s t.d.ds) (h2:t.ks.length<=c) (h3:c<=9223372036854775807) (h4:t.ks=[]\/∃ b,A=some ⟨b,0,none⟩/\lo<=b/\b < hi/\b < w.heap.size/\(∀ o,w.frozen? ⟨b,o,none⟩=false)/\gde w lo b t.ks b 0):TrO w lo hi t (ndV t.d s (.slice A t.ks.length c)):=by
 cases t with
 | mk d ks=>unfold TrO; exact ⟨s,A,c,rfl,h1,h2,h3,h4⟩
end
end Go.Proofs.YtopddaabiinboaaGreat

/- Layer 22: recursive polynomials as values. -/
namespace Go.Proofs.YtopddaabiinboaaGreat
open Go.RowKit
def plV (p:Pl) (s A:Value):Value:=.agg #[.int .i64 p.lv,.bool p.neg,s,A]
def xgu (w:World) (ad:Addr) (p:Pl) (s A:Value):Prop:=
 w.cell? ad=some (.int .i64 p.lv)/\w.cell? ⟨ad.block,ad.off+1,none⟩=some (.bool p.neg)/\w.cell? ⟨ad.block,ad.off+2,none⟩=some s/\w.cell? ⟨ad.block,ad.off+3,none⟩=some A
mutual
def PlV (w : World) (q : Nat -> Prop) : Pl -> Value -> Prop
 | .mk l n d cs,v=>∃ s A c,v=.agg #[.int .i64 l,.bool n,s,.slice A cs.length c]/\vc2 w s d/\cs.length<=c/\c<=9223372036854775807/\kc3 w q cs A 0
def kc3 (w : World) (q : Nat -> Prop) : List Pl -> Option Addr -> Nat -> Prop
 | [],_,_=>True
 | t :: r,A,j=>(∃ ad s K,A=some ad/\ad.block < w.heap.size/\q ad.block/\xgu w (ad.add (j * 4)) t s K/\PlV w q t (plV t s K))/\kc3 w q r A (j+1)
end
section
variable {w w':World} {p q:Nat->Prop}
theorem kc3.get_ (l:List Pl):∀ (A:Option Addr) (j:Nat),kc3 w p l A j->∀ i (h:i < l.length),∃ ad s K,A=some ad/\ad.block < w.heap.size/\p ad.block/\xgu w (ad.add ((j+i) * 4)) l[i] s K/\PlV w p l[i] (plV l[i] s K):=by
 induction l with
 | nil=>intro A j h i hi; simp at hi
 | cons t r ih =>
   intro A j h i hi;unfold kc3 at h;cases i with
   | zero=>exact h.1
   | succ i =>
     have:=ih A (j+1) h.2 i (by simpa using hi);rw [show j+(i+1)=j+1+i by omega];exact this
theorem kc3.of (l:List Pl):∀ (A:Option Addr) (j:Nat),(∀ i (h:i < l.length),∃ ad s K,A=some ad/\ad.block < w.heap.size/\p ad.block/\xgu w (ad.add ((j+i) * 4)) l[i] s K/\PlV w p l[i] (plV l[i] s K))->kc3 w p l A j:=by
 induction l with
 | nil=>intro A j h; unfold kc3; trivial
 | cons t r ih =>
   intro A j h;unfold kc3;refine ⟨h 0 (by simp),ih A (j+1) fun i hi=>?_⟩;have:=h (i+1) (by simpa using hi);rw [show j+(i+1)=j+1+i by omega] at this;exact this
theorem xgu.same {ad:Addr} {t:Pl} {s A:Value} (h:xgu w ad t s A) (k0:w'.cell? ad=w.cell? ad) (k:∀ n,n < 4->w'.cell? ⟨ad.block,ad.off+n,none⟩=w.cell? ⟨ad.block,ad.off+n,none⟩):xgu w' ad t s A:=by
 obtain ⟨h0,h1,h2,h3⟩:=h;exact ⟨k0.trans h0,(k 1 (by omega)).trans h1,(k 2 (by omega)).trans h2,(k 3 (by omega)).trans h3⟩
theorem xgu.ext {ad:Addr} {t:Pl} {s A:Value} (h:xgu w ad t s A) (hx:Ext w w') (hb:ad.block < w.heap.size):xgu w' ad t s A:=h.same (hx.cell hb) (fun n _=>hx.cell (p:=⟨ad.block,ad.off+n,none⟩) hb)
mutual
theorem PlV.turn (hs : w.heap.size <= w'.heap.size) (hn : ∀ v ds, vc2 w v ds -> vc2 w' v ds) (hc : ∀ b, b < w.heap.size -> p b -> q b /\ w'.heap[b]? = w.heap[b]?) : ∀ (t : Pl) (v : Value), PlV w p t v -> PlV w' q t v
 | .mk l n d cs,v,h=>by
   unfold PlV at h ⊢;obtain ⟨s,A,c,e,h1,h2,h3,h4⟩:=h;exact ⟨s,A,c,e,hn _ _ h1,h2,h3,kc3.turn hs hn hc cs A 0 h4⟩
theorem kc3.turn (hs : w.heap.size <= w'.heap.size) (hn : ∀ v ds, vc2 w v ds -> vc2 w' v ds) (hc : ∀ b, b < w.heap.size -> p b -> q b /\ w'.heap[b]? = w.heap[b]?) : ∀ (l : List Pl) (A : Option Addr) (j : Nat), kc3 w p l A j -> kc3 w' q l A j
 | [],A,j,h=>by unfold kc3; trivial
 | t :: r,A,j,h=>by
   unfold kc3 at h ⊢;obtain ⟨⟨ad,s,K,e,hb,hpb,h1,h2⟩,h3⟩:=h;obtain ⟨hq,hk⟩:=hc _ hb hpb;exact ⟨⟨ad,s,K,e,Nat.lt_of_lt_of_le hb hs,hq,h1.same (World.cell?_of_block (by rw [uc2]; exact hk)) (fun n _=>World.cell?_of_block (a:=⟨(ad.add (j * 4)).block,(ad.add (j * 4)).off+n,none⟩) (by show w'.heap[(ad.add (j * 4)).block]?=_; rw [uc2]; exact hk)),PlV.turn hs hn hc t _ h2⟩,kc3.turn hs hn hc r A (j+1) h3⟩
end
theorem PlV.turn_ {t:Pl} {v:Value} (hs:w.heap.size<=w'.heap.size) (hn:∀ v ds,vc2 w v ds->vc2 w' v ds) (hc:∀ b,b < w.heap.size->p b->q b/\w'.heap[b]?=w.heap[b]?) (h:PlV w p t v):PlV w' q t v:=PlV.turn hs hn hc t v h
theorem PlV.ext {t:Pl} {v:Value} (h:PlV w p t v) (hx:Ext w w'):PlV w' p t v:=PlV.turn hx.size (fun _ _ h=>h.ext hx) (fun b hb hp=>⟨hp,hx.below.block b hb⟩) t v h
theorem kc3.ext {l:List Pl} {A:Option Addr} {j:Nat} (h:kc3 w p l A j) (hx:Ext w w'):kc3 w' p l A j:=kc3.turn hx.size (fun _ _ h=>h.ext hx) (fun b hb hp=>⟨hp,hx.below.block b hb⟩) l A j h
theorem PlV.mono {t:Pl} {v:Value} (h:PlV w p t v) (hp:∀ b,p b->q b):PlV w q t v:=PlV.turn (Nat.le_refl _) (fun _ _ h=>h) (fun b _ h=>⟨hp b h,rfl⟩) t v h
theorem PlV.open_ {t:Pl} {v:Value} (h:PlV w p t v):∃ A0 n0 c0 A c,v=plV t (.slice A0 n0 c0) (.slice A t.cs.length c)/\vc2 w (.slice A0 n0 c0) t.ds/\t.cs.length<=c/\c<=9223372036854775807/\kc3 w p t.cs A 0:=by
 cases t with
 | mk l n d cs =>
   unfold PlV at h;obtain ⟨s,A,c,e,⟨A0,c0,rfl,hd⟩,h2,h3,h4⟩:=h;exact ⟨A0,_,c0,A,c,e,⟨A0,c0,rfl,hd⟩,h2,h3,h4⟩
theorem PlV.mk {t:Pl} {s:Value} {A:Option Addr} {c:Nat} (h1:vc2 w s t.ds) (h2:t.cs.length<=c) (h3:c<=9223372036854775807) (h4:kc3 w p t.cs A 0):PlV w p t (plV t s (.slice A t.cs.length c)):=by
 cases t with
 | mk l n d cs=>unfold PlV; exact ⟨s,A,c,rfl,h1,h2,h3,h4⟩
theorem kc3.kid {l:List Pl} {A:Option Addr} (h:kc3 w p l A 0) (k:Nat) (hk:k < l.length):∃ ad A0 n0 c0 A1 n1 c1,A=some ad/\ad.block < w.heap.size/\xgu w (ad.add (k * 4)) l[k] (.slice A0 n0 c0) (.slice A1 n1 c1)/\PlV w p l[k] (plV l[k] (.slice A0 n0 c0) (.slice A1 n1 c1)):=by
 obtain ⟨ad,s,K,e,hb,-,h1,h2⟩:=kc3.get_ l A 0 h k hk;rw [Nat.zero_add] at h1;obtain ⟨A0,n0,c0,A1,c1,e2,-,-⟩:=h2.open_;unfold plV at e2;simp only [Value.agg.injEq,Array.mk.injEq,List.cons.injEq,and_true,true_and] at e2;obtain ⟨rfl,rfl⟩:=e2;exact ⟨ad,A0,n0,c0,A1,_,c1,e,hb,h1,h2⟩
end
def yc3 (w:World) (g:Nat) (p:Pl) (s A:Value):Prop:=
 w.cell? ⟨g,0,none⟩=some (.int .i64 p.lv)/\w.cell? ⟨g,1,none⟩=some (.bool p.neg)/\w.cell? ⟨g,2,none⟩=some s/\w.cell? ⟨g,3,none⟩=some A
theorem yc3.turn {w w':World} {g:Nat} {p:Pl} {s A:Value} (h:yc3 w g p s A) (hb:w'.heap[g]?=w.heap[g]?):yc3 w' g p s A:=by
 obtain ⟨h0,h1,h2,h3⟩:=h;have k:∀ i,w'.cell? ⟨g,i,none⟩=w.cell? ⟨g,i,none⟩:=fun i=>World.cell?_of_block (a:=⟨g,i,none⟩) hb
 exact ⟨(k _).trans h0,(k _).trans h1,(k _).trans h2,(k _).trans h3⟩
theorem yc3.ext {w w':World} {g:Nat} {p:Pl} {s A:Value} (h:yc3 w g p s A) (hx:Ext w w') (hg:g < w.heap.size):yc3 w' g p s A:=h.turn (hx.below.block g hg)
theorem yc3.new (w:World) (p:Pl) (s A:Value) (T:TypeId):yc3 (w.alloc (.cells #[.int .i64 p.lv,.bool p.neg,s,A] T)) w.heap.size p s A:=by
 refine ⟨?_,?_,?_,?_⟩ <;> simp [go_sem]
end Go.Proofs.YtopddaabiinboaaGreat

/- Layer 20: sums of terms as values. -/
namespace Go.Proofs.YtopddaabiinboaaGreat
open Go.RowKit
def Cf (w:World) (k:Option Nat) (x:Value) (z:Int):Prop:=match k with
 | none=>kdb w x z
 | some L=>xc4 w x z L
section
variable {w w':World} {k:Option Nat} {x:Value} {z:Int}
theorem Cf.turn (h:Cf w k x z) (hn:∀ v ds,vc2 w v ds->vc2 w' v ds):Cf w' k x z:=by
 cases k with
 | none=>obtain ⟨v,e,hv⟩:=h; exact ⟨v,e,hn _ _ hv⟩
 | some L=>obtain ⟨neg,v,ds,e,hv,h1,h2⟩:=h; exact ⟨neg,v,ds,e,hn _ _ hv,h1,h2⟩
theorem Cf.ext (h:Cf w k x z) (hx:Ext w w'):Cf w' k x z:=h.turn fun _ _ hv=>hv.ext hx
theorem Cf.unpack (h:Cf w k x z):∃ b A n c,x=.agg #[.bool b,.slice A n c]:=by
 cases k with
 | none=>exact kdb.unpack h
 | some L=>exact xc4.unpack h
theorem Cf.raw (h:Cf w k x z):xc4 w x z (k.getD (dg z.natAbs).length):=by
 cases k with
 | none=>exact kdb.raw h
 | some L=>exact h
end
def tmC (b:Bool) (s:Value) (m:Mo):List Value:=[.bool b,s,.int .i64 m.a,.int .i64 m.b,.int .i64 m.c,.int .i64 m.d]
def xg9 (w:World) (ad:Addr) (b:Bool) (s:Value) (m:Mo):Prop:=
 w.cell? ad=some (.bool b)/\w.cell? ⟨ad.block,ad.off+1,none⟩=some s/\w.cell? ⟨ad.block,ad.off+2,none⟩=some (.int .i64 m.a)/\w.cell? ⟨ad.block,ad.off+3,none⟩=some (.int .i64 m.b)/\w.cell? ⟨ad.block,ad.off+4,none⟩=some (.int .i64 m.c)/\w.cell? ⟨ad.block,ad.off+5,none⟩=some (.int .i64 m.d)
theorem xg9.same {w w':World} {ad:Addr} {b:Bool} {s:Value} {m:Mo} (h:xg9 w ad b s m) (k0:w'.cell? ad=w.cell? ad) (k:∀ n,n < 6->w'.cell? ⟨ad.block,ad.off+n,none⟩=w.cell? ⟨ad.block,ad.off+n,none⟩):xg9 w' ad b s m:=by
 obtain ⟨h0,h1,h2,h3,h4,h5⟩:=h;exact ⟨k0.trans h0,(k 1 (by omega)).trans h1,(k 2 (by omega)).trans h2,(k 3 (by omega)).trans h3,(k 4 (by omega)).trans h4,(k 5 (by omega)).trans h5⟩
theorem xg9.ext {w w':World} {ad:Addr} {b:Bool} {s:Value} {m:Mo} (h:xg9 w ad b s m) (hx:Ext w w') (hb:ad.block < w.heap.size):xg9 w' ad b s m:=h.same (hx.cell hb) (fun n _=>hx.cell (p:=⟨ad.block,ad.off+n,none⟩) hb)
def qhc (w:World) (k:Option Nat) (A:Option Addr) (l:Sp):Prop:=
 ∀ i (h:i < l.length),∃ ad b B n c,A=some ad/\ad.block < w.heap.size/\xg9 w (ad.add (i * 6)) b (.slice B n c) l[i].2/\Cf w k (.agg #[.bool b,.slice B n c]) l[i].1
def SpV (w:World) (k:Option Nat) (v:Value) (l:Sp):Prop:=∃ A c,v=.slice A l.length c/\l.length<=c/\c<=9223372036854775807/\qhc w k A l
theorem qhc.ext {w w':World} {k:Option Nat} {A:Option Addr} {l:Sp} (h:qhc w k A l) (hx:Ext w w'):qhc w' k A l:=by
 intro i hi;obtain ⟨ad,b,B,n,c,e,hb,h1,h2⟩:=h i hi;exact ⟨ad,b,B,n,c,e,Nat.lt_of_lt_of_le hb hx.size,h1.ext hx (by rw [uc2]; exact hb),h2.ext hx⟩
theorem qij:(Tryz.prog.info? 165).map (fun i=>(i.zero,i.size,i.bytes))=some (some (.agg #[.bool false,.slice none 0 0,.int .i64 0,.int .i64 0,.int .i64 0,.int .i64 0]),6,64):=by kernel_rfl
theorem qin : jg4 110 165 6 64 (.agg #[.bool false, .slice none 0 0, .int .i64 0, .int .i64 0, .int .i64 0, .int .i64 0]) where
 und:=Tryz.underlying110
 info:=qij
 cells:=rfl
 pos:=by omega
 nodig:=by
  intro u hu;simp only [Value.cells] at hu;simp only [List.mem_cons,List.not_mem_nil,or_false] at hu;rcases hu with rfl | rfl | rfl | rfl | rfl | rfl <;> rfl
def vgx (rs:List (Bool × Value × Int × Mo)):List Value:=rs.flatMap fun r=>tmC r.1 r.2.1 r.2.2.2
theorem ghx (a b:List (Bool × Value × Int × Mo)):vgx (a ++ b)=vgx a ++ vgx b:=by simp [vgx]
theorem gg3 (rs:List (Bool × Value × Int × Mo)) (k:Nat) (hk:k < rs.length) (j:Nat) (hj:j < 6):(vgx rs)[k * 6+j]?=(tmC rs[k].1 rs[k].2.1 rs[k].2.2.2)[j]?:=by
 induction rs generalizing k with
 | nil=>simp at hk
 | cons r rs ih =>
   have hl:(tmC r.1 r.2.1 r.2.2.2).length=6:=rfl;simp only [vgx,List.flatMap_cons];cases k with
   | zero=>simp only [Nat.zero_mul,Nat.zero_add,List.getElem_cons_zero]; rw [List.getElem?_append_left (by omega)]
   | succ k =>
     rw [List.getElem?_append_right (by omega),hl,show (k+1) * 6+j - 6=k * 6+j by omega];exact ih k (by simpa using hk)
def TsV (k:Option Nat) (base:Nat) (W:World) (v:Value) (l:Sp):Prop:=
 ∃ rs:List (Bool × Value × Int × Mo),rs.map (fun r=>r.2.2)=l/\zc8 165 6 base W v rs.length (vgx rs)/\∀ r ∈ rs,Cf W k (.agg #[.bool r.1,r.2.1]) r.2.2.1
section
variable {k:Option Nat} {base base':Nat} {W W':World} {v:Value} {l:Sp}
theorem TsV.nil (k:Option Nat) (base:Nat) (W:World):TsV k base W (.slice none 0 0) []:=⟨[],rfl,zc8.nil _ _ _ _,by simp⟩
theorem TsV.own (h:TsV k base W v l) {R:Nat} (hR:v.ownBlock=some R):base<=R/\R < W.heap.size:=by
 obtain ⟨rs,-,h2,-⟩:=h;exact h2.own hR
theorem TsV.len (h:TsV k base W v l):∃ A c,v=.slice A l.length c/\l.length<=c/\c<=9223372036854775807:=by
 obtain ⟨rs,rfl,h2,-⟩:=h;rw [List.length_map];exact h2.len
theorem TsV.turn (h:TsV k base W v l) (hb:∀ R,v.ownBlock=some R->W'.heap[R]?=W.heap[R]?) (hn:∀ v ds,vc2 W v ds->vc2 W' v ds):TsV k base W' v l:=by
 obtain ⟨rs,e,h2,h3⟩:=h;exact ⟨rs,e,h2.turn hb,fun r hr=>(h3 r hr).turn hn⟩
theorem TsV.ext (h:TsV k base W v l) (hx:Ext W W'):TsV k base W' v l:=h.turn (fun R hR=>hx.below.block R (h.own hR).2) (fun _ _ hv=>hv.ext hx)
theorem TsV.sp (h:TsV k base W v l):SpV W k v l:=by
 obtain ⟨A,c,e,h1,h2⟩:=h.len;obtain ⟨rs,rfl,hr,h3⟩:=h;refine ⟨A,c,e,h1,h2,fun i hi=>?_⟩;rw [List.length_map] at hi;obtain ⟨g,c',e',-,-,-,hlt,-⟩:=hr.pos (by omega);rw [e] at e';injection e' with e1 e2 e3
 subst e1 e3;subst e;rw [List.length_map] at hr;have hcell:∀ j,j < 6->W.cell? ⟨g,i * 6+j,none⟩=(tmC rs[i].1 rs[i].2.1 rs[i].2.2.2)[j]?:=by
  intro j hj;rw [hr.cell (i * 6+j) (by omega)];exact gg3 rs i hi j hj
 have hc:=h3 rs[i] (List.getElem_mem hi);obtain ⟨b,B,n,c'',e2⟩:=hc.unpack;simp only [Value.agg.injEq,Array.mk.injEq,List.cons.injEq,and_true,Value.bool.injEq] at e2;obtain ⟨rfl,e3⟩:=e2;refine ⟨_,rs[i].1,B,n,c'',rfl,hlt,?_,?_⟩
 · rw [zc9,Nat.zero_add,List.getElem_map,<- e3];exact ⟨hcell 0 (by omega),hcell 1 (by omega),hcell 2 (by omega),hcell 3 (by omega),hcell 4 (by omega),hcell 5 (by omega)⟩
 · rw [List.getElem_map,<- e3]; exact hc
end
theorem TsV.push {k:Option Nat} {base:Nat} {W:World} {v:Value} {l:Sp} {b:Bool} {s:Value} {z:Int} (h:TsV k base W v l) (hbase:base<=W.heap.size) (hc:Cf W k (.agg #[.bool b,s]) z) (m:Mo) (hlen:l.length < 1099511627776) (ty:TypeId) :
 ∃ v4 w4,(Builtin.append_ #[110,110] ty #[v,.slice (some ⟨W.heap.size,0,none⟩) 1 1]).run Tryz.prog (W.alloc (.cells #[.bool b,s,.int .i64 m.a,.int .i64 m.b,.int .i64 m.c,.int .i64 m.d] 165))=.ok v4 w4/\TsV k base w4 v4 (l ++ [(z,m)])/\W.grownBy w4 v.ownBlock/\(∀ v ds,vc2 W v ds->vc2 w4 v ds)/\(v4.ownBlock=v.ownBlock\/v4.ownBlock=some (W.heap.size+1)):=by
 obtain ⟨rs,rfl,h2,h3⟩:=h;rw [List.length_map] at hlen;obtain ⟨b',B,n,c,e⟩:=hc.unpack;simp only [Value.agg.injEq,Array.mk.injEq,List.cons.injEq,and_true,Value.bool.injEq] at e;obtain ⟨rfl,rfl⟩:=e;obtain ⟨v4,w4,e,r1,r2,r3,r4⟩:=h2.push qin hbase (tmC b (.slice B n c) m) rfl (by
  intro u hu;simp only [tmC,List.mem_cons,List.not_mem_nil,or_false] at hu
  rcases hu with rfl | rfl | rfl | rfl | rfl | rfl <;> exact ⟨rfl,rfl⟩) (by omega) (by omega) ty
 refine ⟨v4,w4,e,⟨rs ++ [(b,.slice B n c,z,m)],by simp,?_,fun r hr=>?_⟩,r2,r3,r4⟩
 · rw [ghx,List.length_append];exact r1
 · rcases List.mem_append.1 hr with hr | hr
   · exact (h3 r hr).turn r3
   · obtain rfl:r=(b,.slice B n c,z,m):=by simpa using hr
     exact hc.turn r3
def vc9 (w:World) (g:Nat) (m:Mo):Prop:=
 w.cell? ⟨g,0,none⟩=some (.int .i64 m.a)/\w.cell? ⟨g,1,none⟩=some (.int .i64 m.b)/\w.cell? ⟨g,2,none⟩=some (.int .i64 m.c)/\w.cell? ⟨g,3,none⟩=some (.int .i64 m.d)
theorem vc9.turn {w w':World} {g:Nat} {m:Mo} (h:vc9 w g m) (hb:w'.heap[g]?=w.heap[g]?):vc9 w' g m:=by
 obtain ⟨h0,h1,h2,h3⟩:=h;have k:∀ i,w'.cell? ⟨g,i,none⟩=w.cell? ⟨g,i,none⟩:=fun i=>World.cell?_of_block (a:=⟨g,i,none⟩) hb
 exact ⟨(k _).trans h0,(k _).trans h1,(k _).trans h2,(k _).trans h3⟩
theorem vc9.ext {w w':World} {g:Nat} {m:Mo} (h:vc9 w g m) (hx:Ext w w') (hg:g < w.heap.size):vc9 w' g m:=h.turn (hx.below.block g hg)
theorem vc9.new (w:World) (m:Mo) (T:TypeId):vc9 (w.alloc (.cells #[.int .i64 m.a,.int .i64 m.b,.int .i64 m.c,.int .i64 m.d] T)) w.heap.size m:=by
 refine ⟨?_,?_,?_,?_⟩ <;> simp [go_sem]
end Go.Proofs.YtopddaabiinboaaGreat

/- Layer 22: recpoly.isLevel, isZero, isCanonical. -/
set_option maxRecDepth 100000
set_option maxHeartbeats 8000000
namespace Go.Proofs.YtopddaabiinboaaGreat
open Go.RowKit
theorem qg5 (l:Int) (w:World):Calls Tryz.prog 27 #[.int .i64 l] w fun e w'=>e=.returned (.bool (decide (1<=l) && decide (l<=4)))/\w'=w:=by
 by_cases h:1<=l
 · go_enter Tryz.func27,Tryz.ntmps27;go_wp2_with fail;go_ret;simp [h]
 · go_enter Tryz.func27,Tryz.ntmps27;go_wp2_with fail;go_ret;have h':l < 1:=by omega
   simp [h]; omega
theorem vgt {w:World} {q:Nat->Prop} (p:Pl) (v:Value) (h:PlV w q p v):Calls Tryz.prog 56 #[v] w fun e w'=>e=.returned (.bool p.isZ)/\Ext w w':=by
 obtain ⟨A0,n0,c0,A,c,rfl,⟨A0',c0',e,-,-,-⟩,hl1,hl2,h4⟩:=h.open_;injection e with e1 e2 e3
 subst e1 e2 e3;have HX:Hid (∀ o,Ext w (w.alloc o)):=fun o=>(Ext.refl w).alloc o
 unfold plV Pl.isZ;clear h h4
 by_cases hl:p.lv=0
 · go_enter Tryz.func56,Tryz.ntmps56;go_wp2_with fail;go_ret;exact ⟨by simp [hl]; cases p.ds <;> simp <;> omega,HX.out _⟩
 · go_enter Tryz.func56,Tryz.ntmps56;go_wp2_with fail;go_ret;exact ⟨by simp [hl],HX.out _⟩
def ji5 (w0:World) (q:Nat->Prop) (n:Nat):Prop:=∀ (p:Pl) (v:Value) (w:World),p.sz < n->PlV w0 q p v->Ext w0 w->Calls Tryz.prog 52 #[v] w fun e w'=>e=.returned (.bool p.isCan)/\Ext w w'
theorem wia {w0 w:World} {q:Nat->Prop} (p:Pl) (v:Value) (h:PlV w0 q p v) (hx0:Ext w0 w) (hl:p.lv=0):Calls Tryz.prog 52 #[v] w fun e w'=>e=.returned (.bool p.isCan)/\Ext w w':=by
 obtain ⟨A0,n0,c0,A,c,rfl,⟨A0',c0',e,hd1,hd2,hd⟩,hl1,hl2,h4⟩:=h.open_;injection e with e1 e2 e3
 subst e1 e2 e3;obtain ⟨l,ng,ds,cs⟩:=p
 change l=0 at hl
 subst hl;have HX:Hid (∀ o,Ext w (w.alloc o)):=fun o=>(Ext.refl w).alloc o
 have HDX:Hid (wc4 (w.alloc (.cells #[.int .i64 0,.bool ng,.slice A0 ds.length c0,.slice A cs.length c] 30)) A0 ds):=hd.ext (hx0.trans ((Ext.refl w).alloc _));simp only [Pl.cs,Pl.ds,Pl.lv,Pl.neg,plV] at *;clear h h4 hd
 by_cases hc:0 < cs.length
 · have HF:Hid ((Pl.mk 0 ng ds cs).isCan=false):=by
    have:(Pl.mk 0 ng ds cs).isCan=false:=by rw [Pl.isCan,if_pos rfl,if_pos hc]
    exact this
   go_enter Tryz.func52,Tryz.ntmps52;go_wp2_with fail;go_ret;exact ⟨by rw [HF.out]; rfl,HX.out _⟩
 · have HF:Hid ((Pl.mk 0 ng ds cs).isCan=((decide (ds.length=0) && !ng) || (decide (0 < ds.length) && decide (ds.getLast? ≠ some 0)))):=by
    have:(Pl.mk 0 ng ds cs).isCan=((decide (ds.length=0) && !ng) || (decide (0 < ds.length) && decide (ds.getLast? ≠ some 0))):=by rw [Pl.isCan,if_pos rfl,if_neg hc]
    exact this
   by_cases hds:0 < ds.length
   · obtain ⟨ad,x,rfl,hb,hcell,hx,HG⟩:=HDX.out.get_ (ds.length - 1) (by omega);obtain ⟨k,hk⟩:∃ k:Nat,ds.length - 1=k:=⟨_,rfl⟩;have hk2:ds.length=k+1:=by omega
     rw [hk] at hcell HG;have HG2:Hid (ds.getLast?=some x):=by
      have:ds.getLast?=some x:=by rw [List.getLast?_eq_getElem?,hk]; exact HG.out
      exact this
     generalize ds.length=N at *;subst hk2;have hwr:IntKind.i64.wrap (((k+1:Nat):Int) - 1)=k:=by simp [IntKind.wrap,IntKind.bits,IntKind.signed]; omega
     go_enter Tryz.func52,Tryz.ntmps52;go_wp2_with fail;go_ret;exact ⟨by rw [HF.out,HG2.out]; simp; by_cases hx0:x=0 <;> simp [hx0] <;> omega,HX.out _⟩
   · have hN:ds.length=0:=by omega
     rw [hN] at HF HDX;rw [hN];cases ng
     · go_enter Tryz.func52,Tryz.ntmps52;go_wp2_with fail;go_ret;exact ⟨by rw [HF.out]; rfl,HX.out _⟩
     · go_enter Tryz.func52,Tryz.ntmps52;go_wp2_with fail;go_ret;exact ⟨by rw [HF.out]; rfl,HX.out _⟩
theorem xis (w0:World) (q:Nat->Prop) (n:Nat):ji5 w0 q n:=by
 induction n with
 | zero=>intro p v w h; omega
 | succ n ih =>
 intro p v w hn h hx0
 by_cases hl:p.lv=0
 · exact wia p v h hx0 hl
 obtain ⟨A0,n0,c0,A,c,rfl,⟨A0',c0',e,hd1,hd2,hd⟩,hl1,hl2,h4⟩:=h.open_;injection e with e1 e2 e3
 subst e1 e2 e3;obtain ⟨l,ng,ds,cs⟩:=p;simp only [Pl.cs,Pl.ds,Pl.lv,Pl.neg,plV] at *;have IH:=Lib.hid ih;have H4:=Lib.hid h4;have HX0:=Lib.hid hx0;have HSZ:Hid (∀ k (hk:k < cs.length),cs[k].sz < n):=by
  have:∀ k (hk:k < cs.length),cs[k].sz < n:=fun k hk=>by
   have h1:=ygs (List.getElem_mem hk);have h2:(Pl.mk l ng ds cs).sz=kc5 cs+1:=by rw [Pl.sz]
   omega
  exact this
 clear h h4 hd ih hx0;obtain ⟨W,hW⟩:=n_m (w.alloc (.cells #[.int .i64 l,.bool ng,.slice A0 ds.length c0,.slice A cs.length c] 30));have hWx:Ext w W:=by rw [<- hW]; exact (Ext.refl w).alloc _
 have hWs:W.heap.size=w.heap.size+1:=by rw [<- hW]; simp
 have hbx:yc3 W w.heap.size (.mk l ng ds cs) (.slice A0 ds.length c0) (.slice A cs.length c):=by rw [<- hW]; exact yc3.new w (.mk l ng ds cs) _ _ _
 have HWX:=Lib.hid hWx;have HBX:=Lib.hid hbx;obtain ⟨b0,b1,b2,b3⟩:=hbx;simp only [Pl.lv,Pl.neg] at b0 b1;have hl0:(l == 0)=false:=by simpa using hl
 by_cases hg:(l < 1\/4 < l)\/0 < ds.length\/ng=true\/cs.length < 2
 · have HF:Hid ((Pl.mk l ng ds cs).isCan=false):=by
    have:(Pl.mk l ng ds cs).isCan=false:=by rw [Pl.isCan,if_neg hl,if_pos hg]
    exact this
   clear hWx;go_enter Tryz.func52,Tryz.ntmps52;go_wp2_with fail;refine (qg5 l _).mono ?_;rintro e w1 ⟨rfl,rfl⟩
   by_cases hg1:1<=l/\l<=4
   · have hg2:(decide (1<=l) && decide (l<=4))=true:=by simp [hg1]
     rw [hg2]
     by_cases hg3:0 < ds.length
     · have hg4:decide ((ds.length:Int) > 0)=true:=decide_eq_true (by omega);go_wp2_with fail;go_ret;exact ⟨by rw [HF.out]; rfl,HWX.out⟩
     · obtain rfl:ds=[]:=List.eq_nil_of_length_eq_zero (by omega);simp only [List.length_nil] at *;cases ng
       · have hg5:decide ((cs.length:Int) < 2)=true:=decide_eq_true (by
          have:cs.length < 2:=by
           rcases hg with h | h | h | h
           · omega
           · exact absurd h (by decide)
           · cases h
           · exact h
          omega)
         go_wp2_with fail;go_ret;exact ⟨by rw [HF.out]; rfl,HWX.out⟩
       · go_wp2_with fail;go_ret;exact ⟨by rw [HF.out]; rfl,HWX.out⟩
   · have hg2:(decide (1<=l) && decide (l<=4))=false:=by simp at hg1 ⊢; omega
     rw [hg2];go_wp2_with fail;go_ret;exact ⟨by rw [HF.out]; rfl,HWX.out⟩
 · have hg2:(decide (1<=l) && decide (l<=4))=true:=by simp; omega
   obtain rfl:ds=[]:=List.eq_nil_of_length_eq_zero (by omega);have hng:ng=false:=by
    cases ng
    · rfl
    · exact absurd (.inr (.inr (.inl rfl))) hg
   have hg5:decide ((cs.length:Int) < 2)=false:=decide_eq_false (by omega);have hlen:2<=cs.length:=by omega
   have HG:=Lib.hid hg;have HL:=Lib.hid hl;subst hng;clear hWx hg;simp only [List.length_nil] at *;go_enter Tryz.func52,Tryz.ntmps52;go_wp2_with fail;refine (qg5 l _).mono ?_;rintro e w1 ⟨rfl,rfl⟩;rw [hg2];go_wp2_with fail;clear hW b0 b1 b2 b3
   go_loopw [63] (fun iv wr=>∃ k:Nat,k<=cs.length/\iv=.int .i64 k/\Hid ((∀ c ∈ cs.take k,c.lv < l/\c.isCan=true)/\Ext w1 wr)) (fun iv _=>cs.length - (intOf iv).toNat)
   case atStart=>exact ⟨0,Nat.zero_le _,rfl,⟨by simp,Ext.refl _⟩⟩
   case round =>
    obtain ⟨k,hk,rfl,⟨hall,hx⟩⟩:=hrel;have HALL:=Lib.hid hall;have HX:=Lib.hid hx;obtain ⟨b0,b1,b2,b3⟩:=HBX.out.ext hx (by omega);simp only [Pl.lv,Pl.neg] at b0 b1;have hws:w.heap.size < wr.heap.size:=by have:=hx.size; omega
    by_cases hlt:k < cs.length
    · obtain ⟨ad,B0,m0,d0,B1,m1,d1,rfl,hadb,hnd,hkt⟩:=kc3.kid H4.out k hlt;have hxx:Ext w0 wr:=(HX0.out.trans HWX.out).trans hx;obtain ⟨e0,e1,e2,e3⟩:=hnd.ext hxx (by rw [uc2]; exact hadb);have hsz:=HSZ.out k hlt;have HC:=Lib.hid (fun W (hxW:Ext wr W)=>IH.out cs[k] _ W hsz hkt (hxx.trans hxW));have HBAD:Hid (l<=cs[k].lv\/cs[k].isCan=false->(Pl.mk l false [] cs).isCan=false):=fun h=>Pl.isCan_bad HL.out (List.getElem_mem hlt) h
      have HGOOD:Hid (cs[k].lv < l->cs[k].isCan=true->∀ c ∈ cs.take (k+1),c.lv < l/\c.isCan=true):=fun h1 h2 c hc=>by
       rw [List.take_succ_eq_append_getElem hlt] at hc;rcases List.mem_append.1 hc with hc | hc
       · exact HALL.out c hc
       · rw [List.mem_singleton.1 hc]; exact ⟨h1,h2⟩
      generalize cs[k]=ck at *;clear hx hall hnd hkt hadb hsz hxx
      by_cases hlv:l<=ck.lv
      · have hq:decide (ck.lv ≥ l)=true:=by simpa using hlv
        go_wp2_with fail;go_ret;exact ⟨by rw [HBAD.out (.inl hlv)]; rfl,(HWX.out.trans HX.out).alloc _⟩
      · have hq:decide (ck.lv ≥ l)=false:=by simpa using hlv
        go_wp2_with fail;refine (HC.out _ ((Ext.refl _).alloc _)).mono ?_;rintro e w2 ⟨rfl,x2⟩;have X2:Hid (Ext w1 w2):=(HX.out.trans ((Ext.refl _).alloc _)).trans x2;clear x2 HC;cases hci:ck.isCan
        · go_wp2_with fail;go_ret;exact ⟨by rw [HBAD.out (.inr hci)]; rfl,HWX.out.trans X2.out⟩
        · go_wp2_with fail
          go_roundw
          case rel=>exact ⟨k+1,by omega,by go_num,HGOOD.out (by omega) hci,X2.out⟩
          case measure=>simp [intOf]; omega
    · have hke:k=cs.length:=by omega
      rw [hke,List.take_length] at HALL;obtain ⟨j,hj⟩:∃ j:Nat,cs.length=j+1:=⟨cs.length - 1,by omega⟩;have hjl:j < cs.length:=by omega
      obtain ⟨ad,B0,m0,d0,B1,m1,d1,rfl,hadb,hnd,hkt⟩:=kc3.kid H4.out j hjl;have hxx:Ext w0 wr:=(HX0.out.trans HWX.out).trans hx;obtain ⟨e0,e1,e2,e3⟩:=hnd.ext hxx (by rw [uc2]; exact hadb);have HKT:=Lib.hid (hkt.ext hxx);have HFIN:Hid ((Pl.mk l false [] cs).isCan=!(cs[j]).isZ):=by
       have h:=Pl.isCan_fin (n:=false) (d:=[]) HL.out HG.out HALL.out (by omega);have hj':cs.length - 1=j:=by omega
       simp only [hj'] at h;exact h
      generalize cs[j]=cj at *;rw [hj] at hke;subst hke;have hwr:IntKind.i64.wrap (((j+1:Nat):Int) - 1)=j:=by simp [IntKind.wrap,IntKind.bits,IntKind.signed]; omega
      clear hx hall hnd hkt hadb hxx;rw [hj];go_wp2_with fail;refine (vgt _ _ HKT.out).mono ?_;rintro e w2 ⟨rfl,x2⟩;have X2:=Lib.hid (HX.out.trans x2);clear x2;go_wp2_with fail;go_ret;exact ⟨by rw [HFIN.out]; rfl,HWX.out.trans X2.out⟩
theorem jhp {w:World} {q:Nat->Prop} (p:Pl) (v:Value) (h:PlV w q p v):Calls Tryz.prog 52 #[v] w fun e w'=>e=.returned (.bool p.isCan)/\Ext w w':=
 xis w q (p.sz+1) p v w (Nat.lt_succ_self _) h (Ext.refl w)
end Go.Proofs.YtopddaabiinboaaGreat
