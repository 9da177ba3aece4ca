/- Layer 34: terms and formulas as values. -/
import Derived.Test.YtcfcjabgkfehlaaGreatInt3
import Derived.Test.YtcfcjabgkfehlaaGreatAssert
import Derived.Test.YtcfcjabgkfehlaaGreatMap
set_option linter.unusedSimpArgs false
set_option linter.unusedVariables false

set_option maxRecDepth 100000
set_option maxHeartbeats 8000000
namespace Go.Proofs.YtcfcjabgkfehlaaGreat
open Go.RowKit
attribute [local go_sem] xaj gaf gaj zaj kaj jaj yaj wad waf qaj uaj jao vaa vaj zae
inductive Tm where
 | num (z:Int) | name (s:ByteArray) | add (a b:Tm) | sub (a b:Tm) | mul (a b:Tm) | neg (a:Tm) | pow (a:Tm) (e:Int)
inductive Fm where
 | truth (b:Bool) | atom (l:Tm) (r:Int) (k:Tm) | not (f:Fm) | and (f g:Fm) | or (f g:Fm) | imp (f g:Fm) | iff (f g:Fm) | quant (all:Bool) (s:ByteArray) (f:Fm)
def TmV (w : World) (L : Nat) : Tm -> Value -> Prop
 | .num z,v=>∃ x,v=.iface 105 x/\yh w x z L
 | .name s,v=>v=.iface 102 (.agg #[.string s])
 | .add a b,v=>∃ x y,v=.iface 259 (.agg #[x,y])/\TmV w L a x/\TmV w L b y
 | .sub a b,v=>∃ x y,v=.iface 260 (.agg #[x,y])/\TmV w L a x/\TmV w L b y
 | .mul a b,v=>∃ x y,v=.iface 261 (.agg #[x,y])/\TmV w L a x/\TmV w L b y
 | .neg a,v=>∃ x,v=.iface 257 (.agg #[x])/\TmV w L a x
 | .pow a e,v=>∃ x,v=.iface 264 (.agg #[x,.int .i64 e])/\TmV w L a x
def FmV (w : World) (L : Nat) : Fm -> Value -> Prop
 | .truth b,v=>v=.iface 217 (.agg #[.bool b])
 | .atom l r k,v=>∃ x y,v=.iface 109 (.agg #[x,.int .i64 r,y])/\TmV w L l x/\TmV w L k y
 | .not f,v=>∃ x,v=.iface 221 (.agg #[x])/\FmV w L f x
 | .and f g,v=>∃ x y,v=.iface 223 (.agg #[x,y])/\FmV w L f x/\FmV w L g y
 | .or f g,v=>∃ x y,v=.iface 224 (.agg #[x,y])/\FmV w L f x/\FmV w L g y
 | .imp f g,v=>∃ x y,v=.iface 225 (.agg #[x,y])/\FmV w L f x/\FmV w L g y
 | .iff f g,v=>∃ x y,v=.iface 226 (.agg #[x,y])/\FmV w L f x/\FmV w L g y
 | .quant a s f,v=>∃ x,v=.iface 245 (.agg #[.bool a,.string s,x])/\FmV w L f x
theorem TmV.ext {w w':World} {L:Nat} (hx:Ext w w') {t:Tm} {v:Value} (h:TmV w L t v):TmV w' L t v:=by
 induction t generalizing v with
 | num z=>obtain ⟨x,e,h⟩:=h; exact ⟨x,e,h.ext hx⟩
 | name s=>exact h
 | add a b iha ihb=>obtain ⟨x,y,e,h,k⟩:=h; exact ⟨x,y,e,iha h,ihb k⟩
 | sub a b iha ihb=>obtain ⟨x,y,e,h,k⟩:=h; exact ⟨x,y,e,iha h,ihb k⟩
 | mul a b iha ihb=>obtain ⟨x,y,e,h,k⟩:=h; exact ⟨x,y,e,iha h,ihb k⟩
 | neg a iha=>obtain ⟨x,e,h⟩:=h; exact ⟨x,e,iha h⟩
 | pow a n iha=>obtain ⟨x,e,h⟩:=h; exact ⟨x,e,iha h⟩
theorem FmV.ext {w w':World} {L:Nat} (hx:Ext w w') {f:Fm} {v:Value} (h:FmV w L f v):FmV w' L f v:=by
 induction f generalizing v with
 | truth b=>exact h
 | atom l r k=>obtain ⟨x,y,e,h,k⟩:=h; exact ⟨x,y,e,h.ext hx,k.ext hx⟩
 | not f ihf=>obtain ⟨x,e,h⟩:=h; exact ⟨x,e,ihf h⟩
 | and f g ihf ihg=>obtain ⟨x,y,e,h,k⟩:=h; exact ⟨x,y,e,ihf h,ihg k⟩
 | or f g ihf ihg=>obtain ⟨x,y,e,h,k⟩:=h; exact ⟨x,y,e,ihf h,ihg k⟩
 | imp f g ihf ihg=>obtain ⟨x,y,e,h,k⟩:=h; exact ⟨x,y,e,ihf h,ihg k⟩
 | iff f g ihf ihg=>obtain ⟨x,y,e,h,k⟩:=h; exact ⟨x,y,e,ihf h,ihg k⟩
 | quant a s f ihf=>obtain ⟨x,e,h⟩:=h; exact ⟨x,e,ihf h⟩
theorem TmV.iface {w:World} {L:Nat} {t:Tm} {v:Value} (h:TmV w L t v):∃ T x,v=.iface T x:=by
 cases t <;> (simp only [TmV] at h) <;> first | exact ⟨_,_,h⟩ | (obtain ⟨_,e,_⟩:=h; exact ⟨_,_,e⟩) | (obtain ⟨_,_,e,_⟩:=h; exact ⟨_,_,e⟩)
theorem FmV.iface {w:World} {L:Nat} {f:Fm} {v:Value} (h:FmV w L f v):∃ T x,v=.iface T x:=by
 cases f <;> (simp only [FmV] at h) <;> first | exact ⟨_,_,h⟩ | (obtain ⟨_,e,_⟩:=h; exact ⟨_,_,e⟩) | (obtain ⟨_,_,e,_⟩:=h; exact ⟨_,_,e⟩)
def Fm.kids : Fm -> List Fm
 | .truth _=>[]
 | .atom _ _ _=>[]
 | .not f=>[f]
 | .and f g=>[f,g]
 | .or f g=>[f,g]
 | .imp f g=>[f,g]
 | .iff f g=>[f,g]
 | .quant _ _ f=>[f]
def Tm.kids : Tm -> List Tm
 | .num _=>[]
 | .name _=>[]
 | .add a b=>[a,b]
 | .sub a b=>[a,b]
 | .mul a b=>[a,b]
 | .neg a=>[a]
 | .pow a _=>[a]
def SlR {α:Type} (P:World->α->Value->Prop) (w:World) (v:Value) (l:List α):Prop:=
 ∃ A c,v=.slice A l.length c/\l.length<=c/\c<=9223372036854775807/\∀ j (h:j < l.length),∃ ad x,A=some ad/\ad.block < w.heap.size/\w.cell? (ad.add j)=some x/\P w l[j] x
theorem SlR.ext {α:Type} {P:World->α->Value->Prop} {w w':World} {v:Value} {l:List α} (h:SlR P w v l) (hP:∀ a x,P w a x->P w' a x) (k:Ext w w'):SlR P w' v l:=by
 obtain ⟨A,c,e,h1,h2,h3⟩:=h;refine ⟨A,c,e,h1,h2,fun j hj=>?_⟩;obtain ⟨ad,x,e,hb,hc,hp⟩:=h3 j hj;exact ⟨ad,x,e,Nat.lt_of_lt_of_le hb k.size,(k.cell (by rw [ja]; exact hb)).trans hc,hP _ _ hp⟩
theorem SlR.nil {α:Type} (P:World->α->Value->Prop) (w:World):SlR P w (.slice none 0 0) []:=⟨none,0,rfl,by simp,by simp,fun j h=>absurd h (by simp)⟩
theorem SlR.one {α:Type} {P:World->α->Value->Prop} {w:World} {g:Nat} {a:α} {x:Value} (hg:g < w.heap.size) (h0:w.cell? ⟨g,0,none⟩=some x) (p0:P w a x):SlR P w (.slice (some ⟨g,0,none⟩) 1 1) [a]:=by
 refine ⟨_,1,rfl,by simp,by simp,fun j hj=>?_⟩;have:j=0:=by simp at hj; omega
 subst this;exact ⟨_,x,rfl,hg,by rw [jq]; exact h0,p0⟩
theorem SlR.two {α:Type} {P:World->α->Value->Prop} {w:World} {g:Nat} {a b:α} {x y:Value} (hg:g < w.heap.size) (h0:w.cell? ⟨g,0,none⟩=some x) (h1:w.cell? ⟨g,1,none⟩=some y) (p0:P w a x) (p1:P w b y):SlR P w (.slice (some ⟨g,0,none⟩) 2 2) [a,b]:=by
 refine ⟨_,2,rfl,by simp,by simp,fun j hj=>?_⟩;rcases (show j=0\/j=1 by simp at hj; omega) with rfl | rfl
 · exact ⟨_,x,rfl,hg,by rw [jq]; exact h0,p0⟩
 · exact ⟨_,y,rfl,hg,by rw [jq]; exact h1,p1⟩
def kao (w0:World) (L:Nat) (l:List Fm) (w:World) (e:Ending) (w':World):Prop:=∃ s,e=.returned s/\SlR (fun _ f v=>FmV w0 L f v) w' s l/\uo w.heap.size s/\Ext w w'
def vaq (w0:World) (L:Nat) (l:List Tm) (w:World) (e:Ending) (w':World):Prop:=∃ s,e=.returned s/\SlR (fun _ f v=>TmV w0 L f v) w' s l/\uo w.heap.size s/\Ext w w'
theorem xbq {w0 w:World} {L:Nat} {b:Bool} {v:Value} (h:FmV w0 L (Fm.truth b) v):Calls Tryz.prog 190 #[v] w (kao w0 L [] w):=by
 obtain rfl:=h;go_enter Tryz.func190,Tryz.ntmps190;go_wp2_with fail;go_ret;exact ⟨_,rfl,SlR.nil _ _,uo.nil _ _ _,Ext.refl _⟩
theorem jbx {w0 w:World} {L:Nat} {l k:Tm} {r:Int} {v:Value} (h:FmV w0 L (Fm.atom l r k) v):Calls Tryz.prog 190 #[v] w (kao w0 L [] w):=by
 obtain ⟨x,y,rfl,hx,hy⟩:=h;go_enter Tryz.func190,Tryz.ntmps190;go_wp2_with fail;go_ret;exact ⟨_,rfl,SlR.nil _ _,uo.nil _ _ _,Ext.refl _⟩
theorem kb5 {w0 w:World} {L:Nat} {f:Fm} {v:Value} (h:FmV w0 L (Fm.not f) v):Calls Tryz.prog 190 #[v] w (kao w0 L [f] w):=by
 obtain ⟨x,rfl,hx⟩:=h;obtain ⟨T,x,rfl⟩:=hx.iface;go_enter Tryz.func190,Tryz.ntmps190;go_wp2_with fail;go_ret;have hX:Ext w ((w.alloc (Obj.cells #[.iface T x] 221)).alloc (Obj.cells #[.iface T x] 163)):=((Ext.refl w).alloc _).alloc _;exact ⟨_,rfl,SlR.one (by simp) (by simp [go_sem]) hx,uo.mk _ _ _ _ (by simp),hX⟩
theorem gb5 {w0 w:World} {L:Nat} {f g:Fm} {v:Value} (h:FmV w0 L (Fm.and f g) v):Calls Tryz.prog 190 #[v] w (kao w0 L [f,g] w):=by
 obtain ⟨x,y,rfl,hx,hy⟩:=h;obtain ⟨T,x,rfl⟩:=hx.iface;obtain ⟨U,y,rfl⟩:=hy.iface;go_enter Tryz.func190,Tryz.ntmps190;go_wp2_with fail;go_ret;have hX:Ext w ((w.alloc (Obj.cells #[.iface T x,.iface U y] 223)).alloc (Obj.cells #[.iface T x,.iface U y] 163)):=((Ext.refl w).alloc _).alloc _;exact ⟨_,rfl,SlR.two (by simp) (by simp [go_sem]) (by simp [go_sem]) hx hy,uo.mk _ _ _ _ (by simp),hX⟩
theorem vce {w0 w:World} {L:Nat} {f g:Fm} {v:Value} (h:FmV w0 L (Fm.or f g) v):Calls Tryz.prog 190 #[v] w (kao w0 L [f,g] w):=by
 obtain ⟨x,y,rfl,hx,hy⟩:=h;obtain ⟨T,x,rfl⟩:=hx.iface;obtain ⟨U,y,rfl⟩:=hy.iface;go_enter Tryz.func190,Tryz.ntmps190;go_wp2_with fail;go_ret;have hX:Ext w ((w.alloc (Obj.cells #[.iface T x,.iface U y] 224)).alloc (Obj.cells #[.iface T x,.iface U y] 163)):=((Ext.refl w).alloc _).alloc _;exact ⟨_,rfl,SlR.two (by simp) (by simp [go_sem]) (by simp [go_sem]) hx hy,uo.mk _ _ _ _ (by simp),hX⟩
theorem vb5 {w0 w:World} {L:Nat} {f g:Fm} {v:Value} (h:FmV w0 L (Fm.imp f g) v):Calls Tryz.prog 190 #[v] w (kao w0 L [f,g] w):=by
 obtain ⟨x,y,rfl,hx,hy⟩:=h;obtain ⟨T,x,rfl⟩:=hx.iface;obtain ⟨U,y,rfl⟩:=hy.iface;go_enter Tryz.func190,Tryz.ntmps190;go_wp2_with fail;go_ret;have hX:Ext w ((w.alloc (Obj.cells #[.iface T x,.iface U y] 225)).alloc (Obj.cells #[.iface T x,.iface U y] 163)):=((Ext.refl w).alloc _).alloc _;exact ⟨_,rfl,SlR.two (by simp) (by simp [go_sem]) (by simp [go_sem]) hx hy,uo.mk _ _ _ _ (by simp),hX⟩
theorem ub5 {w0 w:World} {L:Nat} {f g:Fm} {v:Value} (h:FmV w0 L (Fm.iff f g) v):Calls Tryz.prog 190 #[v] w (kao w0 L [f,g] w):=by
 obtain ⟨x,y,rfl,hx,hy⟩:=h;obtain ⟨T,x,rfl⟩:=hx.iface;obtain ⟨U,y,rfl⟩:=hy.iface;go_enter Tryz.func190,Tryz.ntmps190;go_wp2_with fail;go_ret;have hX:Ext w ((w.alloc (Obj.cells #[.iface T x,.iface U y] 226)).alloc (Obj.cells #[.iface T x,.iface U y] 163)):=((Ext.refl w).alloc _).alloc _;exact ⟨_,rfl,SlR.two (by simp) (by simp [go_sem]) (by simp [go_sem]) hx hy,uo.mk _ _ _ _ (by simp),hX⟩
theorem jbq {w0 w:World} {L:Nat} {a:Bool} {s:ByteArray} {f:Fm} {v:Value} (h:FmV w0 L (Fm.quant a s f) v):Calls Tryz.prog 190 #[v] w (kao w0 L [f] w):=by
 obtain ⟨x,rfl,hx⟩:=h;obtain ⟨T,x,rfl⟩:=hx.iface;go_enter Tryz.func190,Tryz.ntmps190;go_wp2_with fail;go_ret;have hX:Ext w ((w.alloc (Obj.cells #[.bool a,.string s,.iface T x] 245)).alloc (Obj.cells #[.iface T x] 163)):=((Ext.refl w).alloc _).alloc _;exact ⟨_,rfl,SlR.one (by simp) (by simp [go_sem]) hx,uo.mk _ _ _ _ (by simp),hX⟩
theorem ybh {w0 w:World} {L:Nat} {z:Int} {v:Value} (h:TmV w0 L (Tm.num z) v):Calls Tryz.prog 224 #[v] w (vaq w0 L [] w):=by
 obtain ⟨x,rfl,hx⟩:=h;go_enter Tryz.func224,Tryz.ntmps224;go_wp2_with fail;go_ret;exact ⟨_,rfl,SlR.nil _ _,uo.nil _ _ _,Ext.refl _⟩
theorem qbf {w0 w:World} {L:Nat} {s:ByteArray} {v:Value} (h:TmV w0 L (Tm.name s) v):Calls Tryz.prog 224 #[v] w (vaq w0 L [] w):=by
 obtain rfl:=h;go_enter Tryz.func224,Tryz.ntmps224;go_wp2_with fail;go_ret;exact ⟨_,rfl,SlR.nil _ _,uo.nil _ _ _,Ext.refl _⟩
theorem jbh {w0 w:World} {L:Nat} {a b:Tm} {v:Value} (h:TmV w0 L (Tm.add a b) v):Calls Tryz.prog 224 #[v] w (vaq w0 L [a,b] w):=by
 obtain ⟨x,y,rfl,hx,hy⟩:=h;obtain ⟨T,x,rfl⟩:=hx.iface;obtain ⟨U,y,rfl⟩:=hy.iface;go_enter Tryz.func224,Tryz.ntmps224;go_wp2_with fail;go_ret;have hX:Ext w ((w.alloc (Obj.cells #[.iface T x,.iface U y] 259)).alloc (Obj.cells #[.iface T x,.iface U y] 107)):=((Ext.refl w).alloc _).alloc _;exact ⟨_,rfl,SlR.two (by simp) (by simp [go_sem]) (by simp [go_sem]) hx hy,uo.mk _ _ _ _ (by simp),hX⟩
theorem wbg {w0 w:World} {L:Nat} {a b:Tm} {v:Value} (h:TmV w0 L (Tm.sub a b) v):Calls Tryz.prog 224 #[v] w (vaq w0 L [a,b] w):=by
 obtain ⟨x,y,rfl,hx,hy⟩:=h;obtain ⟨T,x,rfl⟩:=hx.iface;obtain ⟨U,y,rfl⟩:=hy.iface;go_enter Tryz.func224,Tryz.ntmps224;go_wp2_with fail;go_ret;have hX:Ext w ((w.alloc (Obj.cells #[.iface T x,.iface U y] 260)).alloc (Obj.cells #[.iface T x,.iface U y] 107)):=((Ext.refl w).alloc _).alloc _;exact ⟨_,rfl,SlR.two (by simp) (by simp [go_sem]) (by simp [go_sem]) hx hy,uo.mk _ _ _ _ (by simp),hX⟩
theorem qbh {w0 w:World} {L:Nat} {a b:Tm} {v:Value} (h:TmV w0 L (Tm.mul a b) v):Calls Tryz.prog 224 #[v] w (vaq w0 L [a,b] w):=by
 obtain ⟨x,y,rfl,hx,hy⟩:=h;obtain ⟨T,x,rfl⟩:=hx.iface;obtain ⟨U,y,rfl⟩:=hy.iface;go_enter Tryz.func224,Tryz.ntmps224;go_wp2_with fail;go_ret;have hX:Ext w ((w.alloc (Obj.cells #[.iface T x,.iface U y] 261)).alloc (Obj.cells #[.iface T x,.iface U y] 107)):=((Ext.refl w).alloc _).alloc _;exact ⟨_,rfl,SlR.two (by simp) (by simp [go_sem]) (by simp [go_sem]) hx hy,uo.mk _ _ _ _ (by simp),hX⟩
theorem xbh {w0 w:World} {L:Nat} {a:Tm} {v:Value} (h:TmV w0 L (Tm.neg a) v):Calls Tryz.prog 224 #[v] w (vaq w0 L [a] w):=by
 obtain ⟨x,rfl,hx⟩:=h;obtain ⟨T,x,rfl⟩:=hx.iface;go_enter Tryz.func224,Tryz.ntmps224;go_wp2_with fail;go_ret;have hX:Ext w ((w.alloc (Obj.cells #[.iface T x] 257)).alloc (Obj.cells #[.iface T x] 107)):=((Ext.refl w).alloc _).alloc _;exact ⟨_,rfl,SlR.one (by simp) (by simp [go_sem]) hx,uo.mk _ _ _ _ (by simp),hX⟩
theorem zbh {w0 w:World} {L:Nat} {a:Tm} {n:Int} {v:Value} (h:TmV w0 L (Tm.pow a n) v):Calls Tryz.prog 224 #[v] w (vaq w0 L [a] w):=by
 obtain ⟨x,rfl,hx⟩:=h;obtain ⟨T,x,rfl⟩:=hx.iface;go_enter Tryz.func224,Tryz.ntmps224;go_wp2_with fail;go_ret;have hX:Ext w ((w.alloc (Obj.cells #[.iface T x,.int .i64 n] 264)).alloc (Obj.cells #[.iface T x] 107)):=((Ext.refl w).alloc _).alloc _;exact ⟨_,rfl,SlR.one (by simp) (by simp [go_sem]) hx,uo.mk _ _ _ _ (by simp),hX⟩
theorem vam {w0 w:World} {L:Nat} (f:Fm) {v:Value} (h:FmV w0 L f v):Calls Tryz.prog 190 #[v] w (kao w0 L f.kids w):=by
 cases f
 · exact xbq h
 · exact jbx h
 · exact kb5 h
 · exact gb5 h
 · exact vce h
 · exact vb5 h
 · exact ub5 h
 · exact jbq h
theorem zaz {w0 w:World} {L:Nat} (t:Tm) {v:Value} (h:TmV w0 L t v):Calls Tryz.prog 224 #[v] w (vaq w0 L t.kids w):=by
 cases t
 · exact ybh h
 · exact qbf h
 · exact jbh h
 · exact wbg h
 · exact qbh h
 · exact xbh h
 · exact zbh h
end Go.Proofs.YtcfcjabgkfehlaaGreat
