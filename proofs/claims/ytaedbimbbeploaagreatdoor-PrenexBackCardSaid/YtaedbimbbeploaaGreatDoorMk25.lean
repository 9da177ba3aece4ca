/- Layer 34: formula.Weight; evaluate.large. -/
import Derived.Test.YtaedbimbbeploaaGreatDoorDeg
import Derived.Test.YtaedbimbbeploaaGreatDoorMk24
import Derived.Lib.MinMax
import Derived.Test.YtaedbimbbeploaaGreatDoorMk17
import Derived.Test.YtaedbimbbeploaaGreatDoorMk23
set_option linter.unusedSimpArgs false
set_option linter.unusedVariables false

set_option maxRecDepth 100000
set_option maxHeartbeats 8000000
namespace Go.Proofs.YtaedbimbbeploaaGreatDoor
open Go.RowKit
attribute [local go_sem] gac qaa jad vac yad zad uac yx jaa wac qad yag gq xad qx
def Tm.wt : Tm -> Int
 | .num z => uq (gad z.natAbs : Nat)
 | .name _ => 1
 | .add a b => uq (yg a.wt b.wt + 1)
 | .sub a b => uq (yg a.wt b.wt + 1)
 | .mul a b => uq (a.wt + b.wt)
 | .neg a => a.wt
 | .pow a e => vaj (yg e 1) a.wt
theorem waf {n : Int} (h : 1 <= n) : 1 <= uq n /\ uq n <= 2147483647 := by unfold uq; split <;> omega
theorem vb2 {a b : Int} (h : 1 <= a) (k : 1 <= b) : 1 <= vaj a b /\ vaj a b <= 2147483647 := by
 have h1 := waf h;have h2 := waf k;have := Int.mul_le_mul h1.1 h2.1 (by omega) (by omega);exact waf (by simpa using this)
theorem Tm.wt_bd (t : Tm) : 1 <= t.wt /\ t.wt <= 2147483647 := by
 induction t with
 | num z => exact waf (by have := kbj z.natAbs; omega)
 | name s => simp [Tm.wt]
 | add a b iha ihb => have := wap iha.1 iha.2 ihb.1 ihb.2; exact waf (by omega)
 | sub a b iha ihb => have := wap iha.1 iha.2 ihb.1 ihb.2; exact waf (by omega)
 | mul a b iha ihb => exact waf (by omega)
 | neg a iha => exact iha
 | pow a e iha => exact vb2 (by unfold yg; split <;> omega) iha.1
theorem wcp {w0 w : World} {L : Nat} {a b : Tm} {v : Value} (h : TmV w0 L (.add a b) v) (iha : ∀ (v : Value) (w : World), Ext w0 w -> TmV w0 L a v -> Calls Tryz.prog 151 #[v] w (yj a.wt w)) (ihb : ∀ (v : Value) (w : World), Ext w0 w -> TmV w0 L b v -> Calls Tryz.prog 151 #[v] w (yj b.wt w)) (hx0 : Ext w0 w) :
 Calls Tryz.prog 151 #[v] w (yj (uq (yg a.wt b.wt + 1)) w) := by
 have ha := a.wt_bd;have hb := b.wt_bd;have IHA := Lib.hid iha;have IHB := Lib.hid ihb;obtain ⟨x, y, rfl, hx, hy⟩ := h;have HX := Lib.hid hx;have HY := Lib.hid hy;obtain ⟨T, x, rfl⟩ := hx.iface;obtain ⟨U, y, rfl⟩ := hy.iface;clear hx hy iha ihb;generalize a.wt = da at *;generalize b.wt = db at *;have hwm : IntKind.i64.wrap (max da db + 1) = yg da db + 1 := by
  have hm : max da db = yg da db := by rw [Int.max_def]; unfold yg; split <;> split <;> omega
  have hm' := wap ha.1 ha.2 hb.1 hb.2;rw [hm]; exact IntWalk.i64_in _ (by omega)
 go_enter Tryz.func151, Tryz.ntmps151;go_wp2_with fail;obtain ⟨W, hW⟩ : ∃ W, w.alloc (.cells #[.iface T x, .iface U y] 126) = W := ⟨_, rfl⟩;have HB : Hid (∀ W', Ext W W' -> (Ext W W' /\ W'.cell? ⟨w.heap.size, 0, none⟩ = some (.iface T x) /\ W'.cell? ⟨w.heap.size, 1, none⟩ = some (.iface U y))) := by
  intro W' hx;obtain ⟨hc, hf⟩ := hx.cells;refine ⟨hx, ?_, ?_⟩ <;> (rw [hc _ _ (by rw [<- hW]; simp), <- hW]; simp [go_sem])
 have HX0 : Hid (Ext w W) := by
  have : Ext w W := by rw [<- hW]; exact (Ext.refl w).alloc _
  exact this
 have HXW := Lib.hid (hx0.trans HX0.out);clear hx0;rw [hW];clear hW
 go_region_held3 (fun W' => Ext W W' /\ W'.cell? ⟨w.heap.size, 0, none⟩ = some (.iface T x) /\ W'.cell? ⟨w.heap.size, 1, none⟩ = some (.iface U y))
  (first | exact HB.out _ ((Ext.refl W).drew) | exact HB.out _ (by assumption))
  (first
    | (go_at_call_of 151 (Value.iface T x)
       refine (IHA.out _ _ (HXW.out.trans ((Ext.refl W).drew)) HX.out).mono ?_;rintro e v1 ⟨rfl, x1⟩
       have y1 : Ext W v1 := Ext.trans ((Ext.refl W).drew) x1)
    | (go_at_call_of 151 (Value.iface U y)
       refine (IHB.out _ _ (HXW.out.trans y1) HY.out).mono ?_;rintro e v2 ⟨rfl, x2⟩
       have y2 : Ext W v2 := Ext.trans y1 x2)
    | (go_at_call 185
       refine (uae _ _).mono ?_
       rintro e v3 ⟨rfl, rfl⟩))
 have HY2 := Lib.hid (HX0.out.trans y2);clear y1 y2 x1 x2 HB HX0;go_wp2_with fail;go_ret;exact ⟨rfl, HY2.out⟩
theorem jcp {w0 w : World} {L : Nat} {a b : Tm} {v : Value} (h : TmV w0 L (.sub a b) v) (iha : ∀ (v : Value) (w : World), Ext w0 w -> TmV w0 L a v -> Calls Tryz.prog 151 #[v] w (yj a.wt w)) (ihb : ∀ (v : Value) (w : World), Ext w0 w -> TmV w0 L b v -> Calls Tryz.prog 151 #[v] w (yj b.wt w)) (hx0 : Ext w0 w) :
 Calls Tryz.prog 151 #[v] w (yj (uq (yg a.wt b.wt + 1)) w) := by
 have ha := a.wt_bd;have hb := b.wt_bd;have IHA := Lib.hid iha;have IHB := Lib.hid ihb;obtain ⟨x, y, rfl, hx, hy⟩ := h;have HX := Lib.hid hx;have HY := Lib.hid hy;obtain ⟨T, x, rfl⟩ := hx.iface;obtain ⟨U, y, rfl⟩ := hy.iface;clear hx hy iha ihb;generalize a.wt = da at *;generalize b.wt = db at *;have hwm : IntKind.i64.wrap (max da db + 1) = yg da db + 1 := by
  have hm : max da db = yg da db := by rw [Int.max_def]; unfold yg; split <;> split <;> omega
  have hm' := wap ha.1 ha.2 hb.1 hb.2;rw [hm]; exact IntWalk.i64_in _ (by omega)
 go_enter Tryz.func151, Tryz.ntmps151;go_wp2_with fail;obtain ⟨W, hW⟩ : ∃ W, w.alloc (.cells #[.iface T x, .iface U y] 127) = W := ⟨_, rfl⟩;have HB : Hid (∀ W', Ext W W' -> (Ext W W' /\ W'.cell? ⟨w.heap.size, 0, none⟩ = some (.iface T x) /\ W'.cell? ⟨w.heap.size, 1, none⟩ = some (.iface U y))) := by
  intro W' hx;obtain ⟨hc, hf⟩ := hx.cells;refine ⟨hx, ?_, ?_⟩ <;> (rw [hc _ _ (by rw [<- hW]; simp), <- hW]; simp [go_sem])
 have HX0 : Hid (Ext w W) := by
  have : Ext w W := by rw [<- hW]; exact (Ext.refl w).alloc _
  exact this
 have HXW := Lib.hid (hx0.trans HX0.out);clear hx0;rw [hW];clear hW
 go_region_held3 (fun W' => Ext W W' /\ W'.cell? ⟨w.heap.size, 0, none⟩ = some (.iface T x) /\ W'.cell? ⟨w.heap.size, 1, none⟩ = some (.iface U y))
  (first | exact HB.out _ ((Ext.refl W).drew) | exact HB.out _ (by assumption))
  (first
    | (go_at_call_of 151 (Value.iface T x)
       refine (IHA.out _ _ (HXW.out.trans ((Ext.refl W).drew)) HX.out).mono ?_;rintro e v1 ⟨rfl, x1⟩
       have y1 : Ext W v1 := Ext.trans ((Ext.refl W).drew) x1)
    | (go_at_call_of 151 (Value.iface U y)
       refine (IHB.out _ _ (HXW.out.trans y1) HY.out).mono ?_;rintro e v2 ⟨rfl, x2⟩
       have y2 : Ext W v2 := Ext.trans y1 x2)
    | (go_at_call 185
       refine (uae _ _).mono ?_
       rintro e v3 ⟨rfl, rfl⟩))
 have HY2 := Lib.hid (HX0.out.trans y2);clear y1 y2 x1 x2 HB HX0;go_wp2_with fail;go_ret;exact ⟨rfl, HY2.out⟩
theorem gcp {w0 w : World} {L : Nat} {a b : Tm} {v : Value} (h : TmV w0 L (.mul a b) v) (iha : ∀ (v : Value) (w : World), Ext w0 w -> TmV w0 L a v -> Calls Tryz.prog 151 #[v] w (yj a.wt w)) (ihb : ∀ (v : Value) (w : World), Ext w0 w -> TmV w0 L b v -> Calls Tryz.prog 151 #[v] w (yj b.wt w)) (hx0 : Ext w0 w) :
 Calls Tryz.prog 151 #[v] w (yj (uq (a.wt + b.wt)) w) := by
 have ha := a.wt_bd;have hb := b.wt_bd;have IHA := Lib.hid iha;have IHB := Lib.hid ihb;obtain ⟨x, y, rfl, hx, hy⟩ := h;have HX := Lib.hid hx;have HY := Lib.hid hy;obtain ⟨T, x, rfl⟩ := hx.iface;obtain ⟨U, y, rfl⟩ := hy.iface;clear hx hy iha ihb;generalize a.wt = da at *;generalize b.wt = db at *;have hwr : IntKind.i64.wrap (da + db) = da + db := IntWalk.i64_in _ (by omega);go_enter Tryz.func151, Tryz.ntmps151;go_wp2_with fail;obtain ⟨W, hW⟩ : ∃ W, w.alloc (.cells #[.iface T x, .iface U y] 128) = W := ⟨_, rfl⟩;have HB : Hid (∀ W', Ext W W' -> (Ext W W' /\ W'.cell? ⟨w.heap.size, 0, none⟩ = some (.iface T x) /\ W'.cell? ⟨w.heap.size, 1, none⟩ = some (.iface U y))) := by
  intro W' hx;obtain ⟨hc, hf⟩ := hx.cells;refine ⟨hx, ?_, ?_⟩ <;> (rw [hc _ _ (by rw [<- hW]; simp), <- hW]; simp [go_sem])
 have HX0 : Hid (Ext w W) := by
  have : Ext w W := by rw [<- hW]; exact (Ext.refl w).alloc _
  exact this
 have HXW := Lib.hid (hx0.trans HX0.out);clear hx0;rw [hW];clear hW
 go_region_held3 (fun W' => Ext W W' /\ W'.cell? ⟨w.heap.size, 0, none⟩ = some (.iface T x) /\ W'.cell? ⟨w.heap.size, 1, none⟩ = some (.iface U y))
  (first | exact HB.out _ ((Ext.refl W).drew) | exact HB.out _ (by assumption))
  (first
    | (go_at_call_of 151 (Value.iface T x)
       refine (IHA.out _ _ (HXW.out.trans ((Ext.refl W).drew)) HX.out).mono ?_;rintro e v1 ⟨rfl, x1⟩
       have y1 : Ext W v1 := Ext.trans ((Ext.refl W).drew) x1)
    | (go_at_call_of 151 (Value.iface U y)
       refine (IHB.out _ _ (HXW.out.trans y1) HY.out).mono ?_;rintro e v2 ⟨rfl, x2⟩
       have y2 : Ext W v2 := Ext.trans y1 x2)
    | (go_at_call 185
       refine (uae _ _).mono ?_
       rintro e v3 ⟨rfl, rfl⟩))
 have HY2 := Lib.hid (HX0.out.trans y2);clear y1 y2 x1 x2 HB HX0;go_wp2_with fail;go_ret;exact ⟨rfl, HY2.out⟩
theorem ucp {w0 w : World} {L : Nat} {a : Tm} {v : Value} (h : TmV w0 L (.neg a) v) (iha : ∀ (v : Value) (w : World), Ext w0 w -> TmV w0 L a v -> Calls Tryz.prog 151 #[v] w (yj a.wt w)) (hx0 : Ext w0 w) :
 Calls Tryz.prog 151 #[v] w (yj a.wt w) := by
 have IHA := Lib.hid iha;obtain ⟨x, rfl, hx⟩ := h;have HX := Lib.hid hx;obtain ⟨T, x, rfl⟩ := hx.iface;clear hx iha;go_enter Tryz.func151, Tryz.ntmps151;go_wp2_with fail;refine (IHA.out _ _ (hx0.trans ((Ext.refl w).alloc _)) HX.out).mono ?_;rintro e v1 ⟨rfl, x1⟩;have X1 := Lib.hid (Ext.trans ((Ext.refl w).alloc _) x1);clear x1;go_wp2_with fail;go_ret;exact ⟨rfl, X1.out⟩
theorem kcp {w0 w : World} {L : Nat} {a : Tm} {n : Int} {v : Value} (h : TmV w0 L (.pow a n) v) (iha : ∀ (v : Value) (w : World), Ext w0 w -> TmV w0 L a v -> Calls Tryz.prog 151 #[v] w (yj a.wt w)) (hx0 : Ext w0 w) :
 Calls Tryz.prog 151 #[v] w (yj (vaj (yg n 1) a.wt) w) := by
 have ha := a.wt_bd;have IHA := Lib.hid iha;obtain ⟨x, rfl, hx⟩ := h;have HX := Lib.hid hx;obtain ⟨T, x, rfl⟩ := hx.iface;clear hx iha;generalize a.wt = da at *
 by_cases hlt : n < 1
 · rw [show yg n 1 = 1 from if_pos hlt];have hif : (if n < 1 then (1 : Int) else n) = 1 := if_pos hlt;have hde : decide (n < 1) = true := by simpa using hlt
   have hma : max n 1 = 1 := by omega
   go_enter Tryz.func151, Tryz.ntmps151;go_wp2_with fail;obtain ⟨W, hW⟩ : ∃ W, w.alloc (.cells #[.iface T x, .int .i64 n] 124) = W := ⟨_, rfl⟩;have HB : Hid (∀ W', Ext W W' -> (Ext W W' /\ W'.cell? ⟨w.heap.size, 0, none⟩ = some (.iface T x) /\ W'.cell? ⟨w.heap.size, 1, none⟩ = some (.int .i64 n))) := by
    intro W' hx;obtain ⟨hc, hf⟩ := hx.cells;refine ⟨hx, ?_, ?_⟩ <;> (rw [hc _ _ (by rw [<- hW]; simp), <- hW]; simp [go_sem])
   have HX0 : Hid (Ext w W) := by
    have : Ext w W := by rw [<- hW]; exact (Ext.refl w).alloc _
    exact this
   have HXW := Lib.hid (hx0.trans HX0.out);clear hx0;rw [hW];clear hW
   go_region_held3 (fun W' => Ext W W' /\ W'.cell? ⟨w.heap.size, 0, none⟩ = some (.iface T x) /\ W'.cell? ⟨w.heap.size, 1, none⟩ = some (.int .i64 n))
    (first | exact HB.out _ ((Ext.refl W).drew) | exact HB.out _ (by assumption))
    (first
      | (go_at_call 151
         refine (IHA.out _ _ (HXW.out.trans ((Ext.refl W).drew)) HX.out).mono ?_;rintro e v1 ⟨rfl, x1⟩
         have y1 : Ext W v1 := Ext.trans ((Ext.refl W).drew) x1)
      | (go_at_call 186
         refine (yan (1) da _ (by omega) (by omega)).mono ?_
         rintro e v2 ⟨rfl, rfl⟩))
   all_goals
    have HY2 := Lib.hid (HX0.out.trans y1);clear y1 x1 HB HX0;go_wp2_with fail;go_ret;exact ⟨rfl, HY2.out⟩
 · rw [show yg n 1 = n from if_neg hlt];have hge : 1 <= n := by omega
   have hif : (if n < 1 then (1 : Int) else n) = n := if_neg hlt;have hde : decide (n < 1) = false := by simpa using hlt
   have hma : max n 1 = n := by omega
   go_enter Tryz.func151, Tryz.ntmps151;go_wp2_with fail;obtain ⟨W, hW⟩ : ∃ W, w.alloc (.cells #[.iface T x, .int .i64 n] 124) = W := ⟨_, rfl⟩;have HB : Hid (∀ W', Ext W W' -> (Ext W W' /\ W'.cell? ⟨w.heap.size, 0, none⟩ = some (.iface T x) /\ W'.cell? ⟨w.heap.size, 1, none⟩ = some (.int .i64 n))) := by
    intro W' hx;obtain ⟨hc, hf⟩ := hx.cells;refine ⟨hx, ?_, ?_⟩ <;> (rw [hc _ _ (by rw [<- hW]; simp), <- hW]; simp [go_sem])
   have HX0 : Hid (Ext w W) := by
    have : Ext w W := by rw [<- hW]; exact (Ext.refl w).alloc _
    exact this
   have HXW := Lib.hid (hx0.trans HX0.out);clear hx0;rw [hW];clear hW
   go_region_held3 (fun W' => Ext W W' /\ W'.cell? ⟨w.heap.size, 0, none⟩ = some (.iface T x) /\ W'.cell? ⟨w.heap.size, 1, none⟩ = some (.int .i64 n))
    (first | exact HB.out _ ((Ext.refl W).drew) | exact HB.out _ (by assumption))
    (first
      | (go_at_call 151
         refine (IHA.out _ _ (HXW.out.trans ((Ext.refl W).drew)) HX.out).mono ?_;rintro e v1 ⟨rfl, x1⟩
         have y1 : Ext W v1 := Ext.trans ((Ext.refl W).drew) x1)
      | (go_at_call 186
         refine (yan (n) da _ (by omega) (by omega)).mono ?_
         rintro e v2 ⟨rfl, rfl⟩))
   all_goals
    have HY2 := Lib.hid (HX0.out.trans y1);clear y1 x1 HB HX0;go_wp2_with fail;go_ret;exact ⟨rfl, HY2.out⟩
theorem vcp {w0 w : World} {L : Nat} {z : Int} {v : Value} (h : TmV w0 L (.num z) v) (hx0 : Ext w0 w) (hs : L <= 1000000000000) : Calls Tryz.prog 151 #[v] w (yj (uq (gad z.natAbs : Nat)) w) := by
 obtain ⟨x, rfl, hx⟩ := h;have HX := Lib.hid (hx.ext hx0);obtain ⟨b, A, n, c, rfl⟩ := hx.unpack;clear hx;go_enter Tryz.func151, Tryz.ntmps151;go_wp2_with fail;refine (wa8 _ z L _ (HX.out.ext ((Ext.refl w).alloc _)) hs).mono ?_;rintro e w1 ⟨rfl, x1⟩;have X1 := Lib.hid (Ext.trans ((Ext.refl w).alloc _) x1);clear x1;go_wp2_with fail;refine (uae _ _).mono ?_;rintro e w1 ⟨rfl, rfl⟩;go_wp2_with fail;go_ret;exact ⟨rfl, X1.out⟩
theorem xcj {w0 w : World} {L : Nat} {s : ByteArray} {v : Value} (h : TmV w0 L (.name s) v) : Calls Tryz.prog 151 #[v] w (yj 1 w) := by
 obtain rfl := h;go_enter Tryz.func151, Tryz.ntmps151;go_wp2_with fail;go_ret;exact ⟨rfl, Ext.refl _⟩
theorem xbt {w0 : World} {L : Nat} (hs : L <= 1000000000000) (t : Tm) : ∀ (v : Value) (w : World), Ext w0 w -> TmV w0 L t v -> Calls Tryz.prog 151 #[v] w (yj t.wt w) := by
 induction t with
 | num z => exact fun v w hx h => vcp h hx hs
 | name s => exact fun v w hx h => xcj h
 | add a b iha ihb => exact fun v w hx h => wcp h iha ihb hx
 | sub a b iha ihb => exact fun v w hx h => jcp h iha ihb hx
 | mul a b iha ihb => exact fun v w hx h => gcp h iha ihb hx
 | neg a iha => exact fun v w hx h => ucp (a := a) h iha hx
 | pow a n iha => exact fun v w hx h => kcp h iha hx
end Go.Proofs.YtaedbimbbeploaaGreatDoor

/- Layer 38: what prenex.Of computes, plain. No program in sight. -/
namespace Go.Proofs.YtaedbimbbeploaaGreatDoor
def kba (r : Int) : Int := if r = 1 then 5 else if r = 2 then 6 else if r = 4 then 3 else if r = 5 then 1 else if r = 6 then 2 else 4
def Pl.var (n : Int) : Pl := if 1 <= n /\ n <= 4 then .mk n false [] [Pl.zero, Pl.const 1] else Pl.zero
theorem Pl.var_can (n : Int) : (Pl.var n).Can := by
 unfold Pl.var
 split
 · rename_i h;refine wax (by omega) h.2 (by simp) (jaf fun c hc => ?_) (by
    have h1 := uaj (n := 1) (by decide);simp [Pl.const, Pl.zero];intro e;rw [e] at h1
    simp at h1)
   simp only [List.mem_cons, List.not_mem_nil, or_false] at hc;rcases hc with rfl | rfl
   · exact ⟨by simp [Pl.zero, Pl.lv]; omega, Pl.zero_can⟩
   · exact ⟨by simp [Pl.const, Pl.lv]; omega, zab 1⟩
 · exact Pl.zero_can
theorem Pl.var_fit (n : Int) : Fit (Pl.var n) 1 1 /\ (Pl.var n).nr <= 1 := by
 have h1 : (Pl.var n).ex 1 /\ (Pl.var n).nr <= 1 := by
  unfold Pl.var
  split
  · rename_i h;have hk : ∀ c ∈ [Pl.zero, Pl.const 1], c.ex 1 := fun c hc => by
     simp only [List.mem_cons, List.not_mem_nil, or_false] at hc;rcases hc with rfl | rfl
     · exact (Fit.zero (D := 1)).ex
     · exact (Fit.const (D := 1) (by decide)).ex
    refine ⟨by rw [Pl.ex]; exact .inr ⟨by simp, kbr hk⟩, ?_⟩
    · rw [Pl.nr, if_neg (by omega), yz, yz, yz, Pl.const_nr];simp [Pl.zero, Pl.nr, sgn, val]
  · exact ⟨(Fit.zero (D := 1)).ex, by simp [Pl.zero, Pl.nr, sgn, val]⟩
 exact ⟨⟨Pl.var_can n, h1.1, by have := h1.2; have : 1 < B32 ^ 1 := by decide
                                omega⟩, h1.2⟩
theorem Pl.add_nr {p q : Pl} (hp : p.Can) (hq : q.Can) : (p.add q).nr <= p.nr + q.nr := by
 refine Nat.le_trans (Pl.ofS_nr _) ?_;rw [wag, Pl.terms_nr p _ hp, Pl.terms_nr q _ hq];exact Nat.le_refl _
theorem Pl.opp_nr {p : Pl} (hp : p.Can) : p.opp.nr <= p.nr := by
 have := Pl.mul_nr hp (zab (-1));rw [Pl.const_nr] at this;simpa [Pl.opp] using this
theorem Pl.pow_nr {p : Pl} (hp : p.Can) (n : Nat) : (p.pow n).nr <= p.nr ^ n := by
 induction n with
 | zero => rw [Pl.pow, Pl.const_nr]; simp
 | succ n ih => exact Nat.le_trans (Pl.mul_nr (Pl.pow_can p n) hp) (by rw [Nat.pow_succ]; exact Nat.mul_le_mul_right _ ih)
def qh (g : ByteArray -> Int) : Tm -> Pl
 | .num z => Pl.const z
 | .name s => Pl.var (g s)
 | .add a b => (qh g a).add (qh g b)
 | .sub a b => (qh g a).add (qh g b).opp
 | .mul a b => (qh g a).mul (qh g b)
 | .neg a => (qh g a).opp
 | .pow a e => (qh g a).pow e.toNat
theorem kcb (g : ByteArray -> Int) (t : Tm) : (qh g t).Can := by
 cases t
 · exact zab _
 · exact Pl.var_can _
 · exact Pl.add_can _ _
 · exact Pl.add_can _ _
 · exact Pl.mul_can _ _
 · exact Pl.opp_can _
 · exact Pl.pow_can _ _
theorem qcc (k : Nat) : ∀ n, n < k -> n < 10 ^ gad n := by
 induction k with
 | zero => intro n h; omega
 | succ k ih =>
   intro n h
   by_cases h1 : n < 10
   · rw [kaz h1]; omega
   · rw [ua9 (by omega), Nat.pow_succ];have := ih (n / 10) (by omega);omega
def Bd (p : Pl) (W : Nat) : Prop := p.Can /\ p.ex W /\ p.nr <= 10 ^ W
theorem Bd.fit {p : Pl} {W : Nat} (h : Bd p W) : Fit p W (W + 1) := ⟨h.1, h.2.1, Nat.lt_of_le_of_lt h.2.2 (Nat.lt_of_lt_of_le (Nat.pow_lt_pow_right (by decide) (Nat.lt_succ_self W)) (Nat.pow_le_pow_left (by decide) _))⟩
theorem Bd.mono {p : Pl} {W V : Nat} (h : Bd p W) (hl : W <= V) : Bd p V := ⟨h.1, Pl.ex_mono hl _ h.2.1, Nat.le_trans h.2.2 (Nat.pow_le_pow_right (by decide) hl)⟩
theorem Bd.add {p q : Pl} {W : Nat} (h : Bd p W) (k : Bd q W) : Bd (p.add q) (W + 1) := by
 refine ⟨Pl.add_can _ _, Pl.ex_mono (by omega) _ (h.fit.add k.fit).ex, Nat.le_trans (Pl.add_nr h.1 k.1) ?_⟩;have := h.2.2; have := k.2.2;rw [Nat.pow_succ];omega
theorem Bd.mul {p q : Pl} {W V : Nat} (h : Bd p W) (k : Bd q V) : Bd (p.mul q) (W + V) :=
 ⟨Pl.mul_can _ _, (h.fit.mul k.fit).ex, Nat.le_trans (Pl.mul_nr h.1 k.1) (by rw [Nat.pow_add]; exact Nat.mul_le_mul h.2.2 k.2.2)⟩
theorem Bd.opp {p : Pl} {W : Nat} (h : Bd p W) : Bd p.opp W := ⟨Pl.opp_can _, h.fit.opp.ex, Nat.le_trans (Pl.opp_nr h.1) h.2.2⟩
theorem Bd.pow {p : Pl} {W : Nat} (h : Bd p W) (n : Nat) : Bd (p.pow n) (n * W) :=
 ⟨Pl.pow_can _ _, (h.fit.pow n).ex, Nat.le_trans (Pl.pow_nr h.1 n) (by rw [Nat.mul_comm, Nat.pow_mul]; exact Nat.pow_le_pow_left h.2.2 n)⟩
theorem wai {n : Int} (h : uq n <= 400) : uq n = n := by unfold uq at *; split at h <;> (try split) <;> omega
theorem wba {a : Tm} {e : Int} (h : (Tm.pow a e).wt <= 400) : (Tm.pow a e).wt = yg e 1 * a.wt /\ a.wt <= 400 /\ 1 <= yg e 1 /\ e <= yg e 1 /\ yg e 1 <= 400 := by
 have ha := a.wt_bd;have he : 1 <= yg e 1 /\ e <= yg e 1 := by unfold yg; split <;> omega
 have h1 := waf he.1;have h2 := waf ha.1
 change vaj (yg e 1) a.wt <= 400 at h
 change vaj (yg e 1) a.wt = _ /\ _
 unfold vaj at h ⊢;have h3 := wai h;rw [h3] at h ⊢;have h4 : uq (yg e 1) * 1 <= uq (yg e 1) * uq a.wt := Int.mul_le_mul_of_nonneg_left h2.1 (by omega);have h5 : 1 * uq a.wt <= uq (yg e 1) * uq a.wt := Int.mul_le_mul_of_nonneg_right h1.1 (by omega);have e1 := wai (n := yg e 1) (by omega);have e2 := wai (n := a.wt) (by omega);rw [e1, e2] at h h4 h5 ⊢;exact ⟨rfl, by omega, he.1, he.2, by omega⟩
theorem xae (g : ByteArray -> Int) (t : Tm) (h : t.wt <= 400) : Bd (qh g t) t.wt.toNat := by
 induction t with
 | num z =>
   have h1 := wai h;refine ⟨zab z, (Fit.const (D := z.natAbs + 1) (Nat.lt_of_lt_of_le (Nat.lt_pow_self (by decide)) (Nat.pow_le_pow_right (by decide) (Nat.le_succ _)))).ex, ?_⟩;have h2 : (Tm.num z).wt.toNat = gad z.natAbs := by show (uq _).toNat = _; rw [h1]; rfl
   rw [h2];show (Pl.const z).nr <= _;rw [Pl.const_nr];exact Nat.le_of_lt (qcc (z.natAbs + 1) _ (by omega))
 | name s =>
   have := Pl.var_fit (g s);exact ⟨this.1.can, this.1.ex, Nat.le_trans this.2 (Nat.pow_pos (by decide))⟩
 | add a b iha ihb =>
   have h1 : (Tm.add a b).wt = yg a.wt b.wt + 1 := wai h;have hm : a.wt <= yg a.wt b.wt /\ b.wt <= yg a.wt b.wt := by unfold yg; split <;> omega
   have := a.wt_bd; have := b.wt_bd;rw [h1] at h ⊢;rw [show (yg a.wt b.wt + 1).toNat = (yg a.wt b.wt).toNat + 1 by omega];exact ((iha (by omega)).mono (by omega)).add ((ihb (by omega)).mono (by omega))
 | sub a b iha ihb =>
   have h1 : (Tm.sub a b).wt = yg a.wt b.wt + 1 := wai h;have hm : a.wt <= yg a.wt b.wt /\ b.wt <= yg a.wt b.wt := by unfold yg; split <;> omega
   have := a.wt_bd; have := b.wt_bd;rw [h1] at h ⊢;rw [show (yg a.wt b.wt + 1).toNat = (yg a.wt b.wt).toNat + 1 by omega];exact ((iha (by omega)).mono (by omega)).add ((ihb (by omega)).mono (by omega)).opp
 | mul a b iha ihb =>
   have h1 : (Tm.mul a b).wt = a.wt + b.wt := wai h;have := a.wt_bd; have := b.wt_bd;rw [h1] at h ⊢;rw [show (a.wt + b.wt).toNat = a.wt.toNat + b.wt.toNat by omega];exact (iha (by omega)).mul (ihb (by omega))
 | neg a iha => exact (iha h).opp
 | pow a e iha =>
   obtain ⟨h1, h2, h3, h4, h5⟩ := wba h;rw [h1];have ha := a.wt_bd;refine ((iha h2).pow e.toNat).mono ?_;have h6 : e.toNat * a.wt.toNat <= (yg e 1).toNat * a.wt.toNat := Nat.mul_le_mul_right _ (by omega);have h7 : (yg e 1 * a.wt).toNat = (yg e 1).toNat * a.wt.toNat := by
    obtain ⟨m, hm⟩ : ∃ m : Nat, yg e 1 = m := ⟨(yg e 1).toNat, by omega⟩;obtain ⟨n, hn⟩ : ∃ n : Nat, a.wt = n := ⟨a.wt.toNat, by omega⟩;rw [hm, hn];exact Int.toNat_natCast (m * n)
   omega
structure PSt where
 names : List ByteArray
 all : List Bool
 lev : ByteArray -> Int
def PSt.bind (s : PSt) (a : Bool) (nm : ByteArray) : PSt := ⟨s.names ++ [nm], s.all ++ [a], fun t => if t = nm then (s.names.length + 1 : Nat) else s.lev t⟩
def xaa (k : Int) (a b : Mx) : Mx := .mk k 0 Pl.zero [a, b]
def uat (b : Bool) : Mx := .mk (if b then 1 else 0) 0 Pl.zero []
def ka4 (r : Int) (p : Pl) : Mx := .mk 2 r p []
def Fm.noIff : Fm -> Bool
 | .truth _ => true
 | .atom _ _ _ => true
 | .not f => f.noIff
 | .and f g => f.noIff && g.noIff
 | .or f g => f.noIff && g.noIff
 | .imp f g => f.noIff && g.noIff
 | .iff _ _ => false
 | .quant _ _ f => f.noIff
def jd : Fm -> Bool -> PSt -> Mx × PSt
 | .truth b, pos, s => (uat (b == pos), s)
 | .atom l r k, pos, s => (ka4 (if pos then gaa r else kba (gaa r)) ((qh s.lev l).add (qh s.lev k).opp), s)
 | .not f, pos, s => jd f (!pos) s
 | .and f g, pos, s => (xaa (if pos then 3 else 4) (jd f pos s).1 (jd g pos (jd f pos s).2).1, (jd g pos (jd f pos s).2).2)
 | .or f g, pos, s => (xaa (if pos then 4 else 3) (jd f pos s).1 (jd g pos (jd f pos s).2).1, (jd g pos (jd f pos s).2).2)
 | .imp f g, pos, s => (xaa (if pos then 4 else 3) (jd f (!pos) s).1 (jd g pos (jd f (!pos) s).2).1, (jd g pos (jd f (!pos) s).2).2)
 | .iff _ _, _, s => (uat false, s)
 | .quant a nm f, pos, s => jd f pos (s.bind (a == pos) nm)
def Fm.light : Fm -> Prop
 | .truth _ => True
 | .atom l _ k => l.wt <= 320 /\ k.wt <= 320
 | .not f => f.light
 | .and f g => f.light /\ g.light
 | .or f g => f.light /\ g.light
 | .imp f g => f.light /\ g.light
 | .iff f g => f.light /\ g.light
 | .quant _ _ f => f.light
end Go.Proofs.YtaedbimbbeploaaGreatDoor
