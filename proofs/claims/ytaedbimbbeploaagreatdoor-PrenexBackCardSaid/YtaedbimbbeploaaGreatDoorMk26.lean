/- A call that returns a Bool. -/
import Derived.Test.YtaedbimbbeploaaGreatDoorMk0
import Derived.Test.YtaedbimbbeploaaGreatDoorMk10
import Derived.LoopTactic
set_option linter.unusedSimpArgs false
set_option linter.unusedVariables false

namespace Go.Proofs.YtaedbimbbeploaaGreatDoor
def wah (b : Bool) (w : World) (e : Ending) (w' : World) : Prop := e = .returned (.bool b) /\ Ext w w'
end Go.Proofs.YtaedbimbbeploaaGreatDoor

/- Layer 34: the names that occur in terms and formulas, passed to a function. -/
set_option maxRecDepth 100000
set_option maxHeartbeats 8000000
namespace Go.Proofs.YtaedbimbbeploaaGreatDoor
open Go.RowKit
attribute [local go_sem] gac qaa jad vac yad zad uac yx jaa wac qad yag gq xad qx
structure xe (own : Nat -> Prop) (W : World) (own' : Nat -> Prop) (W' : World) : Prop where
 os : W'.os = W.os
 tape : W'.tape = W.tape
 output : W'.output = W.output
 size : W.heap.size <= W'.heap.size
 block : ∀ i, i < W.heap.size -> ¬ own i -> W'.heap[i]? = W.heap[i]?
 own : ∀ i, i < W.heap.size -> own' i -> own i
theorem xe.refl (own : Nat -> Prop) (W : World) : xe own W own W := ⟨rfl, rfl, rfl, Nat.le_refl _, fun _ _ _ => rfl, fun _ _ h => h⟩
theorem xe.trans {o1 o2 o3 : Nat -> Prop} {a b c : World} (h : xe o1 a o2 b) (k : xe o2 b o3 c) : xe o1 a o3 c :=
 ⟨k.os.trans h.os, k.tape.trans h.tape, k.output.trans h.output, Nat.le_trans h.size k.size,
   fun i hi hn => (k.block i (Nat.lt_of_lt_of_le hi h.size) (fun ho => hn (h.own i hi ho))).trans (h.block i hi hn),
   fun i hi ho => h.own i hi (k.own i (Nat.lt_of_lt_of_le hi h.size) ho)⟩
theorem xe.of_ext {o : Nat -> Prop} {a b : World} (h : Ext a b) : xe o a o b :=
 ⟨h.below.os, h.below.tape, h.below.output, h.size, fun i hi _ => h.below.block i hi, fun _ _ h => h⟩
theorem xe.ext {w0 a b : World} {o1 o2 : Nat -> Prop} (h : xe o1 a o2 b) (hx : Ext w0 a) (ho : ∀ i, o1 i -> w0.heap.size <= i) : Ext w0 b :=
 ⟨h.os.trans hx.below.os, h.tape.trans hx.below.tape, h.output.trans hx.below.output, Nat.le_trans hx.size h.size,
   fun i hi => (h.block i (Nat.lt_of_lt_of_le hi hx.size) (fun hh => by have := ho i hh; omega)).trans (hx.below.block i hi)⟩
theorem xe.cell {o1 o2 : Nat -> Prop} {a b : World} (h : xe o1 a o2 b) {p : Addr} (hp : p.block < a.heap.size) (hn : ¬ o1 p.block) : b.cell? p = a.cell? p := World.cell?_of_block (h.block _ hp hn)
theorem SlR.keeps {α : Type} {P : α -> Value -> Prop} {w w' : World} {v : Value} {l : List α} {o1 o2 : Nat -> Prop} (h : SlR (fun _ => P) w v l) (k : xe o1 w o2 w') (hn : ∀ ad n c, v = .slice (some ad) n c -> ¬ o1 ad.block) : SlR (fun _ => P) w' v l := by
 obtain ⟨A, c, e, h1, h2, h3⟩ := h;refine ⟨A, c, e, h1, h2, fun j hj => ?_⟩;obtain ⟨ad, x, rfl, hb, hc, hp⟩ := h3 j hj;exact ⟨ad, x, rfl, Nat.lt_of_lt_of_le hb k.size, (k.cell (by rw [ja]; exact hb) (by rw [ja]; exact hn _ _ _ e)).trans hc, hp⟩
theorem SlR.get_ {α : Type} {P : α -> Value -> Prop} {w : World} {A : Option Addr} {n c : Nat} {l : List α} (h : SlR (fun _ => P) w (.slice A n c) l) (j : Nat) (hj : j < l.length) : ∃ ad x, A = some ad /\ w.cell? (ad.add j) = some x /\ P l[j] x := by
 obtain ⟨A', c', e, -, -, h3⟩ := h;obtain ⟨ad, x, rfl, -, hc, hp⟩ := h3 j hj;injection e with e1 e2 e3
 exact ⟨ad, x, e1, hc, hp⟩
theorem SlR.len {α : Type} {P : World -> α -> Value -> Prop} {w : World} {v : Value} {l : List α} (h : SlR P w v l) : ∃ A c, v = .slice A l.length c := by
 obtain ⟨A', c', e, -⟩ := h;exact ⟨A', c', e⟩
structure jb7 {α : Type} (K : Nat) (caps : Array Value) (I : Nat -> World -> (Nat -> Prop) -> α -> Prop) (step : ByteArray -> α -> α) : Prop where
 enter : ∀ args W, (callFunc K args).run Tryz.prog W = .ok (.enter K args) W
 ext : ∀ b W W' own acc, I b W own acc -> Ext W W' -> I b W' own acc
 less : ∀ b b' W own acc, I b W own acc -> b' <= b -> I b' W own acc
 lt : ∀ b W own acc, I b W own acc -> ∀ i, own i -> i < W.heap.size
 call : ∀ b W own acc s, I (b + 1) W own acc -> Calls Tryz.prog K (#[.string s] ++ caps) W fun e W' => (∃ v, e = .returned v) /\ ∃ own', I b W' own' (step s acc) /\ xe own W own' W'
def Tm.fold {α : Type} (st : ByteArray -> α -> α) : Tm -> α -> α
 | .num _, x => x
 | .name s, x => st s x
 | .add a b, x => b.fold st (a.fold st x)
 | .sub a b, x => b.fold st (a.fold st x)
 | .mul a b, x => b.fold st (a.fold st x)
 | .neg a, x => a.fold st x
 | .pow a _, x => a.fold st x
def uap {α : Type} (st : ByteArray -> α -> α) (l : List Tm) (x : α) : α := l.foldl (fun acc k => k.fold st acc) x
theorem vbf {α : Type} (st : ByteArray -> α -> α) (l : List Tm) (x : α) (k : Nat) (h : k < l.length) : uap st (l.take (k + 1)) x = (l[k]).fold st (uap st (l.take k) x) := by
 unfold uap;rw [List.take_succ_eq_append_getElem h, List.foldl_append]; rfl
def Tm.isName : Tm -> Bool
 | .name _ => true
 | _ => false
theorem Tm.fold_kids {α : Type} (st : ByteArray -> α -> α) (t : Tm) (x : α) (h : t.isName = false) : t.fold st x = uap st t.kids x := by
 cases t <;> simp_all [Tm.fold, Tm.kids, uap, Tm.isName]
def Tm.sz : Tm -> Nat
 | .num _ => 1
 | .name _ => 1
 | .add a b => a.sz + b.sz + 1
 | .sub a b => a.sz + b.sz + 1
 | .mul a b => a.sz + b.sz + 1
 | .neg a => a.sz + 1
 | .pow a _ => a.sz + 1
theorem Tm.kids_lt (t k : Tm) (h : k ∈ t.kids) : k.sz < t.sz := by
 cases t <;> simp [Tm.kids] at h
 · rcases h with rfl | rfl <;> simp [Tm.sz] <;> omega
 · rcases h with rfl | rfl <;> simp [Tm.sz] <;> omega
 · rcases h with rfl | rfl <;> simp [Tm.sz] <;> omega
 · subst h; simp [Tm.sz]
 · subst h; simp [Tm.sz]
def gab (l : List Tm) : Nat := (l.map Tm.sz).sum
theorem za6 (t : Tm) : gab t.kids + 1 = t.sz := by cases t <;> simp [Tm.kids, gab, Tm.sz] <;> omega
theorem kbt (l : List Tm) (k : Nat) (h : k < l.length) : gab (l.drop k) = l[k].sz + gab (l.drop (k + 1)) := by
 unfold gab;rw [List.drop_eq_getElem_cons h, List.map_cons, List.sum_cons]
theorem Tm.kids_len (t : Tm) : t.kids.length <= 2 := by cases t <;> simp [Tm.kids]
theorem TmV.notName {w : World} {L : Nat} {t : Tm} {v : Value} (h : TmV w L t v) (hn : t.isName = false) : ∃ T x, v = .iface T x /\ ¬ T = 91 := by
 cases t <;> (simp only [TmV] at h) <;> first | (cases hn; done) | (obtain ⟨_, e, _⟩ := h; exact ⟨_, _, e, by decide⟩) | (obtain ⟨_, _, e, _⟩ := h; exact ⟨_, _, e, by decide⟩)
theorem vbr {α : Type} {K : Nat} {caps : Array Value} {I : Nat -> World -> (Nat -> Prop) -> α -> Prop} {step : ByteArray -> α -> α} (V : jb7 K caps I step) {w0 : World} {L : Nat} (n : Nat) :
 ∀ (t : Tm) (v : Value), t.sz < n -> TmV w0 L t v -> ∀ (b : Nat) (W : World) (own : Nat -> Prop) (acc : α), I (b + t.sz) W own acc ->
 Calls Tryz.prog 133 #[v, .func (.func K) #[] caps] W fun e W' => (∃ v, e = .returned v) /\ ∃ own', I b W' own' (t.fold step acc) /\ xe own W own' W' := by
 induction n with
 | zero => intro t v ht; omega
 | succ n ih =>
 intro t v ht h b W own acc hI;have IH := Lib.hid ih;have hK := V.enter;have HV := Lib.hid V;have HI := Lib.hid hI;have H := Lib.hid h;clear ih V hI
 by_cases hn : t.isName = true
 · cases t with
   | name s =>
     obtain rfl := h;go_enter Tryz.func133, Tryz.ntmps133;go_wp2_with fail;refine (HV.out.call b _ _ _ s (HV.out.ext _ _ _ _ _ HI.out ((Ext.refl W).alloc _))).mono ?_;rintro e w1 ⟨⟨v1, rfl⟩, own1, hI1, hk1⟩;have HI1 := Lib.hid hI1;have HK1 := Lib.hid (xe.trans (xe.of_ext ((Ext.refl W).alloc _)) hk1);clear hI1 hk1;go_wp2_with fail;refine (kak (.name s) H.out).mono ?_;rintro e w2 ⟨s2, rfl, hs, -, hx⟩;obtain ⟨A, c, rfl⟩ := hs.len;have HX := Lib.hid hx;clear hs hx;simp only [Tm.kids, List.length_nil];go_wp2_with fail;refine wp_loop_rounds 1 ?_;rw [rounds_succ];go_wp2_with fail
     go_end0
     exact ⟨⟨_, rfl⟩, own1, HV.out.ext _ _ _ _ _ HI1.out HX.out, HK1.out.trans (xe.of_ext HX.out)⟩
   | _ => simp [Tm.isName] at hn
 · obtain ⟨T, x, rfl, hT⟩ := h.notName (by simpa using hn);have HN : Hid (t.isName = false) := by
    have : t.isName = false := by simpa using hn
    exact this
   clear h hn;have hlen := t.kids_len;go_enter Tryz.func133, Tryz.ntmps133;go_wp2_with fail;refine (kak t H.out).mono ?_;rintro e w1 ⟨s, rfl, hs, hf, hx⟩;obtain ⟨A, c, rfl⟩ := hs.len;have HX : Hid (Ext W w1) := by
    have : Ext W w1 := ((Ext.refl W).alloc _).trans hx;exact this
   have HS := Lib.hid hs;have HF := Lib.hid hf;clear hs hf hx;go_wp2_with fail
   go_loopw [21] (fun iv wr => ∃ k : Nat, k <= t.kids.length /\ iv = .int .i64 k /\ Hid (∃ own', I (b + gab (t.kids.drop k)) wr own' (uap step (t.kids.take k) acc) /\ xe own w1 own' wr)) (fun iv _ => t.kids.length - (intOf iv).toNat)
   case atStart =>
    exact ⟨0, Nat.zero_le _, rfl, ⟨own, HV.out.less _ _ _ _ _ (HV.out.ext _ _ _ _ _ HI.out HX.out) (by have := za6 t; simp only [List.drop_zero]; omega), xe.refl _ _⟩⟩
   case round =>
    obtain ⟨k, hk, rfl, ⟨own', hI', hk'⟩⟩ := hrel;have HI' := Lib.hid hI';have HK' := Lib.hid hk';clear hI' hk'
    by_cases hlt : k < t.kids.length
    · obtain ⟨ad, y, rfl, hc, hp⟩ := SlR.get_ (SlR.keeps HS.out HK'.out (fun ad n c e => fun ho => by
       have h1 := HF.out ad n c e;have h2 := HV.out.lt _ _ _ _ HI.out _ ho
       simp at h1; omega)) k hlt
      have HP := Lib.hid hp;obtain ⟨U, y, rfl⟩ := hp.iface;clear hp;go_wp2_with fail;refine (IH.out (t.kids[k]) _ (by have := t.kids_lt _ (List.getElem_mem hlt); omega) HP.out _ _ _ _ (by rw [kbt _ _ hlt, Nat.add_comm (t.kids[k]).sz, <- Nat.add_assoc] at HI'; exact HI'.out)).mono ?_;rintro e w2 ⟨⟨v2, rfl⟩, own2, hI2, hk2⟩;have HI2 := Lib.hid hI2;have HK2 := Lib.hid hk2;clear hI2 hk2 hc;go_wp2_with fail
      go_roundw
      case rel => exact ⟨k + 1, by omega, by go_num, ⟨own2, by rw [vbf step _ _ _ hlt]; exact HI2.out, HK'.out.trans HK2.out⟩⟩
      case measure => simp [intOf]; omega
    · have hke : k = t.kids.length := by omega
      have HD : Hid (I b wr own' (t.fold step acc)) := by
       have := HV.out.less _ b _ _ _ HI'.out (by omega);rw [hke, List.take_length, <- Tm.fold_kids step t acc HN.out] at this;exact this
      clear hke;go_wp2_with fail
      go_end0
      exact ⟨⟨_, rfl⟩, own', HD.out, (xe.of_ext HX.out).trans HK'.out⟩
end Go.Proofs.YtaedbimbbeploaaGreatDoor
