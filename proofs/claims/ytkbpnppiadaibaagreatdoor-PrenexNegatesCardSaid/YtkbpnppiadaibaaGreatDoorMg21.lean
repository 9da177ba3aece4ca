/- Layer 20: sparse.negative, cmp.Compare, sparse.CompareMono. -/
import Derived.Test.YtkbpnppiadaibaaGreatDoorMg12
import Derived.Sort.Grow
import Derived.Test.YtkbpnppiadaibaaGreatDoorMg5
import Derived.Shelf.SlSortCmp.WholeK
import Derived.Test.YtkbpnppiadaibaaGreatDoorMg13
set_option linter.unusedSimpArgs false
set_option linter.unusedVariables false

namespace Go.Proofs.YtkbpnppiadaibaaGreatDoor
open Go.RowKit Go.Sort

end Go.Proofs.YtkbpnppiadaibaaGreatDoor

/- Layer 20: (*gather).add: the terms collected by their monomials. -/
namespace Go.Proofs.YtkbpnppiadaibaaGreatDoor
open Go.RowKit

end Go.Proofs.YtkbpnppiadaibaaGreatDoor

/- Layer 20: a coefficient of a row of terms is overwritten. -/
namespace Go.Proofs.YtkbpnppiadaibaaGreatDoor
open Go.RowKit

theorem GRow.set_ {T k base : Nat} {W : World} {g c n : Nat} {xs : List Value} (h : GRow T k base W (.slice (some ⟨g, 0, none⟩) n c) n xs) (j : Nat) (hj : j < n * k) (u : Value) (hu : isDig u = false) :
    GRow T k base (W.setCell ⟨g, j, none⟩ u) (.slice (some ⟨g, 0, none⟩) n c) n (xs.set j u) := by
  obtain ⟨⟨h1, h2⟩, h3⟩ := h
  rcases h2 with ⟨h2, -⟩ | ⟨g', cap, cur, e, hb, hg, hc, hm, hs, ht⟩
  · cases h2
  injection e with e1 e2 e3
  injection e1 with e1
  injection e1 with e1
  subst e1 e3
  have hheap : (W.setCell ⟨g, j, none⟩ u).heap[g]? = some (.cells (cur.setIfInBounds j u) T (0, 0)) := by
    simp [World.setCell, Array.getElem?_modify, hg]
  refine ⟨⟨by rw [List.length_set]; exact h1, .inr ⟨g, c, cur.setIfInBounds j u, rfl, hb, hheap, hc, hm, by simpa using hs, ?_⟩⟩, ?_⟩
  · rw [Array.toList_setIfInBounds, List.take_set, ht]
  · intro R cur' T' fr e hb' u' hu'
    have hR : g = R := by simpa [Value.ownBlock] using e
    rw [← hR, hheap] at hb'
    injection hb' with hb'
    injection hb' with hb'
    rw [← hb', Array.toList_setIfInBounds] at hu'
    rcases List.mem_or_eq_of_mem_set hu' with hu' | rfl
    · exact h3 g cur T (0, 0) rfl hg u' hu'
    · exact hu
end Go.Proofs.YtkbpnppiadaibaaGreatDoor

/- Layer 20: (*gather).add of a monomial that is there; the whole. -/
namespace Go.Proofs.YtkbpnppiadaibaaGreatDoor
open Go.RowKit

end Go.Proofs.YtkbpnppiadaibaaGreatDoor

/- The library's sort at terms: the kit's contract of slices.pdqsortCmpFunc laid at this program. (The lines of sortTm are those that the kit's laying command writes.) -/
namespace Go.Proofs.YtkbpnppiadaibaaGreatDoor

def sortTm_ren : Go.Shelf.Ren := ⟨fun | 14 => 197 | 20 => 211 | 21 => 212 | 22 => 213 | 23 => 214 | 24 => 215 | 25 => 216 | 26 => 217 | 27 => 218 | 46 => 229 | 47 => 230 | 48 => 231 | 49 => 232 | 50 => 233 | 15 => 198 | 57 => 248 | 28 => 219 | 29 => 220 | n => n, fun | 24 => 190 | 22 => 65 | 3 => 3 | 25 => 235 | 4 => 4 | 0 => 0 | 46 => 268 | 45 => 267 | 50 => 112 | 66 => 283 | 39 => 179 | 55 => 178 | 70 => 287 | 76 => 303 | 77 => 304 | 53 => 180 | 5 => 5 | 9 => 9 | n => n, fun | n => n⟩
theorem sortTm : Go.Proofs.SlLaysF0.n14 Tryz.prog sortTm_ren := {
  mixed := by kernel_rfl,
  f14 := ⟨Tryz.f197.name, by decide, Tryz.func197.trans (congrArg some (by kernel_rfl))⟩,
  f15 := Tryz.func198.trans (congrArg some (by kernel_rfl)),
  f20 := ⟨Tryz.f211.name, by decide, Tryz.func211.trans (congrArg some (by kernel_rfl))⟩,
  f21 := ⟨Tryz.f212.name, by decide, Tryz.func212.trans (congrArg some (by kernel_rfl))⟩,
  f22 := ⟨Tryz.f213.name, by decide, Tryz.func213.trans (congrArg some (by kernel_rfl))⟩,
  f23 := ⟨Tryz.f214.name, by decide, Tryz.func214.trans (congrArg some (by kernel_rfl))⟩,
  f24 := ⟨Tryz.f215.name, by decide, Tryz.func215.trans (congrArg some (by kernel_rfl))⟩,
  f25 := ⟨Tryz.f216.name, by decide, Tryz.func216.trans (congrArg some (by kernel_rfl))⟩,
  f26 := ⟨Tryz.f217.name, by decide, Tryz.func217.trans (congrArg some (by kernel_rfl))⟩,
  f27 := ⟨Tryz.f218.name, by decide, Tryz.func218.trans (congrArg some (by kernel_rfl))⟩,
  f28 := Tryz.func219.trans (congrArg some (by kernel_rfl)),
  f29 := Tryz.func220.trans (congrArg some (by kernel_rfl)),
  f46 := ⟨Tryz.f229.name, by decide, Tryz.func229.trans (congrArg some (by kernel_rfl))⟩,
  f47 := Tryz.func230.trans (congrArg some (by kernel_rfl)),
  f48 := Tryz.func231.trans (congrArg some (by kernel_rfl)),
  f49 := ⟨Tryz.f232.name, by decide, Tryz.func232.trans (congrArg some (by kernel_rfl))⟩,
  f50 := ⟨Tryz.f233.name, by decide, Tryz.func233.trans (congrArg some (by kernel_rfl))⟩,
  f57 := ⟨Tryz.f248.name, by decide, Tryz.func248.trans (congrArg some (by kernel_rfl))⟩,
  t0 := Tryz.underlying0,
  a0 := Tryz.isAgg0,
  z0 := Tryz.sizeOf0,
  v0 := Tryz.zeroValue0,
  t3 := Tryz.underlying3,
  a3 := Tryz.isAgg3,
  z3 := Tryz.sizeOf3,
  v3 := Tryz.zeroValue3,
  t4 := Tryz.underlying4,
  a4 := Tryz.isAgg4,
  z4 := Tryz.sizeOf4,
  v4 := Tryz.zeroValue4,
  t5 := Tryz.underlying5,
  a5 := Tryz.isAgg5,
  z5 := Tryz.sizeOf5,
  v5 := Tryz.zeroValue5,
  t9 := Tryz.underlying9,
  a9 := Tryz.isAgg9,
  z9 := Tryz.sizeOf9,
  v9 := Tryz.zeroValue9,
  t22 := Tryz.underlying65,
  a22 := Tryz.isAgg65,
  z22 := Tryz.sizeOf65,
  v22 := Tryz.zeroValue65,
  t25 := Tryz.underlying235,
  a25 := Tryz.isAgg235,
  z25 := Tryz.sizeOf235,
  v25 := Tryz.zeroValue235,
  t39 := Tryz.underlying179,
  a39 := Tryz.isAgg179,
  z39 := Tryz.sizeOf179,
  v39 := Tryz.zeroValue179,
  t45 := Tryz.underlying267,
  a45 := Tryz.isAgg267,
  z45 := Tryz.sizeOf267,
  v45 := Tryz.zeroValue267,
  t46 := Tryz.underlying268,
  a46 := Tryz.isAgg268,
  z46 := Tryz.sizeOf268,
  v46 := Tryz.zeroValue268,
  t50 := Tryz.underlying112,
  a50 := Tryz.isAgg112,
  z50 := Tryz.sizeOf112,
  v50 := Tryz.zeroValue112,
  t53 := Tryz.underlying180,
  a53 := Tryz.isAgg180,
  z53 := Tryz.sizeOf180,
  v53 := Tryz.zeroValue180,
  t55 := Tryz.underlying178,
  a55 := Tryz.isAgg178,
  z55 := Tryz.sizeOf178,
  v55 := Tryz.zeroValue178,
  t66 := Tryz.underlying283,
  a66 := Tryz.isAgg283,
  z66 := Tryz.sizeOf283,
  v66 := Tryz.zeroValue283,
  t70 := Tryz.underlying287,
  a70 := Tryz.isAgg287,
  z70 := Tryz.sizeOf287,
  v70 := Tryz.zeroValue287,
  t76 := Tryz.underlying303,
  a76 := Tryz.isAgg303,
  z76 := Tryz.sizeOf303,
  v76 := Tryz.zeroValue303,
  t77 := Tryz.underlying304,
  a77 := Tryz.isAgg304,
  z77 := Tryz.sizeOf304,
  v77 := Tryz.zeroValue304 }
end Go.Proofs.YtkbpnppiadaibaaGreatDoor

/- The library's sort at terms: slices.SortFunc with the order of (*gather).poly: descending monomials. -/
namespace Go.Proofs.YtkbpnppiadaibaaGreatDoor
open Go.RowKit Go.Sort Go.Shelf

/-- A term in a row, for the sort: its cells, and what its integer is. -/
structure TmE where
  neg : Bool
  A : Option Addr
  n : Nat
  c : Nat
  z : Int
  mo : Mo
instance : Inhabited TmE := ⟨⟨false, none, 0, 0, 0, Mo.one⟩⟩
end Go.Proofs.YtkbpnppiadaibaaGreatDoor

/- Layer 20: newGather, (*gather).poly. -/
namespace Go.Proofs.YtkbpnppiadaibaaGreatDoor
open Go.RowKit

end Go.Proofs.YtkbpnppiadaibaaGreatDoor

/- Layer 20: sparse.Normal. -/
namespace Go.Proofs.YtkbpnppiadaibaaGreatDoor
open Go.RowKit

end Go.Proofs.YtkbpnppiadaibaaGreatDoor

/- Layer 22: recpoly.build. -/
namespace Go.Proofs.YtkbpnppiadaibaaGreatDoor
open Go.RowKit

end Go.Proofs.YtkbpnppiadaibaaGreatDoor

/- Layer 22: recpoly.collect. -/
namespace Go.Proofs.YtkbpnppiadaibaaGreatDoor
open Go.RowKit

end Go.Proofs.YtkbpnppiadaibaaGreatDoor

/- Layer 22: recpoly.collect: the loop, once for each level; the whole. -/
namespace Go.Proofs.YtkbpnppiadaibaaGreatDoor
open Go.RowKit

end Go.Proofs.YtkbpnppiadaibaaGreatDoor
