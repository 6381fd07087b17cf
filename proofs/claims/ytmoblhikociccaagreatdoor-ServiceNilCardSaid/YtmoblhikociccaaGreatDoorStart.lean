import Derived.Test.YtmoblhikociccaaGreatDoorAeC
import Derived.Test.YtmoblhikociccaaGreatDoorRows
import Derived.OpenShut
import Derived.ProofKit
import Derived.LaidMore
import Derived.Stop.Joined
namespace Go.Proofs.YtmoblhikociccaaGreatDoor
open Go Go.Ae Go.ChangeShapes Go.WideShapes Go.ChangeAt Go.RowKit

theorem own : ownKnob Tryz.prog.godebug = none := by kernel_rfl
theorem gTab : Tryz.prog.globalNamed "math/bits.deBruijn64tab" = some 1 := by kernel_rfl
theorem tTab : (Tryz.prog.globals[1]?).map (·.type) = some 387 := by kernel_rfl
theorem gErr : Tryz.prog.globalNamed "errors.errorType" = some 0 := by kernel_rfl
theorem rtT : (Tryz.prog.cutTypes.find? (·.1 == "internal/reflectlite.rtype")).map (·.2) = some 316 := by kernel_rfl
theorem oneRow : ((List.range 666).filter fun t => Tryz.prog.rowNamed t [101, 114, 114, 111, 114]) = [70] := by kernel_rfl
theorem sizeT : Tryz.prog.types.size = 666 := by kernel_rfl
theorem nGlob : Tryz.prog.globals.size = 7 := by kernel_rfl
theorem begun : decide (7 < (begin Tryz.prog (fun _ _ => 0) default).world.heap.size) = true := by kernel_rfl
theorem u387 : Tryz.prog.underlying 387 = some (.array 64 5) := by kernel_rfl
theorem u5 : Tryz.prog.underlying 5 = some (.int .u8) := by kernel_rfl
theorem c5 : Tryz.prog.cellsOf 5 = 1 := by kernel_rfl
theorem c387 : Tryz.prog.cellsOf 387 = 64 := by kernel_rfl

def tab64 : List Nat := [0, 1, 56, 2, 57, 49, 28, 3, 61, 58, 42, 50, 38, 29, 17, 4, 62, 47, 59, 36, 45, 43, 51, 22, 53, 39, 33, 30, 24, 18, 12, 5, 63, 55, 48, 27, 60, 41, 37, 16, 46, 35, 44, 21, 52, 32, 23, 11, 54, 26, 40, 15, 34, 20, 31, 10, 25, 14, 19, 9, 13, 8, 7, 6]
def laidNil : List (String × DataW Unit) := [("unicode/utf8.first", Rows.laid_unicode_utf8_first), ("unicode/utf8.acceptRanges", Rows.laid_unicode_utf8_acceptRanges), ("math/bits.deBruijn64tab", Rows.laid_math_bits_deBruijn64tab), ("errors.errorType", Rows.laid_errors_errorType)]

theorem size_of_shape {W : World} (h : W.ShapedOpen Tryz.prog) : 7 < W.heap.size := by
  obtain ⟨o, o0, h1, _⟩ := h.2 7 (by rw [nGlob]; exact Nat.le_refl 7) (of_decide_eq_true begun)
  exact (Array.getElem?_eq_some_iff.1 h1).1

theorem var_heap {P : Program} {w : World} {n : String} {g : Nat} {cs : Array Value} (hg : P.globalNamed n = some g) (h : w.var? P n = some cs) : ∃ t f, w.heap[g]? = some (.cells cs t f) := by
  simp only [World.var?, hg, Option.bind_some] at h
  split at h
  · rename_i c t f hh
    simp only [Option.some.injEq] at h
    subst h
    exact ⟨t, f, hh⟩
  · cases h

/-- a row of numbers, laid -/
theorem row_laid {W : World} {n e m : Nat} {k : IntKind} {cs : List Value} {fuel : Nat} {p : List MemPlace} {l : List Nat} (ht : Tryz.prog.underlying n = some (.array m e)) (hu : Tryz.prog.underlying e = some (.int k)) (hc : Tryz.prog.cellsOf e = 1)
    (hcs : Tryz.prog.cellsOf n = m) (h : DataW.trod (fun _ => ()) Tryz.prog W 0 (fun _ => true) false fuel n cs = some (.agg (l.map fun x => .lit (.int k (Int.ofNat x))), p)) : cs = l.map fun x => Value.int k (Int.ofNat x) := by
  obtain ⟨xs, m', _, hx, hlen, hn, hel⟩ := DataW.trod_array ht h
  simp only [Prod.mk.injEq, DataW.agg.injEq] at hx
  have hll : l.length = m := by have := congrArg List.length hx.1; simpa [hn] using this
  apply List.ext_getElem?
  intro i
  by_cases hi : i < m
  · have h0 := hel i hi
    rw [hc, Nat.mul_one] at h0
    have hxs : xs[i]? = some (xs[i]'(by omega)) := List.getElem?_eq_getElem (by omega)
    rw [hxs] at h0
    obtain ⟨v, e1, e2, _⟩ := DataW.trod_int hu h0
    have e3 : cs[i]? = some (.int k v) := by
      have := congrArg (·[0]?) e1
      simpa [List.getElem?_take, List.getElem?_drop] using this
    have e4 : (l.map fun x => (DataW.lit (.int k (Int.ofNat x)) : DataW Unit))[i]? = (xs.map (·.1))[i]? := by rw [hx.1]
    rw [List.getElem?_map, List.getElem?_map, hxs, e2] at e4
    have hl : l[i]? = some (l[i]'(by omega)) := List.getElem?_eq_getElem (by omega)
    rw [hl] at e4
    simp only [Option.map_some, Option.some.injEq, DataW.lit.injEq, Lit.int.injEq, true_and] at e4
    rw [e3, List.getElem?_map, hl, ← e4]
    rfl
  · rw [List.getElem?_eq_none (by omega), List.getElem?_eq_none (by simp; omega)]

/-- what the condition gives -/
theorem of_laid {W : World} (h : laidMetH Tryz.prog laidNil W) : (∃ t f, W.heap[1]? = some (.cells (tab64.map fun x => Value.int .u8 (Int.ofNat x)).toArray t f)) ∧ ∃ c t f, W.heap[0]? = some (.cells c t f) ∧ c[0]? = some (.iface 316 (.agg #[.pointer (some ⟨7, 70, none⟩)])) := by
  have h' : laidMet Tryz.prog [("unicode/utf8.first", Rows.laid_unicode_utf8_first), ("unicode/utf8.acceptRanges", Rows.laid_unicode_utf8_acceptRanges), ("math/bits.deBruijn64tab", Rows.laid_math_bits_deBruijn64tab)] W ∧ handlesMet Tryz.prog [("errors.errorType", Rows.laid_errors_errorType)] W := h
  constructor
  · obtain ⟨ps, ⟨_, _, _, _, _, _, _, _, _, _, ⟨_, _, _, _, _, _, _, _, _, _, ⟨g2, t2, cs2, f2, p2, q2, hg2, ht2, hv2, hd2, _, _⟩, _⟩, _⟩, _, _⟩ := h'.1
    obtain rfl := Option.some.inj (gTab.symm.trans hg2)
    obtain rfl := Option.some.inj (tTab.symm.trans ht2)
    have := row_laid (l := tab64) u387 u5 c5 c387 hd2
    obtain ⟨t, f, hh⟩ := var_heap gTab hv2
    refine ⟨t, f, ?_⟩
    rw [hh, ← this]
  · obtain ⟨name, u, ty, e1, e2, e3, e4, e5⟩ := h'.2 _ (List.mem_singleton.2 rfl)
    have en : name = [101, 114, 114, 111, 114] := (Option.some.inj e1).symm
    subst en
    obtain rfl := Option.some.inj (rtT.symm.trans e2)
    have hm : ty ∈ (List.range 666).filter fun t => Tryz.prog.rowNamed t [101, 114, 114, 111, 114] := List.mem_filter.2 ⟨List.mem_range.2 (by rw [← sizeT]; exact e3), e4⟩
    rw [oneRow] at hm
    obtain rfl := List.mem_singleton.1 hm
    have hh : typeHandle Tryz.prog 70 = .pointer (some ⟨7, 70, none⟩) := by kernel_rfl
    rw [hh] at e5
    obtain ⟨t, f, e6⟩ := var_heap gErr e5
    exact ⟨_, t, f, e6, rfl⟩
end Go.Proofs.YtmoblhikociccaaGreatDoor
