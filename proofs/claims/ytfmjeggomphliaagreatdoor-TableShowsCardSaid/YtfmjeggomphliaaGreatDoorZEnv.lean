/- From the listed variables to what the walks of tables' texts lean on. -/
import Derived.Test.YtfmjeggomphliaaGreatDoorTabFrame
import Derived.Test.YtfmjeggomphliaaGreatDoorSchParse
import Derived.Test.YtfmjeggomphliaaGreatDoorErrsEnv
import Derived.Lib.LaidTab
set_option linter.unusedVariables false
namespace Go.Proofs.YtfmjeggomphliaaGreatDoor.Rf
open Go.ChangeShapes Go.WideShapes Go.RowKit Go Ba Tb Va

/-- A table of texts. -/
def strData (zs : List ByteArray) : DataW Unit := .agg (zs.map fun z => .lit (.string z.data.toList))
theorem strs_of_tab {P : Program} {w : World} {base : Nat} {sp : Nat → Bool} {held : Bool} {enc : TypeId × Value → Unit} {fuel : Nat} {t e : TypeId} {n : Nat} {cs : List Value} {zs : List ByteArray} {p : List MemPlace}
    (ht : P.underlying t = some (.array n e)) (he : P.underlying e = some .string) (hce : P.cellsOf e = 1) (hct : P.cellsOf t = n)
    (h : DataW.trod enc P w base sp held fuel t cs = some (strData zs, p)) : ∀ i, i < zs.length → cs[i]? = some (.string (zs.getD i ByteArray.empty)) := by
  obtain ⟨xs, m, rfl, hx, hl, hn, hi⟩ := DataW.trod_array ht h
  have hxs : xs.map (·.1) = zs.map fun z => (DataW.lit (.string z.data.toList) : DataW Unit) := by
    have := congrArg Prod.fst hx
    simpa [strData] using this.symm
  have hzl : zs.length = xs.length := by
    have := congrArg List.length hxs
    simpa using this.symm
  intro i hiz
  have h1 := hi i (by omega)
  rw [hce, Nat.mul_one] at h1
  have hget : xs[i]? = some xs[i] := List.getElem?_eq_getElem (by omega)
  rw [hget] at h1
  obtain ⟨s, hc, hd, _⟩ := DataW.trod_string he h1
  have h2 : cs[i]? = some (.string s) := by
    have := congrArg (·[0]?) hc
    simpa [List.getElem?_take, List.getElem?_drop] using this
  have h3 : (xs.map (·.1))[i]? = some xs[i].1 := by simp [hget]
  rw [hxs] at h3
  simp only [List.getElem?_map, List.getElem?_eq_getElem hiz, Option.map_some, Option.some.injEq] at h3
  rw [hd] at h3
  simp only [DataW.lit.injEq, Lit.string.injEq] at h3
  have h4 : zs[i] = s := Go.WideShapes.bytes_inj h3
  rw [h2, List.getD_eq_getElem?_getD, List.getElem?_eq_getElem hiz, h4]; rfl
theorem strs_of_head {P : Program} {W : World} {name : String} {zs : List ByteArray} {rest : List (String × DataW Unit)} {g : Nat} {t e : TypeId} {n : Nat}
    (hg : P.globalNamed name = some g) (hty : (P.globals[g]?).map (·.type) = some t) (ht : P.underlying t = some (.array n e)) (he : P.underlying e = some .string) (hce : P.cellsOf e = 1) (hct : P.cellsOf t = n)
    (h : laidMet P ((name, strData zs) :: rest) W) : ∀ i, i < zs.length → W.cell? ⟨g, i, none⟩ = some (.string (zs.getD i ByteArray.empty)) := by
  obtain ⟨ps, ⟨g', t', cs, fuel, p, q, hg', ht', hvar, hd, _, _⟩, _⟩ := h
  obtain rfl := Option.some.inj (hg.symm.trans hg')
  obtain rfl := Option.some.inj (hty.symm.trans ht')
  intro i hi
  have h1 := World.var?_cell hg hvar i
  have h2 := strs_of_tab ht he hce hct hd i hi
  rw [h1, ← Array.getElem?_toList]; exact h2
theorem EnvZ.of {W : World} (h : laidMet Tryz.prog Rows.tableParsesRow.laid W) (hs : W.ShapedOpen Tryz.prog) : EnvZ W := by
  have hw := strs_of_head (zs := [⟨#[]⟩, wordB 1, wordB 2]) (t := 98) (e := 9) (n := 3) (g := 0) (by kernel_rfl) (by kernel_rfl) Tryz.underlying98 Tryz.underlying9 (by kernel_rfl) (by kernel_rfl) h.tail.tail.tail.tail.tail.tail
  refine ⟨⟨?_, hw 1 (by decide), hw 2 (by decide)⟩, hw 0 (by decide), ?_, ?_⟩
  · exact Lib.tabIs_of_head (t := 170) (e := 40) (n := 20) (k := .u64) (zs := Lib.pow10Tab) (g := 6) (by kernel_rfl) (by kernel_rfl) Tryz.underlying170 Tryz.underlying40 (by kernel_rfl) (by kernel_rfl) h.tail.tail
  · exact Go.Proofs.cell_of_shapedOpen_int (zero := #[.int .i64 0]) (t := 3) hs (of_decide_eq_true (by kernel_rfl)) (by kernel_rfl) rfl (by kernel_rfl) (by kernel_rfl) Tryz.underlying3
  · exact Errs.of h.tail.tail.tail.tail
theorem laidP {W : World} (h : laidMetH Tryz.prog Rows.tableParsesRow.laid W) : laidMet Tryz.prog Rows.tableParsesRow.laid W := by
  rw [MakeChecks.laidMetH_plain _ _ _ (by kernel_rfl)] at h
  exact h
theorem laidS {W : World} (h : laidMetH Tryz.prog Rows.tableShowsRow.laid W) : laidMet Tryz.prog Rows.tableParsesRow.laid W := by
  rw [MakeChecks.laidMetH_plain _ _ _ (by kernel_rfl)] at h
  exact h
end Go.Proofs.YtfmjeggomphliaaGreatDoor.Rf
