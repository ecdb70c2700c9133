/- strconv.Atoi of a text that is no number: some number, and an error. -/
import Derived.Test.YtfmjeggomphliaaGreatDoorShelf
import Derived.Test.YtfmjeggomphliaaGreatDoorBase
import Derived.Shelf.Strconv.ErrVarAll
set_option linter.unusedVariables false
namespace Go.Proofs.YtfmjeggomphliaaGreatDoor.Ba
open Go.RowKit Go

/-- The library's two errors are laid. -/
def Errs (w : World) : Prop := (∃ tp p, w.var? Tryz.prog "strconv.ErrSyntax" = some #[.iface tp p]) ∧ (∃ tp p, w.var? Tryz.prog "strconv.ErrRange" = some #[.iface tp p])
theorem Errs.below {w w' : World} (h : Errs w) (hb : Below w.heap.size w w') : Errs w' := by
  obtain ⟨⟨tp, p, h1⟩, ⟨tq, q, h2⟩⟩ := h
  have g1 : Tryz.prog.globalNamed "strconv.ErrSyntax" = some 2 := by kernel_rfl
  have g2 : Tryz.prog.globalNamed "strconv.ErrRange" = some 3 := by kernel_rfl
  have l1 : w.cell? ⟨2, 0, none⟩ = some (.iface tp p) := World.var?_cell g1 h1 0
  have l2 : w.cell? ⟨3, 0, none⟩ = some (.iface tq q) := World.var?_cell g2 h2 0
  exact ⟨⟨tp, p, var?_below hb g1 (lt_of_cell l1) h1⟩, ⟨tq, q, var?_below hb g2 (lt_of_cell l2) h2⟩⟩
/-- What a text that is no number gives: some number, and an error. -/
def NoNum (w : World) (e : Ending) (w' : World) : Prop := ∃ (n : Int) (N : Nat), e = .returned (.tuple #[.int .i64 n, .iface 140 (.pointer (some ⟨N, 0, none⟩))]) ∧ Below w.heap.size w w'
theorem atoi_no (s : ByteArray) (hlim : s.size ≤ 281474976710656) (h : ∀ v, Lib.atoiAll s.data.toList ≠ .ok v) (w : World) (hE : Errs w) : Calls Tryz.prog 58 #[.string s] w (NoNum w) := by
  obtain ⟨⟨tp, p, h1⟩, ⟨tq, q, h2⟩⟩ := hE
  by_cases hr : Lib.atoiAll s.data.toList = .range
  · have c : Calls Tryz.prog 58 #[.string s] w fun e w' => ∃ N, e = .returned (.tuple #[.int .i64 (Lib.atoiSat s.data.toList), .iface 140 (.pointer (some ⟨N, 0, none⟩))]) ∧ w.heap.size ≤ N ∧ w'.heap[N]? = some (.cells #[.string ⟨#[65, 116, 111, 105]⟩, .string s, .iface tq q] 152 (0, 0)) ∧ Below w.heap.size w w' := Any.strconv_Atoi_range_var Tryz.laysC172 s hlim hr tq q w h2
    exact c.mono fun e w' ⟨N, he, _, _, hb⟩ => ⟨_, N, he, hb⟩
  · have hs := Any.strconv_Atoi_syntax_var Tryz.laysC172 s hlim (by revert h hr; cases Lib.atoiAll s.data.toList <;> simp) tp p w h1
    have c : Calls Tryz.prog 58 #[.string s] w fun e w' => ∃ N, e = .returned (.tuple #[.int .i64 0, .iface 140 (.pointer (some ⟨N, 0, none⟩))]) ∧ w.heap.size ≤ N ∧ w'.heap[N]? = some (.cells #[.string ⟨#[65, 116, 111, 105]⟩, .string s, .iface tp p] 152 (0, 0)) ∧ Below w.heap.size w w' := hs
    exact c.mono fun e w' ⟨N, he, _, _, hb⟩ => ⟨_, N, he, hb⟩
theorem atoi_yes (s : ByteArray) (hmax : s.size ≤ 9223372036854775806) (v : Int) (h : Lib.atoiAll s.data.toList = .ok v) (w : World) :
    Calls Tryz.prog 58 #[.string s] w fun e w' => e = .returned (.tuple #[.int .i64 v, .nilIface]) ∧ Below w.heap.size w w' :=
  (Tryz.strconv_Atoi_ok s hmax v h w).mono fun e w' ⟨he, hw⟩ => ⟨he, by
    rcases hw with rfl | ⟨t, rfl⟩
    · exact Below.refl _ _
    · exact Lib.bytesWorld_below w _ t⟩
theorem itoa_is (n : Int) (h0 : -9223372036854775808 ≤ n) (h1 : n ≤ 9223372036854775807) (w : World) (hE : Lib.TabIs Tryz.prog w "internal/strconv.uint64pow10" .u64 Lib.pow10Tab) :
    Calls Tryz.prog 87 #[.int .i64 n] w fun e w' => e = .returned (.string ⟨(Lib.itoa n).toArray⟩) ∧ Below w.heap.size w w' :=
  (Tryz.strconv_Itoa n h0 h1 w hE).mono fun e w' ⟨he, hw⟩ => ⟨he, below_itoa hw⟩
end Go.Proofs.YtfmjeggomphliaaGreatDoor.Ba
