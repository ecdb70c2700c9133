/- Facts that several laws of the calendar share. -/
import Derived.Test.YtmjcdnlcdkeoaaaDoorCalWalk7
set_option linter.unusedVariables false
set_option linter.unusedSimpArgs false
namespace Go.Proofs.YtmjcdnlcdkeoaaaDoor.Cal
open Go.RowKit Go

theorem arr_same (a b c d e f : Int) (w : World) : (Op.equalIn 10000 30 (.agg #[.int .i64 a, .int .i64 b, .int .i64 c, .int .i64 d, .int .i64 e, .int .i64 f]) (.agg #[.int .i64 a, .int .i64 b, .int .i64 c, .int .i64 d, .int .i64 e, .int .i64 f])).run Tryd.prog w = .ok true w := by
  obtain ⟨i, hi⟩ := Option.isSome_iff_exists.1 (show (Tryd.prog.info? 3).isSome = true by kernel_rfl)
  have hc : Tryd.prog.cellsOf 3 = 1 := by kernel_rfl
  rw [run_equalIn_array w 9999 _ _ Tryd.underlying30 hi, hc]
  have hr : List.range 6 = [0, 1, 2, 3, 4, 5] := by decide
  rw [hr]
  have h : ∀ a : Int, (Op.equalIn 9999 3 (.int .i64 a) (.int .i64 a)).run Tryd.prog w = .ok true w := fun a => by
    rw [run_equalIn_int w 9998 3 .i64 .i64 a a Tryd.underlying3]; simp
  simp [Op.eqItems, go_sem, h]
theorem ok_of {n y m d : Int} (h0 : 0 ≤ n) (h1 : n < 2147483648) (hd : IsDay (n / 1440) y m d) : Ok y m d (n % 1440 / 60) (n % 60) ∧ mn y m d (n % 1440 / 60) (n % 60) = n ∧ y ≤ 6083 := by
  have hy := Y_le (n / 1440) (by omega) (by omega)
  rw [(ymd_of hd (by omega)).1] at hy
  obtain ⟨a, b, c, e, f, g⟩ := hd
  refine ⟨⟨by omega, by omega, by omega, by omega, by omega, by omega, by omega, by omega, by omega, by omega⟩, ?_, hy⟩
  unfold mn; omega
theorem minutes_is (n y m d h i k : Int) (w : World) (hL : Len w) (h0 : 0 ≤ n) (h1 : n < 2147483648) (hd : IsDay (n / 1440) y m d) (hh : n % 1440 / 60 = h) (hi : n % 60 = i) (hk : (n / 1440 + 6) % 7 = k) :
    Calls Tryd.prog 12 #[.agg #[.int .i64 y, .int .i64 m, .int .i64 d, .int .i64 h, .int .i64 i, .int .i64 k]] w fun e w' => e = .returned (.tuple #[.int .i64 n, .int .i64 0]) ∧ Below w.heap.size w w' := by
  obtain ⟨o, e, _⟩ := ok_of h0 h1 hd
  rw [hh, hi] at o e
  have := minutes_ok y m d h i k w o (by rw [e]; exact h1) (by rw [e]; exact hk) hL
  rw [e] at this
  exact this
theorem refOf_is (n y m d h i k : Int) (w : World) (h0 : 0 ≤ n) (h1 : n < 2147483648) (hd : IsDay (n / 1440) y m d) (hh : n % 1440 / 60 = h) (hi : n % 60 = i) (hk : (n / 1440 + 6) % 7 = k) :
    Calls Tryd.prog 14 #[.int .i64 n] w fun e w' => e = .returned (.agg #[.int .i64 y, .int .i64 m, .int .i64 d, .int .i64 h, .int .i64 i, .int .i64 k]) ∧ Below w.heap.size w w' := by
  obtain ⟨e1, e2, e3⟩ := ymd_of hd (by omega)
  have := refOf_any n w h0 h1
  rw [e1, e2, e3, hh, hi, hk] at this
  exact this
theorem ref_any (y m d h i k : Int) (w : World) :
    Calls Tryd.prog 13 #[.agg #[.int .i64 y, .int .i64 m, .int .i64 d, .int .i64 h, .int .i64 i, .int .i64 k]] w fun e w' => e = .returned (.agg #[.int .i64 y, .int .i64 m, .int .i64 d, .int .i64 h, .int .i64 i, .int .i64 k]) ∧ Below w.heap.size w w' := by
  go_enter Tryd.func13, Tryd.ntmps13
  go_wp2_with fail
  go_returns
  exact ⟨rfl, by go_grown⟩
/-- The cells of a date that was laid in the last block. -/
theorem box6 {w w1 : World} {a b c d e f : Value} {t : TypeId} {B : Nat} (hb : Below B (w.alloc (.cells #[a, b, c, d, e, f] t)) w1) (hB : w.heap.size < B) :
    w1.cell? ⟨w.heap.size, 0, none⟩ = some a ∧ w1.cell? ⟨w.heap.size, 1, none⟩ = some b ∧ w1.cell? ⟨w.heap.size, 2, none⟩ = some c ∧ w1.cell? ⟨w.heap.size, 3, none⟩ = some d ∧ w1.cell? ⟨w.heap.size, 4, none⟩ = some e ∧ w1.cell? ⟨w.heap.size, 5, none⟩ = some f :=
  ⟨box (n := 0) hb hB 0, box (n := 0) hb hB 1, box (n := 0) hb hB 2, box (n := 0) hb hB 3, box (n := 0) hb hB 4, box (n := 0) hb hB 5⟩

/-- What a statement with several calls keeps of the world: a block B of the call's own lies in it. -/
def KeptB (w : World) (B : Nat) (w' : World) : Prop := Env w' ∧ Below w.heap.size w w' ∧ B < w'.heap.size
theorem KeptB.next {w W w1 : World} {B : Nat} (h : KeptB w B W) (hb : Below W.heap.size W w1) : KeptB w B w1 :=
  ⟨h.1.below hb, h.2.1.trans (hb.mono h.2.1.size), Nat.lt_of_lt_of_le h.2.2 hb.size⟩
theorem keep2 {w W w1 : World} {B : Nat} {y m : Int} (hs : W.cell? ⟨B, 0, none⟩ = some (.int .i64 y) ∧ W.cell? ⟨B, 1, none⟩ = some (.int .i64 m) ∧ KeptB w B W) (hb : Below W.heap.size W w1) :
    w1.cell? ⟨B, 0, none⟩ = some (.int .i64 y) ∧ w1.cell? ⟨B, 1, none⟩ = some (.int .i64 m) ∧ KeptB w B w1 := by
  obtain ⟨h0, h1, hk⟩ := hs
  have hlt := hk.2.2
  refine ⟨?_, ?_, hk.next hb⟩ <;> (rw [hb.cell (by exact hlt)]; assumption)
theorem env2 {w W : World} {B : Nat} {A A' : Prop} (hs : A ∧ A' ∧ KeptB w B W) : Env W := hs.2.2.1
end Go.Proofs.YtmjcdnlcdkeoaaaDoor.Cal
