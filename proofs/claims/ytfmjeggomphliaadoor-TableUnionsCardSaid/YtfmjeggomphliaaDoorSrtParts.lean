/- What a merge in place hands on: the parts behind the exchange; what is put together at the end. -/
import Derived.Test.YtfmjeggomphliaaDoorSrtWalk2
set_option linter.unusedVariables false
namespace Go.Proofs.YtfmjeggomphliaaDoor.Sr
open Go.RowKit Go Go.Sort Ba Tb

/-- The parts behind the exchange. -/
structure Parts (cf : Value → Value → Int) (ys : List Value) (a s mid e b : Nat) : Prop where
  p1 : St.Up undef (ltf cf) ys a s
  p2 : St.Up undef (ltf cf) ys s mid
  p3 : St.Up undef (ltf cf) ys mid e
  p4 : St.Up undef (ltf cf) ys e b
  cr : ∀ p q, a ≤ p → p < mid → mid ≤ q → q < b → St.le (ltf cf) (St.gt undef ys p) (St.gt undef ys q)
variable {cf : Value → Value → Int} {ys : List Value} {a s mid e b : Nat}
theorem up_left0 (h : Parts cf ys a s mid e b) (hs : s ≤ a) : St.Up undef (ltf cf) ys a mid := fun i j g1 g2 g3 => h.p2 i j (by omega) g2 g3
theorem up_left1 (h : Parts cf ys a s mid e b) (hs : mid ≤ s) : St.Up undef (ltf cf) ys a mid := fun i j g1 g2 g3 => h.p1 i j g1 g2 (by omega)
theorem up_right0 (h : Parts cf ys a s mid e b) (hs : e ≤ mid) : St.Up undef (ltf cf) ys mid b := fun i j g1 g2 g3 => h.p4 i j (by omega) g2 g3
theorem up_right1 (h : Parts cf ys a s mid e b) (hs : b ≤ e) : St.Up undef (ltf cf) ys mid b := fun i j g1 g2 g3 => h.p3 i j g1 g2 (by omega)
theorem merge_end {x1 x2 x3 : List Value} (hl : b ≤ x1.length) (h1 : a ≤ mid) (h2 : mid ≤ b) (cr : ∀ p q, a ≤ p → p < mid → mid ≤ q → q < b → St.le (ltf cf) (St.gt undef x1 p) (St.gt undef x1 q))
    (p2 : St.Put undef x1 x2 a mid) (u2 : St.Up undef (ltf cf) x2 a mid) (p3 : St.Put undef x2 x3 mid b) (u3 : St.Up undef (ltf cf) x3 mid b) : St.Up undef (ltf cf) x3 a b :=
  St.Up.join undef (ltf cf) (St.Up.congr undef (ltf cf) u2 (fun k g1 g2 => p3.out k (.inl g2))) u3 (St.cross_put undef (ltf cf) hl h1 h2 p2 p3 cr)
theorem rot_put {hs hs1 : List Value} {m : Nat} (T : Turned hs hs1 (St.Rot s m e (St.gt undef hs))) (h1 : a ≤ s ∧ s ≤ m ∧ m ≤ e) (h2 : e ≤ b) : St.Put undef hs hs1 a b :=
  ⟨T.perm, fun k hk => by rw [T.at']; unfold St.Rot; rw [if_neg (by omega), if_neg (by omega)]⟩
/-- Halves of fewer than so many are merged. -/
def MergeOk (w0 : World) (g : Nat) (S : Value → Prop) (cf : Value → Value → Int) (sz n cap : Nat) : Prop :=
  ∀ (hs : List Value) (a m b : Nat) (w : World), hs.length = n → SW w0 g hs w → All S hs → a < m → m < b → b ≤ n → b - a < sz → St.Up undef (ltf cf) hs a m → St.Up undef (ltf cf) hs m b →
    Calls Tryd.prog 81 #[.slice (some ⟨g, 0, none⟩) n cap, .int .i64 a, .int .i64 m, .int .i64 b, .func (.func 39) #[] #[]] w (Sorts w0 g cf hs a b)
end Go.Proofs.YtfmjeggomphliaaDoor.Sr
