/- The law on kinds: all together. -/
import Derived.Test.YtedpgeilamhipaaDoorKindsWalkA
import Derived.Test.YtedpgeilamhipaaDoorKindsWalkB
import Derived.Test.YtedpgeilamhipaaDoorKindsWalkC
set_option linter.unusedVariables false
namespace Go.Proofs.YtedpgeilamhipaaDoor.Va
open Go.RowKit Go Ba

theorem arith_num (op ka na : Int) (sa : ByteArray) (kb nb : Int) (sb : ByteArray) (h : IsOp op) (ha : In64 na) (hb : In64 nb) (a2 : ka ≠ 2) (b2 : kb ≠ 2) (a0 : ka ≠ 0) (b0 : kb ≠ 0) :
    (∃ r, Numbers op ka na sa kb nb sb r) ∨ (∃ er, er ≠ 0 ∧ Refused op ka na sa kb nb sb er) := by
  have o : 0 ≤ op ∧ op ≤ 255 := by unfold IsOp at h; omega
  have yes : ∀ r, (nb = 0 → op ≠ 47 ∧ op ≠ 37) → Reckons op na nb r true → (∃ r, Numbers op ka na sa kb nb sb r) ∨ (∃ er, er ≠ 0 ∧ Refused op ka na sa kb nb sb er) := fun r hz hr =>
    .inl ⟨r, arith_ok op ka na sa kb nb sb r o.1 o.2 h a2 b2 a0 b0 hz hr⟩
  have no : ∀ r, (nb = 0 → op ≠ 47 ∧ op ≠ 37) → Reckons op na nb r false → (∃ r, Numbers op ka na sa kb nb sb r) ∨ (∃ er, er ≠ 0 ∧ Refused op ka na sa kb nb sb er) := fun r hz hr =>
    .inr ⟨10, by decide, arith_no op ka na sa kb nb sb r o.1 o.2 h a2 b2 a0 b0 hz hr⟩
  by_cases hd : nb = 0 ∧ (op = 47 ∨ op = 37)
  · obtain ⟨rfl, hd⟩ := hd
    exact .inr ⟨11, by decide, arith_div op ka na sa kb sb hd a2 b2 a0 b0⟩
  rcases h with rfl | rfl | rfl | rfl | rfl
  · by_cases hi : In64 (na + nb)
    · exact yes _ (fun _ => by decide) (add_ok ha hb hi)
    · exact no _ (fun _ => by decide) (add_no ha hb hi)
  · by_cases hi : In64 (na - nb)
    · exact yes _ (fun _ => by decide) (sub_ok ha hb hi)
    · exact no _ (fun _ => by decide) (sub_no ha hb hi)
  · by_cases hz : na = 0 ∨ nb = 0
    · exact yes _ (fun _ => by decide) (mul_of (mult_zero hz))
    by_cases n1 : na = -1 ∧ nb = -9223372036854775808
    · obtain ⟨rfl, rfl⟩ := n1
      exact no _ (fun _ => by decide) (mul_of mult_left)
    by_cases n2 : nb = -1 ∧ na = -9223372036854775808
    · obtain ⟨rfl, rfl⟩ := n2
      exact no _ (fun _ => by decide) (mul_of mult_right)
    by_cases hi : In64 (na * nb)
    · exact yes _ (fun _ => by decide) (mul_of (mult_any ha hb (fun h => hz (.inl h)) (fun h => hz (.inr h)) n1 n2 true (by simp [hi])))
    · exact no _ (fun _ => by decide) (mul_of (mult_any ha hb (fun h => hz (.inl h)) (fun h => hz (.inr h)) n1 n2 false (by simp [hi])))
  · have hz : nb ≠ 0 := fun h => hd ⟨h, .inl rfl⟩
    by_cases hm : na = -9223372036854775808 ∧ nb = -1
    · obtain ⟨rfl, rfl⟩ := hm
      exact no _ (fun h => absurd h hz) quo_no
    · exact yes _ (fun h => absurd h hz) (quo_ok ha hb hz hm)
  · have hz : nb ≠ 0 := fun h => hd ⟨h, .inr rfl⟩
    by_cases hm : nb = -1
    · subst hm
      exact yes _ (fun h => absurd h hz) (rem_one na)
    · exact yes _ (fun h => absurd h hz) (rem_ok hz hm)

theorem kinds_law (op ka na : Int) (sa : ByteArray) (kb nb : Int) (sb : ByteArray) (w : World) (o0 : 0 ≤ op) (o1 : op ≤ 255) (ha : sa.size ≤ 9223372036854775807) (hb : sb.size ≤ 9223372036854775807) (ia : In64 na) (ib : In64 nb) (hE : Env w) :
    Calls Tryd.prog 7 #[.int .u8 op, .agg #[.int .i64 ka, .int .i64 na, .string sa], .agg #[.int .i64 kb, .int .i64 nb, .string sb]] w fun e w' => e = .returned (.bool true) ∧ Below w.heap.size w w' := by
  cases ra : rightB ka na sa
  · exact kinds_a op ka na sa kb nb sb w o0 o1 ha hb hE ra
  cases rb : rightB kb nb sb
  · exact kinds_b op ka na sa kb nb sb w o0 o1 ha hb hE ra rb
  by_cases h : IsOp op
  · have hT : (ka = 2 ∨ kb = 2) → Refused op ka na sa kb nb sb 12 := arith_type op ka na sa kb nb sb o0 o1 h
    have hN : ka ≠ 2 → kb ≠ 2 → (ka = 0 ∨ kb = 0) → Refused op ka na sa kb nb sb 0 := fun a2 b2 => arith_null op ka na sa kb nb sb o0 o1 h a2 b2
    have hA := fun a2 b2 a0 b0 => arith_num op ka na sa kb nb sb h ia ib a2 b2 a0 b0
    have t : ∀ {x c : Int}, x = c → (x == c) = true := fun h => by simpa using h
    have f : ∀ {x c : Int}, x ≠ c → (x == c) = false := fun h => by simpa using h
    by_cases a2 : ka = 2
    · have := hT (.inl a2)
      rcases h with rfl | rfl | rfl | rfl | rfl
      · exact kinds_t1_43 ka na sa kb nb sb w ha hb hE ra rb this (t a2)
      · exact kinds_t1_45 ka na sa kb nb sb w ha hb hE ra rb this (t a2)
      · exact kinds_t1_42 ka na sa kb nb sb w ha hb hE ra rb this (t a2)
      · exact kinds_t1_47 ka na sa kb nb sb w ha hb hE ra rb this (t a2)
      · exact kinds_t1_37 ka na sa kb nb sb w ha hb hE ra rb this (t a2)
    by_cases b2 : kb = 2
    · have := hT (.inr b2)
      rcases h with rfl | rfl | rfl | rfl | rfl
      · exact kinds_t2_43 ka na sa kb nb sb w ha hb hE ra rb this (f a2) (t b2)
      · exact kinds_t2_45 ka na sa kb nb sb w ha hb hE ra rb this (f a2) (t b2)
      · exact kinds_t2_42 ka na sa kb nb sb w ha hb hE ra rb this (f a2) (t b2)
      · exact kinds_t2_47 ka na sa kb nb sb w ha hb hE ra rb this (f a2) (t b2)
      · exact kinds_t2_37 ka na sa kb nb sb w ha hb hE ra rb this (f a2) (t b2)
    by_cases a0 : ka = 0
    · have := hN a2 b2 (.inl a0)
      rcases h with rfl | rfl | rfl | rfl | rfl
      · exact kinds_n1_43 ka na sa kb nb sb w ha hb hE ra rb this (f a2) (f b2) (t a0)
      · exact kinds_n1_45 ka na sa kb nb sb w ha hb hE ra rb this (f a2) (f b2) (t a0)
      · exact kinds_n1_42 ka na sa kb nb sb w ha hb hE ra rb this (f a2) (f b2) (t a0)
      · exact kinds_n1_47 ka na sa kb nb sb w ha hb hE ra rb this (f a2) (f b2) (t a0)
      · exact kinds_n1_37 ka na sa kb nb sb w ha hb hE ra rb this (f a2) (f b2) (t a0)
    by_cases b0 : kb = 0
    · have := hN a2 b2 (.inr b0)
      rcases h with rfl | rfl | rfl | rfl | rfl
      · exact kinds_n2_43 ka na sa kb nb sb w ha hb hE ra rb this (f a2) (f b2) (f a0) (t b0)
      · exact kinds_n2_45 ka na sa kb nb sb w ha hb hE ra rb this (f a2) (f b2) (f a0) (t b0)
      · exact kinds_n2_42 ka na sa kb nb sb w ha hb hE ra rb this (f a2) (f b2) (f a0) (t b0)
      · exact kinds_n2_47 ka na sa kb nb sb w ha hb hE ra rb this (f a2) (f b2) (f a0) (t b0)
      · exact kinds_n2_37 ka na sa kb nb sb w ha hb hE ra rb this (f a2) (f b2) (f a0) (t b0)
    rcases hA a2 b2 a0 b0 with ⟨r, this⟩ | ⟨er, he, this⟩
    · rcases h with rfl | rfl | rfl | rfl | rfl
      · exact kinds_ok_43 ka na sa kb nb sb w ha hb hE ra rb r this (f a2) (f b2) (f a0) (f b0)
      · exact kinds_ok_45 ka na sa kb nb sb w ha hb hE ra rb r this (f a2) (f b2) (f a0) (f b0)
      · exact kinds_ok_42 ka na sa kb nb sb w ha hb hE ra rb r this (f a2) (f b2) (f a0) (f b0)
      · exact kinds_ok_47 ka na sa kb nb sb w ha hb hE ra rb r this (f a2) (f b2) (f a0) (f b0)
      · exact kinds_ok_37 ka na sa kb nb sb w ha hb hE ra rb r this (f a2) (f b2) (f a0) (f b0)
    · have he2 : (er != 0) = true := by simpa using he
      rcases h with rfl | rfl | rfl | rfl | rfl
      · exact kinds_no_43 ka na sa kb nb sb w ha hb hE ra rb er this (f he) he2 (f a2) (f b2) (f a0) (f b0)
      · exact kinds_no_45 ka na sa kb nb sb w ha hb hE ra rb er this (f he) he2 (f a2) (f b2) (f a0) (f b0)
      · exact kinds_no_42 ka na sa kb nb sb w ha hb hE ra rb er this (f he) he2 (f a2) (f b2) (f a0) (f b0)
      · exact kinds_no_47 ka na sa kb nb sb w ha hb hE ra rb er this (f he) he2 (f a2) (f b2) (f a0) (f b0)
      · exact kinds_no_37 ka na sa kb nb sb w ha hb hE ra rb er this (f he) he2 (f a2) (f b2) (f a0) (f b0)
  · have := arith_form op ka na sa kb nb sb o0 o1 h
    unfold IsOp at h
    have f : ∀ {c : Int}, op ≠ c → (op != c) = true := fun h => by simpa using h
    exact kinds_form op ka na sa kb nb sb w o0 o1 ha hb hE ra rb this (f (by omega)) (f (by omega)) (f (by omega)) (f (by omega)) (f (by omega))
end Go.Proofs.YtedpgeilamhipaaDoor.Va
