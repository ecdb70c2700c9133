/- The expression that a list of nodes tells: what is built, how great it is. No program in sight. -/
import Derived.Test.YtonkjhmkppeagaaGreatDoorMTxB
import Derived.Test.YtonkjhmkppeagaaGreatDoorMPsA
set_option linter.unusedVariables false
set_option linter.unusedSimpArgs false
namespace Go.Proofs.YtonkjhmkppeagaaGreatDoor.Pz
open Go Go.RowKit Lx

/-- A node, and how many of those behind it are its own. -/
structure Pn where
  k : Int
  nm : Str
  v : Vl
  op : Str
  n : Int
def pnD (p : Pn) : List Dat := [dI p.k, dS p.nm, dI p.v.k, dI p.v.n, dS p.v.t, dS p.op, dI p.n]
theorem pnD_len (p : Pn) : (pnD p).length = 7 := rfl
def loopB (f : List Pn → Ex × Nat) : Nat → Int → Int → List Pn → List Ex → Nat → List Ex × Nat
  | 0, _, _, _, acc, m => (acc, m)
  | fu + 1, k, n, r, acc, m => if k < n ∧ 0 < r.length then loopB f fu (k + 1) n (r.drop (f r).2) (acc ++ [(f r).1]) (m + (f r).2) else (acc, m)
/-- What is built, so deep, and how many nodes it takes. -/
def buildM : Nat → List Pn → Ex × Nat
  | _, [] => (zEx, 1)
  | 0, p :: _ => (.mk p.k p.nm p.v p.op [], 1)
  | n + 1, p :: r => (.mk p.k p.nm p.v p.op (loopB (buildM n) (r.length + 1) 0 p.n r [] 1).1, (loopB (buildM n) (r.length + 1) 0 p.n r [] 1).2)
def NdOk (p : Pn) : Prop := p.nm.length ≤ 50 ∧ p.op.length ≤ 50 ∧ p.v.t.length ≤ 100 ∧ -9223372036854775808 ≤ p.v.n ∧ p.v.n ≤ 9223372036854775807
theorem showV_len (v : Vl) (h : -9223372036854775808 ≤ v.n ∧ v.n ≤ 9223372036854775807) : (showV v).length ≤ 200 := by
  unfold showV Va.showL
  split
  · rename_i hr
    obtain ⟨_, h64⟩ := Va.right_text hr
    split
    · decide
    split
    · have := Lib.itoa_length_le v.n h.1 h.2; omega
    · unfold Va.quotedL
      have := Va.esc_len v.t
      have h65 : v.t.length ≤ 64 := by have : (⟨v.t.toArray⟩ : ByteArray).size = v.t.length := by show v.t.toArray.size = _; simp
                                       omega
      simp only [List.length_append, List.length_cons, List.length_nil]
      omega
  · decide
def sumT : List Ex → Nat
  | [] => 0
  | a :: r => (textE a).length + 2 + sumT r
theorem sumT_app (a b : List Ex) : sumT (a ++ b) = sumT a + sumT b := by
  induction a with
  | nil => simp [sumT]
  | cons x r ih => show _ + 2 + sumT (r ++ b) = _; rw [ih]; simp only [sumT]; omega
theorem rwi_len (k : Nat) (p : Ex × Str) : (wiT k p).length ≤ p.2.length + 2 := by
  unfold wiT
  split
  · simp
  · omega
theorem rmi_len (p : Ex × Str) : (miT p).length ≤ p.2.length + 2 := by
  unfold miT
  split
  · simp
  · exact rwi_len _ _
theorem rjoin_len : ∀ xs : List Ex, (joinS [44, 32] (xs.map textE)).length ≤ sumT xs
  | [] => Nat.zero_le _
  | [a] => by show (textE a).length ≤ (textE a).length + 2 + 0; omega
  | a :: b :: r => by
    have := rjoin_len (b :: r)
    simp only [List.map, joinS, List.length_append, List.length_cons, List.length_nil, sumT] at this ⊢
    omega
theorem textE_len (p : Pn) (h : NdOk p) (xs : List Ex) : (textE (.mk p.k p.nm p.v p.op xs)).length ≤ 210 + sumT xs := by
  obtain ⟨h1, h2, h3, h4⟩ := h
  rw [show textE (.mk p.k p.nm p.v p.op xs) = textF p.k p.nm p.v p.op (xs.map fun a => (a, textE a)) from foldE_mk _ _ _ _ _ _]
  unfold textF
  split
  · omega
  split
  · have := showV_len p.v h4; omega
  split
  · match xs with
    | [] => simp
    | [a] =>
      simp only [List.map, sumT]
      split
      · have := rwi_len 3 (a, textE a)
        simp only [List.length_append, List.length_cons] at this ⊢
        have : sNot.length = 3 := rfl
        omega
      · have := rmi_len (a, textE a)
        simp only [List.length_append] at this ⊢
        omega
    | a :: b :: r => simp
  split
  · match xs with
    | [] => simp
    | [a] => simp
    | [a, b] =>
      simp only [List.map, sumT]
      have h5 := rwi_len (leftR p.op) (a, textE a)
      have h6 := rwi_len (rankOp p.op + 1) (b, textE b)
      simp only [List.length_append, List.length_cons] at h5 h6 ⊢
      omega
    | a :: b :: c :: r => simp
  split
  · have := rjoin_len xs
    have e : (List.map (fun x => x.2) (List.map (fun a => (a, textE a)) xs)) = xs.map textE := by rw [List.map_map]; rfl
    rw [e]
    simp only [List.length_append, List.length_cons, List.length_nil]
    omega
  · simp
/-- What is known of what is built. -/
structure BuiltOk (l : List Pn) (r : Ex × Nat) : Prop where
  pos : 1 ≤ r.2
  le : r.2 ≤ l.length
  len : (textE r.1).length + 2 ≤ 300 * r.2
  bd : BdE r.1
theorem loopB_ok {f : List Pn → Ex × Nat} (hf : ∀ l, 0 < l.length → (∀ p ∈ l, NdOk p) → BuiltOk l (f l)) : ∀ (fu : Nat) (k n : Int) (r : List Pn) (acc : List Ex) (m : Nat), (∀ p ∈ r, NdOk p) → (∀ a ∈ acc, BdE a) → 1 ≤ m → sumT acc ≤ 300 * (m - 1) →
    (∀ a ∈ (loopB f fu k n r acc m).1, BdE a) ∧ m ≤ (loopB f fu k n r acc m).2 ∧ (loopB f fu k n r acc m).2 ≤ m + r.length ∧ sumT (loopB f fu k n r acc m).1 ≤ 300 * ((loopB f fu k n r acc m).2 - 1)
  | 0, k, n, r, acc, m, h1, h2, h3, h4 => ⟨h2, Nat.le_refl _, Nat.le_add_right _ _, h4⟩
  | fu + 1, k, n, r, acc, m, h1, h2, h3, h4 => by
    unfold loopB
    split
    · rename_i hc
      have hb := hf r hc.2 h1
      have e1 := hb.pos
      have e2 := hb.le
      have e3 := hb.len
      obtain ⟨k1, k2, k3, k4⟩ := loopB_ok hf fu (k + 1) n (r.drop (f r).2) (acc ++ [(f r).1]) (m + (f r).2) (fun p hp => h1 p (List.mem_of_mem_drop hp)) (fun a ha => by
        rcases List.mem_append.1 ha with ha | ha
        · exact h2 a ha
        · rw [List.mem_singleton.1 ha]; exact hb.bd) (by omega) (by
        rw [sumT_app]
        simp only [sumT]
        omega)
      rw [List.length_drop] at k3
      exact ⟨k1, by omega, by omega, k4⟩
    · exact ⟨h2, Nat.le_refl _, Nat.le_add_right _ _, h4⟩
theorem buildM_ok : ∀ (n : Nat) (l : List Pn), 0 < l.length → (∀ p ∈ l, NdOk p) → BuiltOk l (buildM n l)
  | _, [], h, _ => absurd h (by simp)
  | 0, p :: r, _, h => by
    have hp := h p (by simp)
    have := textE_len p hp []
    refine ⟨Nat.le_refl _, by show 1 ≤ r.length + 1; omega, ?_, ?_⟩
    · show (textE (.mk p.k p.nm p.v p.op [])).length + 2 ≤ 300 * 1
      simp only [sumT] at this
      omega
    · show BdE (.mk p.k p.nm p.v p.op [])
      rw [BdE_eq]
      obtain ⟨h1, h2, h3, h4, h5⟩ := hp
      exact ⟨h4, h5, by show p.v.t.length ≤ _; omega, by show p.nm.length ≤ _; omega, by show p.op.length ≤ _; omega, bdEs_of _ (fun a ha => by cases ha)⟩
  | n + 1, p :: r, _, h => by
    have hp := h p (by simp)
    obtain ⟨k1, k2, k3, k4⟩ := loopB_ok (buildM_ok n) (r.length + 1) 0 p.n r [] 1 (fun q hq => h q (by simp [hq])) (fun a ha => by cases ha) (Nat.le_refl _) (Nat.zero_le _)
    have hl := textE_len p hp (loopB (buildM n) (r.length + 1) 0 p.n r [] 1).1
    refine ⟨k2, by show (loopB (buildM n) (r.length + 1) 0 p.n r [] 1).2 ≤ r.length + 1; omega, ?_, ?_⟩
    · show (textE (.mk p.k p.nm p.v p.op (loopB (buildM n) (r.length + 1) 0 p.n r [] 1).1)).length + 2 ≤ 300 * (loopB (buildM n) (r.length + 1) 0 p.n r [] 1).2
      omega
    · show BdE (.mk p.k p.nm p.v p.op (loopB (buildM n) (r.length + 1) 0 p.n r [] 1).1)
      rw [BdE_eq]
      obtain ⟨h1, h2, h3, h4, h5⟩ := hp
      exact ⟨h4, h5, by show p.v.t.length ≤ _; omega, by show p.nm.length ≤ _; omega, by show p.op.length ≤ _; omega, bdEs_of _ k1⟩
theorem loopB_go {f : List Pn → Ex × Nat} {fu : Nat} {k n : Int} {r : List Pn} {acc : List Ex} {m : Nat} (h1 : k < n) (h2 : 0 < r.length) : loopB f (fu + 1) k n r acc m = loopB f fu (k + 1) n (r.drop (f r).2) (acc ++ [(f r).1]) (m + (f r).2) := by
  rw [loopB, if_pos ⟨h1, h2⟩]
theorem loopB_end {f : List Pn → Ex × Nat} {k n : Int} {r : List Pn} {acc : List Ex} {m : Nat} (h : ¬ (k < n ∧ 0 < r.length)) : ∀ fu, loopB f fu k n r acc m = (acc, m)
  | 0 => rfl
  | fu + 1 => by rw [loopB, if_neg h]
end Go.Proofs.YtonkjhmkppeagaaGreatDoor.Pz
