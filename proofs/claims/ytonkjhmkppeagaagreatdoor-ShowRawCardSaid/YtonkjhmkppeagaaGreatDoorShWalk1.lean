/- Walks: awake, the law of an expression's text. -/
import Derived.Test.YtonkjhmkppeagaaGreatDoorMRfB
set_option linter.unusedVariables false
set_option linter.unusedSimpArgs false
namespace Go.Proofs.YtonkjhmkppeagaaGreatDoor.Pz
open Go.RowKit Go Go.Sort Ba Lx

def awX : Ex := binaryE [42] (binaryE [43] (columnE [97]) (columnE [98])) (columnE [99])
theorem awake_expr : (exprOf [40, 97, 43, 98, 41, 42, 40, 99, 41]).2.2 = 0 := by kernel_rfl
theorem awake_x : (exprOf [40, 97, 43, 98, 41, 42, 40, 99, 41]).1 = awX := by kernel_rfl
theorem awake_t : textE awX = [40, 97, 32, 43, 32, 98, 41, 32, 42, 32, 99] := by kernel_rfl
/-- A text that is an expression: what parse.Expr gives, and what show.Expr gives for it. -/
theorem parsed {s : ByteArray} (hl : s.data.toList.length ≤ 8192) (h : (exprOf s.data.toList).2.2 = 0) : ∃ (x : Ex) (at0 : Nat), exprOf s.data.toList = (x, at0, 0) ∧ OkE x ∧ (textE x).length ≤ 16384 ∧ showE x = (textE x, 0) ∧ exprOf (textE x) = (x, (textE x).length, 0) := by
  have h2 := exprOf_ok h
  have h3 := exprOf_again hl h
  obtain ⟨r, hr⟩ : ∃ r, exprOf s.data.toList = r := ⟨_, rfl⟩
  rw [hr] at h h2 h3
  obtain ⟨x, a, e⟩ := r
  obtain ⟨k1, k2, k3, k4⟩ := h2
  simp only at h h3 k1 k3
  subst h
  exact ⟨x, a, hr, k1, by omega, showE_ok h3, h3⟩
/-- show.Expr of an expression that is read back. -/
theorem show_ok (x : Ex) (T : ByteArray) (hT : (⟨(textE x).toArray⟩ : ByteArray) = T) (hx : OkE x) (hs : showE x = (textE x, 0)) (hlen : (textE x).length ≤ 16384) (sa : Option Addr) (ca : Nat) (w : World) (ok : Nat → Prop) (hA : XArgs w ok (.slice sa x.xs.length ca) x.xs) (hE : EnvX w) :
    Calls Tryz.prog 16 #[exV x (.slice sa x.xs.length ca)] w fun e w' => e = .returned (.tuple #[.string T, .int .i64 0]) ∧ Below w.heap.size w w' := by
  have := showX_any x sa ca w ok hA hE (okE_bd x hx) (by omega)
  unfold ShowTo at this
  rw [hs, hT] at this
  exact this
theorem sm_of (x : Ex) : OkE x → (textE x).length ≤ 1000000 → Sm x := by
  refine Ex.ind (P := fun x => OkE x → (textE x).length ≤ 1000000 → Sm x) (fun k nm v op xs ih ok hl => ?_) x
  have key : ∀ x : Ex, (∀ a ∈ x.xs, OkE a → (textE a).length ≤ 1000000 → Sm a) → OkE x → (textE x).length ≤ 1000000 → Sm x := by
    intro x ih ok hl
    cases ok with
    | col n h => exact .mk _ (Nat.zero_le _) (fun a ha => by cases ha)
    | null => exact .mk _ (Nat.zero_le _) (fun a ha => by cases ha)
    | num m h0 h1 => exact .mk _ (Nat.zero_le _) (fun a ha => by cases ha)
    | txt t h => exact .mk _ (Nat.zero_le _) (fun a ha => by cases ha)
    | not a h =>
      refine .mk _ (by show 1 ≤ 600000; decide) (fun b hb => ?_)
      obtain rfl := List.mem_singleton.1 hb
      refine ih b hb h ?_
      rw [textE_not] at hl
      have := wiT_len 3 (b, textE b)
      simp at hl this; omega
    | neg a h =>
      refine .mk _ (by show 1 ≤ 600000; decide) (fun b hb => ?_)
      obtain rfl := List.mem_singleton.1 hb
      refine ih b hb h ?_
      rw [textE_neg] at hl
      have := miT_len (b, textE b)
      simp at hl this; omega
    | bin op a b ho ha hb =>
      rw [textE_bin] at hl
      have h1 := wiT_len (leftR op) (a, textE a)
      have h2 := wiT_len (rankOp op + 1) (b, textE b)
      simp at hl h1 h2
      refine .mk _ (by show 2 ≤ 600000; decide) (fun c hc => ?_)
      rcases List.mem_cons.1 hc with rfl | hc'
      · exact ih c hc ha (by omega)
      · obtain rfl := List.mem_singleton.1 hc'
        exact ih c hc hb (by omega)
    | call n xs h h0 hx =>
      rw [textE_call] at hl
      have h1 := joinS_len (xs.map textE)
      rw [List.length_map] at h1
      have h2 : (joinS [44, 32] (xs.map textE)).length ≤ 1000000 := by simp at hl; omega
      refine .mk _ (by show xs.length ≤ 600000; omega) (fun a ha => ?_)
      exact ih a ha (hx a ha) (Nat.le_trans (joinS_mem _ _ (List.mem_map.2 ⟨a, ha, rfl⟩)) h2)
  exact key _ ih ok hl
set_option maxRecDepth 100000 in
set_option maxHeartbeats 3200000 in
theorem awake_any (w : World) (hE : EnvX w) : Calls Tryz.prog 14 #[] w fun e w' => e = .returned (.bool true) ∧ Below w.heap.size w w' := by
  obtain ⟨x, at0, e1, hx, hlen, hs, _⟩ := parsed (s := ⟨#[40, 97, 43, 98, 41, 42, 40, 99, 41]⟩) (by decide) awake_expr
  have hxa : x = awX := by
    have := awake_x
    rw [show ([40, 97, 43, 98, 41, 42, 40, 99, 41] : Str) = (⟨#[40, 97, 43, 98, 41, 42, 40, 99, 41]⟩ : ByteArray).data.toList from rfl, e1] at this
    exact this
  have hT : (⟨(textE x).toArray⟩ : ByteArray) = ⟨#[40, 97, 32, 43, 32, 98, 41, 32, 42, 32, 99]⟩ := by rw [hxa, awake_t]
  have hP := expr_any ⟨#[40, 97, 43, 98, 41, 42, 40, 99, 41]⟩ w hE.l
  rw [e1] at hP
  have HP := Lib.hid hP
  have HS := Lib.hid (fun sa ca W (ok : Nat → Prop) (hA : XArgs W ok (.slice sa x.xs.length ca) x.xs) (hb : Below w.heap.size w W) => show_ok x _ hT hx hs hlen sa ca W ok hA (hE.below hb))
  clear hP hxa hT hs hlen hx e1
  go_enter Tryz.func14, Tryz.ntmps14
  go_wp2_with (first | (go_at_call 15; refine HP.out.mono ?_; rintro e w1 ⟨ya, yc, rfl, hY, hb1⟩; have bwX := (Below.refl w1.heap.size w1).alloc (Nat.le_refl _) (.cells #[.int .i64 x.k, .string ⟨x.nm.toArray⟩, .int .i64 x.v.k, .int .i64 x.v.n, .string ⟨x.v.t.toArray⟩, .string ⟨x.op.toArray⟩, .slice ya x.xs.length yc] 27)) | (go_at_call 16; refine (HS.out ya yc _ _ (hY.below bwX) (two hb1 bwX)).mono ?_; rintro e w2 ⟨rfl, hb2⟩))
  go_ret
  exact ⟨rfl, two (two hb1 bwX) hb2⟩
end Go.Proofs.YtonkjhmkppeagaaGreatDoor.Pz
