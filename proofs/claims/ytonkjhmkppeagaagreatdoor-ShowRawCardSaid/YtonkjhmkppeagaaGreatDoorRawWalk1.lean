/- Walks: the expression that a list of nodes tells. -/
import Derived.Test.YtonkjhmkppeagaaGreatDoorMSt
import Derived.Test.YtonkjhmkppeagaaGreatDoorRawMath
set_option linter.unusedVariables false
set_option linter.unusedSimpArgs false
namespace Go.Proofs.YtonkjhmkppeagaaGreatDoor.Pz
open Go.RowKit Go Go.Sort Ba Lx

/-- The rest of a slice. -/
theorem Rep.from {W : World} {ok : Nat → Prop} {k b o n cap : Nat} {rows : List (List Dat)} (h : Rep W ok (.sl k rows) (.slice (some ⟨b, o, none⟩) n cap)) (i : Nat) (hi : i ≤ n) : Rep W ok (.sl k (rows.drop i)) (.slice (some ⟨b, o + i * k, none⟩) (n - i) (cap - i)) := by
  cases h with
  | sl _ _ _ _ cells h1 h2 hl hn hc hr =>
    have h4 : (rows.drop i).length = rows.length - i := List.length_drop
    have h5 : (cells.drop i).length = rows.length - i := by rw [List.length_drop, hl]
    rw [← h4]
    refine Rep.sl k (rows.drop i) _ (cap - i) (cells.drop i) (by rw [h4]; omega) (by omega) (by rw [h4, h5]) ?_ ?_ ?_
    · intro j r cs e1 e2
      rw [List.getElem?_drop] at e1 e2
      exact hn _ r cs e1 e2
    · intro j cs e2
      rw [List.getElem?_drop] at e2
      obtain ⟨b', o', e3, e4, e5, e6⟩ := hc _ cs e2
      obtain ⟨rfl, rfl⟩ : b = b' ∧ o = o' := by simpa using e3
      refine ⟨b, o + i * k, rfl, e4, e5, fun q hq => ?_⟩
      rw [show o + i * k + (j * k + q) = o + ((i + j) * k + q) from by rw [Nat.add_mul]; omega]
      exact e6 q hq
    · intro j r cs q d c e1 e2
      rw [List.getElem?_drop] at e1 e2
      exact hr _ r cs q d c e1 e2
theorem iExR_ : (Tryz.prog.info? 27).map (fun i => (i.zero, i.size, i.bytes)) = some (some (.agg #[.int .i64 0, .string ⟨#[]⟩, .int .i64 0, .int .i64 0, .string ⟨#[]⟩, .string ⟨#[]⟩, .slice none 0 0]), 7, 96) := by kernel_rfl
theorem iExR2_ : (Tryz.prog.info? 27).map (fun i => (i.zero, i.size)) = some (some (.agg #[.int .i64 0, .string ⟨#[]⟩, .int .i64 0, .int .i64 0, .string ⟨#[]⟩, .string ⟨#[]⟩, .slice none 0 0]), 7) := by kernel_rfl
theorem repR {W : World} {ok : Nat → Prop} {d : Dat} {v : Value} (h : Row W ok [d] [v]) : Rep W ok d v := h.2 0 _ _ rfl rfl
def BuildTo (w : World) (r : Ex × Nat) (e : Ending) (w' : World) : Prop := ∃ ao cp, e = .returned (.tuple #[exV r.1 (.slice ao r.1.xs.length cp), .int .i64 (r.2 : Int)]) ∧ XArgs w' (fun b => w.heap.size ≤ b) (.slice ao r.1.xs.length cp) r.1.xs ∧ Below w.heap.size w w'
def BuildOk (n d : Nat) : Prop := ∀ (l : List Pn) (sa : Option Addr) (ca : Nat) (w : World) (ok : Nat → Prop), 0 < l.length → l.length ≤ 100 → Rep w ok (.sl 7 (l.map pnD)) (.slice sa l.length ca) → Calls Tryz.prog 20 #[.slice sa l.length ca, .int .i64 (d : Int)] w (BuildTo w (buildM n l))
theorem st_below {w0 w : World} {L : List Bx} {D : List (List Dat × List Value)} {O : List Ow} (h : St (fun _ => False) w0 w L D O) : Below w0.heap.size w0 w := h.kept.below (Nat.le_refl _) fun _ x => x.elim
def loopX : Nat → Pn → List Pn → List Ex × Nat
  | 0, _, _ => ([], 1)
  | n + 1, p, r => loopB (buildM n) (r.length + 1) 0 p.n r [] 1
theorem buildX (n : Nat) (p : Pn) (r : List Pn) : buildM n (p :: r) = (.mk p.k p.nm p.v p.op (loopX n p r).1, (loopX n p r).2) := by cases n <;> rfl
def LoopRel (n fu : Nat) (k pn : Int) (rest : List Pn) (acc : List Ex) (m : Nat) (X : List Ex × Nat) : Prop := match n with
  | 0 => X = (acc, m)
  | n' + 1 => X = loopB (buildM n') fu k pn rest acc m
theorem loopRel_start (n : Nat) (p : Pn) (r : List Pn) : LoopRel n (r.length + 1) 0 p.n r [] 1 (loopX n p r) := by cases n <;> rfl
theorem loopRel_end {n fu : Nat} {k pn : Int} {rest : List Pn} {acc : List Ex} {m : Nat} {X : List Ex × Nat} (h : LoopRel n fu k pn rest acc m X) (hc : n = 0 ∨ ¬ (k < pn ∧ 0 < rest.length)) : X = (acc, m) := by
  cases n with
  | zero => exact h
  | succ n =>
    have h' : X = loopB (buildM n) fu k pn rest acc m := h
    rw [h', loopB_end (hc.resolve_left (by omega))]
theorem loopRel_go {n fu : Nat} {k pn : Int} {rest : List Pn} {acc : List Ex} {m : Nat} {X : List Ex × Nat} (h : LoopRel (n + 1) (fu + 1) k pn rest acc m X) (h1 : k < pn) (h2 : 0 < rest.length) : LoopRel (n + 1) fu (k + 1) pn (rest.drop (buildM n rest).2) (acc ++ [(buildM n rest).1]) (m + (buildM n rest).2) X := by
  have h' : X = loopB (buildM n) (fu + 1) k pn rest acc m := h
  show X = loopB (buildM n) fu _ _ _ _ _
  rw [h', loopB_go h1 h2]
theorem loopB_pos {f : List Pn → Ex × Nat} (hf : ∀ l, 0 < l.length → 1 ≤ (f l).2 ∧ (f l).2 ≤ l.length) : ∀ (fu : Nat) (k n : Int) (r : List Pn) (acc : List Ex) (m : Nat), m ≤ (loopB f fu k n r acc m).2 ∧ (loopB f fu k n r acc m).2 ≤ m + r.length
  | 0, k, n, r, acc, m => ⟨Nat.le_refl _, Nat.le_add_right _ _⟩
  | fu + 1, k, n, r, acc, m => by
    unfold loopB
    split
    · rename_i hc
      have hb := hf r hc.2
      obtain ⟨h1, h2⟩ := loopB_pos hf fu (k + 1) n (r.drop (f r).2) (acc ++ [(f r).1]) (m + (f r).2)
      rw [List.length_drop] at h2
      exact ⟨by omega, by omega⟩
    · exact ⟨Nat.le_refl _, Nat.le_add_right _ _⟩
theorem buildM_pos : ∀ (n : Nat) (l : List Pn), 0 < l.length → 1 ≤ (buildM n l).2 ∧ (buildM n l).2 ≤ l.length
  | _, [], h => absurd h (by simp)
  | 0, p :: r, _ => ⟨Nat.le_refl _, by show 1 ≤ r.length + 1; omega⟩
  | n + 1, p :: r, _ => by
    obtain ⟨h1, h2⟩ := loopB_pos (buildM_pos n) (r.length + 1) 0 p.n r [] 1
    exact ⟨h1, by show (loopB (buildM n) (r.length + 1) 0 p.n r [] 1).2 ≤ r.length + 1; omega⟩
set_option maxRecDepth 100000 in
set_option maxHeartbeats 1600000 in
theorem build_node (n d : Nat) (hd : d + n = 60) (IH : ∀ n', n = n' + 1 → BuildOk n' (d + 1)) : BuildOk n d := fun l sa ca w ok hl hlm hA => by
  obtain ⟨p, r, rfl⟩ : ∃ p r, l = p :: r := by
    cases l with
    | nil => exact absurd hl (by simp)
    | cons p r => exact ⟨p, r, rfl⟩
  obtain ⟨b, o, cs0, rfl, hb, hok, hcell, hcl, hrow⟩ := hA.at (i := 0) (r := pnD p) rfl
  obtain ⟨_, _, he1, hcap, hcm⟩ := hA.len
  have hcap' : (p :: r).length ≤ ca ∧ ca ≤ maxLen := by
    injection he1 with _ _ e3
    rw [List.length_map] at hcap
    subst e3
    exact ⟨hcap, hcm⟩
  have hc7 : cs0 = [.int .i64 p.k, .string ⟨p.nm.toArray⟩, .int .i64 p.v.k, .int .i64 p.v.n, .string ⟨p.v.t.toArray⟩, .string ⟨p.op.toArray⟩, .int .i64 p.n] := by
    obtain ⟨c0, r0, rfl, h0, h⟩ := Row.uncons hrow
    obtain ⟨c1, r1, rfl, h1, h⟩ := h.uncons
    obtain ⟨c2, r2, rfl, h2, h⟩ := h.uncons
    obtain ⟨c3, r3, rfl, h3, h⟩ := h.uncons
    obtain ⟨c4, r4, rfl, h4, h⟩ := h.uncons
    obtain ⟨c5, r5, rfl, h5, h⟩ := h.uncons
    obtain ⟨c6, r6, rfl, h6, h⟩ := h.uncons
    obtain rfl := h.unnil
    rw [h0.val, h1.val, h2.val, h3.val, h4.val, h5.val, h6.val]
  subst hc7
  have H := Lib.hid (St.start (S := fun _ => False) w)
  have HC : Hid (∀ W, Below w.heap.size w W → (W.cell? ⟨b, o, none⟩ = some (.int .i64 p.k) ∧ W.cell? ⟨b, o + 1, none⟩ = some (.string ⟨p.nm.toArray⟩) ∧ W.cell? ⟨b, o + 2, none⟩ = some (.int .i64 p.v.k) ∧ W.cell? ⟨b, o + 3, none⟩ = some (.int .i64 p.v.n) ∧ W.cell? ⟨b, o + 4, none⟩ = some (.string ⟨p.v.t.toArray⟩) ∧ W.cell? ⟨b, o + 5, none⟩ = some (.string ⟨p.op.toArray⟩))) := fun W hb2 => by
    have hk : ∀ j, j < 7 → W.cell? ⟨b, o + j, none⟩ = [.int .i64 p.k, .string ⟨p.nm.toArray⟩, .int .i64 p.v.k, .int .i64 p.v.n, .string ⟨p.v.t.toArray⟩, .string ⟨p.op.toArray⟩, .int .i64 p.n][j]? := fun j hj => (kcell (Kept.of_below (S := fun _ => False) hb2) hb (fun x => x)).trans (by have := hcell j hj; rwa [Nat.zero_mul, Nat.zero_add] at this)
    exact ⟨hk 0 (by decide), hk 1 (by decide), hk 2 (by decide), hk 3 (by decide), hk 4 (by decide), hk 5 (by decide)⟩
  have HC6 : Hid (∀ W, Below w.heap.size w W → W.cell? ⟨b, o + 6, none⟩ = some (.int .i64 p.n)) := fun W hb2 => (kcell (Kept.of_below (S := fun _ => False) hb2) hb (fun x => x)).trans (by have := hcell 6 (by decide); rwa [Nat.zero_mul, Nat.zero_add] at this)
  have HA := Lib.hid hA
  have HIH := Lib.hid IH
  obtain ⟨len, hlen⟩ : ∃ len, (p :: r).length = len := ⟨_, rfl⟩
  rw [hlen] at hlm hcap'
  have hl0 : (0 : Int) < (len : Int) := by rw [← hlen]; show (0 : Int) < ((r.length + 1 : Nat) : Int); omega
  have hl1 : 0 < len := by omega
  have HLEN := Lib.hid hlen
  rw [hlen] at HA
  clear hA hrow hcell he1 hcap hcm hb hok hcl IH hl
  rw [hlen]
  clear hlen
  go_enter Tryz.func20, Tryz.ntmps20
  go_upto_region 1 with (refine St.w_alloc (ty := 27) H.out (by rfl) rfl zEx_ rfl ?_; intro wn R _ _ H2; clear H; have H := Lib.hid H2; clear H2)
  have H2 := H.out.drew
  clear H
  have H := Lib.hid H2
  clear H2
  refine wp_region_M_drew 18 (S := fun W => (W.cell? ⟨b, o, none⟩ = some (.int .i64 p.k) ∧ W.cell? ⟨b, o + 1, none⟩ = some (.string ⟨p.nm.toArray⟩) ∧ W.cell? ⟨b, o + 2, none⟩ = some (.int .i64 p.v.k) ∧ W.cell? ⟨b, o + 3, none⟩ = some (.int .i64 p.v.n) ∧ W.cell? ⟨b, o + 4, none⟩ = some (.string ⟨p.v.t.toArray⟩) ∧ W.cell? ⟨b, o + 5, none⟩ = some (.string ⟨p.op.toArray⟩))) (by kernel_rfl) (by exact HC.out _ (st_below H.out)) (fun hHeld => ?_)
  refine wpAnyM_take (i := 0) (v := ?v35m) rfl (by kernel_rfl) (by kernel_rfl) (by kernel_rfl) (by kernel_rfl) (by kernel_rfl) (by kernel_rfl) (fun _ _ _ h => h) (Or.inl ⟨by rfl, ?hy35m⟩) hHeld ?rest35m
  case hy35m => (intro w hSw; (try dsimp only at hSw); go_simp <;> with_reducible rfl)
  try simp only [Array.reduceGetElem, Act.put, List.setIfInBounds_toArray, List.set_cons_zero, List.set_cons_succ]
  refine wpAnyM_take (i := 1) (v := ?v36m) rfl (by kernel_rfl) (by kernel_rfl) (by kernel_rfl) (by kernel_rfl) (by kernel_rfl) (by kernel_rfl) (fun _ _ _ h => h) (Or.inl ⟨by rfl, ?hy36m⟩) hHeld ?rest36m
  case hy36m => (intro w hSw; (try dsimp only at hSw); go_simp <;> with_reducible rfl)
  try simp only [Array.reduceGetElem, Act.put, List.setIfInBounds_toArray, List.set_cons_zero, List.set_cons_succ]
  refine wpAnyM_take (i := 2) (v := ?v37m) rfl (by kernel_rfl) (by kernel_rfl) (by kernel_rfl) (by kernel_rfl) (by kernel_rfl) (by kernel_rfl) (fun _ _ _ h => h) (Or.inl ⟨by rfl, ?hy37m⟩) hHeld ?rest37m
  case hy37m => (intro w hSw; (try dsimp only at hSw); go_simp <;> with_reducible rfl)
  try simp only [Array.reduceGetElem, Act.put, List.setIfInBounds_toArray, List.set_cons_zero, List.set_cons_succ]
  refine wpAnyM_take (i := 3) (v := ?v38m) rfl (by kernel_rfl) (by kernel_rfl) (by kernel_rfl) (by kernel_rfl) (by kernel_rfl) (by kernel_rfl) (fun _ _ _ h => h) (Or.inl ⟨by rfl, ?hy38m⟩) hHeld ?rest38m
  case hy38m => (intro w hSw; (try dsimp only at hSw); go_simp <;> with_reducible rfl)
  try simp only [Array.reduceGetElem, Act.put, List.setIfInBounds_toArray, List.set_cons_zero, List.set_cons_succ]
  refine wpAnyM_take (i := 4) (v := ?v39m) rfl (by kernel_rfl) (by kernel_rfl) (by kernel_rfl) (by kernel_rfl) (by kernel_rfl) (by kernel_rfl) (fun _ _ _ h => h) (Or.inl ⟨by rfl, ?hy39m⟩) hHeld ?rest39m
  case hy39m => (intro w hSw; (try dsimp only at hSw); go_simp <;> with_reducible rfl)
  try simp only [Array.reduceGetElem, Act.put, List.setIfInBounds_toArray, List.set_cons_zero, List.set_cons_succ]
  refine wpAnyM_take (i := 5) (v := ?v40m) rfl (by kernel_rfl) (by kernel_rfl) (by kernel_rfl) (by kernel_rfl) (by kernel_rfl) (by kernel_rfl) (fun _ _ _ h => h) (Or.inl ⟨by rfl, ?hy40m⟩) hHeld ?rest40m
  case hy40m => (intro w hSw; (try dsimp only at hSw); go_simp <;> with_reducible rfl)
  try simp only [Array.reduceGetElem, Act.put, List.setIfInBounds_toArray, List.set_cons_zero, List.set_cons_succ]
  refine wpAnyM_take (i := 6) (v := ?v41m) rfl (by kernel_rfl) (by kernel_rfl) (by kernel_rfl) (by kernel_rfl) (by kernel_rfl) (by kernel_rfl) (fun _ _ _ h => h) (Or.inl ⟨by rfl, ?hy41m⟩) hHeld ?rest41m
  case hy41m => (intro w hSw; (try dsimp only at hSw); go_simp <;> with_reducible rfl)
  try simp only [Array.reduceGetElem, Act.put, List.setIfInBounds_toArray, List.set_cons_zero, List.set_cons_succ]
  refine wpAnyM_take (i := 7) (v := ?v42m) rfl (by kernel_rfl) (by kernel_rfl) (by kernel_rfl) (by kernel_rfl) (by kernel_rfl) (by kernel_rfl) (fun _ _ _ h => h) (Or.inl ⟨by rfl, ?hy42m⟩) hHeld ?rest42m
  case hy42m => (intro w hSw; (try dsimp only at hSw); go_simp <;> with_reducible rfl)
  try simp only [Array.reduceGetElem, Act.put, List.setIfInBounds_toArray, List.set_cons_zero, List.set_cons_succ]
  refine wpAnyM_take (i := 8) (v := ?v43m) rfl (by kernel_rfl) (by kernel_rfl) (by kernel_rfl) (by kernel_rfl) (by kernel_rfl) (by kernel_rfl) (fun _ _ _ h => h) (Or.inl ⟨by rfl, ?hy43m⟩) hHeld ?rest43m
  case hy43m => (intro w hSw; (try dsimp only at hSw); go_simp <;> with_reducible rfl)
  try simp only [Array.reduceGetElem, Act.put, List.setIfInBounds_toArray, List.set_cons_zero, List.set_cons_succ]
  refine wpAnyM_take (i := 9) (v := ?v44m) rfl (by kernel_rfl) (by kernel_rfl) (by kernel_rfl) (by kernel_rfl) (by kernel_rfl) (by kernel_rfl) (fun _ _ _ h => h) (Or.inl ⟨by rfl, ?hy44m⟩) hHeld ?rest44m
  case hy44m => (intro w hSw; (try dsimp only at hSw); go_simp <;> with_reducible rfl)
  try simp only [Array.reduceGetElem, Act.put, List.setIfInBounds_toArray, List.set_cons_zero, List.set_cons_succ]
  refine wpAnyM_take (i := 10) (v := ?v45m) rfl (by kernel_rfl) (by kernel_rfl) (by kernel_rfl) (by kernel_rfl) (by kernel_rfl) (by kernel_rfl) (fun _ _ _ h => h) (Or.inl ⟨by rfl, ?hy45m⟩) hHeld ?rest45m
  case hy45m => (intro w hSw; (try dsimp only at hSw); go_simp <;> with_reducible rfl)
  try simp only [Array.reduceGetElem, Act.put, List.setIfInBounds_toArray, List.set_cons_zero, List.set_cons_succ]
  refine wpAnyM_take (i := 11) (v := ?v46m) rfl (by kernel_rfl) (by kernel_rfl) (by kernel_rfl) (by kernel_rfl) (by kernel_rfl) (by kernel_rfl) (fun _ _ _ h => h) (Or.inl ⟨by rfl, ?hy46m⟩) hHeld ?rest46m
  case hy46m => (intro w hSw; (try dsimp only at hSw); go_simp <;> with_reducible rfl)
  try simp only [Array.reduceGetElem, Act.put, List.setIfInBounds_toArray, List.set_cons_zero, List.set_cons_succ]
  refine wpAnyM_take (i := 12) (v := ?v47m) rfl (by kernel_rfl) (by kernel_rfl) (by kernel_rfl) (by kernel_rfl) (by kernel_rfl) (by kernel_rfl) (fun _ _ _ h => h) (Or.inl ⟨by rfl, ?hy47m⟩) hHeld ?rest47m
  case hy47m => (intro w hSw; (try dsimp only at hSw); go_simp <;> with_reducible rfl)
  try simp only [Array.reduceGetElem, Act.put, List.setIfInBounds_toArray, List.set_cons_zero, List.set_cons_succ]
  refine wpAnyM_take (i := 13) (v := ?v48m) rfl (by kernel_rfl) (by kernel_rfl) (by kernel_rfl) (by kernel_rfl) (by kernel_rfl) (by kernel_rfl) (fun _ _ _ h => h) (Or.inl ⟨by rfl, ?hy48m⟩) hHeld ?rest48m
  case hy48m => (intro w hSw; (try dsimp only at hSw); go_simp <;> with_reducible rfl)
  try simp only [Array.reduceGetElem, Act.put, List.setIfInBounds_toArray, List.set_cons_zero, List.set_cons_succ]
  refine wpAnyM_take (i := 14) (v := ?v49m) rfl (by kernel_rfl) (by kernel_rfl) (by kernel_rfl) (by kernel_rfl) (by kernel_rfl) (by kernel_rfl) (fun _ _ _ h => h) (Or.inl ⟨by rfl, ?hy49m⟩) hHeld ?rest49m
  case hy49m => (intro w hSw; (try dsimp only at hSw); go_simp <;> with_reducible rfl)
  try simp only [Array.reduceGetElem, Act.put, List.setIfInBounds_toArray, List.set_cons_zero, List.set_cons_succ]
  refine wpAnyM_take (i := 15) (v := ?v50m) rfl (by kernel_rfl) (by kernel_rfl) (by kernel_rfl) (by kernel_rfl) (by kernel_rfl) (by kernel_rfl) (fun _ _ _ h => h) (Or.inl ⟨by rfl, ?hy50m⟩) hHeld ?rest50m
  case hy50m => (intro w hSw; (try dsimp only at hSw); go_simp <;> with_reducible rfl)
  try simp only [Array.reduceGetElem, Act.put, List.setIfInBounds_toArray, List.set_cons_zero, List.set_cons_succ]
  refine wpAnyM_take (i := 16) (v := ?v51m) rfl (by kernel_rfl) (by kernel_rfl) (by kernel_rfl) (by kernel_rfl) (by kernel_rfl) (by kernel_rfl) (fun _ _ _ h => h) (Or.inl ⟨by rfl, ?hy51m⟩) hHeld ?rest51m
  case hy51m => (intro w hSw; (try dsimp only at hSw); go_simp <;> with_reducible rfl)
  try simp only [Array.reduceGetElem, Act.put, List.setIfInBounds_toArray, List.set_cons_zero, List.set_cons_succ]
  refine wpAnyM_ready (rs := [17]) (by kernel_rfl) (by simp) ?_
  refine AllReadyM.cons rfl (fun K hK => ?_) AllReadyM.nil
  rw [if_pos (by rfl)]
  refine H.out.o_alloc (ty := 27) rfl zEx_ rfl (fun wn A hbn H2 => ?_)
  refine hK.out _ _ ?_ (fun hHeld2 => ?_)
  · exact HC.out _ (st_below H2)
  clear hK K hHeld
  have hHeld := hHeld2
  clear hHeld2
  clear H
  have H := Lib.hid H2
  clear H2
  try simp only [Array.reduceGetElem, Act.put, List.setIfInBounds_toArray, List.set_cons_zero, List.set_cons_succ]
  refine wpAnyM_ready (rs := [18]) (by kernel_rfl) (by simp) ?_
  refine AllReadyM.last rfl (by kernel_rfl) (fun K hK => ?_) AllReadyM.nil
  rw [if_pos (by rfl)]
  refine H.out.o_store (ty := 27) rfl rfl rfl 0 rfl rfl rfl sEx_ (all_one rfl) (fun wl _ _ H2 => ?_)
  refine hK.out _ _ ?_
  clear hK K
  clear H
  have H := Lib.hid H2
  clear H2
  try simp only [Array.reduceGetElem, Act.put, List.setIfInBounds_toArray, List.set_cons_zero, List.set_cons_succ]
  refine wpAnyM_done (by kernel_rfl) ?_ _
  go_wp2_with fail
  have H2 := H.out.gather 27 7
  clear H
  have H := Lib.hid H2
  clear H2 hHeld
  have HLR0 := Lib.hid (loopRel_start n p r)
  have HRL : Hid (r.length + 1 = len) := HLEN.out
  go_loopg [7, 8] len (fun kx s7 s8 wr => ∃ (k m fu : Nat) (acc : List Ex) (ao : Option Addr) (cp : Nat) (cells : List (List Value)), s7 = .int .i64 (m : Int) ∧ s8 = .int .i64 (k : Int) ∧ Hid (St (fun _ => False) w wr [(A, [.int .i64 p.k, .string ⟨p.nm.toArray⟩, .int .i64 p.v.k, .int .i64 p.v.n, .string ⟨p.v.t.toArray⟩, .string ⟨p.op.toArray⟩, .slice ao acc.length cp]), (R, [.int .i64 0, .string ⟨#[]⟩, .int .i64 0, .int .i64 0, .string ⟨#[]⟩, .string ⟨#[]⟩, .slice none 0 0])] [] [⟨27, 7, .slice ao acc.length cp, acc.map exD, cells⟩]) ∧ Hid (LoopRel n fu k p.n ((p :: r).drop m) acc m (loopX n p r)) ∧ 1 ≤ m ∧ m ≤ len ∧ acc.length ≤ m ∧ k ≤ m ∧ len < fu + m ∧ len ≤ kx + m)
  case atStart => exact ⟨0, 1, r.length + 1, [], none, 0, [], rfl, rfl, H, HLR0, Nat.le_refl _, by omega, Nat.zero_le _, Nat.zero_le _, by have := HRL.out; omega, by omega⟩
  case round =>
    clear H HLR0
    obtain ⟨k, m, fu, acc, ao, cp, cells, rfl, rfl, H, HLR, hm1, hml, ham, hkm, hfu, hkx⟩ := hrel
    have HDL : Hid (((p :: r).drop m).length = len - m) := by show ((p :: r).drop m).length = len - m; rw [List.length_drop, HLEN.out]
    have h6 := HC6.out _ (st_below H.out)
    by_cases hk : (k : Int) < p.n
    · by_cases hm : m < len
      · cases n with
        | zero =>
          have hdn : ¬ ((d : Int) < 60) := by omega
          have hdn2 : (60 : Int) ≤ (d : Int) := by omega
          have HEND : Hid (∀ z : Nat, z = 0 → (z = 0 ∨ ¬ ((k : Int) < p.n ∧ 0 < ((p :: r).drop m).length))) := fun z hz => .inl hz
          have hm2 : (m : Int) < (len : Int) := by omega
          go_wp2_with (first | (first | (refine St.w_load (ty := 27) H.out (by rfl) rfl rfl 0 rfl uEx_ sEx_ ?_) | (refine St.w_load (ty := 27) H.out (by rfl) rfl rfl 1 rfl uEx_ sEx_ ?_)) | (first | (refine St.w_store (ty := 27) H.out (by rfl) rfl rfl rfl 0 rfl rfl rfl sEx_ (all_one rfl) ?_; intro wn _ _ H2; clear H; have H := Lib.hid H2; clear H2) | (refine St.w_store (ty := 27) H.out (by rfl) rfl rfl rfl 1 rfl rfl rfl sEx_ (all_one rfl) ?_; intro wn _ _ H2; clear H; have H := Lib.hid H2; clear H2) | (refine St.w_store (ty := 27) H.out (by rfl) rfl rfl rfl 2 rfl rfl rfl sEx_ (all_one rfl) ?_; intro wn _ _ H2; clear H; have H := Lib.hid H2; clear H2)))
          refine bodyPost_ret (H.out.results2 Tryz.results20 (by rfl) 1 rfl uEx_ sEx_) rfl ?_
          rw [buildX, loopRel_end HLR.out (HEND.out _ rfl)]
          have H3 := H.out.shut.drop (L' := []) (.cons _ (.cons _ (List.Sublist.refl _)))
          exact ⟨ao, cp, rfl, (by show Rep _ _ (.sl 7 (exDs acc)) _; rw [exDs_map]; exact (repR (H3.rowAt (j := 0) rfl)).weak fun b _ ho => ho.1), st_below H3⟩
        | succ n =>
          have hdn : (d : Int) < 60 := by omega
          have hm2 : (m : Int) < (len : Int) := by omega
          have hmca : m < ca := by omega
          have hmca2 : (m : Int) < (ca : Int) := by omega
          have hmle : m ≤ len := by omega
          obtain ⟨fu, rfl⟩ : ∃ f, fu = f + 1 := ⟨fu - 1, by omega⟩
          obtain ⟨X, hX⟩ : ∃ X, buildM n ((p :: r).drop m) = X := ⟨_, rfl⟩
          have hpos := buildM_pos n ((p :: r).drop m) (by rw [HDL.out]; omega)
          have hgo := loopRel_go HLR.out hk (by rw [HDL.out]; omega)
          rw [HDL.out, hX] at hpos
          rw [hX, List.drop_drop] at hgo
          obtain ⟨X1, X2⟩ := X
          have HGO := Lib.hid hgo
          have HB : Hid (∀ W, Below w.heap.size w W → Calls Tryz.prog 20 #[.slice (some ⟨b, o + m * 7, none⟩) (len - m) (ca - m), .int .i64 ((d : Int) + 1)] W (BuildTo W (X1, X2))) := fun W hbw => by
            have h1 := (HA.out.from m hmle).kept (S := fun _ => False) (Kept.of_below hbw) (fun _ _ _ x => x)
            rw [← List.map_drop] at h1
            have h2 := HIH.out n rfl ((p :: r).drop m) (some ⟨b, o + m * 7, none⟩) (ca - m) W ok (by rw [HDL.out]; omega) (by rw [HDL.out]; omega) (by rw [HDL.out]; exact h1)
            rw [HDL.out, hX] at h2
            exact h2
          have HAC : Hid (acc.length + 1 ≤ 1000000) := by show acc.length + 1 ≤ 1000000; omega
          have HNUM : Hid (1 ≤ X2 ∧ X2 ≤ len - m ∧ acc.length ≤ m ∧ k ≤ m ∧ len < fu + 1 + m ∧ len ≤ 100) := by show 1 ≤ X2 ∧ X2 ≤ len - m ∧ _; exact ⟨hpos.1, hpos.2, ham, hkm, hfu, hlm⟩
          have HKX := Lib.hid hkx
          have hx2 : X2 ≤ 100 := by have := hpos.2; omega
          clear hX hgo hpos HLR HDL ham hfu hkx
          go_wp2_with (first | (go_at_call 20; (with_reducible (refine (HB.out _ (st_below H.out)).mono ?_)); rintro e wc ⟨xa, xc, rfl, hX, hb9⟩; have H2 := H.out.more (H.out.below hb9) (row_ex hX); clear hX hb9; clear H; have H := Lib.hid H2; clear H2) | (refine St.w_alloc (ty := 27) H.out (by rfl) rfl zEx_ rfl ?_; intro wn Cn _ _ H2; clear H; have H := Lib.hid H2; clear H2) | (first | (refine St.w_store (ty := 27) H.out (by rfl) rfl rfl rfl 0 rfl rfl rfl sEx_ (all_one rfl) ?_; intro wn _ _ H2; clear H; have H := Lib.hid H2; clear H2) | (refine St.w_store (ty := 27) H.out (by rfl) rfl rfl rfl 1 rfl rfl rfl sEx_ (all_one rfl) ?_; intro wn _ _ H2; clear H; have H := Lib.hid H2; clear H2) | (refine St.w_store (ty := 27) H.out (by rfl) rfl rfl rfl 2 rfl rfl rfl sEx_ (all_one rfl) ?_; intro wn _ _ H2; clear H; have H := Lib.hid H2; clear H2)) | (first | (refine St.w_load1 (ty := 25) H.out (by rfl) rfl rfl 1 rfl rfl uSEx_ ?_)) | (first | (refine St.w_load (ty := 27) H.out (by rfl) rfl rfl 0 rfl uEx_ sEx_ ?_)) | (refine St.w_lit1 H.out (by rfl) rfl Tryz.underlying25 iExR2_ rfl rfl (by decide) (by decide) rfl rfl ?_; intro wl Cl H2; clear H; have H := Lib.hid H2; clear H2) | (refine St.w_append (r := exD X1) H.out (by rfl) rfl Tryz.underlying25 iExR_ rfl (by decide) (by decide) 0 rfl rfl rfl rfl rfl 0 rfl (exD_len _) (H.out.rowAt (j := 0) rfl) (by show (acc.map exD).length + 1 ≤ 1000000; rw [List.length_map]; exact HAC.out) ?_; intro wl ao9 cap9 _ H2; clear H; have H := Lib.hid H2; clear H2) | (first | (refine St.w_store1 (ty := 25) H.out (by rfl) rfl rfl rfl 2 rfl (Nat.le_of_ble_eq_true rfl) sSEx_ rfl ?_; intro wn _ _ H2; clear H; have H := Lib.hid H2; clear H2)))
          have e1 : (acc ++ [X1]).map exD = acc.map exD ++ [exD X1] := by rw [List.map_append]; rfl
          have e2 : (acc.map exD).length + 1 = (acc ++ [X1]).length := by rw [List.length_map, List.length_append]; rfl
          have e3 : (acc ++ [X1]).length = acc.length + 1 := by rw [List.length_append]; rfl
          have H2 : St (fun _ => False) w _ [(Cl, _), (Cn, _), (A, [.int .i64 p.k, .string ⟨p.nm.toArray⟩, .int .i64 p.v.k, .int .i64 p.v.n, .string ⟨p.v.t.toArray⟩, .string ⟨p.op.toArray⟩, .slice ao9 (acc.length + 1) cap9]), (R, [.int .i64 0, .string ⟨#[]⟩, .int .i64 0, .int .i64 0, .string ⟨#[]⟩, .string ⟨#[]⟩, .slice none 0 0])] _ _ := H.out
          have H3 := (H2.drop (L' := [(A, [.int .i64 p.k, .string ⟨p.nm.toArray⟩, .int .i64 p.v.k, .int .i64 p.v.n, .string ⟨p.v.t.toArray⟩, .string ⟨p.op.toArray⟩, .slice ao9 (acc.length + 1) cap9]), (R, [.int .i64 0, .string ⟨#[]⟩, .int .i64 0, .int .i64 0, .string ⟨#[]⟩, .string ⟨#[]⟩, .slice none 0 0])]) (.cons _ (.cons _ (List.Sublist.refl _)))).less (D' := []) (fun q hq => by cases hq)
          simp only [List.length_map] at H3
          rw [← e3] at H3
          obtain ⟨n1, n2, n3, n4, n5, n6⟩ := HNUM.out
          have n7 := HKX.out
          go_roundg (len - (m + X2))
          case measure => omega
          case rel => exact ⟨k + 1, m + X2, fu, acc ++ [X1], ao9, cap9, _, by rw [Int.natCast_add], by rw [Int.natCast_add]; rfl, by show St _ _ _ _ _ _; rw [e1]; exact H3, HGO, by omega, by omega, by rw [e3]; omega, by omega, by omega, by omega⟩
      · have HEND : Hid (n = 0 ∨ ¬ ((k : Int) < p.n ∧ 0 < ((p :: r).drop m).length)) := .inr (by rw [HDL.out]; omega)
        have hm2 : ¬ ((m : Int) < (len : Int)) := by omega
        have hm3 : (len : Int) ≤ (m : Int) := by omega
        go_wp2_with (first | (first | (refine St.w_load (ty := 27) H.out (by rfl) rfl rfl 0 rfl uEx_ sEx_ ?_) | (refine St.w_load (ty := 27) H.out (by rfl) rfl rfl 1 rfl uEx_ sEx_ ?_)) | (first | (refine St.w_store (ty := 27) H.out (by rfl) rfl rfl rfl 0 rfl rfl rfl sEx_ (all_one rfl) ?_; intro wn _ _ H2; clear H; have H := Lib.hid H2; clear H2) | (refine St.w_store (ty := 27) H.out (by rfl) rfl rfl rfl 1 rfl rfl rfl sEx_ (all_one rfl) ?_; intro wn _ _ H2; clear H; have H := Lib.hid H2; clear H2) | (refine St.w_store (ty := 27) H.out (by rfl) rfl rfl rfl 2 rfl rfl rfl sEx_ (all_one rfl) ?_; intro wn _ _ H2; clear H; have H := Lib.hid H2; clear H2)))
        refine bodyPost_ret (H.out.results2 Tryz.results20 (by rfl) 1 rfl uEx_ sEx_) rfl ?_
        rw [buildX, loopRel_end HLR.out HEND.out]
        have H3 := H.out.shut.drop (L' := []) (.cons _ (.cons _ (List.Sublist.refl _)))
        exact ⟨ao, cp, rfl, (by show Rep _ _ (.sl 7 (exDs acc)) _; rw [exDs_map]; exact (repR (H3.rowAt (j := 0) rfl)).weak fun b _ ho => ho.1), st_below H3⟩
    · have HEND : Hid (n = 0 ∨ ¬ ((k : Int) < p.n ∧ 0 < ((p :: r).drop m).length)) := .inr (fun h => hk h.1)
      have hk2 : p.n ≤ (k : Int) := by omega
      go_wp2_with (first | (first | (refine St.w_load (ty := 27) H.out (by rfl) rfl rfl 0 rfl uEx_ sEx_ ?_) | (refine St.w_load (ty := 27) H.out (by rfl) rfl rfl 1 rfl uEx_ sEx_ ?_)) | (first | (refine St.w_store (ty := 27) H.out (by rfl) rfl rfl rfl 0 rfl rfl rfl sEx_ (all_one rfl) ?_; intro wn _ _ H2; clear H; have H := Lib.hid H2; clear H2) | (refine St.w_store (ty := 27) H.out (by rfl) rfl rfl rfl 1 rfl rfl rfl sEx_ (all_one rfl) ?_; intro wn _ _ H2; clear H; have H := Lib.hid H2; clear H2) | (refine St.w_store (ty := 27) H.out (by rfl) rfl rfl rfl 2 rfl rfl rfl sEx_ (all_one rfl) ?_; intro wn _ _ H2; clear H; have H := Lib.hid H2; clear H2)))
      refine bodyPost_ret (H.out.results2 Tryz.results20 (by rfl) 1 rfl uEx_ sEx_) rfl ?_
      rw [buildX, loopRel_end HLR.out HEND.out]
      have H3 := H.out.shut.drop (L' := []) (.cons _ (.cons _ (List.Sublist.refl _)))
      exact ⟨ao, cp, rfl, (by show Rep _ _ (.sl 7 (exDs acc)) _; rw [exDs_map]; exact (repR (H3.rowAt (j := 0) rfl)).weak fun b _ ho => ho.1), st_below H3⟩
theorem build_any : ∀ (n d : Nat), d + n = 60 → BuildOk n d
  | 0, d, h => build_node 0 d h (fun n' e => absurd e (by omega))
  | n + 1, d, h => build_node (n + 1) d h (fun n' e => by
    have e' : n' = n := by omega
    rw [e']
    exact build_any n (d + 1) (by omega))
end Go.Proofs.YtonkjhmkppeagaaGreatDoor.Pz
