/- Walks: an expression as the document has it. -/
import Derived.Test.YtonkjhmkppeagaaGreatDoorMTxA
import Derived.Test.YtonkjhmkppeagaaGreatDoorMPsC
import Derived.RegionTactic
import Derived.BigRegion
import Derived.Test.YtonkjhmkppeagaaGreatDoorMVal
import Derived.Test.YtonkjhmkppeagaaGreatDoorMTxB
set_option linter.unusedVariables false
set_option linter.unusedSimpArgs false
namespace Go.Proofs.YtonkjhmkppeagaaGreatDoor.Pz
open Go.RowKit Go Go.Sort Ba Lx

mutual
def rfD : Ex → List Dat
  | .mk k nm v op xs => [dI k, dS nm, dS op, dI v.k, dI v.n, dS v.t, .sl 7 (rfDs xs)]
def rfDs : List Ex → List (List Dat)
  | [] => []
  | x :: r => rfD x :: rfDs r
end
theorem rfD_eq (x : Ex) : rfD x = [dI x.k, dS x.nm, dS x.op, dI x.v.k, dI x.v.n, dS x.v.t, .sl 7 (rfDs x.xs)] := by cases x; rw [rfD]; rfl
theorem rfDs_map : ∀ xs : List Ex, rfDs xs = xs.map rfD
  | [] => by rw [rfDs]; rfl
  | x :: r => by rw [rfDs, rfDs_map r]; rfl
theorem rfD_len (x : Ex) : (rfD x).length = 7 := by rw [rfD_eq]; rfl
abbrev rfC (x : Ex) (sl : Value) : List Value := [.int .i64 x.k, .string ⟨x.nm.toArray⟩, .string ⟨x.op.toArray⟩, .int .i64 x.v.k, .int .i64 x.v.n, .string ⟨x.v.t.toArray⟩, sl]
abbrev rfV (x : Ex) (sl : Value) : Value := .agg #[.int .i64 x.k, .string ⟨x.nm.toArray⟩, .string ⟨x.op.toArray⟩, .int .i64 x.v.k, .int .i64 x.v.n, .string ⟨x.v.t.toArray⟩, sl]
abbrev RArgs (W : World) (ok : Nat → Prop) (sl : Value) (xs : List Ex) : Prop := Rep W ok (.sl 7 (rfDs xs)) sl
theorem RArgs.len {ok : Nat → Prop} {W : World} {v : Value} {xs : List Ex} (h : RArgs W ok v xs) : ∃ ao cap, v = .slice ao xs.length cap ∧ xs.length ≤ cap ∧ cap ≤ maxLen := by
  have := Rep.len h
  rw [rfDs_map, List.length_map] at this
  exact this
theorem row_rf {ok : Nat → Prop} {W : World} {x : Ex} {sl : Value} (h : RArgs W ok sl x.xs) : Row W ok (rfD x) (rfC x sl) := by
  rw [rfD_eq]
  exact (((((((Row.nil W ok).cons h).cons (.v _ rfl)).cons (.v _ rfl)).cons (.v _ rfl)).cons (.v _ rfl)).cons (.v _ rfl)).cons (.v _ rfl)
theorem rf_row {ok : Nat → Prop} {W : World} {x : Ex} {cs : List Value} (h : Row W ok (rfD x) cs) : ∃ sl, cs = rfC x sl ∧ RArgs W ok sl x.xs := by
  rw [rfD_eq] at h
  obtain ⟨c0, r0, rfl, h0, h⟩ := h.uncons
  obtain ⟨c1, r1, rfl, h1, h⟩ := h.uncons
  obtain ⟨c2, r2, rfl, h2, h⟩ := h.uncons
  obtain ⟨c3, r3, rfl, h3, h⟩ := h.uncons
  obtain ⟨c4, r4, rfl, h4, h⟩ := h.uncons
  obtain ⟨c5, r5, rfl, h5, h⟩ := h.uncons
  obtain ⟨c6, r6, rfl, h6, h⟩ := h.uncons
  obtain rfl := h.unnil
  obtain rfl := h0.val
  obtain rfl := h1.val
  obtain rfl := h2.val
  obtain rfl := h3.val
  obtain rfl := h4.val
  obtain rfl := h5.val
  exact ⟨c6, rfl, h6⟩
def RefTo (w : World) (x : Ex) (e : Ending) (w' : World) : Prop := ∃ ao cp, e = .returned (rfV x (.slice ao x.xs.length cp)) ∧ RArgs w' (fun b => w.heap.size ≤ b) (.slice ao x.xs.length cp) x.xs ∧ Below w.heap.size w w'
/-- No row of arguments is great. -/
inductive Sm : Ex → Prop
  | mk (x : Ex) (h : x.xs.length ≤ 600000) (hx : ∀ a ∈ x.xs, Sm a) : Sm x
def RefOk (x : Ex) : Prop := ∀ (sa : Option Addr) (ca : Nat) (w : World) (ok : Nat → Prop), XArgs w ok (.slice sa x.xs.length ca) x.xs → Sm x → Calls Tryz.prog 18 #[exV x (.slice sa x.xs.length ca)] w (RefTo w x)
theorem infoRf : (Tryz.prog.info? 37).map (fun i => (i.zero, i.size, i.bytes)) = some (some (.agg #[.int .i64 0, .string ⟨#[]⟩, .string ⟨#[]⟩, .int .i64 0, .int .i64 0, .string ⟨#[]⟩, .slice none 0 0]), 7, 96) := by kernel_rfl
theorem rfDs_take {xs : List Ex} {k : Nat} {a : Ex} (h : xs[k]? = some a) : rfDs (xs.take (k + 1)) = rfDs (xs.take k) ++ [rfD a] := by
  rw [rfDs_map, rfDs_map, List.take_add_one, h, List.map_append]; rfl
set_option maxRecDepth 100000 in
set_option maxHeartbeats 6400000 in
theorem ref_node (x : Ex) (ih : ∀ a ∈ x.xs, RefOk a) : RefOk x := fun sa ca w ok hA hsm => by
  obtain ⟨i0, hi, hz0, hz1, hz2⟩ := info_parts infoRf
  obtain ⟨_, hcnt, hsm2⟩ := hsm
  have HIH := Lib.hid (fun (a : Ex) (ha : a ∈ x.xs) => fun sa ca w ok h => ih a ha sa ca w ok h (hsm2 a ha))
  have hXA := Lib.hid (fun W (hW : Below w.heap.size w W) => hA.below hW)
  obtain ⟨n, hn⟩ : ∃ n, x.xs.length = n := ⟨_, rfl⟩
  rw [hn] at hXA hcnt ⊢
  have HN := Lib.hid hn
  have bw : Below w.heap.size w (((w.alloc (.cells #[.int .i64 x.k, .string ⟨x.nm.toArray⟩, .int .i64 x.v.k, .int .i64 x.v.n, .string ⟨x.v.t.toArray⟩, .string ⟨x.op.toArray⟩, .slice sa n ca] 27)).alloc (.cells #[.int .i64 0, .string ⟨#[]⟩, .string ⟨#[]⟩, .int .i64 0, .int .i64 0, .string ⟨#[]⟩, .slice none 0 0] 37)).alloc (.cells #[.int .i64 x.k, .string ⟨x.nm.toArray⟩, .string ⟨x.op.toArray⟩, .int .i64 x.v.k, .int .i64 x.v.n, .string ⟨x.v.t.toArray⟩, .slice none 0 0] 37)) := (((Below.refl _ w).alloc (Nat.le_refl _) _).alloc (by simp) _).alloc (by simp; omega) _
  have Q0 : Box (((w.alloc (.cells #[.int .i64 x.k, .string ⟨x.nm.toArray⟩, .int .i64 x.v.k, .int .i64 x.v.n, .string ⟨x.v.t.toArray⟩, .string ⟨x.op.toArray⟩, .slice sa n ca] 27)).alloc (.cells #[.int .i64 0, .string ⟨#[]⟩, .string ⟨#[]⟩, .int .i64 0, .int .i64 0, .string ⟨#[]⟩, .slice none 0 0] 37)).alloc (.cells #[.int .i64 x.k, .string ⟨x.nm.toArray⟩, .string ⟨x.op.toArray⟩, .int .i64 x.v.k, .int .i64 x.v.n, .string ⟨x.v.t.toArray⟩, .slice none 0 0] 37)) (w.heap.size + 1) [.int .i64 0, .string ⟨#[]⟩, .string ⟨#[]⟩, .int .i64 0, .int .i64 0, .string ⟨#[]⟩, .slice none 0 0] := by
    have := (Box.new (w.alloc (.cells #[.int .i64 x.k, .string ⟨x.nm.toArray⟩, .int .i64 x.v.k, .int .i64 x.v.n, .string ⟨x.v.t.toArray⟩, .string ⟨x.op.toArray⟩, .slice sa n ca] 27)) [.int .i64 0, .string ⟨#[]⟩, .string ⟨#[]⟩, .int .i64 0, .int .i64 0, .string ⟨#[]⟩, .slice none 0 0] 37).alloc (.cells #[.int .i64 x.k, .string ⟨x.nm.toArray⟩, .string ⟨x.op.toArray⟩, .int .i64 x.v.k, .int .i64 x.v.n, .string ⟨x.v.t.toArray⟩, .slice none 0 0] 37)
    rw [World.size_alloc] at this
    exact this
  have O0 : Box (((w.alloc (.cells #[.int .i64 x.k, .string ⟨x.nm.toArray⟩, .int .i64 x.v.k, .int .i64 x.v.n, .string ⟨x.v.t.toArray⟩, .string ⟨x.op.toArray⟩, .slice sa n ca] 27)).alloc (.cells #[.int .i64 0, .string ⟨#[]⟩, .string ⟨#[]⟩, .int .i64 0, .int .i64 0, .string ⟨#[]⟩, .slice none 0 0] 37)).alloc (.cells #[.int .i64 x.k, .string ⟨x.nm.toArray⟩, .string ⟨x.op.toArray⟩, .int .i64 x.v.k, .int .i64 x.v.n, .string ⟨x.v.t.toArray⟩, .slice none 0 0] 37)) (w.heap.size + 2) [.int .i64 x.k, .string ⟨x.nm.toArray⟩, .string ⟨x.op.toArray⟩, .int .i64 x.v.k, .int .i64 x.v.n, .string ⟨x.v.t.toArray⟩, .slice none 0 0] := by
    have := Box.new ((w.alloc (.cells #[.int .i64 x.k, .string ⟨x.nm.toArray⟩, .int .i64 x.v.k, .int .i64 x.v.n, .string ⟨x.v.t.toArray⟩, .string ⟨x.op.toArray⟩, .slice sa n ca] 27)).alloc (.cells #[.int .i64 0, .string ⟨#[]⟩, .string ⟨#[]⟩, .int .i64 0, .int .i64 0, .string ⟨#[]⟩, .slice none 0 0] 37)) [.int .i64 x.k, .string ⟨x.nm.toArray⟩, .string ⟨x.op.toArray⟩, .int .i64 x.v.k, .int .i64 x.v.n, .string ⟨x.v.t.toArray⟩, .slice none 0 0] 37
    rw [World.size_alloc, World.size_alloc] at this
    exact this
  have X0 := ((Box.new w [.int .i64 x.k, .string ⟨x.nm.toArray⟩, .int .i64 x.v.k, .int .i64 x.v.n, .string ⟨x.v.t.toArray⟩, .string ⟨x.op.toArray⟩, .slice sa n ca] 27).alloc (.cells #[.int .i64 0, .string ⟨#[]⟩, .string ⟨#[]⟩, .int .i64 0, .int .i64 0, .string ⟨#[]⟩, .slice none 0 0] 37)).alloc (.cells #[.int .i64 x.k, .string ⟨x.nm.toArray⟩, .string ⟨x.op.toArray⟩, .int .i64 x.v.k, .int .i64 x.v.n, .string ⟨x.v.t.toArray⟩, .slice none 0 0] 37)
  have hzO : Hid ((((w.alloc (.cells #[.int .i64 x.k, .string ⟨x.nm.toArray⟩, .int .i64 x.v.k, .int .i64 x.v.n, .string ⟨x.v.t.toArray⟩, .string ⟨x.op.toArray⟩, .slice sa n ca] 27)).alloc (.cells #[.int .i64 0, .string ⟨#[]⟩, .string ⟨#[]⟩, .int .i64 0, .int .i64 0, .string ⟨#[]⟩, .slice none 0 0] 37)).alloc (.cells #[.int .i64 x.k, .string ⟨x.nm.toArray⟩, .string ⟨x.op.toArray⟩, .int .i64 x.v.k, .int .i64 x.v.n, .string ⟨x.v.t.toArray⟩, .slice none 0 0] 37)).heap.size = w.heap.size + 3) := by show _ = _; simp
  clear hA hn ih hsm2
  have HB := Lib.hid bw
  clear bw
  go_enter Tryz.func18, Tryz.ntmps18
  go_wp2_with fail
  generalize (((w.alloc (.cells #[.int .i64 x.k, .string ⟨x.nm.toArray⟩, .int .i64 x.v.k, .int .i64 x.v.n, .string ⟨x.v.t.toArray⟩, .string ⟨x.op.toArray⟩, .slice sa n ca] 27)).alloc (.cells #[.int .i64 0, .string ⟨#[]⟩, .string ⟨#[]⟩, .int .i64 0, .int .i64 0, .string ⟨#[]⟩, .slice none 0 0] 37)).alloc (.cells #[.int .i64 x.k, .string ⟨x.nm.toArray⟩, .string ⟨x.op.toArray⟩, .int .i64 x.v.k, .int .i64 x.v.n, .string ⟨x.v.t.toArray⟩, .slice none 0 0] 37)) = W1 at *
  obtain ⟨x0, x1, x2, x3, x4, x5, x6⟩ := X0.seven
  go_wp2_with fail
  clear x0 x1 x2 x3 x4 x5 x6 X0
  go_loopw [26] (fun i wr => ∃ (k : Nat) (ao : Option Addr) (cp : Nat) (cells : List (List Value)), k ≤ n ∧ i = .int .i64 k ∧ Hid (Own wr W1.heap.size 37 7 (.slice ao k cp) (rfDs (x.xs.take k)) cells) ∧ Hid (Box wr (w.heap.size + 2) [.int .i64 x.k, .string ⟨x.nm.toArray⟩, .string ⟨x.op.toArray⟩, .int .i64 x.v.k, .int .i64 x.v.n, .string ⟨x.v.t.toArray⟩, .slice ao k cp]) ∧ Hid (Box wr (w.heap.size + 1) [.int .i64 0, .string ⟨#[]⟩, .string ⟨#[]⟩, .int .i64 0, .int .i64 0, .string ⟨#[]⟩, .slice none 0 0]) ∧ Hid (Below w.heap.size w wr) ∧ Hid (W1.heap.size ≤ wr.heap.size)) (fun i _ => n - (intOf i).toNat)
  case atStart => exact ⟨0, none, 0, [], Nat.zero_le _, rfl, (by rw [List.take_zero, rfDs]; exact Own.nil _ _ _ _ : Own W1 W1.heap.size 37 7 (.slice none 0 0) (rfDs (x.xs.take 0)) []), O0, Q0, HB.out, (Nat.le_refl _ : W1.heap.size ≤ W1.heap.size)⟩
  case round =>
    clear O0 Q0
    obtain ⟨k, ao, cp, cells, hk, rfl, HO, HOB, HQB, HW, HZ⟩ := hrel
    by_cases hlt : k < n
    · obtain ⟨a, ha⟩ : ∃ a, x.xs[k]? = some a := ⟨_, List.getElem?_eq_getElem (by rw [HN.out]; exact hlt)⟩
      obtain ⟨ub, uo, ua, uc, rfl, ul, _, uX, uF⟩ := arg7 (hXA.out wr HW.out) ha
      have u0 := uF 0 _ rfl
      have u1 := uF 1 _ rfl
      have u2 := uF 2 _ rfl
      have u3 := uF 3 _ rfl
      have u4 := uF 4 _ rfl
      have u5 := uF 5 _ rfl
      have u6 := uF 6 _ rfl
      rw [Nat.add_zero] at u0
      have bwa : Below wr.heap.size wr (wr.alloc (.cells #[.int .i64 a.k, .string ⟨a.nm.toArray⟩, .int .i64 a.v.k, .int .i64 a.v.n, .string ⟨a.v.t.toArray⟩, .string ⟨a.op.toArray⟩, .slice ua a.xs.length uc] 27)) := (Below.refl _ wr).alloc (Nat.le_refl _) _
      have hrl : (rfDs (x.xs.take k)).length = k := by rw [rfDs_map, List.length_map, List.length_take, HN.out]; omega
      have HRL := Lib.hid hrl
      have HTK := Lib.hid (rfDs_take ha)
      have T2' := (Box.new wr [.int .i64 a.k, .string ⟨a.nm.toArray⟩, .int .i64 a.v.k, .int .i64 a.v.n, .string ⟨a.v.t.toArray⟩, .string ⟨a.op.toArray⟩, .slice ua a.xs.length uc] 27).drew
      have O2' := (HOB.out.next bwa).drew
      have Q2' := (HQB.out.next bwa).drew
      have bwd : Below wr.heap.size wr (wr.alloc (.cells #[.int .i64 a.k, .string ⟨a.nm.toArray⟩, .int .i64 a.v.k, .int .i64 a.v.n, .string ⟨a.v.t.toArray⟩, .string ⟨a.op.toArray⟩, .slice ua a.xs.length uc] 27)).drew := below_drew bwa
      have HOW' := Lib.hid (HO.out.kept (S := fun _ => False) (Kept.of_below bwd) (fun _ _ h => h))
      have HOWT := Lib.hid (fun b (e : (Value.slice ao k cp).ownBlock = some b) => (HO.out.lt b e).2)
      have HRA' := Lib.hid (HIH.out a (List.mem_of_getElem? ha) ua uc _ ok (uX.below bwd))
      have HWD' := Lib.hid (two HW.out bwd)
      have hzT' : Hid (W1.heap.size ≤ wr.heap.size) := HZ.out
      clear uX uF ha bwa hrl HO HOB HQB bwd
      go_wp2_with fail
      obtain ⟨T, hT⟩ : ∃ T, wr.heap.size = T := ⟨_, rfl⟩
      rw [hT] at T2' HOWT hzT'
      try rw [hT]
      clear hT
      refine wp_region_M_drew 7 (S := fun W => (W.cell? ⟨w.heap.size + 2, 6, none⟩ = some (.slice ao k cp) ∧ W.cell? ⟨T, 0, none⟩ = some (.int .i64 a.k) ∧ W.cell? ⟨T, 1, none⟩ = some (.string ⟨a.nm.toArray⟩) ∧ W.cell? ⟨T, 2, none⟩ = some (.int .i64 a.v.k) ∧ W.cell? ⟨T, 3, none⟩ = some (.int .i64 a.v.n) ∧ W.cell? ⟨T, 4, none⟩ = some (.string ⟨a.v.t.toArray⟩) ∧ W.cell? ⟨T, 5, none⟩ = some (.string ⟨a.op.toArray⟩) ∧ W.cell? ⟨T, 6, none⟩ = some (.slice ua a.xs.length uc))) (by kernel_rfl) (by exact ⟨O2'.cl 6 _ rfl, T2'.seven⟩) (fun hHeld => ?_)
      generalize (wr.alloc (.cells #[.int .i64 a.k, .string ⟨a.nm.toArray⟩, .int .i64 a.v.k, .int .i64 a.v.n, .string ⟨a.v.t.toArray⟩, .string ⟨a.op.toArray⟩, .slice ua a.xs.length uc] 27)).drew = W2 at *
      have T2 := T2'
      have O2 := O2'
      have Q2 := Q2'
      have HOW := HOW'
      have HRA := HRA'
      have HWD := HWD'
      have hzT := hzT'
      clear T2' O2' Q2' HOW' HRA' HWD' hzT' u0 u1 u2 u3 u4 u5 u6
      refine wpAnyM_take (i := 0) (v := ?v7m) rfl (by kernel_rfl) (by kernel_rfl) (by kernel_rfl) (by kernel_rfl) (by kernel_rfl) (by kernel_rfl) (fun _ _ _ h => h) (Or.inl ⟨by rfl, ?hy7m⟩) hHeld ?rest7m
      case hy7m => (intro w hSw; (try dsimp only at hSw); go_simp <;> with_reducible rfl)
      try simp only [Array.reduceGetElem, Act.put, List.setIfInBounds_toArray, List.set_cons_zero, List.set_cons_succ]
      refine wpAnyM_take (i := 1) (v := ?v8m) rfl (by kernel_rfl) (by kernel_rfl) (by kernel_rfl) (by kernel_rfl) (by kernel_rfl) (by kernel_rfl) (fun _ _ _ h => h) (Or.inl ⟨by rfl, ?hy8m⟩) hHeld ?rest8m
      case hy8m => (intro w hSw; (try dsimp only at hSw); go_simp <;> with_reducible rfl)
      try simp only [Array.reduceGetElem, Act.put, List.setIfInBounds_toArray, List.set_cons_zero, List.set_cons_succ]
      refine wpAnyM_take (i := 2) (v := ?v9m) rfl (by kernel_rfl) (by kernel_rfl) (by kernel_rfl) (by kernel_rfl) (by kernel_rfl) (by kernel_rfl) (fun _ _ _ h => h) (Or.inl ⟨by rfl, ?hy9m⟩) hHeld ?rest9m
      case hy9m => (intro w hSw; (try dsimp only at hSw); go_simp <;> with_reducible rfl)
      try simp only [Array.reduceGetElem, Act.put, List.setIfInBounds_toArray, List.set_cons_zero, List.set_cons_succ]
      refine wpAnyM_ready (rs := [3]) (by kernel_rfl) (by simp) ?_
      refine AllReadyM.cons rfl (fun K hK => ?_) AllReadyM.nil
      go_simp
      go_at_call 18
      refine HRA.out.mono ?_
      rintro e w3 ⟨ra, rc, rfl, hR3, hb3⟩
      have T3 := T2.next hb3
      have O3 := O2.next hb3
      have Q3 := Q2.next hb3
      try dsimp only
      refine hK.out _ _ ?_ (fun hHeld2 => ?_)
      · exact ⟨O3.cl 6 _ rfl, T3.seven⟩
      clear hK K hHeld
      have hHeld := hHeld2
      clear hHeld2
      try simp only [Array.reduceGetElem, Act.put, List.setIfInBounds_toArray, List.set_cons_zero, List.set_cons_succ]
      refine wpAnyM_ready (rs := [4]) (by kernel_rfl) (by simp) ?_
      refine AllReadyM.cons rfl (fun K hK => ?_) AllReadyM.nil
      go_simp
      refine hK.out _ _ ?_ (fun hHeld2 => ?_)
      · exact ⟨(O3.alloc (.cells #[.int .i64 a.k, .string ⟨a.nm.toArray⟩, .string ⟨a.op.toArray⟩, .int .i64 a.v.k, .int .i64 a.v.n, .string ⟨a.v.t.toArray⟩, .slice ra a.xs.length rc] 37)).cl 6 _ rfl, (T3.alloc (.cells #[.int .i64 a.k, .string ⟨a.nm.toArray⟩, .string ⟨a.op.toArray⟩, .int .i64 a.v.k, .int .i64 a.v.n, .string ⟨a.v.t.toArray⟩, .slice ra a.xs.length rc] 37)).seven⟩
      clear hK K hHeld
      have hHeld := hHeld2
      clear hHeld2
      have T4 := T3.alloc (.cells #[.int .i64 a.k, .string ⟨a.nm.toArray⟩, .string ⟨a.op.toArray⟩, .int .i64 a.v.k, .int .i64 a.v.n, .string ⟨a.v.t.toArray⟩, .slice ra a.xs.length rc] 37)
      have O4 := O3.alloc (.cells #[.int .i64 a.k, .string ⟨a.nm.toArray⟩, .string ⟨a.op.toArray⟩, .int .i64 a.v.k, .int .i64 a.v.n, .string ⟨a.v.t.toArray⟩, .slice ra a.xs.length rc] 37)
      have Q4 := Q3.alloc (.cells #[.int .i64 a.k, .string ⟨a.nm.toArray⟩, .string ⟨a.op.toArray⟩, .int .i64 a.v.k, .int .i64 a.v.n, .string ⟨a.v.t.toArray⟩, .slice ra a.xs.length rc] 37)
      have G4 := Box.new w3 [.int .i64 a.k, .string ⟨a.nm.toArray⟩, .string ⟨a.op.toArray⟩, .int .i64 a.v.k, .int .i64 a.v.n, .string ⟨a.v.t.toArray⟩, .slice ra a.xs.length rc] 37
      have hb4 : Below W2.heap.size W2 (w3.alloc (.cells #[.int .i64 a.k, .string ⟨a.nm.toArray⟩, .string ⟨a.op.toArray⟩, .int .i64 a.v.k, .int .i64 a.v.n, .string ⟨a.v.t.toArray⟩, .slice ra a.xs.length rc] 37)) := hb3.alloc hb3.size _
      have hR4 := hR3.kept (S := fun _ => False) (Kept.of_below ((Below.refl _ w3).alloc (Nat.le_refl _) (.cells #[.int .i64 a.k, .string ⟨a.nm.toArray⟩, .string ⟨a.op.toArray⟩, .int .i64 a.v.k, .int .i64 a.v.n, .string ⟨a.v.t.toArray⟩, .slice ra a.xs.length rc] 37))) (fun _ _ _ h => h)
      generalize w3.alloc (.cells #[.int .i64 a.k, .string ⟨a.nm.toArray⟩, .string ⟨a.op.toArray⟩, .int .i64 a.v.k, .int .i64 a.v.n, .string ⟨a.v.t.toArray⟩, .slice ra a.xs.length rc] 37) = w4 at *
      try simp only [Array.reduceGetElem, Act.put, List.setIfInBounds_toArray, List.set_cons_zero, List.set_cons_succ]
      refine wpAnyM_ready (rs := [5]) (by kernel_rfl) (by simp) ?_
      refine AllReadyM.cons rfl (fun K hK => ?_) AllReadyM.nil
      have hOw := HOW.out.kept (S := fun _ => False) (Kept.of_below hb4) (fun _ _ h => h)
      have hrow := (row_rf hR4).weak (ok' := fun b => W1.heap.size ≤ b ∧ (Value.slice ao k cp).ownBlock ≠ some b) (fun b _ hb => ⟨by have := hzT.out; have := T2.lt; omega, fun e => by have := (HOW.out.lt b e).2; omega⟩)
      refine app_at (.tmp 31) (.tmp 34) 35 37 rfl Tryz.underlying35 hi hz0 hz1 hz2 rfl (by decide) (by decide) W1.heap.size _ (rfDs (x.xs.take k)) cells (rfD a) _ w3.heap.size hOw (rfD_len a) hrow rfl rfl (fun j u hj => G4.cl j u hj) (by rw [HRL.out]; omega) (by have := hzT.out; have := hb4.size; have := T2.lt; omega) (fun v1 w5 ho1 hg1 hd1 => ?_)
      have hgK : Kept (fun b => (Value.slice ao k cp).ownBlock = some b) w4 w5 := (Kept.refl _ w4).grown hg1 (fun b hb => .inl hb)
      have hoT : ∀ b, (Value.slice ao k cp).ownBlock = some b → W1.heap.size ≤ b ∧ b < T := fun b e => ⟨(HOW.out.lt b e).1, HOWT.out b e⟩
      have T5 := T4.kept hgK (fun e => by have := (hoT _ e).2; omega)
      have O5 := O4.kept hgK (fun e => by have := (hoT _ e).1; have := hzO.out; omega)
      have Q5 := Q4.kept hgK (fun e => by have := (hoT _ e).1; have := hzO.out; omega)
      obtain ⟨ao1, cp1, hv1⟩ := ho1.form
      have hlen1 : (rfDs (x.xs.take k) ++ [rfD a]).length = k + 1 := by rw [List.length_append, HRL.out]; rfl
      rw [hlen1] at hv1
      subst hv1
      try dsimp only
      refine hK.out _ _ ?_ (fun hHeld2 => ?_)
      · exact ⟨O5.cl 6 _ rfl, T5.seven⟩
      clear hK K hHeld
      have hHeld := hHeld2
      clear hHeld2
      have of6 := O5.fr 6 (by simp)
      have o6 := O5.cl 6 _ rfl
      try simp only [Array.reduceGetElem, Act.put, List.setIfInBounds_toArray, List.set_cons_zero, List.set_cons_succ]
      refine wpAnyM_take (i := 6) (v := ?v10m) rfl (by kernel_rfl) (by kernel_rfl) (by kernel_rfl) (by kernel_rfl) (by kernel_rfl) (by kernel_rfl) (fun _ _ _ h => h) (Or.inl ⟨by rfl, ?hy10m⟩) hHeld ?rest10m
      case hy10m => (intro w hSw; (try dsimp only at hSw); go_simp <;> with_reducible rfl)
      try simp only [Array.reduceGetElem, Act.put, List.setIfInBounds_toArray, List.set_cons_zero, List.set_cons_succ]
      refine wpAnyM_ready (rs := [7]) (by kernel_rfl) (by simp) ?_
      refine AllReadyM.last rfl (by kernel_rfl) (fun K hK => ?_) AllReadyM.nil
      go_simp
      try dsimp only
      refine hK.out _ _ ?_
      clear hK K
      try simp only [Array.reduceGetElem, Act.put, List.setIfInBounds_toArray, List.set_cons_zero, List.set_cons_succ]
      refine wpAnyM_done (by kernel_rfl) ?_ _
      go_wp2_with fail
      have hW5 : Below w.heap.size w w5 := (two HWD.out hb4).grown hg1 (two HWD.out hb4).size (fun b e => by have := (hoT b e).1; have := hzO.out; omega)
      go_roundw
      case rel => exact ⟨k + 1, ao1, cp1, cells ++ [rfC a (.slice ra a.xs.length rc)], by omega, by go_num, (by rw [HTK.out]; exact ho1.kept ((Kept.refl (fun b => b = w.heap.size + 2) w5).set ⟨w.heap.size + 2, 6, none⟩ (.inl rfl) _) (fun b hb e => by have e' : b = w.heap.size + 2 := e; have := hzO.out; omega)), O5.put 6 _, Q5.other (by omega) 6 _, hW5.setCell (p := ⟨w.heap.size + 2, 6, none⟩) (by show w.heap.size ≤ w.heap.size + 2; omega) _, (by show W1.heap.size ≤ (w5.setCell ⟨w.heap.size + 2, 6, none⟩ (.slice ao1 (k + 1) cp1)).heap.size; rw [World.size_setCell]; have := hg1.size; have := hb4.size; have := T2.lt; have := hzT.out; omega)⟩
      case measure => simp [intOf]; omega
    · obtain rfl : k = n := by omega
      have O3 := HOB.out
      have Q3 := HQB.out
      obtain ⟨y0, y1, y2, y3, y4, y5, y6⟩ := O3.seven
      obtain ⟨z0, z1, z2, z3, z4, z5, z6⟩ := Q3.seven
      obtain ⟨f0, f1, f2, f3, f4, f5, f6⟩ := Q3.free7
      go_wp2_with fail
      have SP := Q3.setN (vs := [.int .i64 x.k, .string ⟨x.nm.toArray⟩, .string ⟨x.op.toArray⟩, .int .i64 x.v.k, .int .i64 x.v.n, .string ⟨x.v.t.toArray⟩, .slice ao k cp]) rfl
      have K9 := Kept.setN (S := fun b => b = w.heap.size + 1) (B := w.heap.size + 1) (.inl rfl) [.int .i64 x.k, .string ⟨x.nm.toArray⟩, .string ⟨x.op.toArray⟩, .int .i64 x.v.k, .int .i64 x.v.n, .string ⟨x.v.t.toArray⟩, .slice ao k cp] 0 (Kept.refl _ wr)
      dsimp only [setN] at SP K9
      obtain ⟨p0, p1, p2, p3, p4, p5, p6⟩ := SP.seven
      refine bodyPost_ret (by simp [results, Tryz.results18, go_sem, p0, p1, p2, p3, p4, p5, p6]; try rfl) rfl ?_
      have htk : x.xs.take k = x.xs := by rw [← HN.out, List.take_length]
      have hrep := HO.out.rep
      rw [htk] at hrep
      have hz := hzO.out
      have hzz := HZ.out
      refine ⟨ao, cp, by rw [HN.out], ?_, ?_⟩
      · rw [HN.out]
        exact hrep.both K9 (fun b _ hb e => by have e' : b = w.heap.size + 1 := e; omega) (fun b _ hb => by omega)
      · exact HW.out.trans (K9.below (B := w.heap.size) (by omega) (fun b e => by omega))
theorem ref_any : ∀ x, RefOk x := Ex.ind fun k nm v op xs h => ref_node (.mk k nm v op xs) h
end Go.Proofs.YtonkjhmkppeagaaGreatDoor.Pz

set_option linter.unusedVariables false
set_option linter.unusedSimpArgs false
namespace Go.Proofs.YtonkjhmkppeagaaGreatDoor.Va
open Go.RowKit Go Ba

theorem byte_str {P : Program} (w : World) (src dst e : TypeId) (hs : P.underlying src = some (.slice e)) (he : P.underlying e = some (.int .u8)) (hd : P.underlying dst = some .string) (c : Int) (h0 : 0 ≤ c) (h1 : c ≤ 255) :
    (convert src dst (.slice (some ⟨w.heap.size, 0, none⟩) 1 1)).run P (w.alloc (.cells #[.int .u8 c] e)) = .ok (.string ⟨#[UInt8.ofNat c.toNat]⟩) (w.alloc (.cells #[.int .u8 c] e)) := by
  have hc : c = ((UInt8.ofNat c.toNat).toNat : Int) := by rw [UInt8.toNat_ofNat']; omega
  have hcur : (#[Value.int .u8 c] : Array Value).toList = bcells [UInt8.ofNat c.toNat] := by
    rw [bcells_one]
    exact congrArg (fun x => [Value.int .u8 x]) hc
  have hown := own_lit (w := w) (base := w.heap.size) (e := e) [UInt8.ofNat c.toNat] #[.int .u8 c] hcur (Nat.le_refl _) (by unfold maxLen; simp only [List.length_cons, List.length_nil]; omega)
  exact run_string_of_own src dst e hs he hd hown rfl
theorem dec_len (n : Int) (h0 : 0 ≤ n) (h1 : n ≤ 9223372036854775807) : (Lib.decDigits n.toNat).length ≤ 20 := by
  rw [Lib.decDigits_length]; exact Lib.nDigits_le20 _ (by omega)
/-- The digits of a number that is not below nothing. -/
theorem number_pos (d : Nat) : ∀ (n : Int) (w : World), 0 ≤ n → n < 10 ^ d → n ≤ 9223372036854775807 →
    Calls Tryz.prog 28 #[.int .i64 n] w fun e w' => e = .returned (.string ⟨(Lib.decDigits n.toNat).toArray⟩) ∧ Below w.heap.size w w' := by
  induction d with
  | zero =>
    intro n w h0 h1 h2
    obtain rfl : n = 0 := by omega
    have HD : Hid (Lib.decDigits (0 : Int).toNat = [48]) := by show Lib.decDigits 0 = [48]; decide +kernel
    have hst := fun w => byte_str (P := Tryz.prog) w 122 9 5 Tryz.underlying122 Tryz.underlying5 Tryz.underlying9 48 (by omega) (by omega)
    go_enter Tryz.func28, Tryz.ntmps28
    go_wp2_with fail
    go_ret
    exact ⟨by rw [HD.out]; rfl, by go_grown⟩
  | succ d ih =>
    intro n w h0 h1 h2
    have hst := fun w => byte_str (P := Tryz.prog) w 122 9 5 Tryz.underlying122 Tryz.underlying5 Tryz.underlying9 (48 + n % 10) (by omega) (by omega)
    by_cases h10 : n < 10
    · have HD : Hid (Lib.decDigits n.toNat = [UInt8.ofNat (48 + n % 10).toNat]) := by
        show Lib.decDigits n.toNat = _
        rw [Lib.decDigits_one (by omega)]
        congr 2
        omega
      clear h1
      go_enter Tryz.func28, Tryz.ntmps28
      go_wp2_with fail
      go_ret
      exact ⟨by rw [HD.out]; rfl, by go_grown⟩
    · have hq : n / 10 < 10 ^ d := by rw [Int.pow_succ] at h1; omega
      have hl := dec_len (n / 10) (by omega) (by omega)
      have HD : Hid (Lib.decDigits n.toNat = Lib.decDigits (n / 10).toNat ++ [UInt8.ofNat (48 + n % 10).toNat]) := by
        show Lib.decDigits n.toNat = _
        rw [Lib.decDigits, dif_neg (by omega)]
        congr 2
        · omega
        · congr 2; omega
      have HI := Lib.hid (fun w => ih (n / 10) w (by omega) hq (by omega))
      obtain ⟨X, hX⟩ : ∃ X : ByteArray, X = ⟨(Lib.decDigits (n / 10).toNat).toArray⟩ := ⟨_, rfl⟩
      have hXs : X.size ≤ 20 := by rw [hX, str_size]; exact hl
      rw [← hX] at HI
      have HX := Lib.hid hX
      clear hX hl h1 hq ih
      go_enter Tryz.func28, Tryz.ntmps28
      go_wp2_with fail
      refine (HI.out _).mono ?_
      rintro e w1 ⟨rfl, hb⟩
      have b1 := two (w := w) (by go_grown) hb
      clear hb
      go_wp2_with fail
      go_ret
      refine ⟨ret_str ?_, b1⟩
      rw [HD.out, HX.out]
      exact str_add _ _
theorem tmod_m {n m : Int} (h : n = -m) (h0 : 0 ≤ m) : n.tmod 10 = -(m % 10) := by
  subst h; rw [Int.neg_tmod, Int.tmod_eq_emod_of_nonneg h0]
theorem tdiv_m {n m : Int} (h : n = -m) (h0 : 0 ≤ m) : n.tdiv 10 = -(m / 10) := by
  subst h; rw [Int.neg_tdiv, Int.tdiv_eq_ediv_of_nonneg h0]
/-- A number in decimal digits. -/
theorem number_any (n : Int) (w : World) (n0 : -9223372036854775808 ≤ n) (n1 : n ≤ 9223372036854775807) :
    Calls Tryz.prog 28 #[.int .i64 n] w fun e w' => e = .returned (.string ⟨(Lib.itoa n).toArray⟩) ∧ Below w.heap.size w w' := by
  by_cases h0 : 0 ≤ n
  · have e : Lib.itoa n = Lib.decDigits n.toNat := by unfold Lib.itoa; rw [if_neg (by omega)]
    rw [e]
    exact number_pos 19 n w h0 (by omega) n1
  · obtain ⟨m, hm⟩ : ∃ m : Int, n = -m := ⟨-n, by omega⟩
    have hm1 : 1 ≤ m := by omega
    have hm2 : m ≤ 9223372036854775808 := by omega
    have e : Lib.itoa n = 45 :: Lib.decDigits m.toNat := by
      unfold Lib.itoa; rw [if_pos (by omega)]
      congr 2; omega
    have ht := tmod_m hm (by omega)
    have hd := tdiv_m hm (by omega)
    have hst := fun w => byte_str (P := Tryz.prog) w 122 9 5 Tryz.underlying122 Tryz.underlying5 Tryz.underlying9 (48 + m % 10) (by omega) (by omega)
    have hs := fun w => byte_str (P := Tryz.prog) w 122 9 5 Tryz.underlying122 Tryz.underlying5 Tryz.underlying9 (48 - n.tmod 10) (by rw [ht]; omega) (by rw [ht]; omega)
    have he : 48 - n.tmod 10 = 48 + m % 10 := by rw [ht]; omega
    have hlo : 0 ≤ 48 - n.tmod 10 := by rw [ht]; omega
    have hhi : 48 - n.tmod 10 ≤ 255 := by rw [ht]; omega
    by_cases h10 : n ≤ -10
    · have HI := Lib.hid (fun w => number_pos 19 (m / 10) w (by omega) (by omega) (by omega))
      have HD : Hid (Lib.decDigits m.toNat = Lib.decDigits (m / 10).toNat ++ [UInt8.ofNat (48 - n.tmod 10).toNat]) := by
        show Lib.decDigits m.toNat = _
        rw [he, Lib.decDigits, dif_neg (by omega)]
        congr 2
        · omega
        · congr 2; omega
      have hl := dec_len (m / 10) (by omega) (by omega)
      obtain ⟨X, hX⟩ : ∃ X : ByteArray, X = ⟨(Lib.decDigits (m / 10).toNat).toArray⟩ := ⟨_, rfl⟩
      have hXs : X.size ≤ 20 := by rw [hX, str_size]; exact hl
      rw [← hX] at HI
      have HX := Lib.hid hX
      have hneg : -(n.tdiv 10) = m / 10 := by rw [hd]; omega
      have hr0 : 0 ≤ -(n.tdiv 10) := by rw [hneg]; omega
      have hr1 : -(n.tdiv 10) ≤ 9223372036854775807 := by rw [hneg]; omega
      rw [← hneg] at HI
      have HE := Lib.hid e
      clear hX hl e ht hd he hst hneg hm
      go_enter Tryz.func28, Tryz.ntmps28
      go_wp2_with fail
      refine (HI.out _).mono ?_
      rintro e w1 ⟨rfl, hb⟩
      have b1 := two (w := w) (by go_grown) hb
      clear hb
      go_wp2_with fail
      go_ret
      refine ⟨ret_str ?_, b1⟩
      rw [HE.out, HD.out, HX.out]
      exact (congrArg (fun x => (⟨#[45]⟩ : ByteArray) ++ x) (str_add _ _)).trans (str_add _ _)
    · have HD : Hid (Lib.decDigits m.toNat = [UInt8.ofNat (48 - n.tmod 10).toNat]) := by
        show Lib.decDigits m.toNat = _
        rw [he, Lib.decDigits_one (by omega)]
        congr 2
        omega
      have HE := Lib.hid e
      clear e ht hd he hst hm
      go_enter Tryz.func28, Tryz.ntmps28
      go_wp2_with fail
      go_ret
      refine ⟨ret_str ?_, by go_grown⟩
      rw [HE.out, HD.out]
      exact str_add _ _

set_option maxHeartbeats 1600000 in
theorem refShow_any (k n : Int) (s : ByteArray) (w : World) (hr : rightB k n s = true) (n0 : -9223372036854775808 ≤ n) (n1 : n ≤ 9223372036854775807) :
    Calls Tryz.prog 47 #[.agg #[.int .i64 k, .int .i64 n, .string s]] w fun e w' => e = .returned (.string ⟨(showL k n s).toArray⟩) ∧ Below w.heap.size w w' := by
  obtain ⟨hk, h64⟩ := right_text hr
  have HR := Lib.hid hr
  clear hr
  rcases hk with rfl | rfl | rfl
  · have HS : Hid (showL 0 n s = [110, 117, 108, 108]) := by show showL 0 n s = _; unfold showL; rw [if_pos HR.out, if_pos rfl]
    go_enter Tryz.func47, Tryz.ntmps47
    go_wp2_with fail
    go_ret
    exact ⟨by rw [HS.out]; rfl, by go_grown⟩
  · have HS : Hid (showL 1 n s = Lib.itoa n) := by show showL 1 n s = _; unfold showL; rw [if_pos HR.out]; simp
    go_enter Tryz.func47, Tryz.ntmps47
    go_wp2_with fail
    refine (number_any n _ n0 n1).mono ?_
    rintro e w1 ⟨rfl, hb⟩
    have b1 := two (w := w) (by go_grown) hb
    go_wp2_with fail
    go_ret
    exact ⟨by rw [HS.out]; rfl, b1⟩
  · have HS : Hid (showL 2 n s = quotedL s.data.toList) := by show showL 2 n s = _; unfold showL; rw [if_pos HR.out]; simp
    go_enter Tryz.func47, Tryz.ntmps47
    go_wp2_with fail
    go_loop [3, 4] (fun v i => ∃ k : Nat, k ≤ s.size ∧ i = .int .i64 k ∧ ∃ x : ByteArray, v = .string x ∧ x.data.toList = 34 :: esc (s.data.toList.take k)) (fun _ i => s.size - (intOf i).toNat)
    case atStart => exact ⟨0, by omega, rfl, _, rfl, rfl⟩
    case round =>
      obtain ⟨k, hk, rfl, x, rfl, hx⟩ := hrel
      have hxs : x.size ≤ 8193 := by
        rw [size_data, hx]
        exact quoted_bd s.data.toList k (by rw [← size_list]; omega)
      by_cases hlt : k < s.size
      · obtain ⟨b, hbk⟩ := bat s k hlt
        have hat := str_at hlt hbk
        have HX := Lib.hid hx
        have HST := Lib.hid (quoted_step s.data.toList k b hbk)
        have HO := Lib.hid (one_data s k b hbk)
        have hsz : (s.extract k (k + 1)).size = 1 := by rw [size_data, HO.out]; rfl
        clear hx hbk
        by_cases h1 : (b.toNat : Int) = 34
        · have h2 : ((b.toNat : Int) == 34) = true := by simpa using h1
          have HB : Hid (esc [b] = [92, b]) := esc_yes b (.inl (byte_eq (by rw [h1]; rfl)))
          clear h1
          go_wp2_with fail
          go_round
          case rel => exact ⟨k + 1, by omega, by go_num, _, rfl, by rw [HST.out, HB.out, add_data, add_data, HX.out, HO.out]; simp⟩
          case measure => simp [intOf]; omega
        by_cases h3 : (b.toNat : Int) = 92
        · have h2 : ((b.toNat : Int) == 34) = false := by simpa using h1
          have h4 : ((b.toNat : Int) == 92) = true := by simpa using h3
          have HB : Hid (esc [b] = [92, b]) := esc_yes b (.inr (byte_eq (by rw [h3]; rfl)))
          clear h1 h3
          go_wp2_with fail
          go_round
          case rel => exact ⟨k + 1, by omega, by go_num, _, rfl, by rw [HST.out, HB.out, add_data, add_data, HX.out, HO.out]; simp⟩
          case measure => simp [intOf]; omega
        · have h2 : ((b.toNat : Int) == 34) = false := by simpa using h1
          have h4 : ((b.toNat : Int) == 92) = false := by simpa using h3
          have HB : Hid (esc [b] = [b]) := esc_no b (fun h => by rcases h with rfl | rfl <;> simp at h1 h3)
          clear h1 h3
          go_wp2_with fail
          go_round
          case rel => exact ⟨k + 1, by omega, by go_num, _, rfl, by rw [HST.out, HB.out, add_data, HX.out, HO.out]⟩
          case measure => simp [intOf]; omega
      · have ek : k = s.size := by omega
        have HK : Hid (34 :: esc (s.data.toList.take k) ++ [34] = quotedL s.data.toList) := by
          show 34 :: esc (s.data.toList.take k) ++ [34] = _
          rw [ek, size_list, List.take_length]; rfl
        have HX := Lib.hid hx
        clear ek hx
        go_wp2_with fail
        go_ret
        exact ⟨ret_str (str_of (by rw [HS.out, ← HK.out, add_data, HX.out])), by go_grown⟩

end Go.Proofs.YtonkjhmkppeagaaGreatDoor.Va

set_option linter.unusedVariables false
set_option linter.unusedSimpArgs false
namespace Go.Proofs.YtonkjhmkppeagaaGreatDoor.Pz
open Go.RowKit Go Go.Sort Ba Lx

theorem op_cases {op : Str} (h : rankOp op ≠ 0) : op = [111, 114] ∨ op = [97, 110, 100] ∨ op = [61] ∨ op = [33, 61] ∨ op = [60] ∨ op = [60, 61] ∨ op = [62] ∨ op = [62, 61] ∨ op = [43] ∨ op = [45] ∨ op = [42] ∨ op = [47] ∨ op = [37] := by
  unfold rankOp at h
  split at h
  · rename_i e; exact .inl e
  split at h
  · rename_i e; exact .inr (.inl e)
  split at h
  · rename_i e
    unfold cmpOps at e
    simp only [List.mem_cons, List.not_mem_nil, or_false] at e
    rcases e with e | e | e | e | e | e <;> simp [e]
  split at h
  · rename_i e
    unfold sumOps at e
    simp only [List.mem_cons, List.not_mem_nil, or_false] at e
    rcases e with e | e <;> simp [e]
  split at h
  · rename_i e
    unfold prodOps at e
    simp only [List.mem_cons, List.not_mem_nil, or_false] at e
    rcases e with e | e | e <;> simp [e]
  · exact absurd rfl h
def TightTo (r : Int) (w : World) (e : Ending) (w' : World) : Prop := e = .returned (.int .i64 r) ∧ Below w.heap.size w w'
set_option maxRecDepth 100000 in
set_option maxHeartbeats 3200000 in
theorem tight_one (nm Y vt : ByteArray) (vk vn : Int) (sa : Option Addr) (n ca : Nat) (w : World) : Calls Tryz.prog 49 #[.agg #[.int .i64 1, .string nm, .string Y, .int .i64 vk, .int .i64 vn, .string vt, .slice sa n ca]] w (TightTo 8 w) := by
  have HB := Lib.hid ((Below.refl w.heap.size w).alloc (Nat.le_refl _) (.cells #[.int .i64 1, .string nm, .string Y, .int .i64 vk, .int .i64 vn, .string vt, .slice sa n ca] 37))
  have X := Box.new w [.int .i64 1, .string nm, .string Y, .int .i64 vk, .int .i64 vn, .string vt, .slice sa n ca] 37
  go_enter Tryz.func49, Tryz.ntmps49
  obtain ⟨x0, x1, x2, x3, x4, x5, x6⟩ := X.seven
  go_wp2_with fail
  go_ret
  exact ⟨rfl, HB.out⟩
set_option maxRecDepth 100000 in
set_option maxHeartbeats 3200000 in
theorem tight_five (nm Y vt : ByteArray) (vk vn : Int) (sa : Option Addr) (n ca : Nat) (w : World) : Calls Tryz.prog 49 #[.agg #[.int .i64 5, .string nm, .string Y, .int .i64 vk, .int .i64 vn, .string vt, .slice sa n ca]] w (TightTo 8 w) := by
  have HB := Lib.hid ((Below.refl w.heap.size w).alloc (Nat.le_refl _) (.cells #[.int .i64 5, .string nm, .string Y, .int .i64 vk, .int .i64 vn, .string vt, .slice sa n ca] 37))
  have X := Box.new w [.int .i64 5, .string nm, .string Y, .int .i64 vk, .int .i64 vn, .string vt, .slice sa n ca] 37
  go_enter Tryz.func49, Tryz.ntmps49
  obtain ⟨x0, x1, x2, x3, x4, x5, x6⟩ := X.seven
  go_wp2_with fail
  go_ret
  exact ⟨rfl, HB.out⟩
set_option maxRecDepth 100000 in
set_option maxHeartbeats 3200000 in
theorem tight_two (nm Y vt : ByteArray) (vk vn : Int) (sa : Option Addr) (n ca : Nat) (w : World) : Calls Tryz.prog 49 #[.agg #[.int .i64 2, .string nm, .string Y, .int .i64 vk, .int .i64 vn, .string vt, .slice sa n ca]] w (TightTo (if vn < 0 then 7 else 8) w) := by
  have HB := Lib.hid ((Below.refl w.heap.size w).alloc (Nat.le_refl _) (.cells #[.int .i64 2, .string nm, .string Y, .int .i64 vk, .int .i64 vn, .string vt, .slice sa n ca] 37))
  have X := Box.new w [.int .i64 2, .string nm, .string Y, .int .i64 vk, .int .i64 vn, .string vt, .slice sa n ca] 37
  by_cases hn : vn < 0
  · rw [if_pos hn]
    go_enter Tryz.func49, Tryz.ntmps49
    obtain ⟨x0, x1, x2, x3, x4, x5, x6⟩ := X.seven
    go_wp2_with fail
    go_ret
    exact ⟨rfl, HB.out⟩
  · rw [if_neg hn]
    go_enter Tryz.func49, Tryz.ntmps49
    obtain ⟨x0, x1, x2, x3, x4, x5, x6⟩ := X.seven
    go_wp2_with fail
    go_ret
    exact ⟨rfl, HB.out⟩
set_option maxRecDepth 100000 in
set_option maxHeartbeats 3200000 in
theorem tight_not (nm vt : ByteArray) (vk vn : Int) (sa : Option Addr) (n ca : Nat) (w : World) : Calls Tryz.prog 49 #[.agg #[.int .i64 3, .string nm, .string ⟨#[110, 111, 116]⟩, .int .i64 vk, .int .i64 vn, .string vt, .slice sa n ca]] w (TightTo 3 w) := by
  have HB := Lib.hid ((Below.refl w.heap.size w).alloc (Nat.le_refl _) (.cells #[.int .i64 3, .string nm, .string ⟨#[110, 111, 116]⟩, .int .i64 vk, .int .i64 vn, .string vt, .slice sa n ca] 37))
  have X := Box.new w [.int .i64 3, .string nm, .string ⟨#[110, 111, 116]⟩, .int .i64 vk, .int .i64 vn, .string vt, .slice sa n ca] 37
  go_enter Tryz.func49, Tryz.ntmps49
  obtain ⟨x0, x1, x2, x3, x4, x5, x6⟩ := X.seven
  go_wp2_with fail
  go_ret
  exact ⟨rfl, HB.out⟩
set_option maxRecDepth 100000 in
set_option maxHeartbeats 3200000 in
theorem tight_neg (nm vt : ByteArray) (vk vn : Int) (sa : Option Addr) (n ca : Nat) (w : World) : Calls Tryz.prog 49 #[.agg #[.int .i64 3, .string nm, .string ⟨#[45]⟩, .int .i64 vk, .int .i64 vn, .string vt, .slice sa n ca]] w (TightTo 7 w) := by
  have HB := Lib.hid ((Below.refl w.heap.size w).alloc (Nat.le_refl _) (.cells #[.int .i64 3, .string nm, .string ⟨#[45]⟩, .int .i64 vk, .int .i64 vn, .string vt, .slice sa n ca] 37))
  have X := Box.new w [.int .i64 3, .string nm, .string ⟨#[45]⟩, .int .i64 vk, .int .i64 vn, .string vt, .slice sa n ca] 37
  go_enter Tryz.func49, Tryz.ntmps49
  obtain ⟨x0, x1, x2, x3, x4, x5, x6⟩ := X.seven
  go_wp2_with fail
  go_ret
  exact ⟨rfl, HB.out⟩
set_option maxRecDepth 100000 in
set_option maxHeartbeats 3200000 in
theorem tight_op0 (nm vt : ByteArray) (vk vn : Int) (sa : Option Addr) (n ca : Nat) (w : World) : Calls Tryz.prog 49 #[.agg #[.int .i64 4, .string nm, .string ⟨#[111, 114]⟩, .int .i64 vk, .int .i64 vn, .string vt, .slice sa n ca]] w (TightTo 1 w) := by
  have HB := Lib.hid ((Below.refl w.heap.size w).alloc (Nat.le_refl _) (.cells #[.int .i64 4, .string nm, .string ⟨#[111, 114]⟩, .int .i64 vk, .int .i64 vn, .string vt, .slice sa n ca] 37))
  have X := Box.new w [.int .i64 4, .string nm, .string ⟨#[111, 114]⟩, .int .i64 vk, .int .i64 vn, .string vt, .slice sa n ca] 37
  go_enter Tryz.func49, Tryz.ntmps49
  obtain ⟨x0, x1, x2, x3, x4, x5, x6⟩ := X.seven
  go_wp2_with fail
  go_ret
  exact ⟨rfl, HB.out⟩
set_option maxRecDepth 100000 in
set_option maxHeartbeats 3200000 in
theorem tight_op1 (nm vt : ByteArray) (vk vn : Int) (sa : Option Addr) (n ca : Nat) (w : World) : Calls Tryz.prog 49 #[.agg #[.int .i64 4, .string nm, .string ⟨#[97, 110, 100]⟩, .int .i64 vk, .int .i64 vn, .string vt, .slice sa n ca]] w (TightTo 2 w) := by
  have HB := Lib.hid ((Below.refl w.heap.size w).alloc (Nat.le_refl _) (.cells #[.int .i64 4, .string nm, .string ⟨#[97, 110, 100]⟩, .int .i64 vk, .int .i64 vn, .string vt, .slice sa n ca] 37))
  have X := Box.new w [.int .i64 4, .string nm, .string ⟨#[97, 110, 100]⟩, .int .i64 vk, .int .i64 vn, .string vt, .slice sa n ca] 37
  go_enter Tryz.func49, Tryz.ntmps49
  obtain ⟨x0, x1, x2, x3, x4, x5, x6⟩ := X.seven
  go_wp2_with fail
  go_ret
  exact ⟨rfl, HB.out⟩
set_option maxRecDepth 100000 in
set_option maxHeartbeats 3200000 in
theorem tight_op2 (nm vt : ByteArray) (vk vn : Int) (sa : Option Addr) (n ca : Nat) (w : World) : Calls Tryz.prog 49 #[.agg #[.int .i64 4, .string nm, .string ⟨#[61]⟩, .int .i64 vk, .int .i64 vn, .string vt, .slice sa n ca]] w (TightTo 4 w) := by
  have HB := Lib.hid ((Below.refl w.heap.size w).alloc (Nat.le_refl _) (.cells #[.int .i64 4, .string nm, .string ⟨#[61]⟩, .int .i64 vk, .int .i64 vn, .string vt, .slice sa n ca] 37))
  have X := Box.new w [.int .i64 4, .string nm, .string ⟨#[61]⟩, .int .i64 vk, .int .i64 vn, .string vt, .slice sa n ca] 37
  go_enter Tryz.func49, Tryz.ntmps49
  obtain ⟨x0, x1, x2, x3, x4, x5, x6⟩ := X.seven
  go_wp2_with fail
  go_ret
  exact ⟨rfl, HB.out⟩
set_option maxRecDepth 100000 in
set_option maxHeartbeats 3200000 in
theorem tight_op3 (nm vt : ByteArray) (vk vn : Int) (sa : Option Addr) (n ca : Nat) (w : World) : Calls Tryz.prog 49 #[.agg #[.int .i64 4, .string nm, .string ⟨#[33, 61]⟩, .int .i64 vk, .int .i64 vn, .string vt, .slice sa n ca]] w (TightTo 4 w) := by
  have HB := Lib.hid ((Below.refl w.heap.size w).alloc (Nat.le_refl _) (.cells #[.int .i64 4, .string nm, .string ⟨#[33, 61]⟩, .int .i64 vk, .int .i64 vn, .string vt, .slice sa n ca] 37))
  have X := Box.new w [.int .i64 4, .string nm, .string ⟨#[33, 61]⟩, .int .i64 vk, .int .i64 vn, .string vt, .slice sa n ca] 37
  go_enter Tryz.func49, Tryz.ntmps49
  obtain ⟨x0, x1, x2, x3, x4, x5, x6⟩ := X.seven
  go_wp2_with fail
  go_ret
  exact ⟨rfl, HB.out⟩
set_option maxRecDepth 100000 in
set_option maxHeartbeats 3200000 in
theorem tight_op4 (nm vt : ByteArray) (vk vn : Int) (sa : Option Addr) (n ca : Nat) (w : World) : Calls Tryz.prog 49 #[.agg #[.int .i64 4, .string nm, .string ⟨#[60]⟩, .int .i64 vk, .int .i64 vn, .string vt, .slice sa n ca]] w (TightTo 4 w) := by
  have HB := Lib.hid ((Below.refl w.heap.size w).alloc (Nat.le_refl _) (.cells #[.int .i64 4, .string nm, .string ⟨#[60]⟩, .int .i64 vk, .int .i64 vn, .string vt, .slice sa n ca] 37))
  have X := Box.new w [.int .i64 4, .string nm, .string ⟨#[60]⟩, .int .i64 vk, .int .i64 vn, .string vt, .slice sa n ca] 37
  go_enter Tryz.func49, Tryz.ntmps49
  obtain ⟨x0, x1, x2, x3, x4, x5, x6⟩ := X.seven
  go_wp2_with fail
  go_ret
  exact ⟨rfl, HB.out⟩
set_option maxRecDepth 100000 in
set_option maxHeartbeats 3200000 in
theorem tight_op5 (nm vt : ByteArray) (vk vn : Int) (sa : Option Addr) (n ca : Nat) (w : World) : Calls Tryz.prog 49 #[.agg #[.int .i64 4, .string nm, .string ⟨#[60, 61]⟩, .int .i64 vk, .int .i64 vn, .string vt, .slice sa n ca]] w (TightTo 4 w) := by
  have HB := Lib.hid ((Below.refl w.heap.size w).alloc (Nat.le_refl _) (.cells #[.int .i64 4, .string nm, .string ⟨#[60, 61]⟩, .int .i64 vk, .int .i64 vn, .string vt, .slice sa n ca] 37))
  have X := Box.new w [.int .i64 4, .string nm, .string ⟨#[60, 61]⟩, .int .i64 vk, .int .i64 vn, .string vt, .slice sa n ca] 37
  go_enter Tryz.func49, Tryz.ntmps49
  obtain ⟨x0, x1, x2, x3, x4, x5, x6⟩ := X.seven
  go_wp2_with fail
  go_ret
  exact ⟨rfl, HB.out⟩
set_option maxRecDepth 100000 in
set_option maxHeartbeats 3200000 in
theorem tight_op6 (nm vt : ByteArray) (vk vn : Int) (sa : Option Addr) (n ca : Nat) (w : World) : Calls Tryz.prog 49 #[.agg #[.int .i64 4, .string nm, .string ⟨#[62]⟩, .int .i64 vk, .int .i64 vn, .string vt, .slice sa n ca]] w (TightTo 4 w) := by
  have HB := Lib.hid ((Below.refl w.heap.size w).alloc (Nat.le_refl _) (.cells #[.int .i64 4, .string nm, .string ⟨#[62]⟩, .int .i64 vk, .int .i64 vn, .string vt, .slice sa n ca] 37))
  have X := Box.new w [.int .i64 4, .string nm, .string ⟨#[62]⟩, .int .i64 vk, .int .i64 vn, .string vt, .slice sa n ca] 37
  go_enter Tryz.func49, Tryz.ntmps49
  obtain ⟨x0, x1, x2, x3, x4, x5, x6⟩ := X.seven
  go_wp2_with fail
  go_ret
  exact ⟨rfl, HB.out⟩
set_option maxRecDepth 100000 in
set_option maxHeartbeats 3200000 in
theorem tight_op7 (nm vt : ByteArray) (vk vn : Int) (sa : Option Addr) (n ca : Nat) (w : World) : Calls Tryz.prog 49 #[.agg #[.int .i64 4, .string nm, .string ⟨#[62, 61]⟩, .int .i64 vk, .int .i64 vn, .string vt, .slice sa n ca]] w (TightTo 4 w) := by
  have HB := Lib.hid ((Below.refl w.heap.size w).alloc (Nat.le_refl _) (.cells #[.int .i64 4, .string nm, .string ⟨#[62, 61]⟩, .int .i64 vk, .int .i64 vn, .string vt, .slice sa n ca] 37))
  have X := Box.new w [.int .i64 4, .string nm, .string ⟨#[62, 61]⟩, .int .i64 vk, .int .i64 vn, .string vt, .slice sa n ca] 37
  go_enter Tryz.func49, Tryz.ntmps49
  obtain ⟨x0, x1, x2, x3, x4, x5, x6⟩ := X.seven
  go_wp2_with fail
  go_ret
  exact ⟨rfl, HB.out⟩
set_option maxRecDepth 100000 in
set_option maxHeartbeats 3200000 in
theorem tight_op8 (nm vt : ByteArray) (vk vn : Int) (sa : Option Addr) (n ca : Nat) (w : World) : Calls Tryz.prog 49 #[.agg #[.int .i64 4, .string nm, .string ⟨#[43]⟩, .int .i64 vk, .int .i64 vn, .string vt, .slice sa n ca]] w (TightTo 5 w) := by
  have HB := Lib.hid ((Below.refl w.heap.size w).alloc (Nat.le_refl _) (.cells #[.int .i64 4, .string nm, .string ⟨#[43]⟩, .int .i64 vk, .int .i64 vn, .string vt, .slice sa n ca] 37))
  have X := Box.new w [.int .i64 4, .string nm, .string ⟨#[43]⟩, .int .i64 vk, .int .i64 vn, .string vt, .slice sa n ca] 37
  go_enter Tryz.func49, Tryz.ntmps49
  obtain ⟨x0, x1, x2, x3, x4, x5, x6⟩ := X.seven
  go_wp2_with fail
  go_ret
  exact ⟨rfl, HB.out⟩
set_option maxRecDepth 100000 in
set_option maxHeartbeats 3200000 in
theorem tight_op9 (nm vt : ByteArray) (vk vn : Int) (sa : Option Addr) (n ca : Nat) (w : World) : Calls Tryz.prog 49 #[.agg #[.int .i64 4, .string nm, .string ⟨#[45]⟩, .int .i64 vk, .int .i64 vn, .string vt, .slice sa n ca]] w (TightTo 5 w) := by
  have HB := Lib.hid ((Below.refl w.heap.size w).alloc (Nat.le_refl _) (.cells #[.int .i64 4, .string nm, .string ⟨#[45]⟩, .int .i64 vk, .int .i64 vn, .string vt, .slice sa n ca] 37))
  have X := Box.new w [.int .i64 4, .string nm, .string ⟨#[45]⟩, .int .i64 vk, .int .i64 vn, .string vt, .slice sa n ca] 37
  go_enter Tryz.func49, Tryz.ntmps49
  obtain ⟨x0, x1, x2, x3, x4, x5, x6⟩ := X.seven
  go_wp2_with fail
  go_ret
  exact ⟨rfl, HB.out⟩
set_option maxRecDepth 100000 in
set_option maxHeartbeats 3200000 in
theorem tight_op10 (nm vt : ByteArray) (vk vn : Int) (sa : Option Addr) (n ca : Nat) (w : World) : Calls Tryz.prog 49 #[.agg #[.int .i64 4, .string nm, .string ⟨#[42]⟩, .int .i64 vk, .int .i64 vn, .string vt, .slice sa n ca]] w (TightTo 6 w) := by
  have HB := Lib.hid ((Below.refl w.heap.size w).alloc (Nat.le_refl _) (.cells #[.int .i64 4, .string nm, .string ⟨#[42]⟩, .int .i64 vk, .int .i64 vn, .string vt, .slice sa n ca] 37))
  have X := Box.new w [.int .i64 4, .string nm, .string ⟨#[42]⟩, .int .i64 vk, .int .i64 vn, .string vt, .slice sa n ca] 37
  go_enter Tryz.func49, Tryz.ntmps49
  obtain ⟨x0, x1, x2, x3, x4, x5, x6⟩ := X.seven
  go_wp2_with fail
  go_ret
  exact ⟨rfl, HB.out⟩
set_option maxRecDepth 100000 in
set_option maxHeartbeats 3200000 in
theorem tight_op11 (nm vt : ByteArray) (vk vn : Int) (sa : Option Addr) (n ca : Nat) (w : World) : Calls Tryz.prog 49 #[.agg #[.int .i64 4, .string nm, .string ⟨#[47]⟩, .int .i64 vk, .int .i64 vn, .string vt, .slice sa n ca]] w (TightTo 6 w) := by
  have HB := Lib.hid ((Below.refl w.heap.size w).alloc (Nat.le_refl _) (.cells #[.int .i64 4, .string nm, .string ⟨#[47]⟩, .int .i64 vk, .int .i64 vn, .string vt, .slice sa n ca] 37))
  have X := Box.new w [.int .i64 4, .string nm, .string ⟨#[47]⟩, .int .i64 vk, .int .i64 vn, .string vt, .slice sa n ca] 37
  go_enter Tryz.func49, Tryz.ntmps49
  obtain ⟨x0, x1, x2, x3, x4, x5, x6⟩ := X.seven
  go_wp2_with fail
  go_ret
  exact ⟨rfl, HB.out⟩
set_option maxRecDepth 100000 in
set_option maxHeartbeats 3200000 in
theorem tight_op12 (nm vt : ByteArray) (vk vn : Int) (sa : Option Addr) (n ca : Nat) (w : World) : Calls Tryz.prog 49 #[.agg #[.int .i64 4, .string nm, .string ⟨#[37]⟩, .int .i64 vk, .int .i64 vn, .string vt, .slice sa n ca]] w (TightTo 6 w) := by
  have HB := Lib.hid ((Below.refl w.heap.size w).alloc (Nat.le_refl _) (.cells #[.int .i64 4, .string nm, .string ⟨#[37]⟩, .int .i64 vk, .int .i64 vn, .string vt, .slice sa n ca] 37))
  have X := Box.new w [.int .i64 4, .string nm, .string ⟨#[37]⟩, .int .i64 vk, .int .i64 vn, .string vt, .slice sa n ca] 37
  go_enter Tryz.func49, Tryz.ntmps49
  obtain ⟨x0, x1, x2, x3, x4, x5, x6⟩ := X.seven
  go_wp2_with fail
  go_ret
  exact ⟨rfl, HB.out⟩
theorem tight_any (x : Ex) (ok : OkE x) (sa : Option Addr) (n ca : Nat) (w : World) : Calls Tryz.prog 49 #[rfV x (.slice sa n ca)] w (TightTo (rankE x : Int) w) := by
  cases ok with
  | col nm h => exact tight_one ⟨nm.toArray⟩ ⟨[].toArray⟩ ⟨[].toArray⟩ 0 0 sa n ca w
  | null => exact tight_two ⟨[].toArray⟩ ⟨[].toArray⟩ ⟨[].toArray⟩ 0 0 sa n ca w
  | num m h0 h1 =>
    have := tight_two ⟨[].toArray⟩ ⟨[].toArray⟩ ⟨[].toArray⟩ 1 m sa n ca w
    rw [rank_const]
    by_cases hm : m < 0
    · rw [if_pos hm] at this ⊢; exact this
    · rw [if_neg hm] at this ⊢; exact this
  | txt t h => exact tight_two ⟨[].toArray⟩ ⟨[].toArray⟩ ⟨t.toArray⟩ 2 0 sa n ca w
  | not a h => rw [rank_not]; exact tight_not ⟨[].toArray⟩ ⟨[].toArray⟩ 0 0 sa n ca w
  | neg a h => rw [rank_neg]; exact tight_neg ⟨[].toArray⟩ ⟨[].toArray⟩ 0 0 sa n ca w
  | bin op a b ho ha hb =>
    rw [rank_bin]
    rcases op_cases ho with rfl | rfl | rfl | rfl | rfl | rfl | rfl | rfl | rfl | rfl | rfl | rfl | rfl
    · exact tight_op0 ⟨[].toArray⟩ ⟨[].toArray⟩ 0 0 sa n ca w
    · exact tight_op1 ⟨[].toArray⟩ ⟨[].toArray⟩ 0 0 sa n ca w
    · exact tight_op2 ⟨[].toArray⟩ ⟨[].toArray⟩ 0 0 sa n ca w
    · exact tight_op3 ⟨[].toArray⟩ ⟨[].toArray⟩ 0 0 sa n ca w
    · exact tight_op4 ⟨[].toArray⟩ ⟨[].toArray⟩ 0 0 sa n ca w
    · exact tight_op5 ⟨[].toArray⟩ ⟨[].toArray⟩ 0 0 sa n ca w
    · exact tight_op6 ⟨[].toArray⟩ ⟨[].toArray⟩ 0 0 sa n ca w
    · exact tight_op7 ⟨[].toArray⟩ ⟨[].toArray⟩ 0 0 sa n ca w
    · exact tight_op8 ⟨[].toArray⟩ ⟨[].toArray⟩ 0 0 sa n ca w
    · exact tight_op9 ⟨[].toArray⟩ ⟨[].toArray⟩ 0 0 sa n ca w
    · exact tight_op10 ⟨[].toArray⟩ ⟨[].toArray⟩ 0 0 sa n ca w
    · exact tight_op11 ⟨[].toArray⟩ ⟨[].toArray⟩ 0 0 sa n ca w
    · exact tight_op12 ⟨[].toArray⟩ ⟨[].toArray⟩ 0 0 sa n ca w
  | call nm xs h h0 hx => exact tight_five ⟨nm.toArray⟩ ⟨[].toArray⟩ ⟨[].toArray⟩ 0 0 sa n ca w
end Go.Proofs.YtonkjhmkppeagaaGreatDoor.Pz
