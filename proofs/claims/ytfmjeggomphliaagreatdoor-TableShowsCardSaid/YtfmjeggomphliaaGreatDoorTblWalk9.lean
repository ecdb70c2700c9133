/- Walks: the text of a row. -/
import Derived.Test.YtfmjeggomphliaaGreatDoorTblWalk8
set_option linter.unusedVariables false
set_option linter.unusedSimpArgs false
namespace Go.Proofs.YtfmjeggomphliaaGreatDoor.Tb
open Go.RowKit Go Go.Sort Ba Va Sr

def valB (x : Val) : ByteArray := ⟨(showL x.k x.n x.t).toArray⟩
/-- The text of a row. -/
def lineL (r : List Val) : List UInt8 := Lib.join (r.map fun x => (valB x).data.toList) [44, 32]
theorem show_len (x : Val) (h : -9223372036854775808 ≤ x.n ∧ x.n ≤ 9223372036854775807) : (valB x).data.toList.length ≤ 200 := by
  show (showL x.k x.n x.t).toArray.toList.length ≤ 200
  rw [List.toList_toArray]
  unfold showL
  split
  · rename_i hr
    obtain ⟨_, h64⟩ := right_text hr
    split
    · decide
    split
    · have := Lib.itoa_length_le x.n h.1 h.2; omega
    · unfold quotedL
      have := esc_len x.t.data.toList
      rw [← size_list] at this
      simp only [List.length_append, List.length_cons, List.length_nil]
      omega
  · decide
theorem line_len (r : List Val) (h : ∀ x ∈ r, -9223372036854775808 ≤ x.n ∧ x.n ≤ 9223372036854775807) : (lineL r).length ≤ r.length * 202 := by
  have := join_le [44, 32] 200 (r.map fun x => (valB x).data.toList) (fun y hy => by obtain ⟨x, hx, rfl⟩ := List.mem_map.1 hy; exact show_len x (h x hx))
  rw [List.length_map] at this
  exact this
set_option maxHeartbeats 1600000 in
set_option maxRecDepth 100000 in
theorem line_is (rv : Value) (r : List Val) (w : World) (hp : 0 < r.length) (br : BdR r) (hv : RowAt w rv r) (hE : Va.Env w) :
    Calls Tryz.prog 35 #[rv] w fun e w' => e = .returned (.string ⟨(lineL r).toArray⟩) ∧ Below w.heap.size w w' := by
  obtain ⟨ao, cap, rfl, hcap, _⟩ := hv.len
  obtain ⟨i0, hi, hz0, hz1, hz2⟩ := info_parts infoStr
  obtain ⟨n, hn⟩ : ∃ n, r.length = n := ⟨_, rfl⟩
  have hl := br.len
  have HV := Lib.hid hv
  have BR := Lib.hid br
  have HE := Lib.hid hE
  rw [hn] at hcap hp HV hl ⊢
  have HN := Lib.hid hn
  clear hv hn hE br
  go_enter Tryz.func35, Tryz.ntmps35
  go_wp2_with fail
  go_loopw [3, 8] (fun out i wr => ∃ k : Nat, k ≤ n ∧ i = .int .i64 k ∧ Hid (wr.ownsRow w.heap.size 9 1 out ((r.take k).map fun x => Value.string (valB x)).length ((r.take k).map fun x => Value.string (valB x))) ∧ Hid (Below w.heap.size w wr)) (fun out i _ => n - (intOf i).toNat)
  case atStart => exact ⟨0, Nat.zero_le _, rfl, World.ownsRow_nil _ _ _ _, Below.refl _ _⟩
  case round =>
    obtain ⟨k, hk, rfl, HO, BW⟩ := hrel
    by_cases hlt : k < n
    · obtain ⟨x, hx⟩ : ∃ x, r[k]? = some x := ⟨_, List.getElem?_eq_getElem (by rw [HN.out]; exact hlt)⟩
      have hxm := List.mem_of_getElem? hx
      obtain ⟨b, o, rfl, hb, y0, y1, y2⟩ := RowAt.val HV.out hx
      replace y0 := (BW.out.cell (by exact hb)).trans y0
      replace y1 := (BW.out.cell (by exact hb)).trans y1
      replace y2 := (BW.out.cell (by exact hb)).trans y2
      have HSH : Hid (∀ W, Below w.heap.size w W → Calls Tryz.prog 59 #[.agg #[.int .i64 x.k, .int .i64 x.n, .string x.t]] W fun e w' => e = .returned (.string (valB x)) ∧ Below W.heap.size W w') := fun W hb => show_any x.k x.n x.t W (by have := BR.out.txt x hxm; omega) (BR.out.num x hxm).1 (BR.out.num x hxm).2 (HE.out.below hb)
      obtain ⟨xk, hxk⟩ : ∃ q, x.k = q := ⟨_, rfl⟩
      obtain ⟨xn, hxn⟩ : ∃ q, x.n = q := ⟨_, rfl⟩
      obtain ⟨xt, hxt⟩ : ∃ q, x.t = q := ⟨_, rfl⟩
      obtain ⟨V, hV⟩ : ∃ V, valB x = V := ⟨_, rfl⟩
      have hsn : ((r.take (k + 1)).map fun x => Value.string (valB x)) = ((r.take k).map fun x => Value.string (valB x)) ++ [.string V] := by
        rw [take_one r k x hx, List.map_append, List.map_cons, List.map_nil, hV]
      have hln : ((r.take k).map fun x => Value.string (valB x)).length = k := by rw [List.length_map, List.length_take, HN.out]; omega
      rw [hxk] at y0
      rw [hxn] at y1
      rw [hxt] at y2
      rw [hxk, hxn, hxt, hV] at HSH
      have HSN := Lib.hid hsn
      have HLN := Lib.hid hln
      have bw1 : Hid (Below w.heap.size w (wr.alloc (.cells #[.int .i64 xk, .int .i64 xn, .string xt] 47))) := BW.out.alloc BW.out.size _
      have own1 := Lib.hid (HO.out.alloc (.cells #[.int .i64 xk, .int .i64 xn, .string xt] 47))
      clear hx hxm hxk hxn hxt hV hsn hln
      go_wp2_with (first | (go_at_call 59; refine (HSH.out _ bw1.out).mono ?_; rintro e w1 ⟨rfl, hb1⟩) | (at_builtin; refine app_one rfl _ _ 59 9 rfl Tryz.underlying59 hi hz0 rfl hz1 hz2 (by decide) w.heap.size u3 _ (.string V) rfl rfl (own_below own1.out hb1 (Nat.le_refl _)) rfl (by have := HLN.out; omega) (by have := bw1.out.size; have := hb1.size; omega) ?_; intro v2 w2 hown2 hgrow2))
      have bw2 := (two bw1.out hb1).grown hgrow2 (two bw1.out hb1).size (fun j e => (own1.out.lt j e).1)
      go_roundw
      case rel => exact ⟨k + 1, by omega, by go_num, (by rw [HSN.out]; exact hown2 : w2.ownsRow _ _ _ _ _ _), bw2⟩
      case measure => simp [intOf]; omega
    · obtain rfl : k = n := by omega
      have hxs : ((r.take k).map fun x => Value.string (valB x)) = (r.map valB).map Value.string := by rw [← HN.out, List.take_length, List.map_map]; rfl
      have hO := HO.out
      rw [hxs, List.length_map, List.length_map, HN.out] at hO
      obtain ⟨g, gcap, e3, g1, g2, g3, g4⟩ := own_shape hO hp
      subst e3
      have hcells : ∀ (j : Nat) (x : ByteArray), (r.map valB)[j]? = some x → wr.cell? ⟨g, 0 + j, none⟩ = some (.string x) := fun j x hx => by
        have := g4 j (.string x) (by rw [List.getElem?_map, hx]; rfl)
        rw [Nat.zero_add]; exact this
      have hjl : (Lib.join ((r.map valB).map (·.data.toList)) [44, 32]).length ≤ 1000000 := by
        have := line_len r BR.out.num
        unfold lineL at this
        rw [List.map_map]
        have h6 : r.length * 202 ≤ 4096 * 202 := Nat.mul_le_mul_right 202 (by rw [HN.out]; exact hl)
        exact Nat.le_trans this (Nat.le_trans h6 (by decide))
      have HJ := Lib.hid (Tryz.strings_Join g 0 gcap (r.map valB) ⟨#[44, 32]⟩ wr hcells g3 (by rw [List.length_map, HN.out]; omega) (by rw [List.length_map, HN.out]; exact g1) (by have := hjl; show (Lib.join ((r.map valB).map (·.data.toList)) [44, 32]).length ≤ _; omega))
      rw [List.length_map, HN.out] at HJ
      clear hjl hcells hO hxs g4 HO
      go_wp2_with (go_at_call 67; refine HJ.out.mono ?_; rintro e w2 ⟨rfl, hb2⟩)
      go_ret
      refine ⟨ret_str ?_, two BW.out hb2⟩
      unfold lineL
      try rw [List.map_map]
      rfl
end Go.Proofs.YtfmjeggomphliaaGreatDoor.Tb
