/- Walks: the text of a table. -/
import Derived.Test.YtfmjeggomphliaaGreatDoorTblWalk9
set_option linter.unusedVariables false
set_option linter.unusedSimpArgs false
namespace Go.Proofs.YtfmjeggomphliaaGreatDoor.Tb
open Go.RowKit Go Go.Sort Ba Va Sr

abbrev Bld (b : Nat) (l : List UInt8) (w : World) : Prop := Lib.IsBuilder 77 5 b b (Lib.byteCells l) w
theorem str_byteCells (s : ByteArray) : Lib.strCells s = Lib.byteCells s.data.toList := rfl
theorem byte_app (a b : List UInt8) : Lib.byteCells (a ++ b) = Lib.byteCells a ++ Lib.byteCells b := by simp [Lib.byteCells]
theorem byte_len (a : List UInt8) : (Lib.byteCells a).length = a.length := by simp [Lib.byteCells]
theorem Bld.new (w : World) : Bld w.heap.size [] (w.alloc (.cells #[.pointer none, .slice none 0 0] 77)) :=
  .inl ⟨Nat.le_refl _, .slice none 0 0, heap_alloc_new w _, World.ownsRow_nil _ _ _ _, by simp [Value.ownBlock]⟩
theorem Bld.below {b : Nat} {l : List UInt8} {w w' : World} (h : Bld b l w) (hb : Below w.heap.size w w') : Bld b l w' := by
  have key : ∀ p, Lib.BuilderAt 77 5 b b p (Lib.byteCells l) w → Lib.BuilderAt 77 5 b b p (Lib.byteCells l) w' := fun p ⟨h1, v, h2, h3, h4⟩ => by
    have hlt : b < w.heap.size := (Array.getElem?_eq_some_iff.1 h2).1
    exact ⟨h1, v, (hb.block b hlt).trans h2, own_below h3 hb (Nat.le_refl _), h4⟩
  rcases h with h | h
  · exact .inl (key _ h)
  · exact .inr (key _ h)
theorem Bld.lt {b : Nat} {l : List UInt8} {w : World} (h : Bld b l w) : b < w.heap.size := by
  rcases h with ⟨_, v, h2, _⟩ | ⟨_, v, h2, _⟩ <;> exact (Array.getElem?_eq_some_iff.1 h2).1
theorem write_is {b : Nat} {l : List UInt8} {w : World} (h : Bld b l w) (s : ByteArray) (hl : l.length + s.size ≤ 140737488355328) :
    Calls Tryz.prog 33 #[.pointer (some ⟨b, 0, none⟩), .string s] w fun e w' => e = .returned (.tuple #[.int .i64 s.size, .nilIface]) ∧ Bld b (l ++ s.data.toList) w' ∧ Below b w w' := by
  have c : Calls Tryz.prog 33 #[.pointer (some ⟨b, 0, none⟩), .string s] w fun e w' => e = .returned (.tuple #[.int .i64 s.size, .nilIface]) ∧ (Lib.BuilderAt 77 5 b b (.pointer (some ⟨b, 0, none⟩)) (Lib.byteCells l ++ Lib.strCells s) w' ∧ Below b w w') :=
    Any.Builder_WriteString { Tryz.lays156 with } Tryz.Builder_Extra_156 b b (Lib.byteCells l) s w h (by rw [byte_len]; exact hl) (Nat.le_of_lt h.lt)
  exact c.mono fun e w' ⟨h1, h2, h3⟩ => ⟨h1, .inr (by rw [byte_app, ← str_byteCells]; exact h2), h3⟩
/-- The text of a table. -/
def rowsL (rs : List (List Val)) : List UInt8 := rs.flatMap fun r => lineL r ++ [10]
def showT (cs : List Col) (rs : List (List Val)) : List UInt8 := showC cs ++ [10] ++ rowsL rs
theorem errT_zero {cs : List Col} {rs : List (List Val)} (h : errT cs rs = 0) : chk cs = 0 ∧ (∀ r ∈ rs, fitL cs r = true) ∧ srt rs = true ∧ rs.length ≤ 4096 := by
  unfold errT at h
  by_cases h1 : err cs rs = 0
  · rw [if_neg (by omega)] at h
    have h2 : srt rs = true := by
      cases hs : srt rs with
      | true => rfl
      | false => rw [hs] at h; exact absurd h (by decide)
    unfold err at h1
    by_cases c : chk cs = 0
    · rw [if_neg (by omega)] at h1
      by_cases c2 : 4096 < rs.length
      · rw [if_pos c2] at h1; exact absurd h1 (by decide)
      · rw [if_neg c2] at h1
        have h3 : rs.all (fitL cs) = true := by
          cases ha : rs.all (fitL cs) with
          | true => rfl
          | false => rw [ha] at h1; exact absurd h1 (by decide)
        exact ⟨c, fun r hr => List.all_eq_true.1 h3 r hr, h2, by omega⟩
    · rw [if_pos c] at h1; exact absurd h1 c
  · rw [if_pos h1] at h; exact absurd h h1
theorem showC_len {cs : List Col} (h : chk cs = 0) : (showC cs).length ≤ 1000 := by
  obtain ⟨hty, _, h16⟩ := chk_ty h
  have := join_le [44, 32] 21 (cs.map fun c => (colB c).data.toList) (fun x hx => by
    obtain ⟨c, hc, rfl⟩ := List.mem_map.1 hx
    obtain ⟨h1, h2⟩ := hty c hc
    have h3 := name_size h2
    rw [← size_list]
    unfold colB
    rw [ByteArray.size_append, ByteArray.size_append]
    have h4 : (wordB c.ty).size ≤ 4 := by rcases h1 with h | h <;> rw [h] <;> decide
    have h5 : (⟨#[32]⟩ : ByteArray).size = 1 := rfl
    omega)
  rw [List.length_map] at this
  have h6 : cs.length * (21 + [44, 32].length) ≤ 16 * 23 := Nat.mul_le_mul_right 23 h16
  unfold showC
  rw [List.length_cons, List.length_append]
  have h7 := Nat.le_trans this h6
  simp only [List.length_cons, List.length_nil] at h7 ⊢
  omega
theorem nl (s : ByteArray) (l : List UInt8) (h : s = ⟨l.toArray⟩) : (s ++ ⟨#[10]⟩).data.toList = l ++ [10] := by
  subst h; simp
set_option maxHeartbeats 3200000 in
set_option maxRecDepth 100000 in
theorem tshow_is (sv rv : Value) (cs : List Col) (rs : List (List Val)) (w : World) (bc : BdC cs) (br : BdRs rs) (hs : ColsAt w sv cs) (hv : RowsAt w rv rs) (hE : EnvT w) (h0 : errT cs rs = 0) :
    Calls Tryz.prog 13 #[.agg #[sv, rv]] w fun e w' => e = .returned (.string ⟨(showT cs rs).toArray⟩) ∧ Below w.heap.size w w' := by
  obtain ⟨hc, hfit, _, _⟩ := errT_zero h0
  obtain ⟨sa, sc, rfl, _, _⟩ := hs.len
  obtain ⟨ra, rc, rfl, _, _⟩ := hv.len
  obtain ⟨_, cp, _⟩ := chk_ty hc
  obtain ⟨n, hn⟩ : ∃ n, rs.length = n := ⟨_, rfl⟩
  have hl := br.len
  have HS := Lib.hid hs
  have HV := Lib.hid hv
  have BR := Lib.hid br
  have HE := Lib.hid hE
  have HFT : Hid (∀ r ∈ rs, 0 < r.length) := fun r hr => by rw [fitL_len (hfit r hr)]; exact cp
  have HC := Lib.hid hc
  have B1 := Lib.hid (Box.new w [.slice sa cs.length sc, .slice ra rs.length rc] 27)
  have bw1 : Hid (Below w.heap.size w (w.alloc (.cells #[.slice sa cs.length sc, .slice ra rs.length rc] 27))) := (Below.refl _ _).alloc (Nat.le_refl _) _
  have HCK := Lib.hid (tcheck_is h0 (w.alloc (.cells #[.slice sa cs.length sc, .slice ra rs.length rc] 27)) bc br (hs.below bw1.out) (hv.below bw1.out))
  rw [hn] at HV hl B1 bw1 HCK ⊢
  have HN := Lib.hid hn
  obtain ⟨m, hm⟩ : ∃ m, cs.length = m := ⟨_, rfl⟩
  rw [hm] at HS B1 bw1 HCK ⊢
  have HM := Lib.hid hm
  obtain ⟨CB, hCB⟩ : ∃ CB : ByteArray, (⟨(showC cs).toArray⟩ : ByteArray) = CB := ⟨_, rfl⟩
  have hCs : CB.size ≤ 1000 := by rw [← hCB]; show (showC cs).toArray.size ≤ 1000; rw [List.size_toArray]; exact showC_len hc
  have HSS : Hid (∀ W, Below w.heap.size w W → Calls Tryz.prog 34 #[.slice sa m sc] W fun e w' => e = .returned (.string CB) ∧ Below W.heap.size W w') := fun W hb => by rw [← hCB]; exact schShow_is _ cs W (HS.out.below hb) HC.out (HE.out.below hb)
  have n1 : ¬ 9223372036854775807 < CB.size + 1 := by omega
  have HCB : Hid ((CB ++ ⟨#[10]⟩).data.toList = showC cs ++ [10]) := nl _ _ hCB.symm
  have hz : (CB ++ ⟨#[10]⟩).size ≤ 1001 := by rw [ByteArray.size_append]; show CB.size + 1 ≤ 1001; omega
  clear hs hv bc br hE h0 hn hm hc hfit cp hCB
  go_enter Tryz.func13, Tryz.ntmps13
  go_wp2_with (first | (go_at_call 32; refine HCK.out.mono ?_; rintro e w1 ⟨rfl, hb1⟩; have BX := (B1.out.next hb1).alloc (.cells #[.pointer none, .slice none 0 0] 77); obtain ⟨z0, z1, _, _⟩ := BX.two; have bw2 := (two bw1.out hb1).alloc (two bw1.out hb1).size (.cells #[.pointer none, .slice none 0 0] 77)) | (go_at_call 34; refine (HSS.out _ bw2).mono ?_; rintro e w3 ⟨rfl, hb3⟩; have D3 := (Bld.new w1).below hb3; have BX3 := BX.next hb3) | (go_at_call 33; have hq := write_is D3 (CB ++ ⟨#[10]⟩) (by simp only [List.length_nil]; omega); refine hq.mono ?_; clear hq; rintro e w4 ⟨rfl, D4, hb4⟩; have BX4 := Box.below BX3 hb4 (by have := hb1.size; simp at this; omega); obtain ⟨y0, y1, _, _⟩ := BX4.two))
  rw [HCB.out, List.nil_append] at D4
  have hb1s : w.heap.size < w1.heap.size := by have := hb1.size; simp at this; omega
  have bw4 : Hid (Below w.heap.size w w4) := ((two bw2 hb3)).trans (hb4.mono (Nat.le_of_lt hb1s))
  generalize w1.heap.size = b at *
  have HD4 := Lib.hid D4
  clear D4 D3 BX BX3 bw2 hb3 hb4 z0 z1 hb1 HCK B1 bw1 HSS
  go_loopw [17] (fun i wr => ∃ k : Nat, k ≤ n ∧ i = .int .i64 k ∧ Hid (Bld b (showC cs ++ [10] ++ rowsL (rs.take k)) wr) ∧ Hid (Below w.heap.size w wr) ∧ Hid ((rowsL (rs.take k)).length ≤ k * 1000000)) (fun i _ => n - (intOf i).toNat)
  case atStart => exact ⟨0, Nat.zero_le _, rfl, (by simpa [rowsL] using HD4.out : Bld b (showC cs ++ [10] ++ rowsL (rs.take 0)) w4), bw4.out, (by simp [rowsL] : (rowsL (rs.take 0)).length ≤ 0 * 1000000)⟩
  case round =>
    clear HD4 bw4 y0 y1
    obtain ⟨k, hk, rfl, HO, BW, HLK⟩ := hrel
    by_cases hlt : k < n
    · obtain ⟨r, hr⟩ : ∃ r, rs[k]? = some r := ⟨_, List.getElem?_eq_getElem (by rw [HN.out]; exact hlt)⟩
      have hm := List.mem_of_getElem? hr
      obtain ⟨rb, o, x, rfl, hb, hc, hx⟩ := RowsAt.row HV.out hr
      replace hc := (BW.out.cell (by exact hb)).trans hc
      obtain ⟨L, hL⟩ : ∃ L : ByteArray, (⟨(lineL r).toArray⟩ : ByteArray) = L := ⟨_, rfl⟩
      have hc1 := line_is x r wr (HFT.out r hm) (BR.out.row r hm) (hx.below BW.out) (HE.out.below BW.out).val
      rw [hL] at hc1
      have HLI := Lib.hid hc1
      have hls : L.size ≤ 900000 := by
        rw [← hL]
        show (lineL r).toArray.size ≤ _
        rw [List.size_toArray]
        have h1 := line_len r (BR.out.row r hm).num
        have h2 : r.length * 202 ≤ 4096 * 202 := Nat.mul_le_mul_right 202 (BR.out.row r hm).len
        omega
      have n2 : ¬ 9223372036854775807 < L.size + 1 := by omega
      have HLB : Hid ((L ++ ⟨#[10]⟩).data.toList = lineL r ++ [10]) := nl _ _ hL.symm
      have hz2 : (L ++ ⟨#[10]⟩).size ≤ 900001 := by rw [ByteArray.size_append]; show L.size + 1 ≤ 900001; omega
      have hsn : rowsL (rs.take (k + 1)) = rowsL (rs.take k) ++ (lineL r ++ [10]) := by
        unfold rowsL
        rw [take_one rs k r hr, List.flatMap_append]; simp
      have HSN := Lib.hid hsn
      have hll : (lineL r ++ [10]).length ≤ 900001 := by rw [← HLB.out, ← size_list]; exact hz2
      have HLL := Lib.hid hll
      clear hr hm hx hL hc1 hsn hll
      go_wp2_with (first | (go_at_call 35; refine HLI.out.mono ?_; rintro e w5 ⟨rfl, hb5⟩; have D5 := HO.out.below hb5) | (go_at_call 33; have hq := write_is D5 (L ++ ⟨#[10]⟩) (by have := HLK.out; have := showC_len HC.out; simp only [List.length_append, List.length_cons, List.length_nil]; omega); refine hq.mono ?_; clear hq; rintro e w6 ⟨rfl, D6, hb6⟩))
      rw [HLB.out, List.append_assoc, ← HSN.out] at D6
      go_roundw
      case rel => exact ⟨k + 1, by omega, by go_num, D6, (two BW.out hb5).trans (hb6.mono (Nat.le_of_lt hb1s)), (by rw [HSN.out, List.length_append]; have := HLK.out; have := HLL.out; omega : (rowsL (rs.take (k + 1))).length ≤ (k + 1) * 1000000)⟩
      case measure => simp [intOf]; omega
    · obtain rfl : k = n := by omega
      have hd := HO.out
      rw [← HN.out, List.take_length] at hd
      have HD := Lib.hid (Tryz.Builder_String b b (showC cs ++ [10] ++ rowsL rs) wr hd (by simp [showC]))
      clear hd
      go_wp2_with (go_at_call 36; refine HD.out.mono ?_; rintro e w7 ⟨rfl, hb7⟩)
      go_ret
      exact ⟨ret_str (by unfold showT; simp), BW.out.trans (hb7.mono (Nat.le_of_lt hb1s))⟩
theorem tshow_no (sv rv : Value) (cs : List Col) (rs : List (List Val)) (w : World) (bc : BdC cs) (br : BdRs rs) (hs : ColsAt w sv cs) (hv : RowsAt w rv rs) (E : Int) (hE : errT cs rs = E) (h0 : E ≠ 0) :
    Calls Tryz.prog 13 #[.agg #[sv, rv]] w fun e w' => e = .returned (.string ⟨#[]⟩) ∧ Below w.heap.size w w' := by
  obtain ⟨sa, sc, rfl, _, _⟩ := hs.len
  obtain ⟨ra, rc, rfl, _, _⟩ := hv.len
  have bw1 : Hid (Below w.heap.size w (w.alloc (.cells #[.slice sa cs.length sc, .slice ra rs.length rc] 27))) := (Below.refl _ _).alloc (Nat.le_refl _) _
  have HCK := Lib.hid (tcheck_is hE (w.alloc (.cells #[.slice sa cs.length sc, .slice ra rs.length rc] 27)) bc br (hs.below bw1.out) (hv.below bw1.out))
  have d0 : (E != 0) = true := by simpa using h0
  clear hs hv bc br hE h0
  go_enter Tryz.func13, Tryz.ntmps13
  go_wp2_with (go_at_call 32; refine HCK.out.mono ?_; rintro e w1 ⟨rfl, hb1⟩)
  go_ret
  exact ⟨rfl, two bw1.out hb1⟩
end Go.Proofs.YtfmjeggomphliaaGreatDoor.Tb
