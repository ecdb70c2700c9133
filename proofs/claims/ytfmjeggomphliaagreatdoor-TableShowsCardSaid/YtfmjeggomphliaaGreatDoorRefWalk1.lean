/- Walks: the document's word on names and columns. -/
import Derived.Test.YtfmjeggomphliaaGreatDoorChkWalk
import Derived.Test.YtfmjeggomphliaaGreatDoorBase
import Derived.Shelf.RegionOpenPlain
set_option linter.unusedVariables false
set_option linter.unusedSimpArgs false
namespace Go.Proofs.YtfmjeggomphliaaGreatDoor.Tb
open Go.RowKit Go Go.Sort Ba Va

theorem inner_letter {b : UInt8} (h : letterB b = true) : innerB b = true := by unfold innerB; rw [h]; rfl
theorem inner_mid {b : UInt8} (h : letterB b = false) : innerB b = decide ((b.toNat : Int) = 95 ∨ (48 ≤ (b.toNat : Int) ∧ (b.toNat : Int) ≤ 57)) := by unfold innerB; rw [h]; rfl
theorem letter_iff (b : UInt8) : letterB b = true ↔ 97 ≤ (b.toNat : Int) ∧ (b.toNat : Int) ≤ 122 := by unfold letterB; rw [decide_eq_true_eq]
theorem name_all {s : ByteArray} (h : (s.data.toList.take s.size).all innerB = true) (h1 : 0 < s.size) (h2 : ∀ b, s.data.toList[0]? = some b → letterB b = true) : nameB s = decide (s.size ≤ 16) := by
  obtain ⟨b, hb⟩ := bat s 0 h1
  have hl := h2 b hb
  by_cases h16 : s.size ≤ 16
  · rw [name_yes hb hl h h16, decide_eq_true h16]
  · rw [name_long (by omega), decide_eq_false h16]
/-- All so far may stand in a name. -/
def NameTo (s : ByteArray) (k : Nat) : Prop := (s.data.toList.take k).all innerB = true ∧ (0 < k → ∀ b, s.data.toList[0]? = some b → letterB b = true)
theorem NameTo.step {s : ByteArray} {k : Nat} {b : UInt8} (h : NameTo s k) (hb : s.data.toList[k]? = some b) (hi : innerB b = true) (h0 : k = 0 → letterB b = true) : NameTo s (k + 1) := by
  refine ⟨by rw [take_one _ _ _ hb, List.all_append, h.1]; simp [hi], fun _ x hx => ?_⟩
  by_cases e : k = 0
  · subst e
    rw [hb] at hx; cases hx
    exact h0 rfl
  · exact h.2 (by omega) x hx
set_option maxHeartbeats 1600000 in
theorem refName_any (s : ByteArray) (w : World) (hs : s.size ≤ 100000) :
    Calls Tryz.prog 89 #[.string s] w fun e w' => e = .returned (.bool (nameB s)) ∧ w' = w := by
  go_enter Tryz.func89, Tryz.ntmps89
  go_wp2_with fail
  go_loop [3] (fun i => ∃ k : Nat, k ≤ s.size ∧ i = .int .i64 k ∧ Hid (NameTo s k)) (fun i => s.size - (intOf i).toNat)
  case atStart => exact ⟨0, Nat.zero_le _, rfl, (⟨rfl, fun h => absurd h (by omega)⟩ : NameTo s 0)⟩
  case round =>
    obtain ⟨k, hk, rfl, HK⟩ := hrel
    by_cases hlt : k < s.size
    · obtain ⟨b, hb⟩ := bat s k hlt
      have hz := str_at hlt hb
      have HB := Lib.hid hb
      have hb8 : (b.toNat : Int) ≤ 255 := by have := b.toNat_lt; omega
      clear hb
      by_cases hl : 97 ≤ (b.toNat : Int) ∧ (b.toNat : Int) ≤ 122
      · obtain ⟨l1, l2⟩ := hl
        have HS : Hid (NameTo s (k + 1)) := HK.out.step HB.out (inner_letter ((letter_iff b).2 ⟨l1, l2⟩)) (fun _ => (letter_iff b).2 ⟨l1, l2⟩)
        go_wp2_with fail
        go_round
        case rel => exact ⟨k + 1, by omega, by go_num, HS⟩
        case measure => simp [intOf]; omega
      · have hlf : letterB b = false := by
          cases h : letterB b with
          | false => rfl
          | true => exact absurd ((letter_iff b).1 h) hl
        have HLF := Lib.hid hlf
        clear hlf
        rcases Nat.eq_zero_or_pos k with rfl | hk0
        · have HR : Hid (nameB s = false) := name_first HB.out HLF.out
          by_cases l1 : 97 ≤ (b.toNat : Int)
          · have l2 : ¬ (b.toNat : Int) ≤ 122 := fun h => hl ⟨l1, h⟩
            clear hl
            go_wp2_with fail
            go_ret
            exact ⟨ret_bool HR.out.symm, rfl⟩
          · clear hl
            go_wp2_with fail
            go_ret
            exact ⟨ret_bool HR.out.symm, rfl⟩
        · have dk : ((k : Int) == 0) = false := by rw [beq_eq_false_iff_ne]; omega
          by_cases h95 : (b.toNat : Int) = 95
          · have HS : Hid (NameTo s (k + 1)) := HK.out.step HB.out (by rw [inner_mid HLF.out]; exact decide_eq_true (.inl h95)) (fun h => by omega)
            have d95 : ((b.toNat : Int) != (95 : Int)) = false := by rw [h95]; rfl
            have l1 : ¬ 97 ≤ (b.toNat : Int) := by omega
            clear hl h95
            go_wp2_with fail
            go_round
            case rel => exact ⟨k + 1, by omega, by go_num, HS⟩
            case measure => simp [intOf]; omega
          · have d95 : ((b.toNat : Int) != (95 : Int)) = true := by simpa using h95
            by_cases h48 : 48 ≤ (b.toNat : Int)
            · by_cases h57 : (b.toNat : Int) ≤ 57
              · have HS : Hid (NameTo s (k + 1)) := HK.out.step HB.out (by rw [inner_mid HLF.out]; exact decide_eq_true (.inr ⟨h48, h57⟩)) (fun h => by omega)
                have l1 : ¬ 97 ≤ (b.toNat : Int) := by omega
                clear hl h95
                go_wp2_with fail
                go_round
                case rel => exact ⟨k + 1, by omega, by go_num, HS⟩
                case measure => simp [intOf]; omega
              · have HR : Hid (nameB s = false) := name_inner (List.mem_of_getElem? HB.out) (by rw [inner_mid HLF.out]; exact decide_eq_false (by omega))
                by_cases l1 : 97 ≤ (b.toNat : Int)
                · have l2 : ¬ (b.toNat : Int) ≤ 122 := fun h => hl ⟨l1, h⟩
                  clear hl h95
                  go_wp2_with fail
                  go_ret
                  exact ⟨ret_bool HR.out.symm, rfl⟩
                · clear hl h95
                  go_wp2_with fail
                  go_ret
                  exact ⟨ret_bool HR.out.symm, rfl⟩
            · have HR : Hid (nameB s = false) := name_inner (List.mem_of_getElem? HB.out) (by rw [inner_mid HLF.out]; exact decide_eq_false (by omega))
              have l1 : ¬ 97 ≤ (b.toNat : Int) := by omega
              clear hl h95
              go_wp2_with fail
              go_ret
              exact ⟨ret_bool HR.out.symm, rfl⟩
    · have ek : k = s.size := by omega
      have HK2 : Hid (NameTo s s.size) := by rw [← ek]; exact HK
      by_cases h1 : 1 ≤ s.size
      · have HR : Hid (nameB s = decide (s.size ≤ 16)) := name_all HK2.out.1 h1 (HK2.out.2 (by omega))
        by_cases h16 : s.size ≤ 16
        · have HR2 : Hid (nameB s = true) := by show _ = _; rw [HR.out]; exact decide_eq_true h16
          go_wp2_with fail
          go_ret
          exact ⟨ret_bool (by rw [HR2.out]; first | rfl | simp <;> omega), rfl⟩
        · have HR2 : Hid (nameB s = false) := by show _ = _; rw [HR.out]; exact decide_eq_false h16
          go_wp2_with fail
          go_ret
          exact ⟨ret_bool (by rw [HR2.out]; first | rfl | simp <;> omega), rfl⟩
      · have HR : Hid (nameB s = false) := by
          show _ = _
          have : s = ⟨#[]⟩ := (empty_iff s).1 (em_size (by omega))
          rw [this]; rfl
        go_wp2_with fail
        go_ret
        exact ⟨ret_bool HR.out.symm, rfl⟩
theorem refName_is {s : ByteArray} {r : Bool} (h : nameB s = r) (w : World) (hs : s.size ≤ 100000) :
    Calls Tryz.prog 89 #[.string s] w fun e w' => e = .returned (.bool r) ∧ w' = w := by
  rw [← h]; exact refName_any s w hs
theorem seen_step {cs : List Col} {k : Nat} {c : Col} {s : ByteArray} (h : cs[k]? = some c) : (∃ x ∈ cs.take (k + 1), x.name = s) ↔ (∃ x ∈ cs.take k, x.name = s) ∨ c.name = s := by
  rw [take_one cs k c h]
  simp only [List.mem_append, List.mem_singleton]
  constructor
  · rintro ⟨x, hx | rfl, e⟩
    · exact .inl ⟨x, hx, e⟩
    · exact .inr e
  · rintro (⟨x, hx, e⟩ | e)
    · exact ⟨x, .inl hx, e⟩
    · exact ⟨c, .inr rfl, e⟩
set_option maxHeartbeats 3200000 in
theorem refCheck_any (v : Value) (cs : List Col) (w : World) (hl : cs.length ≤ 4096) (hs : ∀ c ∈ cs, c.name.size ≤ 4096) (hv : ColsAt w v cs) :
    Calls Tryz.prog 60 #[v] w fun e w' => e = .returned (.int .i64 (chk cs)) ∧ Below w.heap.size w w' := by
  obtain ⟨ao, cap, rfl, hcap, _⟩ := hv.len
  obtain ⟨n, hn⟩ : ∃ n, cs.length = n := ⟨_, rfl⟩
  by_cases h1 : n = 0
  · have hr : chk cs = 31 := by unfold chk; rw [if_pos (.inl (by omega))]
    rw [hr]
    rw [hn] at hcap ⊢
    subst h1
    clear hv hs hr
    go_enter Tryz.func60, Tryz.ntmps60
    go_wp2_with fail
    go_ret
    exact ⟨rfl, Below.refl _ _⟩
  by_cases h2 : 16 < n
  · have hr : chk cs = 31 := by unfold chk; rw [if_pos (.inr (by omega))]
    rw [hr]
    rw [hn] at hcap ⊢
    have d1 : ¬ (n : Int) < 1 := by omega
    clear hv hs hr
    go_enter Tryz.func60, Tryz.ntmps60
    go_wp2_with fail
    go_ret
    exact ⟨rfl, Below.refl _ _⟩
  have hr : chk cs = chkL [] cs := by unfold chk; rw [if_neg (by omega)]
  rw [hr]
  obtain ⟨E, hE⟩ : ∃ E, chkL [] cs = E := ⟨_, rfl⟩
  rw [hE]
  have HE := Lib.hid hE
  have HV := Lib.hid hv
  have HS := Lib.hid hs
  have d1 : ¬ (n : Int) < 1 := by omega
  rw [hn] at hcap HV ⊢
  have HN := Lib.hid hn
  clear hr hE hv hs hn h1
  go_enter Tryz.func60, Tryz.ntmps60
  go_wp2_with fail
  go_loopw [3] (fun i wr => ∃ k : Nat, k ≤ n ∧ i = .int .i64 k ∧ Hid (Below w.heap.size w wr) ∧ Hid (chkL (cs.take k) (cs.drop k) = E)) (fun i _ => n - (intOf i).toNat)
  case atStart => exact ⟨0, Nat.zero_le _, rfl, Below.refl _ _, HE.out⟩
  case round =>
    obtain ⟨k, hk, rfl, BW, HK⟩ := hrel
    clear HE
    by_cases hlt : k < n
    · obtain ⟨c, hc⟩ : ∃ c, cs[k]? = some c := ⟨_, List.getElem?_eq_getElem (by rw [HN.out]; exact hlt)⟩
      have hst := chkL_of cs k c hc
      rw [HK.out] at hst
      obtain ⟨b, o, rfl, hb, x0, x1⟩ := ColsAt.col HV.out hc
      have hsz := HS.out c (List.mem_of_getElem? hc)
      have HX0 := Lib.hid x0
      replace x0 := (BW.out.cell (by exact hb)).trans x0
      replace x1 := (BW.out.cell (by exact hb)).trans x1
      obtain ⟨S, hS⟩ : ∃ S, c.name = S := ⟨_, rfl⟩
      obtain ⟨T, hT⟩ : ∃ T, c.ty = T := ⟨_, rfl⟩
      rw [hS] at x0 hst hsz HX0
      rw [hT] at x1 hst
      have HT := Lib.hid hst
      have HC := Lib.hid hc
      have HCS := Lib.hid hS
      clear hst hc hS hT
      cases hnm : nameB S with
      | false =>
        have HNM := Lib.hid (refName_is hnm)
        have HR : Hid (E = 13) := by show E = 13; have := HT.out; rw [hnm, if_pos rfl] at this; exact this
        clear hnm
        go_wp2_with (go_at_call 89; refine (HNM.out _ (by omega)).mono ?_; rintro e w1 ⟨rfl, rfl⟩)
        go_ret
        exact ⟨by rw [HR.out]; rfl, BW.out⟩
      | true =>
        have HNM := Lib.hid (refName_is hnm)
        have HT2 : Hid (E = if T ≠ 1 ∧ T ≠ 2 then 12 else if ∃ x ∈ cs.take k, x.name = S then 14 else chkL (cs.take (k + 1)) (cs.drop (k + 1))) := by show E = _; have := HT.out; rw [hnm, if_neg (by decide)] at this; exact this
        clear hnm HT
        by_cases ht : T ≠ 1 ∧ T ≠ 2
        · have HR : Hid (E = 12) := by show E = 12; have := HT2.out; rw [if_pos ht] at this; exact this
          have dt1 : (T != 1) = true := by simpa using ht.1
          have dt2 : (T != 2) = true := by simpa using ht.2
          clear ht
          go_wp2_with (go_at_call 89; refine (HNM.out _ (by omega)).mono ?_; rintro e w1 ⟨rfl, rfl⟩)
          go_ret
          exact ⟨by rw [HR.out]; rfl, BW.out⟩
        · have HT3 : Hid (E = if ∃ x ∈ cs.take k, x.name = S then 14 else chkL (cs.take (k + 1)) (cs.drop (k + 1))) := by show E = _; have := HT2.out; rw [if_neg ht] at this; exact this
          have ht' : T = 1 ∨ T = 2 := by omega
          clear ht HT2
          rcases ht' with rfl | rfl
          all_goals
            go_wp2_with (go_at_call 89; refine (HNM.out _ (by omega)).mono ?_; rintro e w1 ⟨rfl, rfl⟩)
            go_loopw [4] (fun i wr2 => ∃ t : Nat, t ≤ k ∧ i = .int .i64 t ∧ Hid (Below w.heap.size w wr2) ∧ Hid (¬ ∃ x ∈ cs.take t, x.name = S)) (fun i _ => k - (intOf i).toNat)
            case atStart => exact ⟨0, Nat.zero_le _, rfl, BW.out, (by simp : ¬ ∃ x ∈ cs.take 0, x.name = S)⟩
            case round =>
              clear x0 x1 BW
              obtain ⟨t, ht, rfl, BW, HNO⟩ := hrel
              by_cases htk : t < k
              · obtain ⟨y, hy⟩ : ∃ y, cs[t]? = some y := ⟨_, List.getElem?_eq_getElem (by rw [HN.out]; omega)⟩
                obtain ⟨b', o', e', hb', y0, _⟩ := ColsAt.col HV.out hy
                cases e'
                replace y0 := (BW.out.cell (by exact hb)).trans y0
                have x0 := (BW.out.cell (by exact hb)).trans HX0.out
                have HY := Lib.hid hy
                have bt : (t : Int) < (n : Int) := by omega
                have bk : (k : Int) < (n : Int) := by omega
                obtain ⟨Y, hY⟩ : ∃ Y, y.name = Y := ⟨_, rfl⟩
                rw [hY] at y0
                have HYN := Lib.hid hY
                clear hy hY
                by_cases hys : Y = S
                · subst hys
                  have HR : Hid (E = 14) := by
                    show E = 14
                    have := HT3.out
                    rw [if_pos ⟨y, by
                      rw [List.mem_iff_getElem?]
                      exact ⟨t, by rw [List.getElem?_take, if_pos htk]; exact HY.out⟩, HYN.out⟩] at this
                    exact this
                  have dy : (Y.toList == Y.toList) = true := by simp
                  go_wp2_with fail
                  go_quiet (fail)
                  go_wp2_with fail
                  go_ret
                  exact ⟨by rw [HR.out]; rfl, Below.drewN BW.out _⟩
                · have dy : (Y.toList == S.toList) = false := by
                    cases h : (Y.toList == S.toList) with
                    | false => rfl
                    | true => exact absurd (by rw [beq_iff_eq, ByteArray.toList_eq, ByteArray.toList_eq] at h; exact Go.WideShapes.bytes_inj h) hys
                  have HNO2 : Hid (¬ ∃ x ∈ cs.take (t + 1), x.name = S) := by
                    show ¬ _
                    rw [seen_step HY.out, HYN.out]
                    rintro (h | h)
                    · exact HNO.out h
                    · exact hys h
                  clear hys
                  go_wp2_with fail
                  go_quiet (fail)
                  go_wp2_with fail
                  go_roundw
                  case rel => exact ⟨t + 1, by omega, by go_num, Below.drewN BW.out _, HNO2⟩
                  case measure => simp [intOf]; omega
              · obtain rfl : t = k := by omega
                have HR : Hid (chkL (cs.take (t + 1)) (cs.drop (t + 1)) = E) := by show _ = E; have := HT3.out; rw [if_neg HNO.out] at this; exact this.symm
                go_wp2_with fail
                go_roundw
                case rel => exact ⟨t + 1, by omega, by go_num, BW.out, HR⟩
                case measure => simp [intOf]; omega
    · have ek : k = n := by omega
      have HR : Hid (E = 0) := by show E = 0; have := HK.out; rw [ek, ← HN.out, chkL_end] at this; exact this.symm
      clear ek
      go_wp2_with fail
      go_ret
      exact ⟨by rw [HR.out]; rfl, BW.out⟩
end Go.Proofs.YtfmjeggomphliaaGreatDoor.Tb
