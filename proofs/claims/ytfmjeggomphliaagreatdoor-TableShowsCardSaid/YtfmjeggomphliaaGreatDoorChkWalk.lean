/- Walks: columns checked, by the names seen. -/
import Derived.Test.YtfmjeggomphliaaGreatDoorNameWalk
import Derived.Maps.OwnSet
import Derived.Test.YtfmjeggomphliaaGreatDoorBase
set_option linter.unusedVariables false
set_option linter.unusedSimpArgs false
namespace Go.Proofs.YtfmjeggomphliaaGreatDoor.Tb
open Go.RowKit Go Ba Va

/-- The names seen, as the map reads. -/
def seenD (cs : List Col) : DataW Unit := cs.foldl (fun D c => D.put (.string c.name.data.toList) (.lit (.bool true))) (.map [])
theorem seen_snoc (cs : List Col) (c : Col) : seenD (cs ++ [c]) = (seenD cs).put (.string c.name.data.toList) (.lit (.bool true)) := by simp [seenD]
theorem seen_map : ∀ cs : List Col, Maps.IsMap (seenD cs) := by
  intro cs
  have : ∀ (l : List Col) (D : DataW Unit), Maps.IsMap D → Maps.IsMap (l.foldl (fun D c => D.put (.string c.name.data.toList) (.lit (.bool true))) D) := by
    intro l
    induction l with
    | nil => intro D h; exact h
    | cons c l ih => intro D h; exact ih _ (h.put _ _)
  exact this cs _ Maps.isMap_empty
theorem seen_at (s : ByteArray) : ∀ (cs : List Col) (D : DataW Unit) (r : Bool), Maps.IsMap D → D.atKey (.string s.data.toList) (.lit (.bool false)) = .lit (.bool r) →
    (cs.foldl (fun D c => D.put (.string c.name.data.toList) (.lit (.bool true))) D).atKey (.string s.data.toList) (.lit (.bool false)) = .lit (.bool (r || decide (∃ x ∈ cs, x.name = s)))
  | [], D, r, _, h => by simpa using h
  | c :: cs, D, r, hD, h => by
    rw [List.foldl_cons]
    by_cases hc : c.name = s
    · rw [seen_at s cs _ true (hD.put _ _) (by rw [hc]; exact Maps.atKey_put_same hD (by simp [Go.WideAt.IsKeyLit]) _ _)]
      have : decide (∃ x ∈ c :: cs, x.name = s) = true := decide_eq_true ⟨c, by simp, hc⟩
      rw [this]; simp
    · rw [seen_at s cs _ r (hD.put _ _) (by rw [Maps.atKey_put_other (by intro e; injection e with e; exact hc (Go.WideShapes.bytes_inj e).symm)]; exact h)]
      congr 3
      rw [Bool.eq_iff_iff]
      simp [hc]
theorem plain_bool_inv {P : Program} {e : TypeId} (he : P.underlying e = some .bool) {v : Value} {z : DataW Unit × List MemPlace} (h : plainElem P e v = some z) : ∃ b, v = .bool b ∧ z = (.lit (.bool b), []) := by
  unfold plainElem at h
  rw [he] at h
  cases v <;> simp at h
  exact ⟨_, rfl, h.symm⟩
/-- Has this name been seen? -/
theorem seen_look {w : World} {B n : Nat} {cs : List Col} (h : w.ownsMap Tryz.prog 9 (plainElem Tryz.prog 4) B n (seenD cs)) {s : ByteArray} (hs : s.size ≤ maxLen) {r : Bool} (hr : decide (∃ x ∈ cs, x.name = s) = r) :
    (Instr.lookup 126 (.map (some B)) (.string s) false).run Tryz.prog w = .ok (.bool r) w := by
  obtain ⟨v, ps, hrun, hv⟩ := h.lookup (Maps.string_keyed Tryz.underlying9) Tryz.underlying126 (Tryz.zeroValue4 w) (plainElem_bool Tryz.underlying4 false) (Go.WideMaps.keyOf_string_mk Tryz.underlying9 hs)
  have e := seen_at s cs (.map []) false Maps.isMap_empty rfl
  rw [Bool.false_or, hr] at e
  unfold seenD at hv
  rw [e] at hv
  obtain ⟨b, rfl, hb⟩ := plain_bool_inv Tryz.underlying4 hv
  simp only [Prod.mk.injEq, DataW.lit.injEq, Lit.bool.injEq] at hb
  rw [hrun, ← hb.1]
/-- A slice value reads as these columns. -/
def ColsAt (W : World) (v : Value) (cs : List Col) : Prop := SlAt W v 2 (cs.map cc)
theorem ColsAt.below {W W' : World} {v : Value} {cs : List Col} (h : ColsAt W v cs) (hb : Below W.heap.size W W') : ColsAt W' v cs := SlAt.below h hb
theorem ColsAt.len {W : World} {v : Value} {cs : List Col} (h : ColsAt W v cs) : ∃ ao cap, v = .slice ao cs.length cap ∧ cs.length ≤ cap ∧ cap ≤ maxLen := by
  have := SlAt.len h
  rwa [List.length_map] at this
theorem ColsAt.col {W : World} {ao : Option Addr} {n cap k : Nat} {cs : List Col} {c : Col} (h : ColsAt W (.slice ao n cap) cs) (hc : cs[k]? = some c) :
    ∃ b o, ao = some ⟨b, o, none⟩ ∧ b < W.heap.size ∧ W.cell? ⟨b, o + k * 2, none⟩ = some (.string c.name) ∧ W.cell? ⟨b, o + k * 2 + 1, none⟩ = some (.int .i64 c.ty) := by
  obtain ⟨b, o, e, hlt, hx⟩ := SlAt.cells h (i := k) (x := cc c) (by rw [List.getElem?_map, hc]; rfl)
  exact ⟨b, o, e, hlt, hx 0 (by decide), hx 1 (by decide)⟩
theorem grown_of {w w' : World} (hb : Below w.heap.size w w') (r : Option Nat) : w.grownBy w' r := ⟨hb.os, hb.tape, hb.output, hb.size, fun k hk _ => hb.block k hk⟩
set_option maxHeartbeats 3200000 in
theorem check_any (v : Value) (cs : List Col) (w : World) (hl : cs.length ≤ 4096) (hs : ∀ c ∈ cs, c.name.size ≤ 4096) (hv : ColsAt w v cs) :
    Calls Tryz.prog 66 #[v] w fun e w' => e = .returned (.int .i64 (chk cs)) ∧ Below w.heap.size w w' := by
  obtain ⟨ao, cap, rfl, hcap, _⟩ := hv.len
  obtain ⟨n, hn⟩ : ∃ n, cs.length = n := ⟨_, rfl⟩
  by_cases h1 : n = 0
  · have hr : chk cs = 31 := by unfold chk; rw [if_pos (.inl (by omega))]
    rw [hr]
    rw [hn] at hcap ⊢
    subst h1
    clear hv hs hr
    go_enter Tryz.func66, Tryz.ntmps66
    go_wp2_with fail
    go_ret
    exact ⟨rfl, Below.refl _ _⟩
  have d1 : ((n : Int) == 0) = false := by
    rw [beq_eq_false_iff_ne]; omega
  by_cases h2 : 16 < n
  · have hr : chk cs = 31 := by unfold chk; rw [if_pos (.inr (by omega))]
    rw [hr]
    rw [hn] at hcap ⊢
    clear hv hs hr
    go_enter Tryz.func66, Tryz.ntmps66
    go_wp2_with fail
    go_ret
    exact ⟨rfl, Below.refl _ _⟩
  have hr : chk cs = chkL [] cs := by unfold chk; rw [if_neg (by omega)]
  rw [hr]
  obtain ⟨E, hE⟩ : ∃ E, chkL [] cs = E := ⟨_, rfl⟩
  rw [hE]
  have HE := Lib.hid hE
  have HV := Lib.hid hv
  have HS := Lib.hid hs
  have hmm := @run_makeMap Tryz.prog
  rw [hn] at hcap HV ⊢
  have HN := Lib.hid hn
  clear hr hE hv hs hn h1
  go_enter Tryz.func66, Tryz.ntmps66
  go_wp2_with fail
  go_loopw [17] (fun i wr => ∃ k : Nat, k ≤ n ∧ i = .int .i64 k ∧ Hid (wr.ownsMap Tryz.prog 9 (plainElem Tryz.prog 4) w.heap.size k (seenD (cs.take k))) ∧ Hid (Below w.heap.size w wr) ∧ Hid (chkL (cs.take k) (cs.drop k) = E)) (fun i _ => n - (intOf i).toNat)
  case atStart => exact ⟨0, Nat.zero_le _, rfl, World.ownsMap_made _ _ _ _, (Below.refl _ _).alloc (Nat.le_refl _) _, HE.out⟩
  case round =>
    obtain ⟨k, hk, rfl, HO, BW, HK⟩ := hrel
    clear HE
    by_cases hlt : k < n
    · obtain ⟨c, hc⟩ : ∃ c, cs[k]? = some c := ⟨_, List.getElem?_eq_getElem (by rw [HN.out]; exact hlt)⟩
      have hst := chkL_of cs k c hc
      rw [HK.out] at hst
      obtain ⟨b, o, rfl, hb, x0, x1⟩ := ColsAt.col HV.out hc
      have hsz := HS.out c (List.mem_of_getElem? hc)
      replace x0 := (BW.out.cell (by exact hb)).trans x0
      replace x1 := (BW.out.cell (by exact hb)).trans x1
      obtain ⟨S, hS⟩ : ∃ S, c.name = S := ⟨_, rfl⟩
      obtain ⟨T, hT⟩ : ∃ T, c.ty = T := ⟨_, rfl⟩
      rw [hS] at x0 hst hsz
      rw [hT] at x1 hst
      have HT := Lib.hid hst
      have HC := Lib.hid hc
      have HCS := Lib.hid hS
      clear hst hc hS hT
      cases hnm : nameB S with
      | false =>
        have HNM := Lib.hid (name_is hnm)
        have HR : Hid (E = 13) := by show E = 13; have := HT.out; rw [hnm, if_pos rfl] at this; exact this
        clear hnm
        go_wp2_with (go_at_call 93; refine (HNM.out _ (by omega)).mono ?_; rintro e w1 ⟨rfl, hb1⟩)
        go_ret
        exact ⟨by rw [HR.out]; rfl, next (BW.out.alloc BW.out.size _) hb1 (Nat.le_refl _)⟩
      | true =>
        have HNM := Lib.hid (name_is hnm)
        have HT2 : Hid (E = if T ≠ 1 ∧ T ≠ 2 then 12 else if ∃ x ∈ cs.take k, x.name = S then 14 else chkL (cs.take (k + 1)) (cs.drop (k + 1))) := by show E = _; have := HT.out; rw [hnm, if_neg (by decide)] at this; exact this
        have HM : Hid (S.size ≤ maxLen) := by show _ ≤ _; unfold maxLen; omega
        clear hnm HT
        by_cases ht : T ≠ 1 ∧ T ≠ 2
        · have HR : Hid (E = 12) := by show E = 12; have := HT2.out; rw [if_pos ht] at this; exact this
          have dt1 : (T != 1) = true := by simpa using ht.1
          have dt2 : (T != 2) = true := by simpa using ht.2
          clear ht
          go_wp2_with (go_at_call 93; refine (HNM.out _ (by omega)).mono ?_; rintro e w1 ⟨rfl, hb1⟩; obtain ⟨v0, v1, _, _⟩ := ((Box.new wr [.string S, .int .i64 T] 45).next hb1).two)
          go_ret
          exact ⟨by rw [HR.out]; rfl, next (BW.out.alloc BW.out.size _) hb1 (Nat.le_refl _)⟩
        · have HT3 : Hid (E = if ∃ x ∈ cs.take k, x.name = S then 14 else chkL (cs.take (k + 1)) (cs.drop (k + 1))) := by show E = _; have := HT2.out; rw [if_neg ht] at this; exact this
          have ht' : T = 1 ∨ T = 2 := by omega
          clear ht HT2
          obtain ⟨r, hr⟩ : ∃ r, decide (∃ x ∈ cs.take k, x.name = S) = r := ⟨_, rfl⟩
          have HRR := Lib.hid hr
          clear hr
          cases r with
          | true =>
            have HR : Hid (E = 14) := by show E = 14; have := HT3.out; rw [if_pos (of_decide_eq_true HRR.out)] at this; exact this
            rcases ht' with rfl | rfl
            all_goals
              go_wp2_with (go_at_call 93; refine (HNM.out _ (by omega)).mono ?_; rintro e w1 ⟨rfl, hb1⟩; obtain ⟨v0, v1, _, _⟩ := ((Box.new wr [_, _] 45).next hb1).two; have hlk := seen_look ((HO.out.alloc _).kept (grown_of hb1 none) (by simp)) HM.out HRR.out)
              go_ret
              exact ⟨by rw [HR.out]; rfl, next (BW.out.alloc BW.out.size _) hb1 (Nat.le_refl _)⟩
          | false =>
            have HR : Hid (chkL (cs.take (k + 1)) (cs.drop (k + 1)) = E) := by show _ = E; have := HT3.out; rw [if_neg (of_decide_eq_false HRR.out)] at this; exact this.symm
            have HSN : Hid (seenD (cs.take (k + 1)) = (seenD (cs.take k)).put (.string S.data.toList) (.lit (.bool true))) := by show _ = _; rw [take_one cs k c HC.out, seen_snoc, HCS.out]
            have hkey := fun hs => Go.WideMaps.keyOf_string_mk (P := Tryz.prog) Tryz.underlying9 (s := S) hs
            have HKEY := Lib.hid (hkey HM.out)
            clear hkey
            rcases ht' with rfl | rfl
            all_goals
              go_wp2_with (first | (go_at_call 93; refine (HNM.out _ (by omega)).mono ?_; rintro e w1 ⟨rfl, hb1⟩; obtain ⟨v0, v1, _, _⟩ := ((Box.new wr [_, _] 45).next hb1).two; have hown1 := (HO.out.alloc (.cells #[_, _] 45)).kept (grown_of hb1 none) (by simp); have hlk := seen_look hown1 HM.out HRR.out; have HO1 := Lib.hid hown1; clear hown1) | (at_mapUpdate; refine wpList_mapUpdate_own _ rfl _ _ _ 126 rfl 9 4 (Maps.string_keyed Tryz.underlying9) Tryz.underlying126 _ w.heap.size k _ rfl HO1.out (by unfold maxLen; omega) _ _ _ rfl rfl HKEY.out _ [] (plainElem_bool Tryz.underlying4 true) ?_; intro w2 hown2 hgrow2))
              go_roundw
              case rel => exact ⟨k + 1, by omega, by go_num, by show World.ownsMap _ _ _ _ _ _ _; rw [HSN.out]; exact hown2, (next (BW.out.alloc BW.out.size _) hb1 (Nat.le_refl _)).grown hgrow2 (next (BW.out.alloc BW.out.size (.cells #[_, _] 45)) hb1 (Nat.le_refl _)).size (fun j e => by cases e; exact Nat.le_refl _), HR⟩
              case measure => simp [intOf]; omega
    · have ek : k = n := by omega
      have HR : Hid (E = 0) := by show E = 0; have := HK.out; rw [ek, ← HN.out, chkL_end] at this; exact this.symm
      clear ek
      go_wp2_with fail
      go_ret
      exact ⟨by rw [HR.out]; rfl, BW.out⟩
theorem check_is {v : Value} {cs : List Col} {r : Int} (h : chk cs = r) (w : World) (hl : cs.length ≤ 4096) (hs : ∀ c ∈ cs, c.name.size ≤ 4096) (hv : ColsAt w v cs) :
    Calls Tryz.prog 66 #[v] w fun e w' => e = .returned (.int .i64 r) ∧ Below w.heap.size w w' := by
  rw [← h]; exact check_any v cs w hl hs hv
end Go.Proofs.YtfmjeggomphliaaGreatDoor.Tb
