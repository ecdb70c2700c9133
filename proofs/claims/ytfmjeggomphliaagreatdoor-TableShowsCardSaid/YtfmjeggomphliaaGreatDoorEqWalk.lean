/- Walks: tables that are the same; rows that are those; an empty table. -/
import Derived.Test.YtfmjeggomphliaaGreatDoorLawWalk2
set_option linter.unusedVariables false
set_option linter.unusedSimpArgs false
namespace Go.Proofs.YtfmjeggomphliaaGreatDoor.Tb
open Go.RowKit Go Go.Sort Ba Va Sr

theorem colv_eq (sa : ByteArray) (ka : Int) (sb : ByteArray) (kb : Int) (r : Bool) (hr : (sa = sb ∧ ka = kb) ↔ r = true) (w : World) :
    (Op.equalIn 10000 45 (.agg #[.string sa, .int .i64 ka]) (.agg #[.string sb, .int .i64 kb])).run Tryz.prog w = .ok r w := by
  have u3 := Tryz.underlying3
  have u9 := Tryz.underlying9
  have hS : Tryz.prog.underlying 45 = some (.struct (Tryz.prog.fieldsOf 45)) := by kernel_rfl
  have hp : Tryz.prog.stoodInHeld 45 = false := by kernel_rfl
  rw [show (10000 : Nat) = 9999 + 1 from rfl, run_equalIn_agg w 9999 45 _ _ hS hp]
  simp only [Program.fieldsOf, Tryz.underlying45]
  go_simp
  cases r
  · have e3 : sa.toList = sb.toList ↔ sa = sb := ⟨fun h => by rw [ByteArray.toList_eq, ByteArray.toList_eq] at h; exact Go.WideShapes.bytes_inj h, fun h => by rw [h]⟩
    have hn : ¬ (sa = sb ∧ ka = kb) := fun h => by have := hr.1 h; cases this
    by_cases h1 : ka = kb <;> by_cases h3 : sa = sb <;> simp_all
  · obtain ⟨rfl, rfl⟩ := hr.2 rfl
    simp
set_option maxHeartbeats 1600000 in
theorem colEq_is (v u : Value) (a b : List Col) (q : Bool) (hq : a = b ↔ q = true) (w : World) (hla : a.length ≤ 4096) (hlb : b.length ≤ 4096) (hv : ColsAt w v a) (hu : ColsAt w u b) :
    Calls Tryz.prog 68 #[v, u] w fun e w' => e = .returned (.bool q) ∧ Below w.heap.size w w' := by
  obtain ⟨ao, cap, rfl, hcap, _⟩ := hv.len
  obtain ⟨bo, bcap, rfl, hbcap, _⟩ := hu.len
  obtain ⟨n, hn⟩ : ∃ n, a.length = n := ⟨_, rfl⟩
  obtain ⟨m, hm⟩ : ∃ m, b.length = m := ⟨_, rfl⟩
  have HV := Lib.hid hv
  have HU := Lib.hid hu
  have HQ := Lib.hid hq
  rw [hn] at hcap hla HV ⊢
  rw [hm] at hbcap hlb HU ⊢
  have HN := Lib.hid hn
  have HM := Lib.hid hm
  clear hq hv hu hn hm
  by_cases hnm : n = m
  · subst hnm
    go_enter Tryz.func68, Tryz.ntmps68
    go_wp2_with fail
    go_loopw [13] (fun i wr => ∃ k : Nat, k ≤ n ∧ i = .int .i64 k ∧ Hid (Below w.heap.size w wr) ∧ Hid (a.take k = b.take k)) (fun i _ => n - (intOf i).toNat)
    case atStart => exact ⟨0, Nat.zero_le _, rfl, Below.refl _ _, (rfl : a.take 0 = b.take 0)⟩
    case round =>
      obtain ⟨k, hk, rfl, BW, HK⟩ := hrel
      by_cases hlt : k < n
      · obtain ⟨x, hx⟩ : ∃ x, a[k]? = some x := ⟨_, List.getElem?_eq_getElem (by rw [HN.out]; exact hlt)⟩
        obtain ⟨y, hy⟩ : ∃ y, b[k]? = some y := ⟨_, List.getElem?_eq_getElem (by rw [HM.out]; exact hlt)⟩
        obtain ⟨b1, o1, rfl, g1, x0, x1⟩ := ColsAt.col HV.out hx
        obtain ⟨b2, o2, rfl, g2, y0, y1⟩ := ColsAt.col HU.out hy
        replace x0 := (BW.out.cell (by exact g1)).trans x0
        replace x1 := (BW.out.cell (by exact g1)).trans x1
        replace y0 := (BW.out.cell (by exact g2)).trans y0
        replace y1 := (BW.out.cell (by exact g2)).trans y1
        have HX := Lib.hid hx
        have HY := Lib.hid hy
        have hbl : (k : Int) < (n : Int) := by omega
        obtain ⟨z, hz⟩ : ∃ z : Bool, (x.name = y.name ∧ x.ty = y.ty) ↔ z = true := by
          by_cases h : x.name = y.name ∧ x.ty = y.ty
          · exact ⟨true, by simp [h]⟩
          · exact ⟨false, by simp [h]⟩
        have heq := fun W => colv_eq x.name x.ty y.name y.ty z hz W
        have HZ : Hid (x = y ↔ z = true) := by
          show _ ↔ _
          rw [← hz]
          obtain ⟨_, _⟩ := x
          obtain ⟨_, _⟩ := y
          simp
        obtain ⟨xk, hxk⟩ : ∃ q, x.name = q := ⟨_, rfl⟩
        obtain ⟨xt, hxt⟩ : ∃ q, x.ty = q := ⟨_, rfl⟩
        obtain ⟨yk, hyk⟩ : ∃ q, y.name = q := ⟨_, rfl⟩
        obtain ⟨yt, hyt⟩ : ∃ q, y.ty = q := ⟨_, rfl⟩
        rw [hxk, hxt, hyk, hyt] at heq
        rw [hxk] at x0
        rw [hxt] at x1
        rw [hyk] at y0
        rw [hyt] at y1
        clear hx hy hz hxk hxt hyk hyt
        cases z with
        | true =>
          have HK2 : Hid (a.take (k + 1) = b.take (k + 1)) := (take_eq HK.out HX.out HY.out).2 (HZ.out.2 rfl)
          go_wp2_with fail
          go_quiet (fail)
          go_wp2_with fail
          go_roundw
          case rel => exact ⟨k + 1, by omega, by go_num, Below.drewN BW.out _, HK2⟩
          case measure => simp [intOf]; omega
        | false =>
          have HR : Hid (q = false) := by
            show q = false
            cases e : q with
            | false => rfl
            | true => exact absurd (HQ.out.2 e) (take_ne HX.out HY.out (fun h => by have := HZ.out.1 h; cases this))
          go_wp2_with fail
          go_quiet (fail)
          go_wp2_with fail
          go_ret
          exact ⟨ret_bool HR.out.symm, Below.drewN BW.out _⟩
      · obtain rfl : k = n := by omega
        have HR : Hid (q = true) := by
          show q = true
          have := HK.out
          rw [← HN.out, List.take_length] at this
          rw [HN.out, ← HM.out, List.take_length] at this
          exact HQ.out.1 this
        go_wp2_with fail
        go_ret
        exact ⟨ret_bool HR.out.symm, BW.out⟩
  · have HR : Hid (q = false) := by
      show q = false
      cases e : q with
      | false => rfl
      | true => have := congrArg List.length (HQ.out.2 e); rw [HN.out, HM.out] at this; exact absurd this hnm
    have hnm' : ((n : Int) != (m : Int)) = true := by simp; omega
    go_enter Tryz.func68, Tryz.ntmps68
    go_wp2_with fail
    go_ret
    exact ⟨ret_bool HR.out.symm, Below.refl _ _⟩
theorem schEq_is (v u : Value) (a b : List Col) (q : Bool) (hq : a = b ↔ q = true) (w : World) (hla : a.length ≤ 4096) (hlb : b.length ≤ 4096) (hv : ColsAt w v a) (hu : ColsAt w u b) :
    Calls Tryz.prog 38 #[v, u] w fun e w' => e = .returned (.bool q) ∧ Below w.heap.size w w' := by
  have HC := Lib.hid (colEq_is v u a b q hq w hla hlb hv hu)
  clear hq hv hu
  go_enter Tryz.func38, Tryz.ntmps38
  go_wp2_with (go_at_call 68; refine HC.out.mono ?_; rintro e w1 ⟨rfl, hb1⟩)
  go_ret
  exact ⟨rfl, hb1⟩
theorem eq1_is (v u : Value) (a b : List Val) (q : Bool) (hq : a = b ↔ q = true) (w : World) (hla : a.length ≤ 4096) (hlb : b.length ≤ 4096) (hv : RowAt w v a) (hu : RowAt w u b) :
    Calls Tryz.prog 40 #[v, u] w fun e w' => e = .returned (.bool q) ∧ Below w.heap.size w w' := by
  have HC := Lib.hid (rowEq_is v u a b q hq w hla hlb hv hu)
  clear hq hv hu
  go_enter Tryz.func40, Tryz.ntmps40
  go_wp2_with (go_at_call 41; refine HC.out.mono ?_; rintro e w1 ⟨rfl, hb1⟩)
  go_ret
  exact ⟨rfl, hb1⟩
set_option maxHeartbeats 1600000 in
theorem eqF_is (v u : Value) (a b : List (List Val)) (q : Bool) (hq : a = b ↔ q = true) (w : World) (ba : BdRs a) (bb : BdRs b) (hv : RowsAt w v a) (hu : RowsAt w u b) :
    Calls Tryz.prog 39 #[v, u, .func (.func 40) #[] #[]] w fun e w' => e = .returned (.bool q) ∧ Below w.heap.size w w' := by
  obtain ⟨ao, cap, rfl, hcap, _⟩ := hv.len
  obtain ⟨bo, bcap, rfl, hbcap, _⟩ := hu.len
  obtain ⟨n, hn⟩ : ∃ n, a.length = n := ⟨_, rfl⟩
  obtain ⟨m, hm⟩ : ∃ m, b.length = m := ⟨_, rfl⟩
  have hla := ba.len
  have hlb := bb.len
  have HV := Lib.hid hv
  have HU := Lib.hid hu
  have HQ := Lib.hid hq
  have BA := Lib.hid ba
  have BB := Lib.hid bb
  rw [hn] at hcap hla HV ⊢
  rw [hm] at hbcap hlb HU ⊢
  have HN := Lib.hid hn
  have HM := Lib.hid hm
  clear hq hv hu hn hm ba bb
  by_cases hnm : n = m
  · subst hnm
    go_enter Tryz.func39, Tryz.ntmps39
    go_wp2_with fail
    go_loopw [17] (fun i wr => ∃ k : Nat, k ≤ n ∧ i = .int .i64 k ∧ Hid (Below w.heap.size w wr) ∧ Hid (a.take k = b.take k)) (fun i _ => n - (intOf i).toNat)
    case atStart => exact ⟨0, Nat.zero_le _, rfl, Below.refl _ _, (rfl : a.take 0 = b.take 0)⟩
    case round =>
      obtain ⟨k, hk, rfl, BW, HK⟩ := hrel
      by_cases hlt : k < n
      · obtain ⟨x, hx⟩ : ∃ x, a[k]? = some x := ⟨_, List.getElem?_eq_getElem (by rw [HN.out]; exact hlt)⟩
        obtain ⟨y, hy⟩ : ∃ y, b[k]? = some y := ⟨_, List.getElem?_eq_getElem (by rw [HM.out]; exact hlt)⟩
        obtain ⟨b1, o1, h1, rfl, g1, x0, hh1⟩ := RowsAt.row HV.out hx
        obtain ⟨b2, o2, h2, rfl, g2, y0, hh2⟩ := RowsAt.row HU.out hy
        replace x0 := (BW.out.cell (by exact g1)).trans x0
        replace y0 := (BW.out.cell (by exact g2)).trans y0
        obtain ⟨z, hz⟩ : ∃ z : Bool, x = y ↔ z = true := by
          by_cases h : x = y
          · exact ⟨true, by simp [h]⟩
          · exact ⟨false, by simp [h]⟩
        have HE := Lib.hid (eq1_is h1 h2 x y z hz wr (BA.out.row x (List.mem_of_getElem? hx)).len (BB.out.row y (List.mem_of_getElem? hy)).len (hh1.below BW.out) (hh2.below BW.out))
        have HX := Lib.hid hx
        have HY := Lib.hid hy
        have HZ := Lib.hid hz
        have hbl : (k : Int) < (n : Int) := by omega
        clear hx hy hz hh1 hh2
        cases z with
        | true =>
          have HK2 : Hid (a.take (k + 1) = b.take (k + 1)) := (take_eq HK.out HX.out HY.out).2 (HZ.out.2 rfl)
          go_wp2_with (go_at_call 40; refine HE.out.mono ?_; rintro e w1 ⟨rfl, hb1⟩)
          go_roundw
          case rel => exact ⟨k + 1, by omega, by go_num, two BW.out hb1, HK2⟩
          case measure => simp [intOf]; omega
        | false =>
          have HR : Hid (q = false) := by
            show q = false
            cases e : q with
            | false => rfl
            | true => exact absurd (HQ.out.2 e) (take_ne HX.out HY.out (fun h => by have := HZ.out.1 h; cases this))
          go_wp2_with (go_at_call 40; refine HE.out.mono ?_; rintro e w1 ⟨rfl, hb1⟩)
          go_ret
          exact ⟨ret_bool HR.out.symm, two BW.out hb1⟩
      · obtain rfl : k = n := by omega
        have HR : Hid (q = true) := by
          show q = true
          have := HK.out
          rw [← HN.out, List.take_length] at this
          rw [HN.out, ← HM.out, List.take_length] at this
          exact HQ.out.1 this
        go_wp2_with fail
        go_ret
        exact ⟨ret_bool HR.out.symm, BW.out⟩
  · have HR : Hid (q = false) := by
      show q = false
      cases e : q with
      | false => rfl
      | true => have := congrArg List.length (HQ.out.2 e); rw [HN.out, HM.out] at this; exact absurd this hnm
    have hnm' : ((n : Int) != (m : Int)) = true := by simp; omega
    go_enter Tryz.func39, Tryz.ntmps39
    go_wp2_with fail
    go_ret
    exact ⟨ret_bool HR.out.symm, Below.refl _ _⟩
set_option maxHeartbeats 1600000 in
set_option maxRecDepth 100000 in
/-- Tables that are the same. -/
theorem tabEq_is (sv rv su ru : Value) (cs : List Col) (rs : List (List Val)) (w : World) (bc : BdC cs) (br : BdRs rs) (hs : ColsAt w sv cs) (hv : RowsAt w rv rs) (hs2 : ColsAt w su cs) (hv2 : RowsAt w ru rs) :
    Calls Tryz.prog 16 #[.agg #[sv, rv], .agg #[su, ru]] w fun e w' => e = .returned (.bool true) ∧ Below w.heap.size w w' := by
  have HS : Hid (∀ W, Below w.heap.size w W → Calls Tryz.prog 38 #[sv, su] W fun e w' => e = .returned (.bool true) ∧ Below W.heap.size W w') := fun W hb => schEq_is sv su cs cs true (by simp) W bc.len bc.len (hs.below hb) (hs2.below hb)
  have HF : Hid (∀ W, Below w.heap.size w W → Calls Tryz.prog 39 #[rv, ru, .func (.func 40) #[] #[]] W fun e w' => e = .returned (.bool true) ∧ Below W.heap.size W w') := fun W hb => eqF_is rv ru rs rs true (by simp) W br br (hv.below hb) (hv2.below hb)
  obtain ⟨sa, sc, rfl, _, _⟩ := hs.len
  obtain ⟨ra, rc, rfl, _, _⟩ := hv.len
  obtain ⟨sa2, sc2, rfl, _, _⟩ := hs2.len
  obtain ⟨ra2, rc2, rfl, _, _⟩ := hv2.len
  have B1 := (Box.new w [.slice sa cs.length sc, .slice ra rs.length rc] 27).alloc (.cells #[.slice sa2 cs.length sc2, .slice ra2 rs.length rc2] 27)
  have B2 := Box.new (w.alloc (.cells #[.slice sa cs.length sc, .slice ra rs.length rc] 27)) [.slice sa2 cs.length sc2, .slice ra2 rs.length rc2] 27
  rw [World.size_alloc] at B2
  have bw1 : Hid (Below w.heap.size w ((w.alloc (.cells #[.slice sa cs.length sc, .slice ra rs.length rc] 27)).alloc (.cells #[.slice sa2 cs.length sc2, .slice ra2 rs.length rc2] 27))) := ((Below.refl _ _).alloc (Nat.le_refl _) _).alloc (by simp) _
  clear hs hv hs2 hv2 bc br
  go_enter Tryz.func16, Tryz.ntmps16
  go_wp2_with (first | (go_at_call 38; refine (HS.out _ bw1.out).mono ?_; rintro e w1 ⟨rfl, hb1⟩; obtain ⟨z0, z1, _, _⟩ := (B1.next hb1).two; obtain ⟨y0, y1, _, _⟩ := (B2.next hb1).two) | (go_at_call 39; refine (HF.out _ (two bw1.out hb1)).mono ?_; rintro e w2 ⟨rfl, hb2⟩))
  go_ret
  exact ⟨rfl, two (two bw1.out hb1) hb2⟩
end Go.Proofs.YtfmjeggomphliaaGreatDoor.Tb
