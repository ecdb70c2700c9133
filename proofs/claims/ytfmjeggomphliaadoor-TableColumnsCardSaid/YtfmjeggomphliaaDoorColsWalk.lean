/- Walks: the statement TableColumns. -/
import Derived.Test.YtfmjeggomphliaaDoorColWalk
set_option linter.unusedVariables false
set_option linter.unusedSimpArgs false
namespace Go.Proofs.YtfmjeggomphliaaDoor.Tb
open Go.RowKit Go Go.Sort Ba Va Sr

/-- What Column tells, of whatever kind: its values, or none. -/
def ColAny (cs : List Col) (rs : List (List Val)) (p : Option Nat) (w : World) (e : Ending) (w' : World) : Prop :=
  ∃ ao cap m F, e = .returned (.tuple #[.slice ao m cap, .int .i64 F]) ∧ Below w.heap.size w w' ∧ ((p = none ∧ m = 0 ∧ F = 13) ∨ ∃ i, p = some i ∧ F = 0 ∧ m = rs.length ∧ RowAt w' (.slice ao m cap) (colV rs i))
theorem colV_len (rs : List (List Val)) (i : Nat) : (colV rs i).length = rs.length := by simp [colV]
theorem columns_any (sv v : Value) (cs : List Col) (rs : List (List Val)) (nm : ByteArray) (p : Option Nat) (hp : Pos cs nm p) (w : World) (bc : BdC cs) (br : BdRs rs) (hs : ColsAt w sv cs) (hv : RowsAt w v rs) (hE : errT cs rs = 0) :
    Calls Tryd.prog 29 #[.agg #[sv, v], .string nm] w (ColAny cs rs p w) := by
  cases p with
  | none =>
    refine (column_no sv v cs rs nm 0 13 w bc br hs hv hE (.inr ⟨rfl, hp, rfl⟩)).mono ?_
    rintro e w' ⟨h1, h2⟩
    exact ⟨none, 0, 0, 13, h1, h2, .inl ⟨rfl, rfl, rfl⟩⟩
  | some i =>
    refine (column_is sv v cs rs nm i hp w bc br hs hv hE).mono ?_
    rintro e w' ⟨v', h1, h2, h3⟩
    obtain ⟨ao, cap, rfl, _, _⟩ := h2.len
    rw [colV_len] at h1 h2
    exact ⟨ao, cap, rs.length, 0, h1, h3, .inr ⟨i, rfl, rfl, rfl, h2⟩⟩
set_option maxHeartbeats 8000000 in
set_option maxRecDepth 100000 in
theorem columns_law (sv v : Value) (nm : ByteArray) (cs : List Col) (rs : List (List Val)) (w : World) (hE : EnvT w) (hs : ColsAt w sv cs) (hv : RowsAt w v rs) (h1 : ∀ c ∈ cs, c.name.size ≤ maxLen) (h2 : ∀ r ∈ rs, ∀ x ∈ r, x.t.size ≤ maxLen) (h3 : nm.size ≤ maxLen) (hn : ∀ r ∈ rs, Num r) :
    Calls Tryd.prog 7 #[.agg #[sv, v], .string nm] w fun e w' => e = .returned (.bool true) ∧ Below w.heap.size w w' := by
  obtain ⟨sao, scap, rfl, hsc, hsm⟩ := hs.len
  obtain ⟨ao, cap, rfl, hcp, hcm⟩ := hv.len
  unfold maxLen at h3
  have HE := Lib.hid hE
  have HS := Lib.hid hs
  have HV := Lib.hid hv
  have B1 := Lib.hid (Box.new w [.slice sao cs.length scap, .slice ao rs.length cap] 26)
  have bw1 : Hid (Below w.heap.size w (w.alloc (.cells #[.slice sao cs.length scap, .slice ao rs.length cap] 26))) := (Below.refl _ _).alloc (Nat.le_refl _) _
  obtain ⟨q, hq⟩ : ∃ q : Bool, q = true ↔ Small cs rs := by
    by_cases h : Small cs rs
    · exact ⟨true, by simp [h]⟩
    · exact ⟨false, by simp [h]⟩
  have HSM : Hid (∀ W, Below w.heap.size w W → Calls Tryd.prog 9 #[.agg #[.slice sao cs.length scap, .slice ao rs.length cap]] W fun e w' => e = .returned (.bool q) ∧ Below W.heap.size W w') := fun W hb => small_is _ _ cs rs q hq W (hs.below hb) (hv.below hb) h1 h2
  have HAW : Hid (∀ W, Below w.heap.size w W → Calls Tryd.prog 12 #[] W fun e w' => e = .returned (.bool true) ∧ Below W.heap.size W w') := fun W hb => awake_any W (HE.out.below hb)
  cases q with
  | false =>
    clear hs hv hE h1 h2 hn hq
    go_enter Tryd.func7, Tryd.ntmps7
    go_wp2_with (first | (go_at_call 9; refine (HSM.out _ bw1.out).mono ?_; rintro e v1 ⟨rfl, hb1⟩) | (go_at_call 12; refine (HAW.out _ (two bw1.out hb1)).mono ?_; rintro e v2 ⟨rfl, hb2⟩))
    go_ret
    exact ⟨rfl, two (two bw1.out hb1) hb2⟩
  | true =>
    by_cases h100 : 100 < nm.size
    · clear hs hv hE h1 h2 hn hq
      go_enter Tryd.func7, Tryd.ntmps7
      go_wp2_with (first | (go_at_call 9; refine (HSM.out _ bw1.out).mono ?_; rintro e v1 ⟨rfl, hb1⟩) | (go_at_call 12; refine (HAW.out _ (two bw1.out hb1)).mono ?_; rintro e v2 ⟨rfl, hb2⟩))
      go_ret
      exact ⟨rfl, two (two bw1.out hb1) hb2⟩
    have hS := hq.1 rfl
    have hbc := hS.bc
    have hbr := hS.br hn
    obtain ⟨E, hEE⟩ : ∃ E, errT cs rs = E := ⟨_, rfl⟩
    have HRT : Hid (∀ W, Below w.heap.size w W → Calls Tryd.prog 10 #[.agg #[.slice sao cs.length scap, .slice ao rs.length cap]] W fun e w' => e = .returned (.int .i64 E) ∧ Below W.heap.size W w') := fun W hb => right3_is hEE W hbc hbr (hs.below hb) (hv.below hb)
    by_cases hE0 : E = 0
    · subst hE0
      obtain ⟨p, hp⟩ := pos_ex nm cs
      have HP := Lib.hid hp
      have HCO : Hid (∀ W, Below w.heap.size w W → Calls Tryd.prog 29 #[.agg #[.slice sao cs.length scap, .slice ao rs.length cap], .string nm] W (ColAny cs rs p W)) := fun W hb => columns_any _ _ cs rs nm p hp W hbc hbr (hs.below hb) (hv.below hb) hEE
      have HFL : Hid (∀ r ∈ rs, r.length = cs.length) := fun r hr => fitL_len ((errT_zero hEE).2.1 r hr)
      have hc20 := hS.c1
      have hr60 := hS.r1
      obtain ⟨sn, hsn⟩ : ∃ sn, cs.length = sn := ⟨_, rfl⟩
      obtain ⟨n, hnn⟩ : ∃ n, rs.length = n := ⟨_, rfl⟩
      have HSN := Lib.hid hsn
      have HN := Lib.hid hnn
      rw [hsn] at hc20 HS
      rw [hnn] at hr60 HV
      rw [hsn, hnn] at B1 bw1 HSM HRT HCO ⊢
      clear hs hv hE h1 h2 hn hq hS hbc hbr hEE hp hsn hnn hsc hcp
      go_enter Tryd.func7, Tryd.ntmps7
      go_wp2_with (first | (go_at_call 9; refine (HSM.out _ bw1.out).mono ?_; rintro e v1 ⟨rfl, hb1⟩; obtain ⟨z0, z1, _, _⟩ := (B1.out.next hb1).two) | (go_at_call 29; refine (HCO.out _ (two bw1.out hb1)).mono ?_; rintro e v2 ⟨co, cc2, m, F, rfl, hb2, hcol⟩; have HCOL := Lib.hid hcol; clear hcol; obtain ⟨y0, y1, _, _⟩ := ((B1.out.next hb1).next hb2).two) | (go_at_call 10; refine (HRT.out _ (two (two bw1.out hb1) hb2)).mono ?_; rintro e v3 ⟨rfl, hb3⟩; obtain ⟨x0, x1, _, _⟩ := (((B1.out.next hb1).next hb2).next hb3).two))
      have bw3 := Lib.hid (two (two (two bw1.out hb1) hb2) hb3)
      have RB3 := Lib.hid (((B1.out.next hb1).next hb2).next hb3)
      have HB3 := Lib.hid hb3
      clear z0 z1 y0 y1 x0 x1 hb1 hb2 hb3 HSM HRT HCO bw1 B1
      go_loopw [45] (fun i wr => ∃ k : Nat, k ≤ sn ∧ i = .int .i64 k ∧ Hid (Below v3.heap.size v3 wr) ∧ Hid (NoneTo cs nm k)) (fun i _ => sn - (intOf i).toNat)
      case atStart => exact ⟨0, Nat.zero_le _, rfl, Below.refl _ _, (fun c hc => by simp at hc : NoneTo cs nm 0)⟩
      case round =>
        obtain ⟨k, hk, rfl, BW, HNO⟩ := hrel
        by_cases hlt : k < sn
        · obtain ⟨c, hc⟩ : ∃ c, cs[k]? = some c := ⟨_, List.getElem?_eq_getElem (by rw [HSN.out]; exact hlt)⟩
          obtain ⟨b, o, rfl, hb, x0, x1⟩ := ColsAt.col HS.out hc
          replace x0 := ((two bw3.out BW.out).cell (by exact hb)).trans x0
          replace x1 := ((two bw3.out BW.out).cell (by exact hb)).trans x1
          obtain ⟨qq, hqq⟩ := str_dec c.name nm
          have hse := str_eq_of hqq
          have HC := Lib.hid hc
          have HQ := Lib.hid hqq
          obtain ⟨S, hS⟩ : ∃ S, c.name = S := ⟨_, rfl⟩
          obtain ⟨T, hT⟩ : ∃ T, c.ty = T := ⟨_, rfl⟩
          rw [hS] at x0 hse
          rw [hT] at x1
          have HSS := Lib.hid hS
          have RB4 := Lib.hid ((RB3.out.next BW.out).alloc (.cells #[.string S, .int .i64 T] 60))
          have BW4 := Lib.hid (BW.out.alloc BW.out.size (.cells #[.string S, .int .i64 T] 60))
          clear hc hqq hS hT
          cases qq with
          | false =>
            have hse2 : (S.toList != nm.toList) = true := by rw [bne, hse]; rfl
            have HNO2 : Hid (NoneTo cs nm (k + 1)) := take_all HNO.out HC.out (fun e => by have := HQ.out.1 e; cases this)
            go_wp2_with fail
            go_roundw
            case rel => exact ⟨k + 1, by omega, by go_num, BW4.out, HNO2⟩
            case measure => simp [intOf]; omega
          | true =>
            -- this is the first one
            have hpk : p = some k := by
              have hp := HP.out
              cases p with
              | none => exact absurd (HQ.out.2 rfl) (hp c (List.mem_of_getElem? HC.out))
              | some i =>
                obtain ⟨⟨c', hc', e'⟩, g2⟩ := hp
                by_cases h3' : i < k
                · exact absurd e' (HNO.out c' (by rw [List.mem_iff_getElem?]; exact ⟨i, by rw [List.getElem?_take, if_pos h3']; exact hc'⟩))
                · by_cases h4 : k < i
                  · exact absurd (HQ.out.2 rfl) (g2 k c h4 HC.out)
                  · rw [show i = k by omega]
            obtain ⟨hF, hm, hcr⟩ : F = 0 ∧ m = n ∧ RowAt v2 (.slice co m cc2) (colV rs k) := by
              rcases HCOL.out with ⟨hnone, _⟩ | ⟨i, hi, hF, hm, hr⟩
              · rw [hpk] at hnone; cases hnone
              · rw [hpk] at hi
                cases hi
                exact ⟨hF, by rw [hm, HN.out], hr⟩
            subst hF
            subst hm
            have HCR : Hid (RowAt v3 (.slice co m cc2) (colV rs k)) := hcr.below HB3.out
            obtain ⟨w0, w1', _, _⟩ := RB4.out.two
            have hSn : nm = S := by rw [← HSS.out]; exact (HQ.out.2 rfl).symm
            clear hpk hcr hse
            subst hSn
            go_wp2_with fail
            clear x0 x1 w0 w1'
            generalize wr.alloc (.cells #[.string nm, .int .i64 T] 60) = W4 at *
            go_loopw [67] (fun i wr2 => ∃ t : Nat, t ≤ m ∧ i = .int .i64 t ∧ Hid (Below W4.heap.size W4 wr2)) (fun i _ => m - (intOf i).toNat)
            case atStart => exact ⟨0, Nat.zero_le _, rfl, Below.refl _ _⟩
            case round =>
              obtain ⟨t, ht, rfl, BW5⟩ := hrel
              have bw5 := Lib.hid (two BW4.out BW5.out)
              by_cases htm : t < m
              · obtain ⟨r, hr⟩ : ∃ r, rs[t]? = some r := ⟨_, List.getElem?_eq_getElem (by rw [HN.out]; exact htm)⟩
                obtain ⟨b2, o2, h, e2, g2, hc2, hh⟩ := RowsAt.row HV.out hr
                have hrl := HFL.out r (List.mem_of_getElem? hr)
                rw [HSN.out] at hrl
                obtain ⟨x, hx⟩ : ∃ x, r[k]? = some x := ⟨_, List.getElem?_eq_getElem (by rw [hrl]; exact hlt)⟩
                obtain ⟨ra, rc, e5, _, _⟩ := hh.len
                subst e5
                rw [hrl] at hc2 hh
                obtain ⟨b3, o3, e3, g3, y0, y1, y2⟩ := RowAt.val hh hx
                have hcv : (colV rs k)[t]? = some x := by
                  unfold colV
                  rw [List.getElem?_map, hr]
                  show some (r.getD k vN) = _
                  rw [List.getD_eq_getElem?_getD, hx]; rfl
                obtain ⟨b4, o4, e4, g4, u0, u1, u2⟩ := RowAt.val HCR.out hcv
                subst e2
                subst e3
                cases e4
                replace hc2 := ((two bw3.out bw5.out).cell (by exact g2)).trans hc2
                replace y0 := ((two bw3.out bw5.out).cell (by exact g3)).trans y0
                replace y1 := ((two bw3.out bw5.out).cell (by exact g3)).trans y1
                replace y2 := ((two bw3.out bw5.out).cell (by exact g3)).trans y2
                replace u0 := (bw5.out.cell (by exact g4)).trans u0
                replace u1 := (bw5.out.cell (by exact g4)).trans u1
                replace u2 := (bw5.out.cell (by exact g4)).trans u2
                have heq := fun W => val_eq x.k x.n x.t x.k x.n x.t true (by simp) W
                obtain ⟨xk, hxk⟩ : ∃ q, x.k = q := ⟨_, rfl⟩
                obtain ⟨xn, hxn⟩ : ∃ q, x.n = q := ⟨_, rfl⟩
                obtain ⟨xt, hxt⟩ : ∃ q, x.t = q := ⟨_, rfl⟩
                rw [hxk, hxn, hxt] at heq
                rw [hxk] at y0 u0
                rw [hxn] at y1 u1
                rw [hxt] at y2 u2
                have hbt : (t : Int) < (m : Int) := by omega
                have hbk : (k : Int) < (sn : Int) := by omega
                clear hr hh hx hrl hcv hxk hxn hxt
                go_wp2_with fail
                go_quiet (fail)
                go_wp2_with fail
                go_roundw
                case rel => exact ⟨t + 1, by omega, by go_num, Below.drewN BW5.out _⟩
                case measure => simp [intOf]; omega
              · go_wp2_with (go_at_call 12; refine (HAW.out _ (two bw3.out bw5.out)).mono ?_; rintro e v6 ⟨rfl, hb6⟩)
                go_ret
                exact ⟨rfl, two (two bw3.out bw5.out) hb6⟩
        · -- no column has this name
          have hpn : p = none := by
            have hp := HP.out
            cases p with
            | none => rfl
            | some i =>
              obtain ⟨⟨c', hc', e'⟩, _⟩ := hp
              have := HNO.out
              rw [show k = sn by omega, ← HSN.out] at this
              unfold NoneTo at this
              rw [List.take_length] at this
              exact absurd e' (this c' (List.mem_of_getElem? hc'))
          obtain ⟨hm, hF⟩ : m = 0 ∧ F = 13 := by
            rcases HCOL.out with ⟨_, hm, hF⟩ | ⟨i, hi, _⟩
            · exact ⟨hm, hF⟩
            · rw [hpn] at hi; cases hi
          subst hm
          subst hF
          clear hpn
          go_wp2_with (go_at_call 12; refine (HAW.out _ (two bw3.out BW.out)).mono ?_; rintro e v6 ⟨rfl, hb6⟩)
          go_ret
          exact ⟨rfl, two (two bw3.out BW.out) hb6⟩
    · have HCO : Hid (∀ W, Below w.heap.size w W → Calls Tryd.prog 29 #[.agg #[.slice sao cs.length scap, .slice ao rs.length cap], .string nm] W fun e w' => e = .returned (.tuple #[.slice none 0 0, .int .i64 E]) ∧ Below W.heap.size W w') := fun W hb => column_no _ _ cs rs nm E E W hbc hbr (hs.below hb) (hv.below hb) hEE (.inl ⟨hE0, rfl⟩)
      have d0 : (E != 0) = true := by simpa using hE0
      clear hs hv hE h1 h2 hn hq hS hbc hbr hEE hE0
      go_enter Tryd.func7, Tryd.ntmps7
      go_wp2_with (first | (go_at_call 9; refine (HSM.out _ bw1.out).mono ?_; rintro e v1 ⟨rfl, hb1⟩; obtain ⟨z0, z1, _, _⟩ := (B1.out.next hb1).two) | (go_at_call 29; refine (HCO.out _ (two bw1.out hb1)).mono ?_; rintro e v2 ⟨rfl, hb2⟩; obtain ⟨y0, y1, _, _⟩ := ((B1.out.next hb1).next hb2).two) | (go_at_call 10; refine (HRT.out _ (two (two bw1.out hb1) hb2)).mono ?_; rintro e v3 ⟨rfl, hb3⟩) | (go_at_call 12; refine (HAW.out _ (two (two (two bw1.out hb1) hb2) hb3)).mono ?_; rintro e v4 ⟨rfl, hb4⟩))
      go_ret
      exact ⟨rfl, two (two (two (two bw1.out hb1) hb2) hb3) hb4⟩
end Go.Proofs.YtfmjeggomphliaaDoor.Tb
