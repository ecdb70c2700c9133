/- Walks: a line's cells. -/
import Derived.Test.YtfmjeggomphliaaGreatDoorLinesMath
import Derived.Test.YtfmjeggomphliaaGreatDoorTblWalk8
import Derived.Test.YtfmjeggomphliaaGreatDoorShelf
set_option linter.unusedVariables false
set_option linter.unusedSimpArgs false
namespace Go.Proofs.YtfmjeggomphliaaGreatDoor.Tb
open Go.RowKit Go Go.Sort Ba Va

theorem cs_esc {l : List UInt8} {k b : Nat} {o : List (List UInt8)} {p : Bool} {c : UInt8} (h : cgo l k = ⟨o, b, p, true⟩) (hx : l[k]? = some c) : cgo l (k + 1) = ⟨o, b, p, false⟩ := by
  rw [cgo_at hx, h]; rfl
theorem cs_back {l : List UInt8} {k b : Nat} {o : List (List UInt8)} {c : UInt8} (h : cgo l k = ⟨o, b, true, false⟩) (hx : l[k]? = some c) (hc : c = 92) : cgo l (k + 1) = ⟨o, b, true, true⟩ := by
  rw [cgo_at hx, h]; unfold cstep; rw [if_neg (fun g => Bool.noConfusion g), if_pos ⟨hc, rfl⟩]
theorem cs_quote {l : List UInt8} {k b : Nat} {o : List (List UInt8)} {p : Bool} {c : UInt8} (h : cgo l k = ⟨o, b, p, false⟩) (hx : l[k]? = some c) (hc : c = 34) : cgo l (k + 1) = ⟨o, b, !p, false⟩ := by
  rw [cgo_at hx, h]; unfold cstep; rw [if_neg (fun g => Bool.noConfusion g), if_neg (by rw [hc]; intro g; exact absurd g.1 (by decide)), if_pos hc]
theorem cs_comma {l : List UInt8} {k b : Nat} {o : List (List UInt8)} {c : UInt8} (h : cgo l k = ⟨o, b, false, false⟩) (hx : l[k]? = some c) (hc : c = 44) (hp : Lib.hasPrefix (l.drop k) [44, 32] = true) : cgo l (k + 1) = ⟨o ++ [(l.take k).drop b], k + 2, false, false⟩ := by
  rw [cgo_at hx, h]; unfold cstep; rw [if_neg (fun g => Bool.noConfusion g), if_neg (by simp), if_neg (by rw [hc]; decide), if_pos ⟨hc, rfl, hp⟩]
theorem cs_none {l : List UInt8} {k b : Nat} {o : List (List UInt8)} {p : Bool} {c : UInt8} (h : cgo l k = ⟨o, b, p, false⟩) (hx : l[k]? = some c) (h1 : ¬ (c = 92 ∧ p = true)) (h2 : c ≠ 34) (h3 : ¬ (c = 44 ∧ p = false ∧ Lib.hasPrefix (l.drop k) [44, 32] = true)) : cgo l (k + 1) = ⟨o, b, p, false⟩ := by
  rw [cgo_at hx, h]; unfold cstep; rw [if_neg (fun g => Bool.noConfusion g), if_neg h1, if_neg h2, if_neg h3]
theorem own_snoc {W : World} {base : Nat} {e : TypeId} {v : Value} {xs : List ByteArray} {x : ByteArray} (h : W.ownsRow base e 1 v (xs.map Value.string ++ [Value.string x]).length (xs.map Value.string ++ [Value.string x])) : W.ownsRow base e 1 v (xs ++ [x]).length ((xs ++ [x]).map Value.string) := by
  rw [List.map_append, List.map_cons, List.map_nil]
  have e : (xs ++ [x]).length = (xs.map Value.string ++ [Value.string x]).length := by simp
  rw [e]; exact h
theorem ne_byte {c d : UInt8} (h : c ≠ d) : ((c.toNat : Int) == (d.toNat : Int)) = false := by
  have : ¬ (c.toNat : Int) = d.toNat := fun e => h (byte_eq e)
  simpa using this
/-- What cells gives. -/
def Cells (l : List UInt8) (w : World) (e : Ending) (w' : World) : Prop :=
  ∃ ao n c, ∃ xs : List ByteArray, e = .returned (.slice ao n c) ∧ w'.ownsRow w.heap.size 9 1 (.slice ao n c) xs.length (xs.map Value.string) ∧ xs.map (fun x => x.data.toList) = cellsL l ∧ n = xs.length ∧ Below w.heap.size w w'
theorem own_open {W : World} {base : Nat} {e : TypeId} {size : Nat} {v : Value} {n : Nat} {xs : List Value} (h : W.ownsRow base e size v n xs) : ∃ ao c, v = .slice ao n c := by
  rcases h.2 with ⟨rfl, h2⟩ | ⟨g, cap, cur, rfl, _⟩
  · exact ⟨none, 0, by rw [h2]⟩
  · exact ⟨_, _, rfl⟩
set_option maxHeartbeats 6400000 in
set_option maxRecDepth 100000 in
theorem cells_is (s : ByteArray) (w : World) (hs : s.size ≤ 100000) :
    Calls Tryz.prog 24 #[.string s] w (Cells s.data.toList w) := by
  obtain ⟨i0, hi, hz0, hz1, hz2⟩ := info_parts infoStr
  obtain ⟨N, hN⟩ : ∃ N, s.size = N := ⟨_, rfl⟩
  have HN := Lib.hid hN
  have hl : Hid (s.data.toList.length = N) := by rw [← size_list]; exact hN
  have hs' : N ≤ 100000 := by omega
  go_enter Tryz.func24, Tryz.ntmps24
  go_wp2_with fail
  clear hN hs
  go_loopw [3, 4, 5, 6, 11] (fun out bg ins es i wr => ∃ (k : Nat) (xs : List ByteArray) (b : Nat) (p q : Bool), k ≤ N ∧ i = .int .i64 k ∧ bg = .int .i64 b ∧ ins = .bool p ∧ es = .bool q ∧ Hid (cgo s.data.toList k = ⟨xs.map (fun x => x.data.toList), b, p, q⟩) ∧ Hid (wr.ownsRow w.heap.size 9 1 out xs.length (xs.map Value.string)) ∧ Hid (Below w.heap.size w wr)) (fun out bg ins es i _ => N - (intOf i).toNat)
  case atStart => exact ⟨0, [], 0, false, false, Nat.zero_le _, rfl, rfl, rfl, rfl, (rfl : cgo s.data.toList 0 = ⟨[], 0, false, false⟩), World.ownsRow_nil _ _ _ _, Below.refl _ _⟩
  case round =>
    obtain ⟨k, xs, b, p, q, hk, rfl, rfl, rfl, rfl, HC, HO, BW⟩ := hrel
    have hbeg := cgo_beg s.data.toList k
    rw [HC.out] at hbeg
    have hxl : Hid (xs.length ≤ k) := by have := cgo_len s.data.toList k; rw [HC.out, List.length_map] at this; exact this
    have hbb : b ≤ k + 1 := by rcases hbeg with h | ⟨h, _⟩ <;> simp only at h <;> omega
    have HBG := Lib.hid hbeg
    clear hbeg
    by_cases hlt : k < N
    · obtain ⟨c, hx⟩ := bat s k (by rw [HN.out]; exact hlt)
      have hlt' : k < s.size := by rw [HN.out]; exact hlt
      have hat := str_at hlt' hx
      have HX := Lib.hid hx
      have hcb : b ≤ k ∨ c = 32 := by
        rcases HBG.out with h | ⟨_, h⟩
        · exact .inl h
        · rw [hx] at h; exact .inr (Option.some.inj h)
      have HCB := Lib.hid hcb
      clear hx hcb
      cases q with
      | true =>
        go_wp2_with fail
        go_roundw
        case rel => exact ⟨k + 1, xs, b, p, false, by omega, by go_num, rfl, rfl, rfl, (cs_esc HC.out HX.out), HO.out, BW.out⟩
        case measure => simp [intOf]; omega
      | false =>
        by_cases hc : c = 92
        · have e92 : ((c.toNat : Int) == 92) = true := by rw [hc]; decide
          have e34 : ((c.toNat : Int) == 34) = false := by rw [hc]; decide
          have e44 : ((c.toNat : Int) == 44) = false := by rw [hc]; decide
          have HCC := Lib.hid hc
          clear hc
          cases p with
          | true =>
            go_wp2_with fail
            go_roundw
            case rel => exact ⟨k + 1, xs, b, true, true, by omega, by go_num, rfl, rfl, rfl, (cs_back HC.out HX.out HCC.out), HO.out, BW.out⟩
            case measure => simp [intOf]; omega
          | false =>
            go_wp2_with fail
            go_roundw
            case rel => exact ⟨k + 1, xs, b, false, false, by omega, by go_num, rfl, rfl, rfl, (cs_none HC.out HX.out (fun g => by cases g.2) (by rw [HCC.out]; decide) (fun g => by rw [HCC.out] at g; exact absurd g.1 (by decide))), HO.out, BW.out⟩
            case measure => simp [intOf]; omega
        · by_cases hc4 : c = 34
          · have e92 : ((c.toNat : Int) == 92) = false := by rw [hc4]; decide
            have e34 : ((c.toNat : Int) == 34) = true := by rw [hc4]; decide
            have e44 : ((c.toNat : Int) == 44) = false := by rw [hc4]; decide
            have HCC := Lib.hid hc4
            clear hc hc4
            cases p with
            | true =>
              go_wp2_with fail
              go_roundw
              case rel => exact ⟨k + 1, xs, b, false, false, by omega, by go_num, rfl, rfl, rfl, (cs_quote HC.out HX.out HCC.out), HO.out, BW.out⟩
              case measure => simp [intOf]; omega
            | false =>
              go_wp2_with fail
              go_roundw
              case rel => exact ⟨k + 1, xs, b, true, false, by omega, by go_num, rfl, rfl, rfl, (cs_quote HC.out HX.out HCC.out), HO.out, BW.out⟩
              case measure => simp [intOf]; omega
          · have e92 : ((c.toNat : Int) == 92) = false := ne_byte hc
            have e34 : ((c.toNat : Int) == 34) = false := ne_byte hc4
            have H92 := Lib.hid hc
            have H34 := Lib.hid hc4
            clear hc hc4
            by_cases hc5 : c = 44
            · have e44 : ((c.toNat : Int) == 44) = true := by rw [hc5]; decide
              have HCC := Lib.hid hc5
              clear hc5
              cases p with
              | true =>
                go_wp2_with fail
                go_roundw
                case rel => exact ⟨k + 1, xs, b, true, false, by omega, by go_num, rfl, rfl, rfl, (cs_none HC.out HX.out (fun g => H92.out g.1) H34.out (fun g => by cases g.2.1)), HO.out, BW.out⟩
                case measure => simp [intOf]; omega
              | false =>
                have hbk : b ≤ k := by
                  rcases HCB.out with h | h
                  · exact h
                  · rw [HCC.out] at h; exact absurd h (by decide)
                obtain ⟨pr, hpr⟩ : ∃ pr, Lib.hasPrefix (s.data.toList.drop k) [44, 32] = pr := ⟨_, rfl⟩
                have HPR := Lib.hid hpr
                have HHP : Hid (Calls Tryz.prog 54 #[.string (s.extract k s.size), .string ⟨#[44, 32]⟩] wr fun e w' => e = .returned (.bool pr) ∧ Below wr.heap.size wr w') := by
                  refine (Tryz.strings_HasPrefix (s.extract k s.size) ⟨#[44, 32]⟩ wr).mono fun e w' ⟨he, hw⟩ => ⟨?_, by rw [hw]; exact Below.refl _ _⟩
                  rw [he, Lib.extract_data, List.take_of_length_le (by rw [List.length_drop, ← size_list]; exact Nat.le_refl _), ← HPR.out]
                clear hpr
                cases pr with
                | false =>
                  go_wp2_with (go_at_call 54; refine HHP.out.mono ?_; rintro e w1 ⟨rfl, hb1⟩)
                  go_roundw
                  case rel => exact ⟨k + 1, xs, b, false, false, by omega, by go_num, rfl, rfl, rfl, (cs_none HC.out HX.out (fun g => H92.out g.1) H34.out (fun g => by rw [HPR.out] at g; cases g.2.2)), (own_below HO.out hb1 (Nat.le_refl _)), (two BW.out hb1)⟩
                  case measure => simp [intOf]; omega
                | true =>
                  have hxe : Hid ((s.extract b k).data.toList = (s.data.toList.take k).drop b) := by
                    show _ = _
                    rw [Lib.extract_data, List.drop_take]
                  go_wp2_with (first | (go_at_call 54; refine HHP.out.mono ?_; rintro e w1 ⟨rfl, hb1⟩) | (at_builtin; refine app_one rfl _ _ 59 9 rfl Tryz.underlying59 hi hz0 rfl hz1 hz2 (by decide) w.heap.size u3 _ (.string (s.extract b k)) rfl rfl (by rw [List.length_map]; exact own_below HO.out hb1 (Nat.le_refl _)) rfl (by have := hxl.out; rw [List.length_map]; omega) (Nat.le_trans BW.out.size hb1.size) ?_; intro v2 w2 hown2 hgrow2))
                  have bw2 := (two BW.out hb1).grown hgrow2 (two BW.out hb1).size (fun j e => (HO.out.lt j e).1)
                  go_roundw
                  case rel => exact ⟨k + 1, xs ++ [s.extract b k], (k + 2), false, false, by omega, by go_num, by go_num, rfl, rfl, (by show _ = _; rw [cs_comma HC.out HX.out HCC.out HPR.out, List.map_append, List.map_cons, List.map_nil, hxe.out]), (own_snoc hown2), bw2⟩
                  case measure => simp [intOf]; omega
            · have e44 : ((c.toNat : Int) == 44) = false := ne_byte hc5
              have H44 := Lib.hid hc5
              clear hc5
              cases p with
              | true =>
                go_wp2_with fail
                go_roundw
                case rel => exact ⟨k + 1, xs, b, true, false, by omega, by go_num, rfl, rfl, rfl, (cs_none HC.out HX.out (fun g => H92.out g.1) H34.out (fun g => H44.out g.1)), HO.out, BW.out⟩
                case measure => simp [intOf]; omega
              | false =>
                go_wp2_with fail
                go_roundw
                case rel => exact ⟨k + 1, xs, b, false, false, by omega, by go_num, rfl, rfl, rfl, (cs_none HC.out HX.out (fun g => H92.out g.1) H34.out (fun g => H44.out g.1)), HO.out, BW.out⟩
                case measure => simp [intOf]; omega
    · obtain rfl : k = N := by omega
      have hsz := HN.out
      have APP : ∀ (g : Nat), Hid ((xs ++ [s.extract g k]).map (fun x => x.data.toList) = (cgo s.data.toList k).out ++ [s.data.toList.drop g]) := fun g => by
        show _ = _
        rw [HC.out, List.map_append, List.map_cons, List.map_nil, Lib.extract_data, List.take_of_length_le (by rw [List.length_drop, hl.out]; exact Nat.le_refl _)]
      have CEL : ∀ (g : Nat), Hid (g = min b k) → Hid (cellsL s.data.toList = (cgo s.data.toList k).out ++ [s.data.toList.drop g]) := fun g hg => by
        show _ = _
        unfold cellsL
        rw [hl.out, hg.out, HC.out]
      by_cases hbk : b ≤ k
      · have hm : min (b : Int) (k : Int) = b := by omega
        have FIN := Lib.hid (Eq.trans (APP b).out (CEL b (show b = min b k by omega)).out.symm)
        clear APP CEL
        go_wp2_with (at_builtin; refine app_one rfl _ _ 59 9 rfl Tryz.underlying59 hi hz0 rfl hz1 hz2 (by decide) w.heap.size u3 _ (.string (s.extract b k)) rfl rfl (by rw [List.length_map]; exact HO.out) rfl (by have := hxl.out; rw [List.length_map]; omega) BW.out.size ?_; intro v2 w2 hown2 hgrow2)
        have own2 := own_snoc hown2
        obtain ⟨ea, ec, rfl⟩ := own_open own2
        go_ret
        exact ⟨ea, _, ec, xs ++ [s.extract b k], rfl, own2, FIN.out, rfl, BW.out.grown hgrow2 BW.out.size (fun j e => (HO.out.lt j e).1)⟩
      · have hm : min (b : Int) (k : Int) = k := by omega
        have FIN : Hid ((xs ++ [ByteArray.empty]).map (fun x => x.data.toList) = cellsL s.data.toList) := by
          show _ = _
          rw [(CEL k (show k = min b k by omega)).out, HC.out, List.map_append, List.map_cons, List.map_nil, List.drop_of_length_le (by rw [hl.out]; exact Nat.le_refl _)]; rfl
        clear APP CEL
        go_wp2_with (at_builtin; refine app_one rfl _ _ 59 9 rfl Tryz.underlying59 hi hz0 rfl hz1 hz2 (by decide) w.heap.size u3 _ (.string ByteArray.empty) rfl rfl (by rw [List.length_map]; exact HO.out) rfl (by have := hxl.out; rw [List.length_map]; omega) BW.out.size ?_; intro v2 w2 hown2 hgrow2)
        have own2 := own_snoc hown2
        obtain ⟨ea, ec, rfl⟩ := own_open own2
        go_ret
        exact ⟨ea, _, ec, xs ++ [ByteArray.empty], rfl, own2, FIN.out, rfl, BW.out.grown hgrow2 BW.out.size (fun j e => (HO.out.lt j e).1)⟩
end Go.Proofs.YtfmjeggomphliaaGreatDoor.Tb
