/- Walks: a column found, its values; the statement TableColumns. -/
import Derived.Test.YtfmjeggomphliaaDoorLawWalk2
set_option linter.unusedVariables false
set_option linter.unusedSimpArgs false
namespace Go.Proofs.YtfmjeggomphliaaDoor.Tb
open Go.RowKit Go Go.Sort Ba Va Sr

/-- Where the first column of a name stands. -/
def Pos (cs : List Col) (nm : ByteArray) : Option Nat → Prop
  | none => ∀ c ∈ cs, c.name ≠ nm
  | some i => (∃ c, cs[i]? = some c ∧ c.name = nm) ∧ ∀ (t : Nat) (c : Col), t < i → cs[t]? = some c → c.name ≠ nm
def posI : Option Nat → Int
  | none => -1
  | some i => i
theorem pos_ex (nm : ByteArray) : ∀ cs : List Col, ∃ p, Pos cs nm p
  | [] => ⟨none, fun c hc => (by cases hc)⟩
  | c :: cs => by
    by_cases h : c.name = nm
    · exact ⟨some 0, ⟨c, rfl, h⟩, fun t c' ht => absurd ht (Nat.not_lt_zero _)⟩
    · obtain ⟨p, hp⟩ := pos_ex nm cs
      cases p with
      | none => exact ⟨none, fun c' hc' => by
          rcases List.mem_cons.1 hc' with rfl | hc'
          · exact h
          · exact hp c' hc'⟩
      | some i => exact ⟨some (i + 1), hp.1, fun t c' ht hc' => by
          cases t with
          | zero => simp at hc'; subst hc'; exact h
          | succ t => exact hp.2 t c' (by omega) (by simpa using hc')⟩
theorem str_eq_of {S nm : ByteArray} {q : Bool} (h : S = nm ↔ q = true) : (S.toList == nm.toList) = q := by
  cases q with
  | true => rw [h.2 rfl]; simp
  | false =>
    cases e : (S.toList == nm.toList) with
    | false => rfl
    | true => exact absurd (h.1 (by rw [beq_iff_eq, ByteArray.toList_eq, ByteArray.toList_eq] at e; exact Go.WideShapes.bytes_inj e)) (by decide)
theorem str_dec (S nm : ByteArray) : ∃ q : Bool, S = nm ↔ q = true := by
  by_cases h : S = nm
  · exact ⟨true, by simp [h]⟩
  · exact ⟨false, by simp [h]⟩
theorem find1_is (S nm : ByteArray) (T : Int) (q : Bool) (hq : S = nm ↔ q = true) (B : Nat) (w : World) (hB : Box w B [.string nm]) :
    Calls Tryd.prog 69 #[.agg #[.string S, .int .i64 T], .pointer (some ⟨B, 0, none⟩)] w fun e w' => e = .returned (.bool q) ∧ Below w.heap.size w w' := by
  have b0 := (hB.alloc (.cells #[.string S, .int .i64 T] 60)).cl 0 _ rfl
  have he := str_eq_of hq
  clear hq hB
  go_enter Tryd.func69, Tryd.ntmps69
  go_wp2_with fail
  go_ret
  exact ⟨ret_bool (by first | exact he | rfl), by go_grown⟩
def NoneTo (cs : List Col) (nm : ByteArray) (k : Nat) : Prop := ∀ c ∈ cs.take k, c.name ≠ nm
set_option maxHeartbeats 1600000 in
theorem indexC_is (v : Value) (cs : List Col) (nm : ByteArray) (p : Option Nat) (hp : Pos cs nm p) (B : Nat) (w : World) (hB : Box w B [.string nm]) (hv : ColsAt w v cs) :
    Calls Tryd.prog 68 #[v, .func (.func 69) #[] #[.pointer (some ⟨B, 0, none⟩)]] w fun e w' => e = .returned (.int .i64 (posI p)) ∧ Below w.heap.size w w' := by
  obtain ⟨ao, cap, rfl, hcap, hcm⟩ := hv.len
  obtain ⟨n, hn⟩ : ∃ n, cs.length = n := ⟨_, rfl⟩
  unfold maxLen at hcm
  have HV := Lib.hid hv
  have HBX := Lib.hid hB
  have HP := Lib.hid hp
  rw [hn] at hcap HV ⊢
  have HN := Lib.hid hn
  clear hv hB hp hn
  go_enter Tryd.func68, Tryd.ntmps68
  go_wp2_with fail
  go_loopw [8] (fun i wr => ∃ k : Nat, k ≤ n ∧ i = .int .i64 k ∧ Hid (NoneTo cs nm k) ∧ Hid (Below w.heap.size w wr)) (fun i _ => n - (intOf i).toNat)
  case atStart => exact ⟨0, Nat.zero_le _, rfl, (fun c hc => by simp at hc : NoneTo cs nm 0), Below.refl _ _⟩
  case round =>
    obtain ⟨k, hk, rfl, HA, BW⟩ := hrel
    by_cases hlt : k < n
    · obtain ⟨c, hc⟩ : ∃ c, cs[k]? = some c := ⟨_, List.getElem?_eq_getElem (by rw [HN.out]; exact hlt)⟩
      obtain ⟨b, o, rfl, hb, x0, x1⟩ := ColsAt.col HV.out hc
      replace x0 := (BW.out.cell (by exact hb)).trans x0
      replace x1 := (BW.out.cell (by exact hb)).trans x1
      obtain ⟨q, hq⟩ := str_dec c.name nm
      have HT := Lib.hid (find1_is c.name nm c.ty q hq B wr (HBX.out.next BW.out))
      have HC := Lib.hid hc
      have HQ := Lib.hid hq
      obtain ⟨S, hS⟩ : ∃ S, c.name = S := ⟨_, rfl⟩
      obtain ⟨T, hT⟩ : ∃ T, c.ty = T := ⟨_, rfl⟩
      rw [hS] at x0
      rw [hT] at x1
      rw [hS, hT] at HT
      clear hc hq hS hT
      cases q with
      | true =>
        have HR : Hid (posI p = k) := by
          show posI p = k
          have hp := HP.out
          cases p with
          | none => exact absurd (HQ.out.2 rfl) (hp c (List.mem_of_getElem? HC.out))
          | some i =>
            obtain ⟨⟨c', hc', e'⟩, h2⟩ := hp
            show (i : Int) = k
            by_cases h3 : i < k
            · exact absurd e' (HA.out c' (by rw [List.mem_iff_getElem?]; exact ⟨i, by rw [List.getElem?_take, if_pos h3]; exact hc'⟩))
            · by_cases h4 : k < i
              · exact absurd (HQ.out.2 rfl) (h2 k c h4 HC.out)
              · omega
        go_wp2_with (go_at_call 69; refine HT.out.mono ?_; rintro e w1 ⟨rfl, hb1⟩)
        go_ret
        exact ⟨ret_int HR.out.symm, two BW.out hb1⟩
      | false =>
        have HA2 : Hid (NoneTo cs nm (k + 1)) := take_all HA.out HC.out (fun e => by have := HQ.out.1 e; cases this)
        go_wp2_with (go_at_call 69; refine HT.out.mono ?_; rintro e w1 ⟨rfl, hb1⟩)
        go_roundw
        case rel => exact ⟨k + 1, by omega, by go_num, HA2, two BW.out hb1⟩
        case measure => simp [intOf]; omega
    · have HR : Hid (posI p = -1) := by
        show posI p = -1
        have hp := HP.out
        cases p with
        | none => rfl
        | some i =>
          obtain ⟨⟨c', hc', e'⟩, _⟩ := hp
          have := HA.out
          rw [show k = n by omega, ← HN.out] at this
          unfold NoneTo at this
          rw [List.take_length] at this
          exact absurd e' (this c' (List.mem_of_getElem? hc'))
      go_wp2_with fail
      go_ret
      exact ⟨ret_int HR.out.symm, BW.out⟩
/-- What Find tells. -/
def FindTo (p : Option Nat) (w : World) (e : Ending) (w' : World) : Prop := e = .returned (.tuple #[.int .i64 ((p.getD 0 : Nat) : Int), .bool p.isSome]) ∧ Below w.heap.size w w'
set_option maxHeartbeats 800000 in
theorem find_is (v : Value) (cs : List Col) (nm : ByteArray) (p : Option Nat) (hp : Pos cs nm p) (w : World) (hv : ColsAt w v cs) :
    Calls Tryd.prog 51 #[v, .string nm] w (FindTo p w) := by
  have B1 := Box.new w [.string nm] 9
  have bw1 : Hid (Below w.heap.size w (w.alloc (.cells #[.string nm] 9))) := (Below.refl _ _).alloc (Nat.le_refl _) _
  have HI := Lib.hid (indexC_is v cs nm p hp w.heap.size (w.alloc (.cells #[.string nm] 9)) B1 (hv.below bw1.out))
  obtain ⟨ao, cap, rfl, _, _⟩ := hv.len
  clear hp hv B1
  cases p with
  | none =>
    have e0 : posI none = -1 := rfl
    rw [e0] at HI
    go_enter Tryd.func51, Tryd.ntmps51
    go_wp2_with (go_at_call 68; refine HI.out.mono ?_; rintro e w1 ⟨rfl, hb1⟩)
    refine bodyPost_ret (by simp [results, Tryd.results51, go_sem]; try rfl) rfl ?_
    exact ⟨rfl, two bw1.out hb1⟩
  | some i =>
    have e0 : posI (some i) = (i : Int) := rfl
    rw [e0] at HI
    have d0 : decide ((i : Int) ≥ 0) = true := decide_eq_true (by omega)
    have d1 : (0 : Int) ≤ (i : Int) := by omega
    go_enter Tryd.func51, Tryd.ntmps51
    go_wp2_with (go_at_call 68; refine HI.out.mono ?_; rintro e w1 ⟨rfl, hb1⟩)
    refine bodyPost_ret (by simp [results, Tryd.results51, go_sem]; try rfl) rfl ?_
    exact ⟨by first | rfl | (congr 3; simp), two bw1.out hb1⟩
/-- A column's values. -/
def colV (rs : List (List Val)) (i : Nat) : List Val := rs.map fun r => r.getD i vN
def ColTo (cs : List Col) (rs : List (List Val)) (i : Nat) (w : World) (e : Ending) (w' : World) : Prop := ∃ v', e = .returned (.tuple #[v', .int .i64 0]) ∧ RowAt w' v' (colV rs i) ∧ Below w.heap.size w w'
set_option maxHeartbeats 3200000 in
set_option maxRecDepth 100000 in
theorem column_is (sv v : Value) (cs : List Col) (rs : List (List Val)) (nm : ByteArray) (i : Nat) (hp : Pos cs nm (some i)) (w : World) (bc : BdC cs) (br : BdRs rs) (hs : ColsAt w sv cs) (hv : RowsAt w v rs) (hE : errT cs rs = 0) :
    Calls Tryd.prog 29 #[.agg #[sv, v], .string nm] w (ColTo cs rs i w) := by
  obtain ⟨hc0, hfit, _, _⟩ := errT_zero hE
  obtain ⟨sao, scap, rfl, _, _⟩ := hs.len
  obtain ⟨ao, cap, rfl, hcap, _⟩ := hv.len
  obtain ⟨i0, hi, hz0, hz1, hz2⟩ := info_parts infoVal
  have hil : i < cs.length := by obtain ⟨⟨c, hc, _⟩, _⟩ := hp; exact (List.getElem?_eq_some_iff.1 hc).1
  have hix := bc.len
  have HFL : Hid (∀ r ∈ rs, i < r.length) := fun r hr => by rw [fitL_len (hfit r hr)]; exact hil
  have B1 := Lib.hid (Box.new w [.slice sao cs.length scap, .slice ao rs.length cap] 26)
  have bw1 : Hid (Below w.heap.size w (w.alloc (.cells #[.slice sao cs.length scap, .slice ao rs.length cap] 26))) := (Below.refl _ _).alloc (Nat.le_refl _) _
  have HCK : Hid (∀ W, Below w.heap.size w W → Calls Tryd.prog 20 #[.agg #[.slice sao cs.length scap, .slice ao rs.length cap]] W fun e w' => e = .returned (.int .i64 0) ∧ Below W.heap.size W w') := fun W hb => tcheck_is hE W bc br (hs.below hb) (hv.below hb)
  have HFD : Hid (∀ W, Below w.heap.size w W → Calls Tryd.prog 51 #[.slice sao cs.length scap, .string nm] W (FindTo (some i) W)) := fun W hb => find_is _ cs nm (some i) hp W (hs.below hb)
  obtain ⟨n, hn⟩ : ∃ n, rs.length = n := ⟨_, rfl⟩
  have hl := br.len
  have HV := Lib.hid hv
  have BR := Lib.hid br
  rw [hn] at hcap hl HV B1 bw1 HCK ⊢
  have HN := Lib.hid hn
  clear hs hv bc br hE hp hc0 hfit hn
  go_enter Tryd.func29, Tryd.ntmps29
  go_wp2_with (first | (go_at_call 20; refine (HCK.out _ bw1.out).mono ?_; rintro e v1 ⟨rfl, hb1⟩; obtain ⟨z0, z1, _, _⟩ := (B1.out.next hb1).two) | (go_at_call 51; refine (HFD.out _ (two bw1.out hb1)).mono ?_; rintro e v2 ⟨rfl, hb2⟩; obtain ⟨y0, y1, _, _⟩ := ((B1.out.next hb1).next hb2).two))
  have bw3 := Lib.hid (two (two bw1.out hb1) hb2)
  clear z0 z1 y0 y1 hb1 hb2 B1 bw1 HCK HFD
  go_loopw [9, 29] (fun out t wr => ∃ k : Nat, k ≤ n ∧ t = .int .i64 k ∧ Hid (wr.ownsRow w.heap.size 62 3 out ((colV (rs.take k) i).map vc).length ((colV (rs.take k) i).map vc).flatten) ∧ Hid (Below w.heap.size w wr)) (fun out t _ => n - (intOf t).toNat)
  case atStart => exact ⟨0, Nat.zero_le _, rfl, World.ownsRow_nil _ _ _ _, bw3.out⟩
  case round =>
    clear bw3
    obtain ⟨k, hk, rfl, HO, BW⟩ := hrel
    by_cases hlt : k < n
    · obtain ⟨r, hr⟩ : ∃ r, rs[k]? = some r := ⟨_, List.getElem?_eq_getElem (by rw [HN.out]; exact hlt)⟩
      obtain ⟨b, o, h, rfl, hb, hc, hh⟩ := RowsAt.row HV.out hr
      replace hc := (BW.out.cell (by exact hb)).trans hc
      have hrm := List.mem_of_getElem? hr
      have hirl := HFL.out r hrm
      obtain ⟨ra, rc, rfl, hrc, _⟩ := hh.len
      obtain ⟨x, hx⟩ : ∃ x, r[i]? = some x := ⟨_, List.getElem?_eq_getElem hirl⟩
      obtain ⟨b2, o2, rfl, g2, y0, y1, y2⟩ := RowAt.val hh hx
      replace y0 := (BW.out.cell (by exact g2)).trans y0
      replace y1 := (BW.out.cell (by exact g2)).trans y1
      replace y2 := (BW.out.cell (by exact g2)).trans y2
      obtain ⟨m, hm⟩ : ∃ m, r.length = m := ⟨_, rfl⟩
      rw [hm] at hc hirl
      have hbi : (i : Int) < (m : Int) := by omega
      obtain ⟨xk, hxk⟩ : ∃ q, x.k = q := ⟨_, rfl⟩
      obtain ⟨xn, hxn⟩ : ∃ q, x.n = q := ⟨_, rfl⟩
      obtain ⟨xt, hxt⟩ : ∃ q, x.t = q := ⟨_, rfl⟩
      have hsn : ((colV (rs.take (k + 1)) i).map vc) = ((colV (rs.take k) i).map vc) ++ [[.int .i64 xk, .int .i64 xn, .string xt]] := by
        unfold colV
        rw [take_one rs k r hr, List.map_append, List.map_append]
        have : r.getD i vN = x := by rw [List.getD_eq_getElem?_getD, hx]; rfl
        show _ ++ [vc (r.getD i vN)] = _
        rw [this]
        simp [vc, hxk, hxn, hxt]
      have hln : ((colV (rs.take k) i).map vc).length = k := by unfold colV; rw [List.length_map, List.length_map, List.length_take, HN.out]; omega
      rw [hxk] at y0
      rw [hxn] at y1
      rw [hxt] at y2
      have HSN := Lib.hid hsn
      have HLN := Lib.hid hln
      clear hr hh hx hm hrm hxk hxn hxt hsn hln
      go_wp2_with (at_builtin; refine app_cells rfl _ _ 27 62 rfl Tryd.underlying27 hi hz0 rfl hz1 hz2 (by decide) (by decide) w.heap.size u9 ((colV (rs.take k) i).map vc) [.int .i64 xk, .int .i64 xn, .string xt] rfl (by intro u hu; simp at hu; rcases hu with rfl | rfl | rfl <;> rfl) rfl HO.out wr.heap.size rfl rfl (by have := HLN.out; omega) BW.out.size ?_; intro v2 w2 hown2 hgrow2)
      have bw2 := BW.out.grown hgrow2 BW.out.size (fun j e => (HO.out.lt j e).1)
      go_roundw
      case rel => exact ⟨k + 1, by omega, by go_num, (by rw [HSN.out]; exact hown2 : w2.ownsRow _ _ _ _ _ _), bw2⟩
      case measure => simp [intOf]; omega
    · obtain rfl : k = n := by omega
      have hO := HO.out
      rw [← HN.out, List.take_length] at hO
      have HCA := Lib.hid (SlAt.of (vc3 (colV rs i)) hO)
      clear hO
      go_wp2_with fail
      refine bodyPost_ret (by simp [results, Tryd.results29, go_sem]; try rfl) rfl ?_
      exact ⟨_, rfl, HCA.out, BW.out⟩
set_option maxHeartbeats 1600000 in
theorem column_no (sv v : Value) (cs : List Col) (rs : List (List Val)) (nm : ByteArray) (E F : Int) (w : World) (bc : BdC cs) (br : BdRs rs) (hs : ColsAt w sv cs) (hv : RowsAt w v rs) (hE : errT cs rs = E) (h : (E ≠ 0 ∧ F = E) ∨ (E = 0 ∧ Pos cs nm none ∧ F = 13)) :
    Calls Tryd.prog 29 #[.agg #[sv, v], .string nm] w fun e w' => e = .returned (.tuple #[.slice none 0 0, .int .i64 F]) ∧ Below w.heap.size w w' := by
  obtain ⟨sao, scap, rfl, _, _⟩ := hs.len
  obtain ⟨ao, cap, rfl, hcap, _⟩ := hv.len
  have B1 := Lib.hid (Box.new w [.slice sao cs.length scap, .slice ao rs.length cap] 26)
  have bw1 : Hid (Below w.heap.size w (w.alloc (.cells #[.slice sao cs.length scap, .slice ao rs.length cap] 26))) := (Below.refl _ _).alloc (Nat.le_refl _) _
  have HCK : Hid (∀ W, Below w.heap.size w W → Calls Tryd.prog 20 #[.agg #[.slice sao cs.length scap, .slice ao rs.length cap]] W fun e w' => e = .returned (.int .i64 E) ∧ Below W.heap.size W w') := fun W hb => tcheck_is hE W bc br (hs.below hb) (hv.below hb)
  rcases h with ⟨hE0, rfl⟩ | ⟨rfl, hp, rfl⟩
  · have d0 : (F != 0) = true := by simpa using hE0
    clear hs hv bc br hE hE0
    go_enter Tryd.func29, Tryd.ntmps29
    go_wp2_with (go_at_call 20; refine (HCK.out _ bw1.out).mono ?_; rintro e v1 ⟨rfl, hb1⟩)
    refine bodyPost_ret (by simp [results, Tryd.results29, go_sem]; try rfl) rfl ?_
    exact ⟨rfl, two bw1.out hb1⟩
  · have HFD : Hid (∀ W, Below w.heap.size w W → Calls Tryd.prog 51 #[.slice sao cs.length scap, .string nm] W (FindTo none W)) := fun W hb => find_is _ cs nm none hp W (hs.below hb)
    clear hs hv bc br hE hp
    go_enter Tryd.func29, Tryd.ntmps29
    go_wp2_with (first | (go_at_call 20; refine (HCK.out _ bw1.out).mono ?_; rintro e v1 ⟨rfl, hb1⟩; obtain ⟨z0, z1, _, _⟩ := (B1.out.next hb1).two) | (go_at_call 51; refine (HFD.out _ (two bw1.out hb1)).mono ?_; rintro e v2 ⟨rfl, hb2⟩))
    refine bodyPost_ret (by simp [results, Tryd.results29, go_sem]; try rfl) rfl ?_
    exact ⟨rfl, two (two bw1.out hb1) hb2⟩
end Go.Proofs.YtfmjeggomphliaaDoor.Tb
