/- Walks: the text of an expression, in the document's word. -/
import Derived.Test.YtonkjhmkppeagaaGreatDoorMRfA
set_option linter.unusedVariables false
set_option linter.unusedSimpArgs false
namespace Go.Proofs.YtonkjhmkppeagaaGreatDoor.Pz
open Go.RowKit Go Go.Sort Ba Lx

def RsOk (x : Ex) : Prop := OkE x → ∀ (sa : Option Addr) (ca : Nat) (w : World) (ok : Nat → Prop), RArgs w ok (.slice sa x.xs.length ca) x.xs → (textE x).length ≤ 1000000 → Calls Tryz.prog 17 #[rfV x (.slice sa x.xs.length ca)] w (StrTo (textE x) w)
theorem RArgs.below {W W' : World} {ok : Nat → Prop} {sl : Value} {xs : List Ex} (h : RArgs W ok sl xs) (hb : Below W.heap.size W W') : RArgs W' ok sl xs := Rep.kept (S := fun _ => False) (Kept.of_below hb) (fun _ _ _ h => h) h
theorem rarg7 {W : World} {ok : Nat → Prop} {ao : Option Addr} {n cap i : Nat} {xs : List Ex} {a : Ex} (h : RArgs W ok (.slice ao n cap) xs) (ha : xs[i]? = some a) :
    ∃ b o aa ac, ao = some ⟨b, o, none⟩ ∧ b < W.heap.size ∧ ok b ∧ RArgs W ok (.slice aa a.xs.length ac) a.xs ∧ ∀ j c, (rfC a (.slice aa a.xs.length ac))[j]? = some c → W.cell? ⟨b, o + i * 7 + j, none⟩ = some c := by
  have hi : (rfDs xs)[i]? = some (rfD a) := by rw [rfDs_map, List.getElem?_map, ha]; rfl
  obtain ⟨b, o, cs, e1, e2, e3, e4, e5, e6⟩ := Rep.at h hi
  obtain ⟨sl, rfl, h7⟩ := rf_row e6
  obtain ⟨aa, ac, rfl, _⟩ := RArgs.len h7
  refine ⟨b, o, aa, ac, e1, e2, e3, h7, fun j c hc => ?_⟩
  have hj : j < 7 := by have := (List.getElem?_eq_some_iff.1 hc).1; exact this
  rw [Nat.add_assoc, e4 j hj]; exact hc
set_option maxRecDepth 100000 in
set_option maxHeartbeats 3200000 in
theorem place_any (x : Ex) (h : RsOk x) (hx : OkE x) (least : Nat) (hl : least ≤ 100) (sa : Option Addr) (ca : Nat) (w : World) (ok : Nat → Prop) (hA : RArgs w ok (.slice sa x.xs.length ca) x.xs) (hlen : (textE x).length ≤ 1000000) :
    Calls Tryz.prog 48 #[rfV x (.slice sa x.xs.length ca), .int .i64 (least : Int)] w (StrTo (wiT least (x, textE x)) w) := by
  have bw : Below w.heap.size w (w.alloc (.cells #[.int .i64 x.k, .string ⟨x.nm.toArray⟩, .string ⟨x.op.toArray⟩, .int .i64 x.v.k, .int .i64 x.v.n, .string ⟨x.v.t.toArray⟩, .slice sa x.xs.length ca] 37)) := (Below.refl _ w).alloc (Nat.le_refl _) _
  have X := Box.new w [.int .i64 x.k, .string ⟨x.nm.toArray⟩, .string ⟨x.op.toArray⟩, .int .i64 x.v.k, .int .i64 x.v.n, .string ⟨x.v.t.toArray⟩, .slice sa x.xs.length ca] 37
  have HB := Lib.hid bw
  have HR := Lib.hid (fun W => tight_any x hx sa x.xs.length ca W)
  have HT := Lib.hid (fun W (hW : Below w.heap.size w W) => h hx sa ca W ok (hA.below hW) hlen)
  obtain ⟨T, hT⟩ : ∃ T : ByteArray, (⟨(textE x).toArray⟩ : ByteArray) = T := ⟨_, rfl⟩
  have hTs : T.size ≤ 1000000 := by rw [← hT, sz_mk]; exact hlen
  obtain ⟨r, hr⟩ : ∃ r, rankE x = r := ⟨_, rfl⟩
  have HS : Hid (∀ W, StrTo (textE x) W = fun e w' => e = .returned (.string T) ∧ Below W.heap.size W w') := fun W => by unfold StrTo; rw [hT]
  rw [hr] at HR
  by_cases hlt : r < least
  · have HW : Hid ((⟨#[40]⟩ : ByteArray) ++ T ++ ⟨#[41]⟩ = ⟨(wiT least (x, textE x)).toArray⟩) := by
      show _ = _
      rw [← hT]
      unfold wiT
      simp only
      rw [hr, if_pos hlt]
      show ((⟨([40] : Str).toArray⟩ : ByteArray) ++ ⟨(textE x).toArray⟩) ++ ⟨([41] : Str).toArray⟩ = _
      rw [app_mk, app_mk]; rfl
    clear hA hT hr h bw
    go_enter Tryz.func48, Tryz.ntmps48
    obtain ⟨x0, x1, x2, x3, x4, x5, x6⟩ := X.seven
    go_wp2_with (first | (go_at_call 49; refine (HR.out _).mono ?_; rintro e w1 ⟨rfl, hb1⟩; have X1 := X.next hb1; obtain ⟨y0, y1, y2, y3, y4, y5, y6⟩ := X1.seven) | (go_at_call 17; have hc := HT.out _ (two HB.out hb1); rw [HS.out] at hc; refine hc.mono ?_; clear hc; rintro e w2 ⟨rfl, hb2⟩))
    go_ret
    exact ⟨ret_str HW.out, two (two HB.out hb1) hb2⟩
  · have HW : Hid (T = ⟨(wiT least (x, textE x)).toArray⟩) := by
      show _ = _
      rw [← hT]
      unfold wiT
      simp only
      rw [hr, if_neg hlt]
    clear hA hT hr h bw
    go_enter Tryz.func48, Tryz.ntmps48
    obtain ⟨x0, x1, x2, x3, x4, x5, x6⟩ := X.seven
    go_wp2_with (first | (go_at_call 49; refine (HR.out _).mono ?_; rintro e w1 ⟨rfl, hb1⟩; have X1 := X.next hb1; obtain ⟨y0, y1, y2, y3, y4, y5, y6⟩ := X1.seven) | (go_at_call 17; have hc := HT.out _ (two HB.out hb1); rw [HS.out] at hc; refine hc.mono ?_; clear hc; rintro e w2 ⟨rfl, hb2⟩))
    go_ret
    exact ⟨ret_str HW.out, two (two HB.out hb1) hb2⟩
set_option maxRecDepth 100000 in
set_option maxHeartbeats 3200000 in
theorem rshow_col (N : ByteArray) (sa : Option Addr) (ca : Nat) (w : World) : Calls Tryz.prog 17 #[.agg #[.int .i64 1, .string N, .string ⟨#[]⟩, .int .i64 0, .int .i64 0, .string ⟨#[]⟩, .slice sa 0 ca]] w fun e w' => e = .returned (.string N) ∧ Below w.heap.size w w' := by
  have HB := Lib.hid ((Below.refl w.heap.size w).alloc (Nat.le_refl _) (.cells #[.int .i64 1, .string N, .string ⟨#[]⟩, .int .i64 0, .int .i64 0, .string ⟨#[]⟩, .slice sa 0 ca] 37))
  have X := Box.new w [.int .i64 1, .string N, .string ⟨#[]⟩, .int .i64 0, .int .i64 0, .string ⟨#[]⟩, .slice sa 0 ca] 37
  go_enter Tryz.func17, Tryz.ntmps17
  obtain ⟨x0, x1, x2, x3, x4, x5, x6⟩ := X.seven
  go_wp2_with fail
  go_ret
  exact ⟨rfl, HB.out⟩
set_option maxRecDepth 100000 in
set_option maxHeartbeats 3200000 in
theorem rshow_const (vk vn : Int) (vt : ByteArray) (sa : Option Addr) (ca : Nat) (w : World) (hr : Va.rightB vk vn vt = true) (n0 : -9223372036854775808 ≤ vn) (n1 : vn ≤ 9223372036854775807) : Calls Tryz.prog 17 #[.agg #[.int .i64 2, .string ⟨#[]⟩, .string ⟨#[]⟩, .int .i64 vk, .int .i64 vn, .string vt, .slice sa 0 ca]] w fun e w' => e = .returned (.string ⟨(Va.showL vk vn vt).toArray⟩) ∧ Below w.heap.size w w' := by
  have HB := Lib.hid ((Below.refl w.heap.size w).alloc (Nat.le_refl _) (.cells #[.int .i64 2, .string ⟨#[]⟩, .string ⟨#[]⟩, .int .i64 vk, .int .i64 vn, .string vt, .slice sa 0 ca] 37))
  have X := Box.new w [.int .i64 2, .string ⟨#[]⟩, .string ⟨#[]⟩, .int .i64 vk, .int .i64 vn, .string vt, .slice sa 0 ca] 37
  have HS := Lib.hid (fun W => Va.refShow_any vk vn vt W hr n0 n1)
  clear hr
  go_enter Tryz.func17, Tryz.ntmps17
  obtain ⟨x0, x1, x2, x3, x4, x5, x6⟩ := X.seven
  go_wp2_with (go_at_call 47; refine (HS.out _).mono ?_; rintro e w2 ⟨rfl, hb2⟩)
  go_ret
  exact ⟨rfl, two HB.out hb2⟩
set_option maxRecDepth 100000 in
set_option maxHeartbeats 6400000 in
theorem rshow_not (a : Ex) (ha : OkE a) (ih : RsOk a) (sa : Option Addr) (ca : Nat) (w : World) (ok : Nat → Prop) (hA : RArgs w ok (.slice sa 1 ca) [a]) (hlen : (textE (unaryE sNot a)).length ≤ 1000000) :
    Calls Tryz.prog 17 #[.agg #[.int .i64 3, .string ⟨#[]⟩, .string ⟨#[110, 111, 116]⟩, .int .i64 0, .int .i64 0, .string ⟨#[]⟩, .slice sa 1 ca]] w (StrTo (textE (unaryE sNot a)) w) := by
  have hlw : (wiT 3 (a, textE a)).length ≤ 1000000 := by rw [textE_not] at hlen; simp at hlen; omega
  have hla : (textE a).length ≤ 1000000 := Nat.le_trans (wiT_len 3 (a, textE a)) hlw
  have hbw := (Below.refl w.heap.size w).alloc (Nat.le_refl _) (.cells #[.int .i64 3, .string ⟨#[]⟩, .string ⟨#[110, 111, 116]⟩, .int .i64 0, .int .i64 0, .string ⟨#[]⟩, .slice sa 1 ca] 37)
  have HB := Lib.hid hbw
  have X := Box.new w [.int .i64 3, .string ⟨#[]⟩, .string ⟨#[110, 111, 116]⟩, .int .i64 0, .int .i64 0, .string ⟨#[]⟩, .slice sa 1 ca] 37
  have hA1 := hA.below hbw
  obtain ⟨ub, uo, ua, uc, ue, ul, _, uX, uF⟩ := rarg7 hA1 (show [a][0]? = some a by rfl)
  have u0 : (w.alloc (.cells #[.int .i64 3, .string ⟨#[]⟩, .string ⟨#[110, 111, 116]⟩, .int .i64 0, .int .i64 0, .string ⟨#[]⟩, .slice sa 1 ca] 37)).cell? ⟨ub, uo, none⟩ = some (.int .i64 a.k) := uF 0 _ rfl
  have u1 : (w.alloc (.cells #[.int .i64 3, .string ⟨#[]⟩, .string ⟨#[110, 111, 116]⟩, .int .i64 0, .int .i64 0, .string ⟨#[]⟩, .slice sa 1 ca] 37)).cell? ⟨ub, uo + 1, none⟩ = some (.string ⟨a.nm.toArray⟩) := uF 1 _ rfl
  have u2 : (w.alloc (.cells #[.int .i64 3, .string ⟨#[]⟩, .string ⟨#[110, 111, 116]⟩, .int .i64 0, .int .i64 0, .string ⟨#[]⟩, .slice sa 1 ca] 37)).cell? ⟨ub, uo + 2, none⟩ = some (.string ⟨a.op.toArray⟩) := uF 2 _ rfl
  have u3 : (w.alloc (.cells #[.int .i64 3, .string ⟨#[]⟩, .string ⟨#[110, 111, 116]⟩, .int .i64 0, .int .i64 0, .string ⟨#[]⟩, .slice sa 1 ca] 37)).cell? ⟨ub, uo + 3, none⟩ = some (.int .i64 a.v.k) := uF 3 _ rfl
  have u4 : (w.alloc (.cells #[.int .i64 3, .string ⟨#[]⟩, .string ⟨#[110, 111, 116]⟩, .int .i64 0, .int .i64 0, .string ⟨#[]⟩, .slice sa 1 ca] 37)).cell? ⟨ub, uo + 4, none⟩ = some (.int .i64 a.v.n) := uF 4 _ rfl
  have u5 : (w.alloc (.cells #[.int .i64 3, .string ⟨#[]⟩, .string ⟨#[110, 111, 116]⟩, .int .i64 0, .int .i64 0, .string ⟨#[]⟩, .slice sa 1 ca] 37)).cell? ⟨ub, uo + 5, none⟩ = some (.string ⟨a.v.t.toArray⟩) := uF 5 _ rfl
  have u6 : (w.alloc (.cells #[.int .i64 3, .string ⟨#[]⟩, .string ⟨#[110, 111, 116]⟩, .int .i64 0, .int .i64 0, .string ⟨#[]⟩, .slice sa 1 ca] 37)).cell? ⟨ub, uo + 6, none⟩ = some (.slice ua a.xs.length uc) := uF 6 _ rfl
  subst ue
  obtain ⟨T, hT⟩ : ∃ T : ByteArray, (⟨(wiT 3 (a, textE a)).toArray⟩ : ByteArray) = T := ⟨_, rfl⟩
  have hTs : T.size ≤ 1000000 := by rw [← hT, sz_mk]; exact hlw
  have bwa := (Below.refl _ (w.alloc (.cells #[.int .i64 3, .string ⟨#[]⟩, .string ⟨#[110, 111, 116]⟩, .int .i64 0, .int .i64 0, .string ⟨#[]⟩, .slice (some ⟨ub, uo, none⟩) 1 ca] 37))).alloc (Nat.le_refl _) (.cells #[.int .i64 a.k, .string ⟨a.nm.toArray⟩, .string ⟨a.op.toArray⟩, .int .i64 a.v.k, .int .i64 a.v.n, .string ⟨a.v.t.toArray⟩, .slice ua a.xs.length uc] 37)
  have HI := Lib.hid (place_any a ih ha 3 (by decide) ua uc _ ok (uX.below bwa) hla)
  unfold StrTo at HI
  rw [hT] at HI
  have HW : Hid ((⟨#[110, 111, 116, 32]⟩ : ByteArray) ++ T = ⟨(textE (unaryE sNot a)).toArray⟩) := by
    show _ = _
    rw [← hT, textE_not]
    show (⟨([110, 111, 116, 32] : Str).toArray⟩ : ByteArray) ++ ⟨(wiT 3 (a, textE a)).toArray⟩ = _
    rw [app_mk]; rfl
  have HBA := Lib.hid bwa
  clear hA hlen hlw hla hbw hA1 uX uF hT bwa
  go_enter Tryz.func17, Tryz.ntmps17
  obtain ⟨x0, x1, x2, x3, x4, x5, x6⟩ := X.seven
  go_wp2_with (go_at_call 48; refine HI.out.mono ?_; rintro e w2 ⟨rfl, hb2⟩)
  go_ret
  exact ⟨ret_str HW.out, HB.out.trans ((HBA.out.trans (hb2.mono HBA.out.size)).mono HB.out.size)⟩
set_option maxRecDepth 100000 in
set_option maxHeartbeats 12800000 in
theorem rshow_neg (a : Ex) (ha : OkE a) (ih : RsOk a) (sa : Option Addr) (ca : Nat) (w : World) (ok : Nat → Prop) (hA : RArgs w ok (.slice sa 1 ca) [a]) (hlen : (textE (unaryE [45] a)).length ≤ 1000000) :
    Calls Tryz.prog 17 #[.agg #[.int .i64 3, .string ⟨#[]⟩, .string ⟨#[45]⟩, .int .i64 0, .int .i64 0, .string ⟨#[]⟩, .slice sa 1 ca]] w (StrTo (textE (unaryE [45] a)) w) := by
  have hlw : (miT (a, textE a)).length ≤ 1000000 := by rw [textE_neg] at hlen; simp at hlen; omega
  have hla : (textE a).length ≤ 1000000 := Nat.le_trans (miT_len (a, textE a)) hlw
  have hbw := (Below.refl w.heap.size w).alloc (Nat.le_refl _) (.cells #[.int .i64 3, .string ⟨#[]⟩, .string ⟨#[45]⟩, .int .i64 0, .int .i64 0, .string ⟨#[]⟩, .slice sa 1 ca] 37)
  have HB := Lib.hid hbw
  have X := Box.new w [.int .i64 3, .string ⟨#[]⟩, .string ⟨#[45]⟩, .int .i64 0, .int .i64 0, .string ⟨#[]⟩, .slice sa 1 ca] 37
  have hA1 := hA.below hbw
  obtain ⟨ub, uo, ua, uc, ue, ul, _, uX, uF⟩ := rarg7 hA1 (show [a][0]? = some a by rfl)
  have u0 : (w.alloc (.cells #[.int .i64 3, .string ⟨#[]⟩, .string ⟨#[45]⟩, .int .i64 0, .int .i64 0, .string ⟨#[]⟩, .slice sa 1 ca] 37)).cell? ⟨ub, uo, none⟩ = some (.int .i64 a.k) := uF 0 _ rfl
  have u1 : (w.alloc (.cells #[.int .i64 3, .string ⟨#[]⟩, .string ⟨#[45]⟩, .int .i64 0, .int .i64 0, .string ⟨#[]⟩, .slice sa 1 ca] 37)).cell? ⟨ub, uo + 1, none⟩ = some (.string ⟨a.nm.toArray⟩) := uF 1 _ rfl
  have u2 : (w.alloc (.cells #[.int .i64 3, .string ⟨#[]⟩, .string ⟨#[45]⟩, .int .i64 0, .int .i64 0, .string ⟨#[]⟩, .slice sa 1 ca] 37)).cell? ⟨ub, uo + 2, none⟩ = some (.string ⟨a.op.toArray⟩) := uF 2 _ rfl
  have u3 : (w.alloc (.cells #[.int .i64 3, .string ⟨#[]⟩, .string ⟨#[45]⟩, .int .i64 0, .int .i64 0, .string ⟨#[]⟩, .slice sa 1 ca] 37)).cell? ⟨ub, uo + 3, none⟩ = some (.int .i64 a.v.k) := uF 3 _ rfl
  have u4 : (w.alloc (.cells #[.int .i64 3, .string ⟨#[]⟩, .string ⟨#[45]⟩, .int .i64 0, .int .i64 0, .string ⟨#[]⟩, .slice sa 1 ca] 37)).cell? ⟨ub, uo + 4, none⟩ = some (.int .i64 a.v.n) := uF 4 _ rfl
  have u5 : (w.alloc (.cells #[.int .i64 3, .string ⟨#[]⟩, .string ⟨#[45]⟩, .int .i64 0, .int .i64 0, .string ⟨#[]⟩, .slice sa 1 ca] 37)).cell? ⟨ub, uo + 5, none⟩ = some (.string ⟨a.v.t.toArray⟩) := uF 5 _ rfl
  have u6 : (w.alloc (.cells #[.int .i64 3, .string ⟨#[]⟩, .string ⟨#[45]⟩, .int .i64 0, .int .i64 0, .string ⟨#[]⟩, .slice sa 1 ca] 37)).cell? ⟨ub, uo + 6, none⟩ = some (.slice ua a.xs.length uc) := uF 6 _ rfl
  subst ue
  have bwa := (Below.refl _ (w.alloc (.cells #[.int .i64 3, .string ⟨#[]⟩, .string ⟨#[45]⟩, .int .i64 0, .int .i64 0, .string ⟨#[]⟩, .slice (some ⟨ub, uo, none⟩) 1 ca] 37))).alloc (Nat.le_refl _) (.cells #[.int .i64 a.k, .string ⟨a.nm.toArray⟩, .string ⟨a.op.toArray⟩, .int .i64 a.v.k, .int .i64 a.v.n, .string ⟨a.v.t.toArray⟩, .slice ua a.xs.length uc] 37)
  have HBA := Lib.hid bwa
  by_cases hp : posC a
  · obtain ⟨T, hT⟩ : ∃ T : ByteArray, (⟨(textE a).toArray⟩ : ByteArray) = T := ⟨_, rfl⟩
    have hTs : T.size ≤ 1000000 := by rw [← hT, sz_mk]; exact hla
    have HI := Lib.hid (ih ha ua uc _ ok (uX.below bwa) hla)
    unfold StrTo at HI
    rw [hT] at HI
    have HW : Hid ((⟨#[45, 40]⟩ : ByteArray) ++ T ++ ⟨#[41]⟩ = ⟨(textE (unaryE [45] a)).toArray⟩) := by
      show _ = _
      rw [← hT, textE_neg]
      unfold miT
      rw [if_pos hp]
      show ((⟨([45, 40] : Str).toArray⟩ : ByteArray) ++ ⟨(textE a).toArray⟩) ++ ⟨([41] : Str).toArray⟩ = _
      rw [app_mk, app_mk]; rfl
    have q2 : (a.k == 2) = true := by simpa using hp.1
    have q1 : (a.v.k == 1) = true := by simpa using hp.2.1
    have q0 : 0 < a.v.n := hp.2.2
    clear hA hlen hlw hla hbw hA1 uX uF hT bwa hp
    go_enter Tryz.func17, Tryz.ntmps17
    obtain ⟨x0, x1, x2, x3, x4, x5, x6⟩ := X.seven
    go_wp2_with (go_at_call 17; refine HI.out.mono ?_; rintro e w2 ⟨rfl, hb2⟩)
    go_ret
    exact ⟨ret_str HW.out, HB.out.trans ((HBA.out.trans (hb2.mono HBA.out.size)).mono HB.out.size)⟩
  · obtain ⟨T, hT⟩ : ∃ T : ByteArray, (⟨(wiT 7 (a, textE a)).toArray⟩ : ByteArray) = T := ⟨_, rfl⟩
    have hTs : T.size ≤ 1000000 := by rw [← hT, sz_mk]; unfold miT at hlw; rw [if_neg hp] at hlw; exact hlw
    have HI := Lib.hid (place_any a ih ha 7 (by decide) ua uc _ ok (uX.below bwa) hla)
    unfold StrTo at HI
    rw [hT] at HI
    have HW : Hid ((⟨#[45]⟩ : ByteArray) ++ T = ⟨(textE (unaryE [45] a)).toArray⟩) := by
      show _ = _
      rw [← hT, textE_neg]
      unfold miT
      rw [if_neg hp]
      show (⟨([45] : Str).toArray⟩ : ByteArray) ++ ⟨(wiT 7 (a, textE a)).toArray⟩ = _
      rw [app_mk]
    clear hA hlen hlw hla hbw hA1 uX uF hT bwa
    by_cases h2 : a.k = 2
    · have q2 : (a.k == 2) = true := by simpa using h2
      by_cases h1 : a.v.k = 1
      · have q1 : (a.v.k == 1) = true := by simpa using h1
        have q0 : ¬ 0 < a.v.n := fun h => hp ⟨h2, h1, h⟩
        clear hp h2 h1
        go_enter Tryz.func17, Tryz.ntmps17
        obtain ⟨x0, x1, x2, x3, x4, x5, x6⟩ := X.seven
        go_wp2_with (go_at_call 48; refine HI.out.mono ?_; rintro e w2 ⟨rfl, hb2⟩)
        go_ret
        exact ⟨ret_str HW.out, HB.out.trans ((HBA.out.trans (hb2.mono HBA.out.size)).mono HB.out.size)⟩
      · have q1 : (a.v.k == 1) = false := by simpa using h1
        clear hp h2 h1
        go_enter Tryz.func17, Tryz.ntmps17
        obtain ⟨x0, x1, x2, x3, x4, x5, x6⟩ := X.seven
        go_wp2_with (go_at_call 48; refine HI.out.mono ?_; rintro e w2 ⟨rfl, hb2⟩)
        go_ret
        exact ⟨ret_str HW.out, HB.out.trans ((HBA.out.trans (hb2.mono HBA.out.size)).mono HB.out.size)⟩
    · have q2 : (a.k == 2) = false := by simpa using h2
      clear hp h2
      go_enter Tryz.func17, Tryz.ntmps17
      obtain ⟨x0, x1, x2, x3, x4, x5, x6⟩ := X.seven
      go_wp2_with (go_at_call 48; refine HI.out.mono ?_; rintro e w2 ⟨rfl, hb2⟩)
      go_ret
      exact ⟨ret_str HW.out, HB.out.trans ((HBA.out.trans (hb2.mono HBA.out.size)).mono HB.out.size)⟩
end Go.Proofs.YtonkjhmkppeagaaGreatDoor.Pz

set_option linter.unusedVariables false
set_option linter.unusedSimpArgs false
namespace Go.Proofs.YtonkjhmkppeagaaGreatDoor.Pz
open Go.RowKit Go Go.Sort Ba Lx

set_option maxRecDepth 100000 in
set_option maxHeartbeats 12800000 in
theorem rshow_bin_cmp (op : Str) (a b : Ex) (ho : rankOp op ≠ 0) (hc : rankOp op = 4) (ha : OkE a) (hb : OkE b) (iha : RsOk a) (ihb : RsOk b) (Y : ByteArray) (hY : (⟨op.toArray⟩ : ByteArray) = Y) (sa : Option Addr) (ca : Nat) (w : World) (ok : Nat → Prop) (hA : RArgs w ok (.slice sa 2 ca) [a, b]) (hlen : (textE (binaryE op a b)).length ≤ 1000000) :
    Calls Tryz.prog 17 #[.agg #[.int .i64 4, .string ⟨#[]⟩, .string Y, .int .i64 0, .int .i64 0, .string ⟨#[]⟩, .slice sa 2 ca]] w (StrTo (textE (binaryE op a b)) w) := by
  have hbw := (Below.refl w.heap.size w).alloc (Nat.le_refl _) (.cells #[.int .i64 4, .string ⟨#[]⟩, .string Y, .int .i64 0, .int .i64 0, .string ⟨#[]⟩, .slice sa 2 ca] 37)
  have HB := Lib.hid hbw
  have X := Box.new w [.int .i64 4, .string ⟨#[]⟩, .string Y, .int .i64 0, .int .i64 0, .string ⟨#[]⟩, .slice sa 2 ca] 37
  have hXA := Lib.hid (fun W (hW : Below w.heap.size w W) => hA.below hW)
  have hr6 := rankOp_le op
  have HR := Lib.hid (tight_any (binaryE op a b) (.bin op a b ho ha hb) sa 2 ca (w.alloc (.cells #[.int .i64 4, .string ⟨#[]⟩, .string Y, .int .i64 0, .int .i64 0, .string ⟨#[]⟩, .slice sa 2 ca] 37)))
  rw [show rfV (binaryE op a b) (.slice sa 2 ca) = .agg #[.int .i64 4, .string ⟨#[]⟩, .string Y, .int .i64 0, .int .i64 0, .string ⟨#[]⟩, .slice sa 2 ca] from by rw [← hY]; rfl, rank_bin] at HR
  obtain ⟨r, hr⟩ : ∃ r, rankOp op = r := ⟨_, rfl⟩
  rw [hr] at HR hc hr6
  have HT := textE_bin op a b
  rw [show leftR op = 5 from by unfold leftR; rw [hr]; rw [if_pos hc], hr, hc] at HT
  have hlwa : (wiT 5 (a, textE a)).length ≤ 1000000 := by rw [HT] at hlen; simp at hlen; omega
  have hlwb : (wiT (5) (b, textE b)).length ≤ 1000000 := by rw [HT] at hlen; simp at hlen; omega
  have hopl : op.length ≤ 1000000 := by rw [HT] at hlen; simp at hlen; omega
  have hla : (textE a).length ≤ 1000000 := Nat.le_trans (wiT_len 5 (a, textE a)) hlwa
  have hlb : (textE b).length ≤ 1000000 := Nat.le_trans (wiT_len (5) (b, textE b)) hlwb
  obtain ⟨S, hS⟩ : ∃ S : ByteArray, (⟨(wiT 5 (a, textE a)).toArray⟩ : ByteArray) = S := ⟨_, rfl⟩
  obtain ⟨T, hT⟩ : ∃ T : ByteArray, (⟨(wiT (5) (b, textE b)).toArray⟩ : ByteArray) = T := ⟨_, rfl⟩
  have hSs : S.size ≤ 1000000 := by rw [← hS, sz_mk]; exact hlwa
  have hTs : T.size ≤ 1000000 := by rw [← hT, sz_mk]; exact hlwb
  have hYs : Y.size ≤ 1000000 := by rw [← hY, sz_mk]; exact hopl
  have HW : Hid ((((S ++ ⟨#[32]⟩) ++ Y) ++ ⟨#[32]⟩) ++ T = ⟨(textE (binaryE op a b)).toArray⟩) := by
    show _ = _
    rw [← hS, ← hT, ← hY, HT]
    show (((((⟨(wiT 5 (a, textE a)).toArray⟩ : ByteArray) ++ ⟨([32] : Str).toArray⟩) ++ ⟨op.toArray⟩) ++ ⟨([32] : Str).toArray⟩) ++ ⟨(wiT (5) (b, textE b)).toArray⟩) = _
    rw [app_mk, app_mk, app_mk, app_mk]
    congr 2
    simp [List.append_assoc]
  have HIA : Hid (∀ W, ∀ ua uc, RArgs W ok (.slice ua a.xs.length uc) a.xs → Calls Tryz.prog 48 #[rfV a (.slice ua a.xs.length uc), .int .i64 5] W fun e w' => e = .returned (.string S) ∧ Below W.heap.size W w') := fun W ua uc hu => by
    have := place_any a iha ha (5) (by omega) ua uc W ok hu hla
    unfold StrTo at this
    rw [hS] at this
    exact this
  have HIB : Hid (∀ W, ∀ ua uc, RArgs W ok (.slice ua b.xs.length uc) b.xs → Calls Tryz.prog 48 #[rfV b (.slice ua b.xs.length uc), .int .i64 (5)] W fun e w' => e = .returned (.string T) ∧ Below W.heap.size W w') := fun W ua uc hu => by
    have := place_any b ihb hb (5) (by omega) ua uc W ok hu hlb
    unfold StrTo at this
    rw [hT] at this
    exact this
  have e4 : (((r : Nat) : Int) == 4) = true := by simp; omega
  have r0 : (0 : Int) ≤ (r : Int) := by omega
  have r6 : (r : Int) ≤ 6 := by omega
  have HWR : Hid (IntKind.i64.wrap ((r : Int) + 1) = (r : Int) + 1) := IntWalk.i64_in _ (by omega)
  clear hA hlen hY hS hT hlwa hlwb hla hlb hopl HT hr hbw hr6 hc
  go_enter Tryz.func17, Tryz.ntmps17
  obtain ⟨x0, x1, x2, x3, x4, x5, x6⟩ := X.seven
  go_wp2_with fail
  generalize w.alloc (.cells #[.int .i64 4, .string ⟨#[]⟩, .string Y, .int .i64 0, .int .i64 0, .string ⟨#[]⟩, .slice sa 2 ca] 37) = W1 at *
  refine HR.out.mono ?_
  rintro e w2 ⟨rfl, hb2⟩
  have X2 := X.next hb2
  have hw2 := two HB.out hb2
  have hA2 := hXA.out w2 hw2
  clear x0 x1 x2 x3 x4 x5 x6 X
  obtain ⟨x0, x1, x2, x3, x4, x5, x6⟩ := X2.seven
  obtain ⟨ub, uo, ua, uc, ue, ul, _, uX, uF⟩ := rarg7 hA2 (show [a, b][0]? = some a by rfl)
  subst ue
  have u0 : w2.cell? ⟨ub, uo, none⟩ = some (.int .i64 a.k) := uF 0 _ rfl
  have u1 : w2.cell? ⟨ub, uo + 1, none⟩ = some (.string ⟨a.nm.toArray⟩) := uF 1 _ rfl
  have u2 : w2.cell? ⟨ub, uo + 2, none⟩ = some (.string ⟨a.op.toArray⟩) := uF 2 _ rfl
  have u3 : w2.cell? ⟨ub, uo + 3, none⟩ = some (.int .i64 a.v.k) := uF 3 _ rfl
  have u4 : w2.cell? ⟨ub, uo + 4, none⟩ = some (.int .i64 a.v.n) := uF 4 _ rfl
  have u5 : w2.cell? ⟨ub, uo + 5, none⟩ = some (.string ⟨a.v.t.toArray⟩) := uF 5 _ rfl
  have u6 : w2.cell? ⟨ub, uo + 6, none⟩ = some (.slice ua a.xs.length uc) := uF 6 _ rfl
  obtain ⟨vb, vo, va, vc, ve, vl, _, vX, vF⟩ := rarg7 hA2 (show [a, b][1]? = some b by rfl)
  obtain ⟨rfl, rfl⟩ : ub = vb ∧ uo = vo := by injection ve with ve; injection ve with v1 v2; exact ⟨v1, v2⟩
  have v0 : w2.cell? ⟨ub, uo + 7, none⟩ = some (.int .i64 b.k) := vF 0 _ rfl
  have v1 : w2.cell? ⟨ub, uo + 8, none⟩ = some (.string ⟨b.nm.toArray⟩) := vF 1 _ rfl
  have v2 : w2.cell? ⟨ub, uo + 9, none⟩ = some (.string ⟨b.op.toArray⟩) := vF 2 _ rfl
  have v3 : w2.cell? ⟨ub, uo + 10, none⟩ = some (.int .i64 b.v.k) := vF 3 _ rfl
  have v4 : w2.cell? ⟨ub, uo + 11, none⟩ = some (.int .i64 b.v.n) := vF 4 _ rfl
  have v5 : w2.cell? ⟨ub, uo + 12, none⟩ = some (.string ⟨b.v.t.toArray⟩) := vF 5 _ rfl
  have v6 : w2.cell? ⟨ub, uo + 13, none⟩ = some (.slice va b.xs.length vc) := vF 6 _ rfl
  clear uF vF ve
  go_upto_region 15 with (fail)
  have cA := qcall (w := w2) fun W' hb' => HIA.out W' ua uc (uX.below hb')
  have cB := qcall (w := w2) fun W' hb' => HIB.out W' va vc (vX.below hb')
  have hwr := HWR.out
  have x2 := cell_regrown x2
  have x6 := cell_regrown x6
  have u0 := cell_regrown u0
  have v0 := cell_regrown v0
  have u1 := cell_regrown u1
  have v1 := cell_regrown v1
  have u2 := cell_regrown u2
  have v2 := cell_regrown v2
  have u3 := cell_regrown u3
  have v3 := cell_regrown v3
  have u4 := cell_regrown u4
  have v4 := cell_regrown v4
  have u5 := cell_regrown u5
  have v5 := cell_regrown v5
  have u6 := cell_regrown u6
  have v6 := cell_regrown v6
  clear uX vX hA2 x0 x1 x3 x4 x5
  refine wp_region_quiet_below (by kernel_rfl) (by kernel_rfl) ?_
  repeat (go_big_quiet_step (with_reducible (first | exact cA _ _ | exact cB _ _)))
  refine wpQuiet_nil ?_
  intro _ hw'
  obtain ⟨⟨dq1, os1⟩, hw''⟩ := hw'
  subst hw''
  go_wp2_with fail
  go_ret
  exact ⟨ret_str HW.out, two hw2 (below_regrown _ _ _)⟩
set_option maxRecDepth 100000 in
set_option maxHeartbeats 12800000 in
theorem rshow_bin_other (op : Str) (a b : Ex) (ho : rankOp op ≠ 0) (hc : rankOp op ≠ 4) (ha : OkE a) (hb : OkE b) (iha : RsOk a) (ihb : RsOk b) (Y : ByteArray) (hY : (⟨op.toArray⟩ : ByteArray) = Y) (sa : Option Addr) (ca : Nat) (w : World) (ok : Nat → Prop) (hA : RArgs w ok (.slice sa 2 ca) [a, b]) (hlen : (textE (binaryE op a b)).length ≤ 1000000) :
    Calls Tryz.prog 17 #[.agg #[.int .i64 4, .string ⟨#[]⟩, .string Y, .int .i64 0, .int .i64 0, .string ⟨#[]⟩, .slice sa 2 ca]] w (StrTo (textE (binaryE op a b)) w) := by
  have hbw := (Below.refl w.heap.size w).alloc (Nat.le_refl _) (.cells #[.int .i64 4, .string ⟨#[]⟩, .string Y, .int .i64 0, .int .i64 0, .string ⟨#[]⟩, .slice sa 2 ca] 37)
  have HB := Lib.hid hbw
  have X := Box.new w [.int .i64 4, .string ⟨#[]⟩, .string Y, .int .i64 0, .int .i64 0, .string ⟨#[]⟩, .slice sa 2 ca] 37
  have hXA := Lib.hid (fun W (hW : Below w.heap.size w W) => hA.below hW)
  have hr6 := rankOp_le op
  have HR := Lib.hid (tight_any (binaryE op a b) (.bin op a b ho ha hb) sa 2 ca (w.alloc (.cells #[.int .i64 4, .string ⟨#[]⟩, .string Y, .int .i64 0, .int .i64 0, .string ⟨#[]⟩, .slice sa 2 ca] 37)))
  rw [show rfV (binaryE op a b) (.slice sa 2 ca) = .agg #[.int .i64 4, .string ⟨#[]⟩, .string Y, .int .i64 0, .int .i64 0, .string ⟨#[]⟩, .slice sa 2 ca] from by rw [← hY]; rfl, rank_bin] at HR
  obtain ⟨r, hr⟩ : ∃ r, rankOp op = r := ⟨_, rfl⟩
  rw [hr] at HR hc hr6
  have HT := textE_bin op a b
  rw [show leftR op = r from by unfold leftR; rw [hr]; rw [if_neg hc], hr] at HT
  have hlwa : (wiT r (a, textE a)).length ≤ 1000000 := by rw [HT] at hlen; simp at hlen; omega
  have hlwb : (wiT (r + 1) (b, textE b)).length ≤ 1000000 := by rw [HT] at hlen; simp at hlen; omega
  have hopl : op.length ≤ 1000000 := by rw [HT] at hlen; simp at hlen; omega
  have hla : (textE a).length ≤ 1000000 := Nat.le_trans (wiT_len r (a, textE a)) hlwa
  have hlb : (textE b).length ≤ 1000000 := Nat.le_trans (wiT_len (r + 1) (b, textE b)) hlwb
  obtain ⟨S, hS⟩ : ∃ S : ByteArray, (⟨(wiT r (a, textE a)).toArray⟩ : ByteArray) = S := ⟨_, rfl⟩
  obtain ⟨T, hT⟩ : ∃ T : ByteArray, (⟨(wiT (r + 1) (b, textE b)).toArray⟩ : ByteArray) = T := ⟨_, rfl⟩
  have hSs : S.size ≤ 1000000 := by rw [← hS, sz_mk]; exact hlwa
  have hTs : T.size ≤ 1000000 := by rw [← hT, sz_mk]; exact hlwb
  have hYs : Y.size ≤ 1000000 := by rw [← hY, sz_mk]; exact hopl
  have HW : Hid ((((S ++ ⟨#[32]⟩) ++ Y) ++ ⟨#[32]⟩) ++ T = ⟨(textE (binaryE op a b)).toArray⟩) := by
    show _ = _
    rw [← hS, ← hT, ← hY, HT]
    show (((((⟨(wiT r (a, textE a)).toArray⟩ : ByteArray) ++ ⟨([32] : Str).toArray⟩) ++ ⟨op.toArray⟩) ++ ⟨([32] : Str).toArray⟩) ++ ⟨(wiT (r + 1) (b, textE b)).toArray⟩) = _
    rw [app_mk, app_mk, app_mk, app_mk]
    congr 2
    simp [List.append_assoc]
  have HIA : Hid (∀ W, ∀ ua uc, RArgs W ok (.slice ua a.xs.length uc) a.xs → Calls Tryz.prog 48 #[rfV a (.slice ua a.xs.length uc), .int .i64 (r : Int)] W fun e w' => e = .returned (.string S) ∧ Below W.heap.size W w') := fun W ua uc hu => by
    have := place_any a iha ha (r) (by omega) ua uc W ok hu hla
    unfold StrTo at this
    rw [hS] at this
    exact this
  have HIB : Hid (∀ W, ∀ ua uc, RArgs W ok (.slice ua b.xs.length uc) b.xs → Calls Tryz.prog 48 #[rfV b (.slice ua b.xs.length uc), .int .i64 ((r : Int) + 1)] W fun e w' => e = .returned (.string T) ∧ Below W.heap.size W w') := fun W ua uc hu => by
    have := place_any b ihb hb (r + 1) (by omega) ua uc W ok hu hlb
    unfold StrTo at this
    rw [hT, show ((r + 1 : Nat) : Int) = (r : Int) + 1 by omega] at this
    exact this
  have e4 : (((r : Nat) : Int) == 4) = false := by simp; omega
  have r0 : (0 : Int) ≤ (r : Int) := by omega
  have r6 : (r : Int) ≤ 6 := by omega
  have HWR : Hid (IntKind.i64.wrap ((r : Int) + 1) = (r : Int) + 1) := IntWalk.i64_in _ (by omega)
  clear hA hlen hY hS hT hlwa hlwb hla hlb hopl HT hr hbw hr6 hc
  go_enter Tryz.func17, Tryz.ntmps17
  obtain ⟨x0, x1, x2, x3, x4, x5, x6⟩ := X.seven
  go_wp2_with fail
  generalize w.alloc (.cells #[.int .i64 4, .string ⟨#[]⟩, .string Y, .int .i64 0, .int .i64 0, .string ⟨#[]⟩, .slice sa 2 ca] 37) = W1 at *
  refine HR.out.mono ?_
  rintro e w2 ⟨rfl, hb2⟩
  have X2 := X.next hb2
  have hw2 := two HB.out hb2
  have hA2 := hXA.out w2 hw2
  clear x0 x1 x2 x3 x4 x5 x6 X
  obtain ⟨x0, x1, x2, x3, x4, x5, x6⟩ := X2.seven
  obtain ⟨ub, uo, ua, uc, ue, ul, _, uX, uF⟩ := rarg7 hA2 (show [a, b][0]? = some a by rfl)
  subst ue
  have u0 : w2.cell? ⟨ub, uo, none⟩ = some (.int .i64 a.k) := uF 0 _ rfl
  have u1 : w2.cell? ⟨ub, uo + 1, none⟩ = some (.string ⟨a.nm.toArray⟩) := uF 1 _ rfl
  have u2 : w2.cell? ⟨ub, uo + 2, none⟩ = some (.string ⟨a.op.toArray⟩) := uF 2 _ rfl
  have u3 : w2.cell? ⟨ub, uo + 3, none⟩ = some (.int .i64 a.v.k) := uF 3 _ rfl
  have u4 : w2.cell? ⟨ub, uo + 4, none⟩ = some (.int .i64 a.v.n) := uF 4 _ rfl
  have u5 : w2.cell? ⟨ub, uo + 5, none⟩ = some (.string ⟨a.v.t.toArray⟩) := uF 5 _ rfl
  have u6 : w2.cell? ⟨ub, uo + 6, none⟩ = some (.slice ua a.xs.length uc) := uF 6 _ rfl
  obtain ⟨vb, vo, va, vc, ve, vl, _, vX, vF⟩ := rarg7 hA2 (show [a, b][1]? = some b by rfl)
  obtain ⟨rfl, rfl⟩ : ub = vb ∧ uo = vo := by injection ve with ve; injection ve with v1 v2; exact ⟨v1, v2⟩
  have v0 : w2.cell? ⟨ub, uo + 7, none⟩ = some (.int .i64 b.k) := vF 0 _ rfl
  have v1 : w2.cell? ⟨ub, uo + 8, none⟩ = some (.string ⟨b.nm.toArray⟩) := vF 1 _ rfl
  have v2 : w2.cell? ⟨ub, uo + 9, none⟩ = some (.string ⟨b.op.toArray⟩) := vF 2 _ rfl
  have v3 : w2.cell? ⟨ub, uo + 10, none⟩ = some (.int .i64 b.v.k) := vF 3 _ rfl
  have v4 : w2.cell? ⟨ub, uo + 11, none⟩ = some (.int .i64 b.v.n) := vF 4 _ rfl
  have v5 : w2.cell? ⟨ub, uo + 12, none⟩ = some (.string ⟨b.v.t.toArray⟩) := vF 5 _ rfl
  have v6 : w2.cell? ⟨ub, uo + 13, none⟩ = some (.slice va b.xs.length vc) := vF 6 _ rfl
  clear uF vF ve
  go_upto_region 16 with (fail)
  have cA := qcall (w := w2) fun W' hb' => HIA.out W' ua uc (uX.below hb')
  have cB := qcall (w := w2) fun W' hb' => HIB.out W' va vc (vX.below hb')
  have hwr := HWR.out
  have x2 := cell_regrown x2
  have x6 := cell_regrown x6
  have u0 := cell_regrown u0
  have v0 := cell_regrown v0
  have u1 := cell_regrown u1
  have v1 := cell_regrown v1
  have u2 := cell_regrown u2
  have v2 := cell_regrown v2
  have u3 := cell_regrown u3
  have v3 := cell_regrown v3
  have u4 := cell_regrown u4
  have v4 := cell_regrown v4
  have u5 := cell_regrown u5
  have v5 := cell_regrown v5
  have u6 := cell_regrown u6
  have v6 := cell_regrown v6
  clear uX vX hA2 x0 x1 x3 x4 x5
  refine wp_region_quiet_below (by kernel_rfl) (by kernel_rfl) ?_
  repeat (go_big_quiet_step (with_reducible (first | exact cA _ _ | exact cB _ _)))
  refine wpQuiet_nil ?_
  intro _ hw'
  obtain ⟨⟨dq1, os1⟩, hw''⟩ := hw'
  subst hw''
  go_wp2_with fail
  go_ret
  exact ⟨ret_str HW.out, two hw2 (below_regrown _ _ _)⟩
end Go.Proofs.YtonkjhmkppeagaaGreatDoor.Pz

set_option linter.unusedVariables false
set_option linter.unusedSimpArgs false
namespace Go.Proofs.YtonkjhmkppeagaaGreatDoor.Pz
open Go.RowKit Go Go.Sort Ba Lx

theorem txt_right {t : Str} (h : TokOk ⟨3, t, 0, 0⟩) : Va.rightB 2 0 ⟨t.toArray⟩ = true := by
  have ht : t.length ≤ 64 ∧ ∀ c ∈ t, 32 ≤ c.toNat ∧ c.toNat ≤ 126 := by
    rcases h with ⟨h1, _⟩ | ⟨h1, _⟩ | ⟨_, _, h2, h3⟩ | ⟨h1, _⟩
    · exact absurd h1 (by show ¬ (3 : Int) = 1; decide)
    · exact absurd h1 (by show ¬ (3 : Int) = 2; decide)
    · exact ⟨h2, h3⟩
    · exact absurd h1 (by show ¬ (3 : Int) = 4; decide)
  unfold Va.rightB Va.plainB
  rw [if_neg (by decide), if_neg (by decide), if_pos rfl]
  simp only [Bool.and_eq_true, decide_eq_true_eq]
  refine ⟨trivial, ?_, ?_⟩
  · rw [List.all_eq_true]
    intro c hc
    have := ht.2 c (by simpa using hc)
    unfold Va.okByte
    simp; omega
  · show t.toArray.size ≤ 64
    simp; exact ht.1
theorem joinS_snoc : ∀ (l : List Str) (a : Str), l ≠ [] → joinS [44, 32] (l ++ [a]) = joinS [44, 32] l ++ ([44, 32] ++ a)
  | [], _, h => absurd rfl h
  | [_], _, _ => rfl
  | b :: c :: r, a, _ => by
    have := joinS_snoc (c :: r) a (by simp)
    show b ++ ([44, 32] ++ joinS [44, 32] ((c :: r) ++ [a])) = (b ++ ([44, 32] ++ joinS [44, 32] (c :: r))) ++ _
    rw [this]; simp [List.append_assoc]
theorem joinS_take : ∀ (l : List Str) (k : Nat), (joinS [44, 32] (l.take k)).length ≤ (joinS [44, 32] l).length
  | [], k => by simp
  | [a], 0 => Nat.zero_le _
  | [a], k + 1 => by simp
  | a :: b :: r, 0 => Nat.zero_le _
  | a :: b :: r, 1 => by
    show a.length ≤ (a ++ ([44, 32] ++ joinS [44, 32] (b :: r))).length
    simp
  | a :: b :: r, k + 2 => by
    have := joinS_take (b :: r) (k + 1)
    show (a ++ ([44, 32] ++ joinS [44, 32] ((b :: r).take (k + 1)))).length ≤ (a ++ ([44, 32] ++ joinS [44, 32] (b :: r))).length
    simp only [List.length_append] at this ⊢
    omega
def partC (nm : Str) (xs : List Ex) (k : Nat) : Str := nm ++ 40 :: joinS [44, 32] ((xs.map textE).take k)
theorem partC_z (nm : Str) (xs : List Ex) : partC nm xs 0 = nm ++ [40] := rfl
theorem partC_one {nm : Str} {xs : List Ex} {a : Ex} (h : xs[0]? = some a) : partC nm xs 1 = partC nm xs 0 ++ textE a := by
  cases xs with
  | nil => cases h
  | cons b r => cases h; unfold partC; simp [joinS]
theorem partC_more {nm : Str} {xs : List Ex} {a : Ex} {k : Nat} (h : xs[k]? = some a) (hk : 0 < k) : partC nm xs (k + 1) = (partC nm xs k ++ [44, 32]) ++ textE a := by
  unfold partC
  have h' : (xs.map textE)[k]? = some (textE a) := by rw [List.getElem?_map, h]; rfl
  rw [List.take_add_one, h']
  show nm ++ 40 :: joinS [44, 32] (_ ++ [textE a]) = _
  rw [joinS_snoc]
  · simp [List.append_assoc]
  · intro e
    have hl := (List.getElem?_eq_some_iff.1 h').1
    have := congrArg List.length e
    rw [List.length_take] at this
    simp only [List.length_nil] at this
    omega
theorem partC_len (nm : Str) (xs : List Ex) (k : Nat) : (partC nm xs k).length ≤ (textE (callE nm xs)).length := by
  rw [textE_call]
  unfold partC
  have := joinS_take (xs.map textE) k
  simp only [List.length_append, List.length_cons, List.length_nil]
  omega
theorem partC_all (nm : Str) (xs : List Ex) : partC nm xs xs.length ++ [41] = textE (callE nm xs) := by
  rw [textE_call]
  unfold partC
  rw [List.take_of_length_le (by rw [List.length_map]; exact Nat.le_refl _)]
  simp [List.append_assoc]
set_option maxRecDepth 100000 in
set_option maxHeartbeats 12800000 in
theorem rshow_call (nm : Str) (xs : List Ex) (hok : ∀ a ∈ xs, OkE a) (ih : ∀ a ∈ xs, RsOk a) (N : ByteArray) (hN : (⟨nm.toArray⟩ : ByteArray) = N) (n : Nat) (hn : xs.length = n) (sa : Option Addr) (ca : Nat) (w : World) (ok : Nat → Prop) (hA : RArgs w ok (.slice sa n ca) xs) (hlen : (textE (callE nm xs)).length ≤ 1000000) :
    Calls Tryz.prog 17 #[.agg #[.int .i64 5, .string N, .string ⟨#[]⟩, .int .i64 0, .int .i64 0, .string ⟨#[]⟩, .slice sa n ca]] w (StrTo (textE (callE nm xs)) w) := by
  have hbw := (Below.refl w.heap.size w).alloc (Nat.le_refl _) (.cells #[.int .i64 5, .string N, .string ⟨#[]⟩, .int .i64 0, .int .i64 0, .string ⟨#[]⟩, .slice sa n ca] 37)
  have HB := Lib.hid hbw
  have X := Box.new w [.int .i64 5, .string N, .string ⟨#[]⟩, .int .i64 0, .int .i64 0, .string ⟨#[]⟩, .slice sa n ca] 37
  have hXA := Lib.hid (fun W (hW : Below w.heap.size w W) => hA.below hW)
  have hjl : (joinS [44, 32] (xs.map textE)).length ≤ 1000000 := by rw [textE_call] at hlen; simp at hlen; omega
  have hcnt : n ≤ 600000 := by have := joinS_len (xs.map textE); rw [List.length_map, hn] at this; omega
  have hnl : N.size ≤ 1000000 := by rw [← hN, sz_mk]; have := partC_len nm xs 0; rw [partC_z] at this; simp at this; omega
  have HTX := Lib.hid (fun (a : Ex) (ha : a ∈ xs) W ua uc (hu : RArgs W ok (.slice ua a.xs.length uc) a.xs) => ih a ha (hok a ha) ua uc W ok hu (Nat.le_trans (joinS_mem _ _ (List.mem_map.2 ⟨a, ha, rfl⟩)) hjl))
  have HTL := Lib.hid (fun (a : Ex) (ha : a ∈ xs) => Nat.le_trans (joinS_mem _ _ (List.mem_map.2 ⟨a, ha, rfl⟩)) hjl)
  obtain ⟨Q, hQ⟩ : ∃ Q : Nat → ByteArray, ∀ k, Q k = ⟨(partC nm xs k).toArray⟩ := ⟨_, fun _ => rfl⟩
  have HQL : Hid (∀ k, (Q k).size ≤ 1000000) := fun k => by rw [hQ, sz_mk]; exact Nat.le_trans (partC_len nm xs k) hlen
  have HQ0 : Hid (N ++ ⟨#[40]⟩ = Q 0) := by
    show _ = _
    rw [hQ, partC_z, ← hN]
    show (⟨nm.toArray⟩ : ByteArray) ++ ⟨([40] : Str).toArray⟩ = _
    rw [app_mk]
  have HQ1 : Hid (∀ a, xs[0]? = some a → Q 0 ++ ⟨(textE a).toArray⟩ = Q 1) := fun a h => by rw [hQ, hQ, partC_one h, app_mk]
  have HQ2 : Hid (∀ k a, xs[k]? = some a → 0 < k → (Q k ++ ⟨#[44, 32]⟩) ++ ⟨(textE a).toArray⟩ = Q (k + 1)) := fun k a h h0 => by
    rw [hQ, hQ, partC_more h h0]
    show ((_ : ByteArray) ++ ⟨([44, 32] : Str).toArray⟩) ++ _ = _
    rw [app_mk, app_mk]
  have HQN : Hid (Q n ++ ⟨#[41]⟩ = ⟨(textE (callE nm xs)).toArray⟩) := by
    show _ = _
    rw [hQ, ← hn, ← partC_all]
    show (_ : ByteArray) ++ ⟨([41] : Str).toArray⟩ = _
    rw [app_mk]
  have HN := Lib.hid hn
  clear hA hlen hN hn hbw hjl hok ih hQ
  go_enter Tryz.func17, Tryz.ntmps17
  obtain ⟨x0, x1, x2, x3, x4, x5, x6⟩ := X.seven
  go_wp2_with fail
  generalize w.alloc (.cells #[.int .i64 5, .string N, .string ⟨#[]⟩, .int .i64 0, .int .i64 0, .string ⟨#[]⟩, .slice sa n ca] 37) = W1 at *
  have hB0 := HB.out.size
  rw [HQ0.out]
  go_loopw [5, 6] (fun v i wr => ∃ k : Nat, k ≤ n ∧ i = .int .i64 k ∧ v = .string (Q k) ∧ Hid (Below W1.heap.size W1 wr)) (fun _ i _ => n - (intOf i).toNat)
  case atStart => exact ⟨0, Nat.zero_le _, rfl, rfl, Below.refl _ _⟩
  case round =>
    obtain ⟨k, hk, rfl, rfl, HBW⟩ := hrel
    have hw1 := HB.out.trans (HBW.out.mono hB0)
    have hqk := HQL.out k
    have X3 := X.next HBW.out
    clear x0 x1 x2 x3 x4 x5 x6
    obtain ⟨x0, x1, x2, x3, x4, x5, x6⟩ := X3.seven
    by_cases hlt : k < n
    · obtain ⟨a, ha⟩ : ∃ a, xs[k]? = some a := ⟨_, List.getElem?_eq_getElem (by rw [HN.out]; exact hlt)⟩
      have hA2 := hXA.out wr hw1
      obtain ⟨ub, uo, ua, uc, rfl, ul, _, uX, uF⟩ := rarg7 hA2 ha
      have u0 := uF 0 _ rfl
      have u1 := uF 1 _ rfl
      have u2 := uF 2 _ rfl
      have u3 := uF 3 _ rfl
      have u4 := uF 4 _ rfl
      have u5 := uF 5 _ rfl
      have u6 := uF 6 _ rfl
      rw [Nat.add_zero] at u0
      obtain ⟨T, hT⟩ : ∃ T : ByteArray, (⟨(textE a).toArray⟩ : ByteArray) = T := ⟨_, rfl⟩
      have hTs : T.size ≤ 1000000 := by rw [← hT, sz_mk]; exact HTL.out a (List.mem_of_getElem? ha)
      have HTA := Lib.hid (HTX.out a (List.mem_of_getElem? ha) wr ua uc uX)
      unfold StrTo at HTA
      rw [hT] at HTA
      by_cases h0 : 0 < k
      · have HE : Hid ((Q k ++ ⟨#[44, 32]⟩) ++ T = Q (k + 1)) := by rw [← hT]; exact HQ2.out k a ha h0
        have q0 : (0 : Int) < (k : Int) := by omega
        clear hA2 uX uF ha hT
        go_wp2_with (go_at_call 17; refine HTA.out.mono ?_; rintro e w2 ⟨rfl, hb2⟩)
        rw [HE.out]
        go_roundw
        case rel => exact ⟨k + 1, by omega, by go_num, rfl, two HBW.out hb2⟩
        case measure => simp [intOf]; omega
      · have HE : Hid (Q k ++ T = Q (k + 1)) := by obtain rfl : k = 0 := by omega
                                                   rw [← hT]; exact HQ1.out a ha
        have q0 : ¬ (0 : Int) < (k : Int) := by omega
        clear hA2 uX uF ha hT
        go_wp2_with (go_at_call 17; refine HTA.out.mono ?_; rintro e w2 ⟨rfl, hb2⟩)
        rw [HE.out]
        go_roundw
        case rel => exact ⟨k + 1, by omega, by go_num, rfl, two HBW.out hb2⟩
        case measure => simp [intOf]; omega
    · obtain rfl : k = n := by omega
      go_wp2_with fail
      go_ret
      exact ⟨ret_str HQN.out, two HB.out HBW.out⟩
theorem rshow_of (x : Ex) (ih : ∀ a ∈ x.xs, RsOk a) : RsOk x := fun hx sa ca w ok hA hlen => by
  cases hx with
  | col n h => rw [textE_col]; exact rshow_col ⟨n.toArray⟩ sa ca w
  | null => rw [textE_const]; exact rshow_const 0 0 ⟨([] : Str).toArray⟩ sa ca w (by decide +kernel) (by decide) (by decide)
  | num m h0 h1 => rw [textE_const]; exact rshow_const 1 m ⟨([] : Str).toArray⟩ sa ca w (by unfold Va.rightB; simp) (by omega) h1
  | txt t h => rw [textE_const]; exact rshow_const 2 0 ⟨t.toArray⟩ sa ca w (txt_right h) (by decide) (by decide)
  | not a h => exact rshow_not a h (ih a (List.mem_singleton.2 rfl)) sa ca w ok hA hlen
  | neg a h => exact rshow_neg a h (ih a (List.mem_singleton.2 rfl)) sa ca w ok hA hlen
  | bin op a b ho ha hb =>
    have i1 : RsOk a := ih a (List.mem_cons_self ..)
    have i2 : RsOk b := ih b (List.mem_cons_of_mem _ (List.mem_singleton.2 rfl))
    by_cases hc : rankOp op = 4
    · exact rshow_bin_cmp op a b ho hc ha hb i1 i2 _ rfl sa ca w ok hA hlen
    · exact rshow_bin_other op a b ho hc ha hb i1 i2 _ rfl sa ca w ok hA hlen
  | call n xs h h0 hx => exact rshow_call n xs hx ih _ rfl _ rfl sa ca w ok hA hlen
theorem rshow_any (x : Ex) : RsOk x := Ex.ind (P := RsOk) (fun k nm v op xs ih => rshow_of (.mk k nm v op xs) ih) x
end Go.Proofs.YtonkjhmkppeagaaGreatDoor.Pz
