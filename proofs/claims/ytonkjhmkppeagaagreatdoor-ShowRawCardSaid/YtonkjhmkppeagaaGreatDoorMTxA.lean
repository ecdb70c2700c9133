/- Walks: are two expressions one? -/
import Derived.Test.YtonkjhmkppeagaaGreatDoorMPsC
import Derived.Test.YtonkjhmkppeagaaGreatDoorMTree
import Derived.WalkSpells
import Derived.Test.YtonkjhmkppeagaaGreatDoorMPsG
import Derived.RegionTactic
import Derived.BigRegion
set_option linter.unusedVariables false
set_option linter.unusedSimpArgs false
namespace Go.Proofs.YtonkjhmkppeagaaGreatDoor.Pz
open Go.RowKit Go Go.Sort Ba Lx

mutual
def eqE : Ex → Ex → Bool
  | .mk k n v o xs, .mk k' n' v' o' xs' => decide (k = k') && (decide (n = n') && (decide (v = v') && (decide (o = o') && eqEs xs xs')))
def eqEs : List Ex → List Ex → Bool
  | [], [] => true
  | [], _ :: _ => false
  | _ :: _, [] => false
  | x :: r, y :: s => eqE x y && eqEs r s
end
mutual
theorem eqE_iff : ∀ x y : Ex, eqE x y = true ↔ x = y
  | .mk k n v o xs, .mk k' n' v' o' xs' => by
    rw [eqE]
    simp only [Bool.and_eq_true, decide_eq_true_eq, eqEs_iff xs xs', Ex.mk.injEq]
theorem eqEs_iff : ∀ x y : List Ex, eqEs x y = true ↔ x = y
  | [], [] => by rw [eqEs]; simp
  | [], _ :: _ => by rw [eqEs]; simp
  | _ :: _, [] => by rw [eqEs]; simp
  | x :: r, y :: s => by
    rw [eqEs]
    simp only [Bool.and_eq_true, eqE_iff x y, eqEs_iff r s, List.cons.injEq]
end
theorem eqE_mk (x y : Ex) : eqE x y = (decide (x.k = y.k) && (decide (x.nm = y.nm) && (decide (x.v = y.v) && (decide (x.op = y.op) && eqEs x.xs y.xs)))) := by
  cases x; cases y; rw [eqE]; rfl
/-- The cells of an argument. -/
theorem arg7 {W : World} {ok : Nat → Prop} {ao : Option Addr} {n cap i : Nat} {xs : List Ex} {a : Ex} (h : XArgs W ok (.slice ao n cap) xs) (ha : xs[i]? = some a) :
    ∃ b o aa ac, ao = some ⟨b, o, none⟩ ∧ b < W.heap.size ∧ ok b ∧ XArgs W ok (.slice aa a.xs.length ac) a.xs ∧ ∀ j c, (exC a (.slice aa a.xs.length ac))[j]? = some c → W.cell? ⟨b, o + i * 7 + j, none⟩ = some c := by
  have hi : (exDs xs)[i]? = some (exD a) := by rw [exDs_map, List.getElem?_map, ha]; rfl
  obtain ⟨b, o, cs, e1, e2, e3, e4, e5, e6⟩ := Rep.at h hi
  obtain ⟨sl, rfl, h7⟩ := ex_row e6
  obtain ⟨aa, ac, rfl, _⟩ := XArgs.len h7
  refine ⟨b, o, aa, ac, e1, e2, e3, h7, fun j c hc => ?_⟩
  have hj : j < 7 := by have := (List.getElem?_eq_some_iff.1 hc).1; exact this
  rw [Nat.add_assoc, e4 j hj]; exact hc
theorem XArgs.below {W W' : World} {ok : Nat → Prop} {sl : Value} {xs : List Ex} (h : XArgs W ok sl xs) (hb : Below W.heap.size W W') : XArgs W' ok sl xs := Rep.kept (S := fun _ => False) (Kept.of_below hb) (fun _ _ _ h => h) h
def EqTo (w : World) (b : Bool) (e : Ending) (w' : World) : Prop := e = .returned (.bool b) ∧ Below w.heap.size w w'
def EqOk (x : Ex) : Prop := ∀ (y : Ex) (sa sb : Option Addr) (ca cb : Nat) (w : World) (ok : Nat → Prop), XArgs w ok (.slice sa x.xs.length ca) x.xs → XArgs w ok (.slice sb y.xs.length cb) y.xs → Calls Tryz.prog 19 #[exV x (.slice sa x.xs.length ca), exV y (.slice sb y.xs.length cb)] w (EqTo w (eqE x y))
theorem eqEs_len {xs ys : List Ex} (h : xs.length ≠ ys.length) : eqEs xs ys = false := by
  cases e : eqEs xs ys with
  | false => rfl
  | true => exact absurd (congrArg List.length ((eqEs_iff _ _).1 e)) h
theorem eqEs_at {xs ys : List Ex} {k : Nat} {x y : Ex} (hx : xs[k]? = some x) (hy : ys[k]? = some y) (h : eqE x y = false) : eqEs xs ys = false := by
  cases e : eqEs xs ys with
  | false => rfl
  | true =>
    obtain rfl := (eqEs_iff _ _).1 e
    rw [hx] at hy
    obtain rfl := Option.some.inj hy
    rw [(eqE_iff x x).2 rfl] at h; cases h
theorem eqEs_all {xs ys : List Ex} (hl : xs.length = ys.length) (h : ∀ (k : Nat) (x y : Ex), xs[k]? = some x → ys[k]? = some y → x = y) : eqEs xs ys = true := by
  rw [eqEs_iff]
  apply List.ext_getElem? ; intro k
  by_cases hk : k < xs.length
  · have h1 := List.getElem?_eq_getElem hk
    have h2 := List.getElem?_eq_getElem (l := ys) (i := k) (by omega)
    rw [h1, h2, h k _ _ h1 h2]
  · rw [List.getElem?_eq_none (by omega), List.getElem?_eq_none (by omega)]
set_option maxRecDepth 100000 in
set_option maxHeartbeats 6400000 in
theorem eqF_any (xs ys : List Ex) (ih : ∀ x ∈ xs, EqOk x) (sa sb : Option Addr) (ca cb : Nat) (w : World) (ok : Nat → Prop) (hA : XArgs w ok (.slice sa xs.length ca) xs) (hB : XArgs w ok (.slice sb ys.length cb) ys) :
    Calls Tryz.prog 50 #[.slice sa xs.length ca, .slice sb ys.length cb, .func (.func 19) #[] #[]] w (EqTo w (eqEs xs ys)) := by
  obtain ⟨_, _, _, hl1, hl2⟩ := XArgs.len hA
  have hl : xs.length ≤ maxLen := Nat.le_trans hl1 hl2
  unfold maxLen at hl
  clear hl1 hl2
  have HA := Lib.hid hA
  have HB := Lib.hid hB
  have HI := Lib.hid ih
  by_cases hne : xs.length = ys.length
  · obtain ⟨n, hn⟩ : ∃ n, xs.length = n := ⟨_, rfl⟩
    have hn2 : ys.length = n := by omega
    have HALL := Lib.hid (fun h => eqEs_all hne h)
    rw [hn] at HA hl ⊢
    rw [hn2] at HB ⊢
    have HN := Lib.hid hn
    have HN2 := Lib.hid hn2
    clear hA hB ih hne hn hn2
    go_enter Tryz.func50, Tryz.ntmps50
    go_wp2_with fail
    go_loopw [17] (fun i wr => ∃ k : Nat, k ≤ n ∧ i = .int .i64 k ∧ Hid (Below w.heap.size w wr) ∧ Hid (∀ (j : Nat) (x y : Ex), j < k → xs[j]? = some x → ys[j]? = some y → x = y)) (fun i _ => n - (intOf i).toNat)
    case atStart => exact ⟨0, Nat.zero_le _, rfl, Below.refl _ _, (fun j x y hj => by omega : ∀ (j : Nat) (x y : Ex), j < 0 → xs[j]? = some x → ys[j]? = some y → x = y)⟩
    case round =>
      obtain ⟨k, hk, rfl, HW, HE⟩ := hrel
      by_cases hlt : k < n
      · obtain ⟨x, hx⟩ : ∃ x, xs[k]? = some x := ⟨_, List.getElem?_eq_getElem (by rw [HN.out]; exact hlt)⟩
        obtain ⟨y, hy⟩ : ∃ y, ys[k]? = some y := ⟨_, List.getElem?_eq_getElem (by rw [HN2.out]; exact hlt)⟩
        obtain ⟨b1, o1, aa1, ac1, rfl, l1, _, X1, F1⟩ := arg7 (HA.out.below HW.out) hx
        obtain ⟨b2, o2, aa2, ac2, rfl, l2, _, X2, F2⟩ := arg7 (HB.out.below HW.out) hy
        have hb1 := HW.out.size
        have c0 := F1 0 _ rfl
        have d0 := F2 0 _ rfl
        have c1 := F1 1 _ rfl
        have d1 := F2 1 _ rfl
        have c2 := F1 2 _ rfl
        have d2 := F2 2 _ rfl
        have c3 := F1 3 _ rfl
        have d3 := F2 3 _ rfl
        have c4 := F1 4 _ rfl
        have d4 := F2 4 _ rfl
        have c5 := F1 5 _ rfl
        have d5 := F2 5 _ rfl
        have c6 := F1 6 _ rfl
        have d6 := F2 6 _ rfl
        rw [Nat.add_zero] at c0 d0
        have bw : Below wr.heap.size wr ((wr.alloc (.cells #[.int .i64 x.k, .string ⟨x.nm.toArray⟩, .int .i64 x.v.k, .int .i64 x.v.n, .string ⟨x.v.t.toArray⟩, .string ⟨x.op.toArray⟩, .slice aa1 x.xs.length ac1] 27)).alloc (.cells #[.int .i64 y.k, .string ⟨y.nm.toArray⟩, .int .i64 y.v.k, .int .i64 y.v.n, .string ⟨y.v.t.toArray⟩, .string ⟨y.op.toArray⟩, .slice aa2 y.xs.length ac2] 27)) := ((Below.refl _ wr).alloc (Nat.le_refl _) _).alloc (by simp) _
        replace d0 := (World.cell?_alloc_past (.cells #[.int .i64 x.k, .string ⟨x.nm.toArray⟩, .int .i64 x.v.k, .int .i64 x.v.n, .string ⟨x.v.t.toArray⟩, .string ⟨x.op.toArray⟩, .slice aa1 x.xs.length ac1] 27) _ _ l2).trans d0
        replace d1 := (World.cell?_alloc_past (.cells #[.int .i64 x.k, .string ⟨x.nm.toArray⟩, .int .i64 x.v.k, .int .i64 x.v.n, .string ⟨x.v.t.toArray⟩, .string ⟨x.op.toArray⟩, .slice aa1 x.xs.length ac1] 27) _ _ l2).trans d1
        replace d2 := (World.cell?_alloc_past (.cells #[.int .i64 x.k, .string ⟨x.nm.toArray⟩, .int .i64 x.v.k, .int .i64 x.v.n, .string ⟨x.v.t.toArray⟩, .string ⟨x.op.toArray⟩, .slice aa1 x.xs.length ac1] 27) _ _ l2).trans d2
        replace d3 := (World.cell?_alloc_past (.cells #[.int .i64 x.k, .string ⟨x.nm.toArray⟩, .int .i64 x.v.k, .int .i64 x.v.n, .string ⟨x.v.t.toArray⟩, .string ⟨x.op.toArray⟩, .slice aa1 x.xs.length ac1] 27) _ _ l2).trans d3
        replace d4 := (World.cell?_alloc_past (.cells #[.int .i64 x.k, .string ⟨x.nm.toArray⟩, .int .i64 x.v.k, .int .i64 x.v.n, .string ⟨x.v.t.toArray⟩, .string ⟨x.op.toArray⟩, .slice aa1 x.xs.length ac1] 27) _ _ l2).trans d4
        replace d5 := (World.cell?_alloc_past (.cells #[.int .i64 x.k, .string ⟨x.nm.toArray⟩, .int .i64 x.v.k, .int .i64 x.v.n, .string ⟨x.v.t.toArray⟩, .string ⟨x.op.toArray⟩, .slice aa1 x.xs.length ac1] 27) _ _ l2).trans d5
        replace d6 := (World.cell?_alloc_past (.cells #[.int .i64 x.k, .string ⟨x.nm.toArray⟩, .int .i64 x.v.k, .int .i64 x.v.n, .string ⟨x.v.t.toArray⟩, .string ⟨x.op.toArray⟩, .slice aa1 x.xs.length ac1] 27) _ _ l2).trans d6
        have HC := Lib.hid ((HI.out x (List.mem_of_getElem? hx)) y aa1 aa2 ac1 ac2 _ ok (X1.below bw) (X2.below bw))
        obtain ⟨q, hq⟩ : ∃ q, eqE x y = q := ⟨_, rfl⟩
        rw [hq] at HC
        have HX := Lib.hid hx
        have HY := Lib.hid hy
        have HQ := Lib.hid hq
        have HBW := Lib.hid bw
        clear X1 X2 F1 F2 hx hy hq bw
        cases q with
        | true =>
          go_wp2_with (go_at_call 19; refine HC.out.mono ?_; rintro e w2 ⟨rfl, hb⟩)
          go_roundw
          case rel => exact ⟨k + 1, by omega, by go_num, HW.out.trans ((HBW.out.trans (hb.mono HBW.out.size)).mono hb1), (fun j x' y' hj hx' hy' => by
            by_cases hjk : j < k
            · exact HE.out j x' y' hjk hx' hy'
            · obtain rfl : j = k := by omega
              rw [HX.out] at hx'
              rw [HY.out] at hy'
              obtain rfl := Option.some.inj hx'
              obtain rfl := Option.some.inj hy'
              exact (eqE_iff _ _).1 HQ.out : ∀ (j : Nat) (x y : Ex), j < k + 1 → xs[j]? = some x → ys[j]? = some y → x = y)⟩
          case measure => simp [intOf]; omega
        | false =>
          have HF := Lib.hid (eqEs_at HX.out HY.out HQ.out)
          go_wp2_with (go_at_call 19; refine HC.out.mono ?_; rintro e w2 ⟨rfl, hb⟩)
          go_ret
          rw [HF.out]
          exact ⟨rfl, HW.out.trans ((HBW.out.trans (hb.mono HBW.out.size)).mono hb1)⟩
      · have HF := Lib.hid (HALL.out fun j x y hx hy => HE.out j x y (by have := (List.getElem?_eq_some_iff.1 hx).1; have := HN.out; omega) hx hy)
        go_wp2_with fail
        go_ret
        rw [HF.out]
        exact ⟨rfl, HW.out⟩
  · have HF := Lib.hid (eqEs_len hne)
    have hne2 : ((xs.length : Int) != (ys.length : Int)) = true := by simp; omega
    have hne3 : ¬ (xs.length : Int) = (ys.length : Int) := by omega
    clear hA hB ih
    go_enter Tryz.func50, Tryz.ntmps50
    go_wp2_with fail
    go_ret
    rw [HF.out]
    exact ⟨rfl, Below.refl _ _⟩
theorem bytes_ne {a b : Str} (h : a ≠ b) : ((⟨a.toArray⟩ : ByteArray).toList == (⟨b.toArray⟩ : ByteArray).toList) = false := str_q (by rw [mk_inj]; exact ⟨fun e => absurd e h, fun e => by cases e⟩)
set_option maxRecDepth 100000 in
set_option maxHeartbeats 6400000 in
theorem equal_node (x : Ex) (ih : ∀ a ∈ x.xs, EqOk a) : EqOk x := fun y sa sb ca cb w ok hA hB => by
  have W2 := ((Below.refl w.heap.size w).alloc (Nat.le_refl _) (.cells #[.int .i64 x.k, .string ⟨x.nm.toArray⟩, .int .i64 x.v.k, .int .i64 x.v.n, .string ⟨x.v.t.toArray⟩, .string ⟨x.op.toArray⟩, .slice sa x.xs.length ca] 27)).alloc (by simp) (.cells #[.int .i64 y.k, .string ⟨y.nm.toArray⟩, .int .i64 y.v.k, .int .i64 y.v.n, .string ⟨y.v.t.toArray⟩, .string ⟨y.op.toArray⟩, .slice sb y.xs.length cb] 27)
  have X := (Box.new w [.int .i64 x.k, .string ⟨x.nm.toArray⟩, .int .i64 x.v.k, .int .i64 x.v.n, .string ⟨x.v.t.toArray⟩, .string ⟨x.op.toArray⟩, .slice sa x.xs.length ca] 27).alloc (.cells #[.int .i64 y.k, .string ⟨y.nm.toArray⟩, .int .i64 y.v.k, .int .i64 y.v.n, .string ⟨y.v.t.toArray⟩, .string ⟨y.op.toArray⟩, .slice sb y.xs.length cb] 27)
  have Y := Box.new (w.alloc (.cells #[.int .i64 x.k, .string ⟨x.nm.toArray⟩, .int .i64 x.v.k, .int .i64 x.v.n, .string ⟨x.v.t.toArray⟩, .string ⟨x.op.toArray⟩, .slice sa x.xs.length ca] 27)) [.int .i64 y.k, .string ⟨y.nm.toArray⟩, .int .i64 y.v.k, .int .i64 y.v.n, .string ⟨y.v.t.toArray⟩, .string ⟨y.op.toArray⟩, .slice sb y.xs.length cb] 27
  rw [World.size_alloc] at Y
  have HF := Lib.hid (eqF_any x.xs y.xs ih sa sb ca cb _ ok (hA.below W2) (hB.below W2))
  have HB := Lib.hid W2
  have HM := Lib.hid (eqE_mk x y)
  clear hA hB ih
  obtain ⟨k1, hk1⟩ : ∃ k, x.k = k := ⟨_, rfl⟩
  obtain ⟨k2, hk2⟩ : ∃ k, y.k = k := ⟨_, rfl⟩
  obtain ⟨n1, hn1⟩ : ∃ k : ByteArray, (⟨x.nm.toArray⟩ : ByteArray) = k := ⟨_, rfl⟩
  obtain ⟨n2, hn2⟩ : ∃ k : ByteArray, (⟨y.nm.toArray⟩ : ByteArray) = k := ⟨_, rfl⟩
  obtain ⟨vk1, hvk1⟩ : ∃ k, x.v.k = k := ⟨_, rfl⟩
  obtain ⟨vk2, hvk2⟩ : ∃ k, y.v.k = k := ⟨_, rfl⟩
  obtain ⟨vn1, hvn1⟩ : ∃ k, x.v.n = k := ⟨_, rfl⟩
  obtain ⟨vn2, hvn2⟩ : ∃ k, y.v.n = k := ⟨_, rfl⟩
  obtain ⟨vt1, hvt1⟩ : ∃ k : ByteArray, (⟨x.v.t.toArray⟩ : ByteArray) = k := ⟨_, rfl⟩
  obtain ⟨vt2, hvt2⟩ : ∃ k : ByteArray, (⟨y.v.t.toArray⟩ : ByteArray) = k := ⟨_, rfl⟩
  obtain ⟨p1, hp1⟩ : ∃ k : ByteArray, (⟨x.op.toArray⟩ : ByteArray) = k := ⟨_, rfl⟩
  obtain ⟨p2, hp2⟩ : ∃ k : ByteArray, (⟨y.op.toArray⟩ : ByteArray) = k := ⟨_, rfl⟩
  have j1 : x.nm = y.nm ↔ n1 = n2 := by rw [← hn1, ← hn2, mk_inj]
  have j2 : x.v.t = y.v.t ↔ vt1 = vt2 := by rw [← hvt1, ← hvt2, mk_inj]
  have j3 : x.op = y.op ↔ p1 = p2 := by rw [← hp1, ← hp2, mk_inj]
  have jv : x.v = y.v ↔ vk1 = vk2 ∧ vn1 = vn2 ∧ vt1 = vt2 := by
    rw [← j2, ← hvk1, ← hvk2, ← hvn1, ← hvn2]
    cases x.v; cases y.v; simp
  have jk : x.k = y.k ↔ k1 = k2 := by rw [← hk1, ← hk2]
  rw [hk1, hn1, hvk1, hvn1, hvt1, hp1] at X HF HB
  rw [hk2, hn2, hvk2, hvn2, hvt2, hp2] at X Y HF HB
  try rw [hk1, hn1, hvk1, hvn1, hvt1, hp1] at Y
  have HX : Hid (exV x (.slice sa x.xs.length ca) = .agg #[.int .i64 k1, .string n1, .int .i64 vk1, .int .i64 vn1, .string vt1, .string p1, .slice sa x.xs.length ca]) := by show _ = _; rw [← hk1, ← hn1, ← hvk1, ← hvn1, ← hvt1, ← hp1]
  have HY : Hid (exV y (.slice sb y.xs.length cb) = .agg #[.int .i64 k2, .string n2, .int .i64 vk2, .int .i64 vn2, .string vt2, .string p2, .slice sb y.xs.length cb]) := by show _ = _; rw [← hk2, ← hn2, ← hvk2, ← hvn2, ← hvt2, ← hp2]
  rw [HX.out, HY.out]
  obtain ⟨q, hq⟩ : ∃ q, eqEs x.xs y.xs = q := ⟨_, rfl⟩
  obtain ⟨r, hr⟩ : ∃ r, eqE x y = r := ⟨_, rfl⟩
  rw [hq] at HF
  rw [hr]
  have HR : Hid (r = (decide (k1 = k2) && (decide (n1 = n2) && (decide (vk1 = vk2 ∧ vn1 = vn2 ∧ vt1 = vt2) && (decide (p1 = p2) && q))))) := by
    show r = _
    rw [← hr, ← hq, HM.out]
    simp only [decide_eq_decide.2 jk, decide_eq_decide.2 j1, decide_eq_decide.2 jv, decide_eq_decide.2 j3]
  clear hk1 hk2 hn1 hn2 hvk1 hvk2 hvn1 hvn2 hvt1 hvt2 hp1 hp2 j1 j2 j3 jv jk hq hr HM HX HY W2
  generalize x.xs.length = lx at *
  generalize y.xs.length = ly at *
  by_cases h1 : k1 = k2
  · subst h1
    by_cases h2 : n1 = n2
    · subst h2
      by_cases h3 : vk1 = vk2 ∧ vn1 = vn2 ∧ vt1 = vt2
      · obtain ⟨rfl, rfl, rfl⟩ := h3
        by_cases h4 : p1 = p2
        · subst h4
          have HE : Hid (r = q) := by show r = q; rw [HR.out]; simp
          clear HR
          go_enter Tryz.func19, Tryz.ntmps19
          obtain ⟨x0, x1, x2, x3, x4, x5, x6⟩ := X.seven
          obtain ⟨y0, y1, y2, y3, y4, y5, y6⟩ := Y.seven
          go_wp2_with (go_at_call 50; refine HF.out.mono ?_; rintro e w2 ⟨rfl, hb⟩)
          go_ret
          rw [HE.out]
          exact ⟨rfl, HB.out.trans (hb.mono HB.out.size)⟩
        · have HE : Hid (r = false) := by show r = false; rw [HR.out, decide_eq_false h4]; simp
          have e4 : (p1.toList == p2.toList) = false := str_q ⟨fun e => absurd e h4, fun e => by cases e⟩
          clear HR h4
          go_enter Tryz.func19, Tryz.ntmps19
          obtain ⟨x0, x1, x2, x3, x4, x5, x6⟩ := X.seven
          obtain ⟨y0, y1, y2, y3, y4, y5, y6⟩ := Y.seven
          go_wp2_with fail
          go_ret
          rw [HE.out]
          exact ⟨rfl, HB.out⟩
      · have HE : Hid (r = false) := by show r = false; rw [HR.out, decide_eq_false h3]; simp
        clear HR
        by_cases g1 : vk1 = vk2
        · subst g1
          by_cases g2 : vn1 = vn2
          · subst g2
            have g3 : ¬ vt1 = vt2 := fun e => h3 ⟨rfl, rfl, e⟩
            have e3 : (vt1.toList == vt2.toList) = false := str_q ⟨fun e => absurd e g3, fun e => by cases e⟩
            clear h3 g3
            go_enter Tryz.func19, Tryz.ntmps19
            obtain ⟨x0, x1, x2, x3, x4, x5, x6⟩ := X.seven
            obtain ⟨y0, y1, y2, y3, y4, y5, y6⟩ := Y.seven
            go_wp2_with fail
            go_ret
            rw [HE.out]
            exact ⟨rfl, HB.out⟩
          · have e3 : (vn1 == vn2) = false := by simpa using g2
            clear h3 g2
            go_enter Tryz.func19, Tryz.ntmps19
            obtain ⟨x0, x1, x2, x3, x4, x5, x6⟩ := X.seven
            obtain ⟨y0, y1, y2, y3, y4, y5, y6⟩ := Y.seven
            go_wp2_with fail
            go_ret
            rw [HE.out]
            exact ⟨rfl, HB.out⟩
        · have e3 : (vk1 == vk2) = false := by simpa using g1
          clear h3 g1
          go_enter Tryz.func19, Tryz.ntmps19
          obtain ⟨x0, x1, x2, x3, x4, x5, x6⟩ := X.seven
          obtain ⟨y0, y1, y2, y3, y4, y5, y6⟩ := Y.seven
          go_wp2_with fail
          go_ret
          rw [HE.out]
          exact ⟨rfl, HB.out⟩
    · have HE : Hid (r = false) := by show r = false; rw [HR.out, decide_eq_false h2]; simp
      have e2 : (n1.toList == n2.toList) = false := str_q ⟨fun e => absurd e h2, fun e => by cases e⟩
      clear HR h2
      go_enter Tryz.func19, Tryz.ntmps19
      obtain ⟨x0, x1, x2, x3, x4, x5, x6⟩ := X.seven
      obtain ⟨y0, y1, y2, y3, y4, y5, y6⟩ := Y.seven
      go_wp2_with fail
      go_ret
      rw [HE.out]
      exact ⟨rfl, HB.out⟩
  · have HE : Hid (r = false) := by show r = false; rw [HR.out, decide_eq_false h1]; rfl
    have e1 : (k1 == k2) = false := by simpa using h1
    clear HR h1
    go_enter Tryz.func19, Tryz.ntmps19
    obtain ⟨x0, x1, x2, x3, x4, x5, x6⟩ := X.seven
    obtain ⟨y0, y1, y2, y3, y4, y5, y6⟩ := Y.seven
    go_wp2_with fail
    go_ret
    rw [HE.out]
    exact ⟨rfl, HB.out⟩
theorem equal_any : ∀ x, EqOk x := Ex.ind fun k nm v op xs h => equal_node (.mk k nm v op xs) h
end Go.Proofs.YtonkjhmkppeagaaGreatDoor.Pz

set_option linter.unusedVariables false
set_option linter.unusedSimpArgs false
namespace Go.Proofs.YtonkjhmkppeagaaGreatDoor.Pz
open Go.RowKit Go Go.Sort Ba Lx

/-- The table of ranks, as the program lays it. -/
def EnvR (w : World) : Prop := ∃ bm o, bm < w.heap.size ∧ w.cell? ⟨0, 0, none⟩ = some (.map (some bm)) ∧ w.heap[bm]? = some o ∧
  ∀ (W : World) (key : ByteArray), W.heap[bm]? = some o → (Instr.lookup 173 (.map (some bm)) (.string key) false).run Tryz.prog W = .ok (.int .i64 (rankOp key.data.toList : Int)) W
theorem EnvR.below {w w' : World} (h : EnvR w) (hb : Below w.heap.size w w') : EnvR w' := by
  obtain ⟨bm, o, h1, h2, h3, h4⟩ := h
  exact ⟨bm, o, Nat.lt_of_lt_of_le h1 hb.size, (hb.cell (by exact lt_of_cell h2)).trans h2, (hb.block _ h1).trans h3, h4⟩
structure EnvX (w : World) : Prop where
  l : EnvL w
  r : EnvR w
theorem EnvX.below {w w' : World} (h : EnvX w) (hb : Below w.heap.size w w') : EnvX w' := ⟨h.l.below hb, h.r.below hb⟩
theorem rankE_4 {x : Ex} (h : x.k = 4) : rankE x = rankOp x.op := by unfold rankE; rw [if_pos h]
theorem rankE_not {x : Ex} (h : x.k = 3) (h2 : x.op = sNot) : rankE x = 3 := by unfold rankE; rw [if_neg (by rw [h]; decide), if_pos h, if_pos h2]
theorem rankE_neg {x : Ex} (h : x.k = 3) (h2 : x.op ≠ sNot) : rankE x = 7 := by unfold rankE; rw [if_neg (by rw [h]; decide), if_pos h, if_neg h2]
theorem rankE_n {x : Ex} (h4 : x.k ≠ 4) (h3 : x.k ≠ 3) (h2 : x.k = 2 ∧ x.v.n < 0) : rankE x = 7 := by unfold rankE; rw [if_neg h4, if_neg h3, if_pos h2]
theorem rankE_8 {x : Ex} (h4 : x.k ≠ 4) (h3 : x.k ≠ 3) (h2 : ¬ (x.k = 2 ∧ x.v.n < 0)) : rankE x = 8 := by unfold rankE; rw [if_neg h4, if_neg h3, if_neg h2]
theorem list_mk (l : Str) : (⟨l.toArray⟩ : ByteArray).data.toList = l := rfl
set_option maxRecDepth 100000 in
set_option maxHeartbeats 3200000 in
theorem rank_any (x : Ex) (sa : Option Addr) (ca : Nat) (w : World) (hE : EnvR w) : Calls Tryz.prog 83 #[exV x (.slice sa x.xs.length ca)] w fun e w' => e = .returned (.int .i64 (rankE x : Int)) ∧ Below w.heap.size w w' := by
  have bw : Below w.heap.size w (w.alloc (.cells #[.int .i64 x.k, .string ⟨x.nm.toArray⟩, .int .i64 x.v.k, .int .i64 x.v.n, .string ⟨x.v.t.toArray⟩, .string ⟨x.op.toArray⟩, .slice sa x.xs.length ca] 27)) := (Below.refl _ w).alloc (Nat.le_refl _) _
  have X := Box.new w [.int .i64 x.k, .string ⟨x.nm.toArray⟩, .int .i64 x.v.k, .int .i64 x.v.n, .string ⟨x.v.t.toArray⟩, .string ⟨x.op.toArray⟩, .slice sa x.xs.length ca] 27
  have hE' := hE.below bw
  obtain ⟨kk, hkk⟩ : ∃ q, x.k = q := ⟨_, rfl⟩
  obtain ⟨Y, hY⟩ : ∃ Y : ByteArray, (⟨x.op.toArray⟩ : ByteArray) = Y := ⟨_, rfl⟩
  obtain ⟨n0, hn0⟩ : ∃ q, x.v.n = q := ⟨_, rfl⟩
  have HX : Hid (exV x (.slice sa x.xs.length ca) = .agg #[.int .i64 kk, .string ⟨x.nm.toArray⟩, .int .i64 x.v.k, .int .i64 n0, .string ⟨x.v.t.toArray⟩, .string Y, .slice sa x.xs.length ca]) := by show _ = _; rw [← hkk, ← hY, ← hn0]
  rw [hkk, hY, hn0] at X bw hE'
  rw [HX.out]
  have HB := Lib.hid bw
  by_cases h4 : x.k = 4
  · obtain rfl : kk = 4 := by rw [← hkk]; exact h4
    have HR : Hid (rankE x = rankOp Y.data.toList) := by show _ = _; rw [rankE_4 h4, ← hY]
    obtain ⟨bm, ob, m1, m2, m3, m4⟩ := hE'
    have hlk := m4 _ Y m3
    rw [← HR.out] at hlk
    clear hE hkk hY hn0 HX h4 m3 m4 bw
    go_enter Tryz.func83, Tryz.ntmps83
    obtain ⟨x0, x1, x2, x3, x4, x5, x6⟩ := X.seven
    go_wp2_with fail
    go_ret
    exact ⟨rfl, HB.out⟩
  have e4 : (kk == 4) = false := by rw [← hkk]; simpa using h4
  by_cases h3 : x.k = 3
  · obtain rfl : kk = 3 := by rw [← hkk]; exact h3
    by_cases ho : x.op = sNot
    · have HR := Lib.hid (rankE_not h3 ho)
      obtain rfl : Y = ⟨#[110, 111, 116]⟩ := by rw [← hY, ho]; rfl
      clear hE hE' hkk hY hn0 HX h4 h3 ho bw
      go_enter Tryz.func83, Tryz.ntmps83
      obtain ⟨x0, x1, x2, x3, x4, x5, x6⟩ := X.seven
      go_wp2_with fail
      go_ret
      rw [HR.out]
      exact ⟨rfl, HB.out⟩
    · have HR := Lib.hid (rankE_neg h3 ho)
      have q3 := str_ne hY ho
      have q3b : (Y.toList == [110, 111, 116]) = false := by have := q3; rw [ByteArray.toList_eq ⟨(sNot : Str).toArray⟩] at this; exact this
      clear hE hE' hkk hY hn0 HX h4 h3 ho bw
      go_enter Tryz.func83, Tryz.ntmps83
      obtain ⟨x0, x1, x2, x3, x4, x5, x6⟩ := X.seven
      go_wp2_with fail
      go_ret
      rw [HR.out]
      exact ⟨rfl, HB.out⟩
  have e3 : (kk == 3) = false := by rw [← hkk]; simpa using h3
  by_cases h2 : x.k = 2
  · obtain rfl : kk = 2 := by rw [← hkk]; exact h2
    by_cases hn : n0 < 0
    · have HR := Lib.hid (rankE_n h4 h3 ⟨h2, by rw [hn0]; exact hn⟩)
      clear hE hE' hkk hY hn0 HX h4 h3 h2 bw
      go_enter Tryz.func83, Tryz.ntmps83
      obtain ⟨x0, x1, x2, x3, x4, x5, x6⟩ := X.seven
      go_wp2_with fail
      go_ret
      rw [HR.out]
      exact ⟨rfl, HB.out⟩
    · have HR := Lib.hid (rankE_8 h4 h3 (fun h => hn (by rw [← hn0]; exact h.2)))
      clear hE hE' hkk hY hn0 HX h4 h3 h2 bw
      go_enter Tryz.func83, Tryz.ntmps83
      obtain ⟨x0, x1, x2, x3, x4, x5, x6⟩ := X.seven
      go_wp2_with fail
      go_ret
      rw [HR.out]
      exact ⟨rfl, HB.out⟩
  have e2 : (kk == 2) = false := by rw [← hkk]; simpa using h2
  have HR := Lib.hid (rankE_8 h4 h3 (fun h => h2 h.1))
  clear hE hE' hkk hY hn0 HX h4 h3 h2 bw
  go_enter Tryz.func83, Tryz.ntmps83
  obtain ⟨x0, x1, x2, x3, x4, x5, x6⟩ := X.seven
  go_wp2_with fail
  go_ret
  rw [HR.out]
  exact ⟨rfl, HB.out⟩
end Go.Proofs.YtonkjhmkppeagaaGreatDoor.Pz

set_option linter.unusedVariables false
set_option linter.unusedSimpArgs false
namespace Go.Proofs.YtonkjhmkppeagaaGreatDoor.Pz
open Go.RowKit Go Go.Sort Ba Lx

mutual
/-- Numbers are numbers, texts are not great. -/
def BdE : Ex → Prop
  | .mk _ nm v op xs => -9223372036854775808 ≤ v.n ∧ v.n ≤ 9223372036854775807 ∧ v.t.length ≤ 1000000 ∧ nm.length ≤ 1000000 ∧ op.length ≤ 1000000 ∧ BdEs xs
def BdEs : List Ex → Prop
  | [] => True
  | x :: r => BdE x ∧ BdEs r
end
theorem BdEs_mem : ∀ {xs : List Ex}, BdEs xs → ∀ a ∈ xs, BdE a
  | x :: r, h, a, ha => by
    rw [BdEs] at h
    rcases List.mem_cons.1 ha with rfl | ha
    · exact h.1
    · exact BdEs_mem h.2 a ha
theorem BdE_eq (x : Ex) : BdE x = (-9223372036854775808 ≤ x.v.n ∧ x.v.n ≤ 9223372036854775807 ∧ x.v.t.length ≤ 1000000 ∧ x.nm.length ≤ 1000000 ∧ x.op.length ≤ 1000000 ∧ BdEs x.xs) := by cases x; rw [BdE]; rfl
def StrTo (l : Str) (w : World) (e : Ending) (w' : World) : Prop := e = .returned (.string ⟨l.toArray⟩) ∧ Below w.heap.size w w'
def TxOk (x : Ex) : Prop := ∀ (sa : Option Addr) (ca : Nat) (w : World) (ok : Nat → Prop), XArgs w ok (.slice sa x.xs.length ca) x.xs → EnvX w → BdE x → (textE x).length ≤ 1000000 →
  Calls Tryz.prog 46 #[exV x (.slice sa x.xs.length ca)] w (StrTo (textE x) w)
theorem sz_mk (l : Str) : (⟨l.toArray⟩ : ByteArray).size = l.length := by show l.toArray.size = _; simp
theorem app_mk (a b : Str) : (⟨a.toArray⟩ : ByteArray) ++ ⟨b.toArray⟩ = ⟨(a ++ b).toArray⟩ := Go.ByteArray.mk_append_mk a b
set_option maxRecDepth 100000 in
set_option maxHeartbeats 3200000 in
theorem within_any (x : Ex) (h : TxOk x) (least : Nat) (hl : least ≤ 100) (sa : Option Addr) (ca : Nat) (w : World) (ok : Nat → Prop) (hA : XArgs w ok (.slice sa x.xs.length ca) x.xs) (hE : EnvX w) (hb : BdE x) (hlen : (textE x).length ≤ 1000000) :
    Calls Tryz.prog 81 #[exV x (.slice sa x.xs.length ca), .int .i64 (least : Int)] w (StrTo (wiT least (x, textE x)) w) := by
  have bw : Below w.heap.size w (w.alloc (.cells #[.int .i64 x.k, .string ⟨x.nm.toArray⟩, .int .i64 x.v.k, .int .i64 x.v.n, .string ⟨x.v.t.toArray⟩, .string ⟨x.op.toArray⟩, .slice sa x.xs.length ca] 27)) := (Below.refl _ w).alloc (Nat.le_refl _) _
  have X := Box.new w [.int .i64 x.k, .string ⟨x.nm.toArray⟩, .int .i64 x.v.k, .int .i64 x.v.n, .string ⟨x.v.t.toArray⟩, .string ⟨x.op.toArray⟩, .slice sa x.xs.length ca] 27
  have HB := Lib.hid bw
  have HR := Lib.hid (rank_any x sa ca _ (hE.below bw).r)
  have HT := Lib.hid (fun W (hW : Below w.heap.size w W) => h sa ca W ok (hA.below hW) (hE.below hW) hb hlen)
  obtain ⟨T, hT⟩ : ∃ T : ByteArray, (⟨(textE x).toArray⟩ : ByteArray) = T := ⟨_, rfl⟩
  have hTs : T.size ≤ 1000000 := by rw [← hT, sz_mk]; exact hlen
  obtain ⟨r, hr⟩ : ∃ r, rankE x = r := ⟨_, rfl⟩
  have HS : Hid (∀ W, StrTo (textE x) W = fun e w' => e = .returned (.string T) ∧ Below W.heap.size W w') := fun W => by unfold StrTo; rw [hT]
  rw [hr] at HR
  by_cases hlt : r < least
  · have HW : Hid ((⟨#[40]⟩ : ByteArray) ++ T ++ ⟨#[41]⟩ = ⟨(wiT least (x, textE x)).toArray⟩) := by
      show _ = _
      rw [← hT]
      unfold wiT
      simp only
      rw [hr, if_pos hlt]
      show ((⟨([40] : Str).toArray⟩ : ByteArray) ++ ⟨(textE x).toArray⟩) ++ ⟨([41] : Str).toArray⟩ = _
      rw [app_mk, app_mk]; rfl
    clear hA hE hb hT hr h bw
    go_enter Tryz.func81, Tryz.ntmps81
    obtain ⟨x0, x1, x2, x3, x4, x5, x6⟩ := X.seven
    go_wp2_with (first | (go_at_call 83; refine HR.out.mono ?_; rintro e w1 ⟨rfl, hb1⟩; have X1 := X.next hb1; obtain ⟨y0, y1, y2, y3, y4, y5, y6⟩ := X1.seven) | (go_at_call 46; have hc := HT.out _ (two HB.out hb1); rw [HS.out] at hc; refine hc.mono ?_; clear hc; rintro e w2 ⟨rfl, hb2⟩))
    go_ret
    exact ⟨ret_str HW.out, two (two HB.out hb1) hb2⟩
  · have HW : Hid (T = ⟨(wiT least (x, textE x)).toArray⟩) := by
      show _ = _
      rw [← hT]
      unfold wiT
      simp only
      rw [hr, if_neg hlt]
    clear hA hE hb hT hr h bw
    go_enter Tryz.func81, Tryz.ntmps81
    obtain ⟨x0, x1, x2, x3, x4, x5, x6⟩ := X.seven
    go_wp2_with (first | (go_at_call 83; refine HR.out.mono ?_; rintro e w1 ⟨rfl, hb1⟩; have X1 := X.next hb1; obtain ⟨y0, y1, y2, y3, y4, y5, y6⟩ := X1.seven) | (go_at_call 46; have hc := HT.out _ (two HB.out hb1); rw [HS.out] at hc; refine hc.mono ?_; clear hc; rintro e w2 ⟨rfl, hb2⟩))
    go_ret
    exact ⟨ret_str HW.out, two (two HB.out hb1) hb2⟩
set_option maxRecDepth 100000 in
set_option maxHeartbeats 3200000 in
theorem minusT_any (x : Ex) (h : TxOk x) (sa : Option Addr) (ca : Nat) (w : World) (ok : Nat → Prop) (hA : XArgs w ok (.slice sa x.xs.length ca) x.xs) (hE : EnvX w) (hb : BdE x) (hlen : (textE x).length ≤ 1000000) :
    Calls Tryz.prog 82 #[exV x (.slice sa x.xs.length ca)] w (StrTo (miT (x, textE x)) w) := by
  have bw : Below w.heap.size w (w.alloc (.cells #[.int .i64 x.k, .string ⟨x.nm.toArray⟩, .int .i64 x.v.k, .int .i64 x.v.n, .string ⟨x.v.t.toArray⟩, .string ⟨x.op.toArray⟩, .slice sa x.xs.length ca] 27)) := (Below.refl _ w).alloc (Nat.le_refl _) _
  have X := Box.new w [.int .i64 x.k, .string ⟨x.nm.toArray⟩, .int .i64 x.v.k, .int .i64 x.v.n, .string ⟨x.v.t.toArray⟩, .string ⟨x.op.toArray⟩, .slice sa x.xs.length ca] 27
  have HB := Lib.hid bw
  have HT := Lib.hid (h sa ca _ ok (hA.below bw) (hE.below bw) hb hlen)
  have HI := Lib.hid (within_any x h 7 (by decide) sa ca _ ok (hA.below bw) (hE.below bw) hb hlen)
  obtain ⟨T, hT⟩ : ∃ T : ByteArray, (⟨(textE x).toArray⟩ : ByteArray) = T := ⟨_, rfl⟩
  have hTs : T.size ≤ 1000000 := by rw [← hT, sz_mk]; exact hlen
  obtain ⟨k0, hk0⟩ : ∃ q, x.k = q := ⟨_, rfl⟩
  obtain ⟨k1, hk1⟩ : ∃ q, x.v.k = q := ⟨_, rfl⟩
  obtain ⟨n0, hn0⟩ : ∃ q, x.v.n = q := ⟨_, rfl⟩
  have HX : Hid (exV x (.slice sa x.xs.length ca) = .agg #[.int .i64 k0, .string ⟨x.nm.toArray⟩, .int .i64 k1, .int .i64 n0, .string ⟨x.v.t.toArray⟩, .string ⟨x.op.toArray⟩, .slice sa x.xs.length ca]) := by show _ = _; rw [← hk0, ← hk1, ← hn0]
  unfold StrTo at HT HI
  rw [hT] at HT
  rw [hk0, hk1, hn0] at X HB HT HI
  rw [HX.out] at HT HI ⊢
  by_cases hp : posC x
  · have HW : Hid ((⟨#[40]⟩ : ByteArray) ++ T ++ ⟨#[41]⟩ = ⟨(miT (x, textE x)).toArray⟩) := by
      show _ = _
      rw [← hT]
      unfold miT
      simp only
      rw [if_pos hp]
      show ((⟨([40] : Str).toArray⟩ : ByteArray) ++ ⟨(textE x).toArray⟩) ++ ⟨([41] : Str).toArray⟩ = _
      rw [app_mk, app_mk]; rfl
    obtain ⟨p1, p2, p3⟩ := hp
    obtain rfl : k0 = 2 := by rw [← hk0]; exact p1
    obtain rfl : k1 = 1 := by rw [← hk1]; exact p2
    have p4 : 0 < n0 := by rw [← hn0]; exact p3
    clear hA hE hb hT h bw hk0 hk1 hn0 p1 p2 p3 HX
    go_enter Tryz.func82, Tryz.ntmps82
    obtain ⟨x0, x1, x2, x3, x4, x5, x6⟩ := X.seven
    go_wp2_with (go_at_call 46; refine HT.out.mono ?_; rintro e w2 ⟨rfl, hb2⟩)
    go_ret
    exact ⟨ret_str HW.out, two HB.out hb2⟩
  · have HW : Hid (wiT 7 (x, textE x) = miT (x, textE x)) := by
      show _ = _
      unfold miT
      rw [if_neg hp]
    have HC : (k0 == 2) = false ∨ (k0 = 2 ∧ (k1 == 1) = false) ∨ (k0 = 2 ∧ k1 = 1 ∧ n0 ≤ 0) := by
      by_cases h1 : x.k = 2
      · by_cases h2 : x.v.k = 1
        · exact .inr (.inr ⟨by rw [← hk0]; exact h1, by rw [← hk1]; exact h2, by have : ¬ 0 < x.v.n := fun h3 => hp ⟨h1, h2, h3⟩; omega⟩)
        · exact .inr (.inl ⟨by rw [← hk0]; exact h1, by rw [← hk1]; simpa using h2⟩)
      · exact .inl (by rw [← hk0]; simpa using h1)
    clear hA hE hb hT h bw hk0 hk1 hn0 HX hp
    rcases HC with e1 | ⟨rfl, e1⟩ | ⟨rfl, rfl, e1⟩
    all_goals
      go_enter Tryz.func82, Tryz.ntmps82
      obtain ⟨x0, x1, x2, x3, x4, x5, x6⟩ := X.seven
      go_wp2_with (go_at_call 81; refine HI.out.mono ?_; rintro e w2 ⟨rfl, hb2⟩)
      go_ret
      rw [HW.out]
      exact ⟨rfl, two HB.out hb2⟩
end Go.Proofs.YtonkjhmkppeagaaGreatDoor.Pz

set_option linter.unusedVariables false
set_option linter.unusedSimpArgs false
namespace Go.Proofs.YtonkjhmkppeagaaGreatDoor.Pz
open Go.RowKit Go Go.Sort Ba Lx

theorem textE_eq (x : Ex) : textE x = textF x.k x.nm x.v x.op (x.xs.map fun a => (a, textE a)) := by
  cases x with
  | mk k nm v op xs => show foldE textF (.mk k nm v op xs) = _; rw [foldE_mk]; rfl
theorem textE_1 {x : Ex} (h : x.k = 1) : textE x = x.nm := by rw [textE_eq]; unfold textF; rw [if_pos h]
theorem textE_2 {x : Ex} (h : x.k = 2) : textE x = showV x.v := by rw [textE_eq]; unfold textF; rw [if_neg (by rw [h]; decide), if_pos h]
theorem textE_3n {x a : Ex} (h : x.k = 3) (hx : x.xs = [a]) (ho : x.op = sNot) : textE x = sNot ++ 32 :: wiT 3 (a, textE a) := by
  rw [textE_eq, hx]; unfold textF; rw [if_neg (by rw [h]; decide), if_neg (by rw [h]; decide), if_pos h]; simp only [List.map_cons, List.map_nil]; rw [if_pos ho]
theorem textE_3m {x a : Ex} (h : x.k = 3) (hx : x.xs = [a]) (ho : x.op ≠ sNot) : textE x = x.op ++ miT (a, textE a) := by
  rw [textE_eq, hx]; unfold textF; rw [if_neg (by rw [h]; decide), if_neg (by rw [h]; decide), if_pos h]; simp only [List.map_cons, List.map_nil]; rw [if_neg ho]
theorem textE_3z {x : Ex} (h : x.k = 3) (hx : x.xs.length ≠ 1) : textE x = [] := by
  rw [textE_eq]; unfold textF; rw [if_neg (by rw [h]; decide), if_neg (by rw [h]; decide), if_pos h]
  match hxs : x.xs, hx with
  | [], _ => rfl
  | [a], hx => simp at hx
  | a :: b :: r, _ => rfl
theorem textE_4 {x a b : Ex} (h : x.k = 4) (hx : x.xs = [a, b]) : textE x = wiT (leftR x.op) (a, textE a) ++ (32 :: (x.op ++ 32 :: wiT (rankOp x.op + 1) (b, textE b))) := by
  rw [textE_eq, hx]; unfold textF; rw [if_neg (by rw [h]; decide), if_neg (by rw [h]; decide), if_neg (by rw [h]; decide), if_pos h]; rfl
theorem textE_4z {x : Ex} (h : x.k = 4) (hx : x.xs.length ≠ 2) : textE x = [] := by
  rw [textE_eq]; unfold textF; rw [if_neg (by rw [h]; decide), if_neg (by rw [h]; decide), if_neg (by rw [h]; decide), if_pos h]
  match hxs : x.xs, hx with
  | [], _ => rfl
  | [a], _ => rfl
  | [a, b], hx => simp at hx
  | a :: b :: c :: r, _ => rfl
theorem textE_5 {x : Ex} (h : x.k = 5) : textE x = x.nm ++ 40 :: (joinS [44, 32] (x.xs.map textE) ++ [41]) := by
  rw [textE_eq]; unfold textF; rw [if_neg (by rw [h]; decide), if_neg (by rw [h]; decide), if_neg (by rw [h]; decide), if_neg (by rw [h]; decide), if_pos h, List.map_map]; rfl
theorem textE_z {x : Ex} (h1 : x.k ≠ 1) (h2 : x.k ≠ 2) (h3 : x.k ≠ 3) (h4 : x.k ≠ 4) (h5 : x.k ≠ 5) : textE x = [] := by
  rw [textE_eq]; unfold textF; rw [if_neg h1, if_neg h2, if_neg h3, if_neg h4, if_neg h5]
theorem wiT_len (l : Nat) (p : Ex × Str) : p.2.length ≤ (wiT l p).length := by unfold wiT; split; simp; omega; exact Nat.le_refl _
theorem miT_len (p : Ex × Str) : p.2.length ≤ (miT p).length := by unfold miT; split; simp; omega; exact wiT_len _ _
set_option maxRecDepth 100000 in
set_option maxHeartbeats 6400000 in
theorem text_leaf (x : Ex) (h12 : x.k = 1 ∨ x.k = 2) : TxOk x := fun sa ca w ok hA hE hb hlen => by
  have bw : Below w.heap.size w (w.alloc (.cells #[.int .i64 x.k, .string ⟨x.nm.toArray⟩, .int .i64 x.v.k, .int .i64 x.v.n, .string ⟨x.v.t.toArray⟩, .string ⟨x.op.toArray⟩, .slice sa x.xs.length ca] 27)) := (Below.refl _ w).alloc (Nat.le_refl _) _
  have X := Box.new w [.int .i64 x.k, .string ⟨x.nm.toArray⟩, .int .i64 x.v.k, .int .i64 x.v.n, .string ⟨x.v.t.toArray⟩, .string ⟨x.op.toArray⟩, .slice sa x.xs.length ca] 27
  have HB := Lib.hid bw
  have hb' := (BdE_eq x).mp hb
  obtain ⟨b1, b2, b3, _⟩ := hb'
  rcases h12 with h1 | h1
  · have HT := Lib.hid (textE_1 h1)
    rw [h1] at X HB
    rw [show exV x (.slice sa x.xs.length ca) = .agg #[.int .i64 1, .string ⟨x.nm.toArray⟩, .int .i64 x.v.k, .int .i64 x.v.n, .string ⟨x.v.t.toArray⟩, .string ⟨x.op.toArray⟩, .slice sa x.xs.length ca] by rw [← h1]]
    clear h1 bw hA hE hb hlen b1 b2 b3
    go_enter Tryz.func46, Tryz.ntmps46
    obtain ⟨x0, x1, x2, x3, x4, x5, x6⟩ := X.seven
    go_wp2_with fail
    go_ret
    rw [HT.out]
    exact ⟨rfl, HB.out⟩
  · have HT := Lib.hid (textE_2 h1)
    have HS := Lib.hid (Va.show_any x.v.k x.v.n ⟨x.v.t.toArray⟩ _ (by rw [sz_mk]; omega) b1 b2 (hE.below bw).l.pow)
    rw [h1] at X HB HS
    rw [show exV x (.slice sa x.xs.length ca) = .agg #[.int .i64 2, .string ⟨x.nm.toArray⟩, .int .i64 x.v.k, .int .i64 x.v.n, .string ⟨x.v.t.toArray⟩, .string ⟨x.op.toArray⟩, .slice sa x.xs.length ca] by rw [← h1]]
    clear h1 bw hA hE hb hlen b1 b2 b3
    go_enter Tryz.func46, Tryz.ntmps46
    obtain ⟨x0, x1, x2, x3, x4, x5, x6⟩ := X.seven
    go_wp2_with (go_at_call 39; refine HS.out.mono ?_; rintro e w2 ⟨rfl, hb2⟩)
    go_ret
    rw [HT.out]
    exact ⟨rfl, two HB.out hb2⟩
set_option maxRecDepth 100000 in
set_option maxHeartbeats 6400000 in
theorem text_none (x : Ex) (h : (x.k = 3 ∧ x.xs.length ≠ 1) ∨ (x.k = 4 ∧ x.xs.length ≠ 2) ∨ (x.k ≠ 1 ∧ x.k ≠ 2 ∧ x.k ≠ 3 ∧ x.k ≠ 4 ∧ x.k ≠ 5)) : TxOk x := fun sa ca w ok hA hE hb hlen => by
  have bw : Below w.heap.size w (w.alloc (.cells #[.int .i64 x.k, .string ⟨x.nm.toArray⟩, .int .i64 x.v.k, .int .i64 x.v.n, .string ⟨x.v.t.toArray⟩, .string ⟨x.op.toArray⟩, .slice sa x.xs.length ca] 27)) := (Below.refl _ w).alloc (Nat.le_refl _) _
  have X := Box.new w [.int .i64 x.k, .string ⟨x.nm.toArray⟩, .int .i64 x.v.k, .int .i64 x.v.n, .string ⟨x.v.t.toArray⟩, .string ⟨x.op.toArray⟩, .slice sa x.xs.length ca] 27
  have HB := Lib.hid bw
  have HT : Hid (textE x = []) := by
    show textE x = []
    rcases h with ⟨h1, h2⟩ | ⟨h1, h2⟩ | ⟨h1, h2, h3, h4, h5⟩
    · exact textE_3z h1 h2
    · exact textE_4z h1 h2
    · exact textE_z h1 h2 h3 h4 h5
  obtain ⟨n, hn⟩ : ∃ n, x.xs.length = n := ⟨_, rfl⟩
  obtain ⟨kk, hkk⟩ : ∃ q, x.k = q := ⟨_, rfl⟩
  have HX : Hid (exV x (.slice sa x.xs.length ca) = .agg #[.int .i64 kk, .string ⟨x.nm.toArray⟩, .int .i64 x.v.k, .int .i64 x.v.n, .string ⟨x.v.t.toArray⟩, .string ⟨x.op.toArray⟩, .slice sa n ca]) := by show _ = _; rw [← hkk, ← hn]
  rw [hkk, hn] at X HB h
  rw [HX.out]
  clear bw hA hE hb hlen hkk hn HX
  rcases h with ⟨rfl, h2⟩ | ⟨rfl, h2⟩ | ⟨h1, h2, h3, h4, h5⟩
  · have e2 : ((n : Int) == 1) = false := by simp; omega
    have e3 : ¬ n = 1 := h2
    clear h2
    go_enter Tryz.func46, Tryz.ntmps46
    obtain ⟨x0, x1, x2, x3, x4, x5, x6⟩ := X.seven
    go_wp2_with fail
    go_ret
    rw [HT.out]
    exact ⟨rfl, HB.out⟩
  · have e2 : ((n : Int) == 2) = false := by simp; omega
    have e3 : ¬ n = 2 := h2
    clear h2
    go_enter Tryz.func46, Tryz.ntmps46
    obtain ⟨x0, x1, x2, x3, x4, x5, x6⟩ := X.seven
    go_wp2_with fail
    go_ret
    rw [HT.out]
    exact ⟨rfl, HB.out⟩
  · have e1 : (kk == 1) = false := by simpa using h1
    have e2 : (kk == 2) = false := by simpa using h2
    have e3 : (kk == 3) = false := by simpa using h3
    have e4 : (kk == 4) = false := by simpa using h4
    have e5 : (kk == 5) = false := by simpa using h5
    clear h1 h2 h3 h4 h5
    go_enter Tryz.func46, Tryz.ntmps46
    obtain ⟨x0, x1, x2, x3, x4, x5, x6⟩ := X.seven
    go_wp2_with fail
    go_ret
    rw [HT.out]
    exact ⟨rfl, HB.out⟩
set_option maxRecDepth 100000 in
set_option maxHeartbeats 6400000 in
theorem text_one (x a : Ex) (h3 : x.k = 3) (hxs : x.xs = [a]) (ih : TxOk a) : TxOk x := fun sa ca w ok hA hE hb hlen => by
  have bw : Below w.heap.size w (w.alloc (.cells #[.int .i64 x.k, .string ⟨x.nm.toArray⟩, .int .i64 x.v.k, .int .i64 x.v.n, .string ⟨x.v.t.toArray⟩, .string ⟨x.op.toArray⟩, .slice sa x.xs.length ca] 27)) := (Below.refl _ w).alloc (Nat.le_refl _) _
  have X := Box.new w [.int .i64 x.k, .string ⟨x.nm.toArray⟩, .int .i64 x.v.k, .int .i64 x.v.n, .string ⟨x.v.t.toArray⟩, .string ⟨x.op.toArray⟩, .slice sa x.xs.length ca] 27
  have HB := Lib.hid bw
  have hba : BdE a := BdEs_mem ((BdE_eq x).mp hb).2.2.2.2.2 a (by rw [hxs]; simp)
  have hopl := ((BdE_eq x).mp hb).2.2.2.2.1
  have hA1 := hA.below bw
  have hE1 := hE.below bw
  obtain ⟨ub, uo, ua, uc, ue, ul, _, uX, uF⟩ := arg7 hA1 (show x.xs[0]? = some a by rw [hxs]; rfl)
  have u0 : (w.alloc (.cells #[.int .i64 x.k, .string ⟨x.nm.toArray⟩, .int .i64 x.v.k, .int .i64 x.v.n, .string ⟨x.v.t.toArray⟩, .string ⟨x.op.toArray⟩, .slice sa x.xs.length ca] 27)).cell? ⟨ub, uo, none⟩ = some (.int .i64 a.k) := uF 0 _ rfl
  have u1 : (w.alloc (.cells #[.int .i64 x.k, .string ⟨x.nm.toArray⟩, .int .i64 x.v.k, .int .i64 x.v.n, .string ⟨x.v.t.toArray⟩, .string ⟨x.op.toArray⟩, .slice sa x.xs.length ca] 27)).cell? ⟨ub, uo + 1, none⟩ = some (.string ⟨a.nm.toArray⟩) := uF 1 _ rfl
  have u2 : (w.alloc (.cells #[.int .i64 x.k, .string ⟨x.nm.toArray⟩, .int .i64 x.v.k, .int .i64 x.v.n, .string ⟨x.v.t.toArray⟩, .string ⟨x.op.toArray⟩, .slice sa x.xs.length ca] 27)).cell? ⟨ub, uo + 2, none⟩ = some (.int .i64 a.v.k) := uF 2 _ rfl
  have u3 : (w.alloc (.cells #[.int .i64 x.k, .string ⟨x.nm.toArray⟩, .int .i64 x.v.k, .int .i64 x.v.n, .string ⟨x.v.t.toArray⟩, .string ⟨x.op.toArray⟩, .slice sa x.xs.length ca] 27)).cell? ⟨ub, uo + 3, none⟩ = some (.int .i64 a.v.n) := uF 3 _ rfl
  have u4 : (w.alloc (.cells #[.int .i64 x.k, .string ⟨x.nm.toArray⟩, .int .i64 x.v.k, .int .i64 x.v.n, .string ⟨x.v.t.toArray⟩, .string ⟨x.op.toArray⟩, .slice sa x.xs.length ca] 27)).cell? ⟨ub, uo + 4, none⟩ = some (.string ⟨a.v.t.toArray⟩) := uF 4 _ rfl
  have u5 : (w.alloc (.cells #[.int .i64 x.k, .string ⟨x.nm.toArray⟩, .int .i64 x.v.k, .int .i64 x.v.n, .string ⟨x.v.t.toArray⟩, .string ⟨x.op.toArray⟩, .slice sa x.xs.length ca] 27)).cell? ⟨ub, uo + 5, none⟩ = some (.string ⟨a.op.toArray⟩) := uF 5 _ rfl
  have u6 : (w.alloc (.cells #[.int .i64 x.k, .string ⟨x.nm.toArray⟩, .int .i64 x.v.k, .int .i64 x.v.n, .string ⟨x.v.t.toArray⟩, .string ⟨x.op.toArray⟩, .slice sa x.xs.length ca] 27)).cell? ⟨ub, uo + 6, none⟩ = some (.slice ua a.xs.length uc) := uF 6 _ rfl
  subst ue
  obtain ⟨Y, hY⟩ : ∃ Y : ByteArray, (⟨x.op.toArray⟩ : ByteArray) = Y := ⟨_, rfl⟩
  have hYs : Y.size ≤ 1000000 := by rw [← hY, sz_mk]; exact hopl
  have hn : x.xs.length = 1 := by rw [hxs]; rfl
  have HX : Hid (exV x (.slice (some ⟨ub, uo, none⟩) x.xs.length ca) = .agg #[.int .i64 3, .string ⟨x.nm.toArray⟩, .int .i64 x.v.k, .int .i64 x.v.n, .string ⟨x.v.t.toArray⟩, .string Y, .slice (some ⟨ub, uo, none⟩) 1 ca]) := by show _ = _; rw [← h3, ← hY, hn]
  by_cases ho : x.op = sNot
  · have HT := textE_3n h3 hxs ho
    have hlw : (wiT 3 (a, textE a)).length ≤ 1000000 := by rw [HT] at hlen; simp at hlen; omega
    have hla : (textE a).length ≤ 1000000 := Nat.le_trans (wiT_len 3 (a, textE a)) hlw
    have HI := Lib.hid (within_any a ih 3 (by decide) ua uc _ ok uX hE1 hba hla)
    obtain rfl : Y = ⟨#[110, 111, 116]⟩ := by rw [← hY, ho]; rfl
    obtain ⟨T, hT⟩ : ∃ T : ByteArray, (⟨(wiT 3 (a, textE a)).toArray⟩ : ByteArray) = T := ⟨_, rfl⟩
    have hTs : T.size ≤ 1000000 := by rw [← hT, sz_mk]; exact hlw
    have HW : Hid ((⟨#[110, 111, 116, 32]⟩ : ByteArray) ++ T = ⟨(textE x).toArray⟩) := by
      show _ = _
      rw [← hT, HT]
      show (⟨([110, 111, 116, 32] : Str).toArray⟩ : ByteArray) ++ ⟨(wiT 3 (a, textE a)).toArray⟩ = _
      rw [app_mk]; rfl
    unfold StrTo at HI
    rw [hT] at HI
    rw [HX.out]
    rw [h3, hY, hn] at X HB HI u0 u1 u2 u3 u4 u5 u6
    clear bw hA hE hb hlen hA1 hE1 hY hn HX ho HT hlw hla hT uX uF hba hopl h3 hxs
    go_enter Tryz.func46, Tryz.ntmps46
    obtain ⟨x0, x1, x2, x3, x4, x5, x6⟩ := X.seven
    go_wp2_with (go_at_call 81; refine HI.out.mono ?_; rintro e w2 ⟨rfl, hb2⟩)
    go_ret
    exact ⟨ret_str HW.out, two HB.out hb2⟩
  · have HT := textE_3m h3 hxs ho
    have hlw : (miT (a, textE a)).length ≤ 1000000 := by rw [HT] at hlen; simp at hlen; omega
    have hla : (textE a).length ≤ 1000000 := Nat.le_trans (miT_len (a, textE a)) hlw
    have q3 := str_ne hY ho
    have q3b : (Y.toList == [110, 111, 116]) = false := by have := q3; rw [ByteArray.toList_eq ⟨(sNot : Str).toArray⟩] at this; exact this
    obtain ⟨T, hT⟩ : ∃ T : ByteArray, (⟨(miT (a, textE a)).toArray⟩ : ByteArray) = T := ⟨_, rfl⟩
    have hTs : T.size ≤ 1000000 := by rw [← hT, sz_mk]; exact hlw
    have HI : Hid (∀ W, Below (w.alloc (.cells #[.int .i64 x.k, .string ⟨x.nm.toArray⟩, .int .i64 x.v.k, .int .i64 x.v.n, .string ⟨x.v.t.toArray⟩, .string ⟨x.op.toArray⟩, .slice (some ⟨ub, uo, none⟩) x.xs.length ca] 27)).heap.size (w.alloc (.cells #[.int .i64 x.k, .string ⟨x.nm.toArray⟩, .int .i64 x.v.k, .int .i64 x.v.n, .string ⟨x.v.t.toArray⟩, .string ⟨x.op.toArray⟩, .slice (some ⟨ub, uo, none⟩) x.xs.length ca] 27)) W → Calls Tryz.prog 82 #[exV a (.slice ua a.xs.length uc)] W fun e w' => e = .returned (.string T) ∧ Below W.heap.size W w') := fun W hW => by
      have := minusT_any a ih ua uc W ok (uX.below hW) (hE1.below hW) hba hla
      unfold StrTo at this
      rw [hT] at this
      exact this
    have HW : Hid (Y ++ T = ⟨(textE x).toArray⟩) := by
      show _ = _
      rw [← hT, ← hY, HT, app_mk]
    rw [HX.out]
    rw [h3, hY, hn] at X HB HI u0 u1 u2 u3 u4 u5 u6
    clear bw hA hE hb hlen hA1 hE1 hY hn HX ho HT hlw hla hT uX uF hba hopl h3 hxs
    go_enter Tryz.func46, Tryz.ntmps46
    obtain ⟨x0, x1, x2, x3, x4, x5, x6⟩ := X.seven
    go_wp2_with fail
    generalize w.alloc (.cells #[.int .i64 3, .string ⟨x.nm.toArray⟩, .int .i64 x.v.k, .int .i64 x.v.n, .string ⟨x.v.t.toArray⟩, .string Y, .slice (some ⟨ub, uo, none⟩) 1 ca] 27) = W1 at *
    have x5 := cell_regrown x5
    have x6 := cell_regrown x6
    have u0 := cell_regrown u0
    have u1 := cell_regrown u1
    have u2 := cell_regrown u2
    have u3 := cell_regrown u3
    have u4 := cell_regrown u4
    have u5 := cell_regrown u5
    have u6 := cell_regrown u6
    have cA := qcall HI.out
    refine wp_region_quiet_below (by kernel_rfl) (by kernel_rfl) ?_
    repeat (go_big_quiet_step (with_reducible (exact cA _ _)))
    refine wpQuiet_nil ?_
    intro _ hw'
    obtain ⟨⟨dq1, os1⟩, hw''⟩ := hw'
    subst hw''
    go_wp2_with fail
    go_ret
    exact ⟨ret_str HW.out, two HB.out (below_regrown _ _ _)⟩
end Go.Proofs.YtonkjhmkppeagaaGreatDoor.Pz
