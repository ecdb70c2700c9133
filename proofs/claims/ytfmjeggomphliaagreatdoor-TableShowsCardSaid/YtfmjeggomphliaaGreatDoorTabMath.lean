/- The plain law of tables: columns, rows that fit, rows in their order, rows counted. No program in sight. -/
import Derived.Test.YtfmjeggomphliaaGreatDoorCmpMath
set_option linter.unusedVariables false
namespace Go.Proofs.YtfmjeggomphliaaGreatDoor.Tb
open Go.RowKit Go Ba Va

/-- A column: name and type. -/
structure Col where
  name : ByteArray
  ty : Int
def vc (v : Val) : List Value := [.int .i64 v.k, .int .i64 v.n, .string v.t]
def cc (c : Col) : List Value := [.string c.name, .int .i64 c.ty]
def letterB (b : UInt8) : Bool := decide (97 ≤ (b.toNat : Int) ∧ (b.toNat : Int) ≤ 122)
def innerB (b : UInt8) : Bool := letterB b || decide ((b.toNat : Int) = 95 ∨ (48 ≤ (b.toNat : Int) ∧ (b.toNat : Int) ≤ 57))
/-- Is it a right name? -/
def nameL (l : List UInt8) : Bool := (match l with | [] => false | b :: _ => letterB b) && l.all innerB && decide (l.length ≤ 16)
def nameB (s : ByteArray) : Bool := nameL s.data.toList
/-- The columns' error, these names having been seen. -/
def chkL : List Col → List Col → Int
  | _, [] => 0
  | seen, c :: cs => if nameB c.name = false then 13 else if c.ty ≠ 1 ∧ c.ty ≠ 2 then 12 else if ∃ x ∈ seen, x.name = c.name then 14 else chkL (seen ++ [c]) cs
def chk (cs : List Col) : Int := if cs.length = 0 ∨ 16 < cs.length then 31 else chkL [] cs
theorem chkL_of (cs : List Col) : ∀ (k : Nat) (c : Col), cs[k]? = some c → chkL (cs.take k) (cs.drop k) = if nameB c.name = false then 13 else if c.ty ≠ 1 ∧ c.ty ≠ 2 then 12 else if ∃ x ∈ cs.take k, x.name = c.name then 14 else chkL (cs.take (k + 1)) (cs.drop (k + 1)) := by
  intro k c h
  obtain ⟨h1, e⟩ := List.getElem?_eq_some_iff.1 h
  rw [List.drop_eq_getElem_cons h1, e, take_one cs k c h]
  rfl
theorem chkL_end (cs : List Col) : chkL (cs.take cs.length) (cs.drop cs.length) = 0 := by
  rw [List.drop_length]; rfl
/-- Does a value fit a column? -/
def fitC (c : Col) (v : Val) : Bool := rightB v.k v.n v.t && (decide (v.k = 0) || decide (v.k = c.ty))
/-- Does a row fit columns? -/
def fitL : List Col → List Val → Bool
  | [], [] => true
  | c :: cs, v :: r => fitC c v && fitL cs r
  | _, _ => false
theorem fitL_len : ∀ {cs : List Col} {r : List Val}, fitL cs r = true → r.length = cs.length
  | [], [], _ => rfl
  | [], _ :: _, h => by cases h
  | _ :: _, [], h => by cases h
  | c :: cs, v :: r, h => by
    unfold fitL at h
    rw [Bool.and_eq_true] at h
    rw [List.length_cons, List.length_cons, fitL_len h.2]
theorem fitL_ne : ∀ {cs : List Col} {r : List Val}, r.length ≠ cs.length → fitL cs r = false := by
  intro cs r h
  cases e : fitL cs r with
  | false => rfl
  | true => exact absurd (fitL_len e) h
/-- From a place on. -/
theorem fitL_at (cs : List Col) (r : List Val) (k : Nat) (c : Col) (v : Val) (hc : cs[k]? = some c) (hv : r[k]? = some v) : fitL (cs.drop k) (r.drop k) = (fitC c v && fitL (cs.drop (k + 1)) (r.drop (k + 1))) := by
  obtain ⟨h1, e1⟩ := List.getElem?_eq_some_iff.1 hc
  obtain ⟨h2, e2⟩ := List.getElem?_eq_some_iff.1 hv
  rw [List.drop_eq_getElem_cons h1, List.drop_eq_getElem_cons h2, e1, e2]
  rfl
theorem fitL_end (cs : List Col) (r : List Val) (h : r.length = cs.length) : fitL (cs.drop r.length) (r.drop r.length) = true := by
  rw [List.drop_length, h, List.drop_length]; rfl
def fits (cs : List Col) (r : List Val) : Bool := decide (chk cs = 0) && fitL cs r
/-- The error of columns and rows, in whatever order. -/
def err (cs : List Col) (rs : List (List Val)) : Int := if chk cs ≠ 0 then chk cs else if 4096 < rs.length then 31 else if rs.all (fitL cs) then 0 else 12
/-- Do rows stand in their order? -/
def srt : List (List Val) → Bool
  | a :: b :: l => decide (cmpR a b ≤ 0) && srt (b :: l)
  | _ => true
/-- The error of a table. -/
def errT (cs : List Col) (rs : List (List Val)) : Int := if err cs rs ≠ 0 then err cs rs else if srt rs then 0 else 20
def Sorted (rs : List (List Val)) : Prop := rs.Pairwise fun a b => cmpR a b ≤ 0
theorem sorted_iff : ∀ rs : List (List Val), srt rs = true ↔ Sorted rs
  | [] => by simp [srt, Sorted]
  | [a] => by simp [srt, Sorted]
  | a :: b :: l => by
    have ih := sorted_iff (b :: l)
    unfold srt
    rw [Bool.and_eq_true, ih, decide_eq_true_eq]
    unfold Sorted
    rw [List.pairwise_cons (a := a)]
    refine ⟨fun ⟨h1, h2⟩ => ⟨fun x hx => ?_, h2⟩, fun ⟨h1, h2⟩ => ⟨h1 b (by simp), h2⟩⟩
    rcases List.mem_cons.1 hx with rfl | hx
    · exact h1
    · exact cmpR_trans a b x h1 ((List.pairwise_cons.1 h2).1 x hx)
/-- By places: no row stands ahead of the one before it. -/
theorem srt_iff (rs : List (List Val)) : srt rs = true ↔ ∀ i a b, rs[i]? = some a → rs[i + 1]? = some b → cmpR a b ≤ 0 := by
  induction rs with
  | nil => simp [srt]
  | cons x l ih =>
    cases l with
    | nil => simp [srt]
    | cons y l =>
      unfold srt
      rw [Bool.and_eq_true, ih, decide_eq_true_eq]
      refine ⟨fun ⟨h1, h2⟩ i a b ha hb => ?_, fun h => ⟨h 0 x y rfl rfl, fun i a b ha hb => h (i + 1) a b ha hb⟩⟩
      cases i with
      | zero =>
        simp only [List.getElem?_cons_zero, Option.some.injEq, List.getElem?_cons_succ] at ha hb
        subst ha; subst hb; exact h1
      | succ i => exact h2 i a b (by simpa using ha) (by simpa using hb)
/-- A row put in its place. -/
def insR (r : List Val) : List (List Val) → List (List Val)
  | [] => [r]
  | o :: l => if cmpR r o < 0 then r :: o :: l else o :: insR r l
def sortR (rs : List (List Val)) : List (List Val) := rs.foldl (fun out r => insR r out) []
theorem ins_perm (r : List Val) : ∀ l, (insR r l).Perm (r :: l)
  | [] => List.Perm.refl _
  | o :: l => by
    unfold insR
    split
    · exact List.Perm.refl _
    · exact ((ins_perm r l).cons o).trans (List.Perm.swap _ _ _)
theorem ins_sorted (r : List Val) : ∀ l, Sorted l → Sorted (insR r l)
  | [], _ => by simp [insR, Sorted]
  | o :: l, h => by
    unfold Sorted at h
    rw [List.pairwise_cons] at h
    unfold insR
    split
    · rename_i hc
      refine List.pairwise_cons.2 ⟨fun x hx => ?_, List.pairwise_cons.2 h⟩
      rcases List.mem_cons.1 hx with rfl | hx
      · omega
      · exact cmpR_trans r o x (by omega) (h.1 x hx)
    · rename_i hc
      refine List.pairwise_cons.2 ⟨fun x hx => ?_, ins_sorted r l h.2⟩
      rcases List.mem_cons.1 ((ins_perm r l).mem_iff.1 hx) with rfl | hx
      · have := cmpR_swap x o; omega
      · exact h.1 x hx
theorem fold_facts : ∀ (rs out : List (List Val)), Sorted out → Sorted (rs.foldl (fun out r => insR r out) out) ∧ (rs.foldl (fun out r => insR r out) out).Perm (rs ++ out)
  | [], out, h => ⟨h, List.Perm.refl _⟩
  | r :: rs, out, h => by
    obtain ⟨h1, h2⟩ := fold_facts rs (insR r out) (ins_sorted r out h)
    refine ⟨h1, h2.trans ?_⟩
    exact ((ins_perm r out).append_left rs).trans List.perm_middle
theorem sort_sorted (rs : List (List Val)) : Sorted (sortR rs) := (fold_facts rs [] List.Pairwise.nil).1
theorem sort_perm (rs : List (List Val)) : (sortR rs).Perm rs := by
  have := (fold_facts rs [] List.Pairwise.nil).2
  rwa [List.append_nil] at this
theorem sorted_unique {a b : List (List Val)} (hp : a.Perm b) (ha : Sorted a) (hb : Sorted b) : a = b :=
  List.Perm.eq_of_pairwise (fun x y _ _ h1 h2 => (cmpR_zero x y).1 (by have := cmpR_swap x y; omega)) ha hb hp
theorem sort_perm_eq {a b : List (List Val)} (hp : a.Perm b) : sortR a = sortR b :=
  sorted_unique ((sort_perm a).trans (hp.trans (sort_perm b).symm)) (sort_sorted a) (sort_sorted b)
theorem sort_of {a b : List (List Val)} (hp : a.Perm b) (ha : Sorted a) : a = sortR b := sorted_unique (hp.trans (sort_perm b).symm) ha (sort_sorted b)
/-- Out of the stable sort's words. -/
theorem sorted_up {d : List Val} {a : List (List Val)} (h : St.Up d lessR a 0 a.length) : Sorted a := by
  unfold Sorted
  rw [List.pairwise_iff_getElem]
  intro i j hi hj hij
  have := h i j (by omega) (by omega) hj
  rw [St.gt_of d hi, St.gt_of d hj] at this
  unfold St.le lessR at this
  rw [decide_eq_false_iff_not] at this
  have e := cmpR_swap a[i] a[j]
  omega
theorem err_perm {cs : List Col} {a b : List (List Val)} (hp : a.Perm b) : err cs a = err cs b := by
  unfold err
  rw [hp.length_eq, show a.all (fitL cs) = b.all (fitL cs) by rw [Bool.eq_iff_iff, List.all_eq_true, List.all_eq_true]; exact ⟨fun h x hx => h x (hp.mem_iff.2 hx), fun h x hx => h x (hp.mem_iff.1 hx)⟩]
/-! ### Rows counted -/
/-- How often is this row there? -/
def cnt (r : List Val) (rs : List (List Val)) : Nat := rs.countP fun x => decide (cmpR x r = 0)
theorem cnt_app (r : List Val) (a b : List (List Val)) : cnt r (a ++ b) = cnt r a + cnt r b := by simp [cnt]
theorem cnt_perm (r : List Val) {a b : List (List Val)} (h : a.Perm b) : cnt r a = cnt r b := h.countP_eq _
theorem cnt_snoc (r : List Val) (rs : List (List Val)) (k : Nat) (x : List Val) (h : rs[k]? = some x) : cnt r (rs.take (k + 1)) = cnt r (rs.take k) + (if cmpR x r = 0 then 1 else 0) := by
  rw [take_one rs k x h, cnt_app]
  congr 1
  simp [cnt, List.countP_cons]
/-- Of sorted rows, those that are this one stand together: from the first that is not ahead of it to the first that differs. -/
theorem cnt_run {r : List Val} {rs : List (List Val)} (h : Sorted rs) (f m : Nat) (hfm : f ≤ m) (hm : m ≤ rs.length) (h1 : ∀ i x, i < f → rs[i]? = some x → cmpR x r < 0) (h2 : ∀ i x, f ≤ i → i < m → rs[i]? = some x → x = r) (h3 : ∀ x, rs[m]? = some x → f ≤ m ∧ x ≠ r) (h4 : ∀ i x, f ≤ i → rs[i]? = some x → 0 ≤ cmpR x r) : cnt r rs = m - f := by
  have e : rs = rs.take f ++ ((rs.drop f).take (m - f) ++ rs.drop m) := by
    conv => lhs; rw [← List.take_append_drop f rs, ← List.take_append_drop (m - f) (rs.drop f)]
    rw [List.drop_drop, show f + (m - f) = m by omega]
  rw [e, cnt_app, cnt_app]
  have a1 : cnt r (rs.take f) = 0 := by
    unfold cnt
    rw [List.countP_eq_zero]
    intro x hx
    obtain ⟨i, hi, ex⟩ := List.mem_iff_getElem.1 hx
    rw [List.length_take] at hi
    have := h1 i x (by omega) (by rw [List.getElem?_eq_getElem (by omega), ← ex, List.getElem_take])
    simp; omega
  have hl : ((rs.drop f).take (m - f)).length = m - f := by simp; omega
  have hc : List.countP (fun x => decide (cmpR x r = 0)) ((rs.drop f).take (m - f)) = ((rs.drop f).take (m - f)).length := by
    rw [List.countP_eq_length]
    intro x hx
    obtain ⟨i, hi, ex⟩ := List.mem_iff_getElem.1 hx
    rw [hl] at hi
    have := h2 (f + i) x (by omega) (by omega) (by rw [List.getElem?_eq_getElem (by omega), ← ex, List.getElem_take, List.getElem_drop])
    subst this
    exact decide_eq_true ((cmpR_zero _ _).2 rfl)
  have a2 : cnt r ((rs.drop f).take (m - f)) = m - f := by
    unfold cnt; rw [hc, hl]
  have a3 : cnt r (rs.drop m) = 0 := by
    unfold cnt
    rw [List.countP_eq_zero]
    intro x hx
    obtain ⟨i, hi, ex⟩ := List.mem_iff_getElem.1 hx
    rw [List.length_drop] at hi
    rw [List.getElem_drop] at ex
    have hmx : rs[m]? = some (rs[m]'(by omega)) := List.getElem?_eq_getElem (by omega)
    have hne := (h3 _ hmx).2
    have hge := h4 m _ hfm hmx
    have hmi : cmpR (rs[m]'(by omega)) x ≤ 0 := by
      by_cases hi0 : i = 0
      · subst hi0
        subst ex
        have := (cmpR_zero (rs[m]'(by omega)) (rs[m]'(by omega))).2 rfl
        simpa using (by omega : cmpR (rs[m]'(by omega)) (rs[m]'(by omega)) ≤ 0)
      · have := (List.pairwise_iff_getElem.1 h) m (m + i) (by omega) (by omega) (by omega)
        rwa [ex] at this
    have hx0 : cmpR x r ≠ 0 := by
      intro h0
      obtain rfl := (cmpR_zero x r).1 h0
      exact hne ((cmpR_zero _ _).1 (by omega))
    simpa using hx0
  omega
end Go.Proofs.YtfmjeggomphliaaGreatDoor.Tb
