/- What right labels, taints, resources, machines and groups are; the reference's functions answer so. No condition. -/
import Derived.Test.YtdpchfifaidamaaU2
import Derived.Test.YtdpchfifaidamaaV8
import Derived.Test.YtdpchfifaidamaaU0
namespace Go.Proofs.Ytdpchfifaidamaa.U
open Go.RowKit Go.Maps Go.Proofs.YtdpchfifaidamaaW.PrintWords Go.Proofs.Ytdpchfifaidamaa.B Go.Proofs.Ytdpchfifaidamaa.PLedgerTells
set_option linter.unusedVariables false
set_option linter.unusedSimpArgs false

/-! ### rounds -/
theorem Ev.pos {α : Type} {c : Prop} [Decidable c] {A B : Nat → Option α} {r : α} (h : c) (k : Ev A r) : Ev (fun n => if c then A n else B n) r := Ev.congr (fun n => if_pos h) k
theorem Ev.neg {α : Type} {c : Prop} [Decidable c] {A B : Nat → Option α} {r : α} (h : ¬ c) (k : Ev B r) : Ev (fun n => if c then A n else B n) r := Ev.congr (fun n => if_neg h) k
theorem Ev.none' {α : Type} (r : α) : Ev (fun _ => some r) r := Ev.now r
/-- a test that is asked, and what comes of it. -/
theorem Ev.ask {α : Type} {g : Nat → Option Bool} {b : Bool} {A B : Nat → Option α} {r : α} (h : Ev g b) (h1 : b = true → Ev A r) (h2 : b = false → Ev B r) : Ev (fun n => (g n).bind fun t => if t = true then A n else B n) r := by
  refine Ev.bind (f := fun n t => if t = true then A n else B n) h ?_
  cases b with
  | true => exact Ev.pos rfl (h1 rfl)
  | false => exact Ev.neg (by simp) (h2 rfl)
def allF (p : Nat → Bool) : Nat → Nat → Bool
  | 0, _ => true
  | d + 1, i => p i && allF p d (i + 1)
theorem allF_iff {p : Nat → Bool} : ∀ {d i : Nat}, allF p d i = true ↔ ∀ j, i ≤ j → j < i + d → p j = true := by
  intro d
  induction d with
  | zero => intro i; simp [allF]; intro j h1 h2; omega
  | succ d ih =>
    intro i
    simp only [allF, Bool.and_eq_true, ih]
    constructor
    · rintro ⟨h1, h2⟩ j hj hk
      rcases Nat.eq_or_lt_of_le hj with rfl | h
      · exact h1
      · exact h2 j h (by omega)
    · intro h
      exact ⟨h i (Nat.le_refl _) (by omega), fun j h1 h2 => h j (by omega) (by omega)⟩

/-! ### texts -/
abbrev big : Nat := 4611686018427387904
def maybeB (s : ByteArray) : Bool := s.toList.isEmpty || wordB s
def ltS (a b : ByteArray) : Bool := Op.bytesLess a.toList b.toList
theorem word_ev (s : ByteArray) (hs : s.size ≤ big) : Ev (fun k => triremeref01_Word.f k s) (wordB s) :=
  ⟨s.size + 6, fun k hk => by
    obtain ⟨m, rfl⟩ : ∃ m, k = m + s.size + 6 := ⟨k - s.size - 6, by omega⟩
    exact word_f s hs s.size 0 0 m (by omega) (Nat.le_refl _) (by omega)⟩
theorem maybe_of {s : ByteArray} {g : Nat → Option Bool} (h : Ev g (wordB s)) : Ev (fun k => if s.toList = ([] : List UInt8) then (some true) else ((g k).bind fun t => (some t))) (maybeB s) := by
  unfold maybeB
  by_cases e : s.toList = []
  · refine Ev.pos e ?_
    rw [e]
    exact Ev.now _
  · refine Ev.neg e ?_
    have : s.toList.isEmpty = false := by simpa using e
    rw [this, Bool.false_or]
    exact Ev.bind h (Ev.now _)
theorem maybe5_ev (s : ByteArray) (hs : s.size ≤ big) : Ev (fun k => triremeref05_maybe.f k s) (maybeB s) := maybe_of (word_ev s hs)
theorem maybe6_ev (s : ByteArray) (hs : s.size ≤ big) : Ev (fun k => triremeref06_maybe.f k s) (maybeB s) := maybe_of (word_ev s hs)
theorem maybe7_ev (s : ByteArray) (hs : s.size ≤ big) : Ev (fun k => triremeref07_maybe.f k s) (maybeB s) := maybe_of (word_ev s hs)
theorem drop_by (s : ByteArray) (i : Nat) (h : i < s.size) : ∃ c : UInt8, c.toNat = by' s i ∧ s.toList.drop i = c :: s.toList.drop (i + 1) := by
  have hl : i < s.toList.length := by rw [ByteArray.toList_eq]; simpa using h
  refine ⟨s.toList[i], ?_, List.drop_eq_getElem_cons hl⟩
  unfold by'
  congr 1
  simp [ByteArray.toList_eq, ByteArray.get!]
  rw [getElem!_pos]
theorem drop_nil (s : ByteArray) (i : Nat) (h : ¬ i < s.size) : s.toList.drop i = [] := by
  apply List.drop_eq_nil_of_le
  rw [ByteArray.toList_eq]
  simpa using h
theorem less_end (a b : ByteArray) (i : Nat) (h2 : i ≤ a.size) (hi : ¬ i < a.size) : Ev (fun k => triremeref05_Less.l0 k a b i) (Op.bytesLess (a.toList.drop i) (b.toList.drop i)) := by
  refine Ev.step (fun k => by rw [triremeref05_Less.l0]) (Ev.neg (by omega) ?_)
  refine Ev.step (fun k => by rw [triremeref05_Less.j1]) (Ev.neg (by simp) ?_)
  rw [drop_nil a i hi]
  have : Op.bytesLess [] (b.toList.drop i) = decide ((a.size : Int) < b.size) := by
    by_cases hb : i < b.size
    · obtain ⟨c, _, e⟩ := drop_by b i hb
      rw [e]
      simp [Op.bytesLess]
      omega
    · rw [drop_nil b i hb]
      simp [Op.bytesLess]
      omega
  rw [this]
  exact Ev.now _
theorem less_l0 (a b : ByteArray) (ha : a.size ≤ 4611686018427387904) (hb : b.size ≤ 4611686018427387904) : ∀ (d i : Nat), a.size ≤ i + d → i ≤ a.size → Ev (fun k => triremeref05_Less.l0 k a b i) (Op.bytesLess (a.toList.drop i) (b.toList.drop i)) := by
  intro d
  induction d with
  | zero => exact fun i h1 h2 => less_end a b i h2 (by omega)
  | succ d ih =>
    intro i h1 h2
    by_cases hi : i < a.size
    · obtain ⟨x, hx, ex⟩ := drop_by a i hi
      refine Ev.step (fun k => by rw [triremeref05_Less.l0]) (Ev.pos (by omega) ?_)
      by_cases hb : i < b.size
      · obtain ⟨y, hy, ey⟩ := drop_by b i hb
        rw [ex, ey]
        refine Ev.step (fun k => by rw [triremeref05_Less.j1]) (Ev.pos (by simpa using hb) (Ev.pos (by omega) (Ev.pos (by omega) (Ev.pos (by omega) ?_))))
        rw [bt_any, bt_any, ← hx, ← hy]
        by_cases he : x = y
        · subst he
          refine Ev.pos rfl ?_
          rw [w64 (by omega) (by omega)]
          have := ih (i + 1) (by omega) (by omega)
          simpa [Op.bytesLess] using this
        · have hne : x.toNat ≠ y.toNat := fun h => he (UInt8.toNat_inj.1 h)
          refine Ev.neg (by omega) ?_
          have hbe : (x == y) = false := by simpa using he
          have : Op.bytesLess (x :: a.toList.drop (i + 1)) (y :: b.toList.drop (i + 1)) = decide ((x.toNat : Int) < y.toNat) := by
            simp only [Op.bytesLess, hbe, Bool.false_and, Bool.or_false]
            rw [decide_eq_decide, UInt8.lt_iff_toNat_lt]
            omega
          rw [this]
          exact Ev.now _
      · refine Ev.step (fun k => by rw [triremeref05_Less.j1]) (Ev.neg (by simp; omega) ?_)
        rw [drop_nil b i hb]
        have : Op.bytesLess (a.toList.drop i) [] = decide ((a.size : Int) < b.size) := by
          rw [ex]
          simp [Op.bytesLess]
          omega
        rw [this]
        exact Ev.now _
    · exact less_end a b i h2 hi
theorem less_ev (a b : ByteArray) (ha : a.size ≤ big) (hb : b.size ≤ big) : Ev (fun k => triremeref05_Less.f k a b) (ltS a b) := by
  have := less_l0 a b ha hb a.size 0 (by omega) (by omega)
  simp only [List.drop_zero] at this
  exact this

/-! ### labels -/
def lab1 (l : List S83) (i : Nat) : Bool :=
  wordB (l.getD i z83).f0 && (maybeB (l.getD i z83).f1 && (decide (i = 0) || ltS (l.getD (i - 1) z83).f0 (l.getD i z83).f0))
def labelsB (l : List S83) : Bool := decide (l.length ≤ 16) && allF (lab1 l) l.length 0
structure OkL (l : List S83) : Prop where
  key : ∀ i, (l.getD i z83).f0.size ≤ 4611686018427387904
  val : ∀ i, (l.getD i z83).f1.size ≤ 4611686018427387904
theorem right5_l0 (l : List S83) (h : OkL l) (hl : l.length ≤ 16) : ∀ (d i : Nat), i + d = l.length → Ev (fun k => triremeref05_Right.l0 k l i) (allF (lab1 l) d i) := by
  intro d
  induction d with
  | zero =>
    intro i hd
    refine Ev.step (fun k => by rw [triremeref05_Right.l0]) ?_
    exact Ev.neg (by omega) (Ev.now _)
  | succ d ih =>
    intro i hd
    have next : Ev (fun k => triremeref05_Right.l0 k l (wrap64 ((i : Int) + 1))) (allF (lab1 l) d (i + 1)) := by
      rw [w64 (by omega) (by omega)]
      exact ih (i + 1) (by omega)
    have e : rd_T83 l (i : Int) = l.getD i z83 := by unfold rd_T83; simp
    refine Ev.step (fun k => by rw [triremeref05_Right.l0]) (Ev.pos (by omega) (Ev.pos (by omega) ?_))
    rw [e]
    unfold allF lab1
    refine Ev.ask (word_ev _ (h.key i)) (fun h1 => ?_) (fun h1 => ?_)
    · rw [h1, Bool.true_and]
      refine Ev.ask (maybe5_ev _ (h.val i)) (fun h2 => ?_) (fun h2 => ?_)
      · rw [h2, Bool.true_and]
        by_cases h0 : i = 0
        · refine Ev.neg (by omega) ?_
          rw [decide_eq_true h0, Bool.true_or, Bool.true_and]
          exact next
        · refine Ev.pos (by omega) ?_
          rw [w64 (n := (i : Int) - 1) (by omega) (by omega)]
          refine Ev.pos (by omega) (Ev.pos (by omega) ?_)
          have e2 : rd_T83 l ((i : Int) - 1) = l.getD (i - 1) z83 := by unfold rd_T83; congr 1; omega
          rw [e2, decide_eq_false h0, Bool.false_or]
          refine Ev.ask (less_ev _ _ (h.key _) (h.key _)) (fun h3 => ?_) (fun h3 => ?_)
          · rw [h3, Bool.true_and]
            exact next
          · rw [h3, Bool.false_and]
            exact Ev.now _
      · rw [h2, Bool.false_and, Bool.false_and]
        exact Ev.now _
    · rw [h1, Bool.false_and, Bool.false_and]
      exact Ev.now _
theorem right5_ev (l : List S83) (h : OkL l) : Ev (fun k => triremeref05_Right.f k l) (labelsB l) := by
  unfold labelsB triremeref05_Right.f
  by_cases hl : l.length ≤ 16
  · refine Ev.neg (by omega) ?_
    rw [decide_eq_true hl, Bool.true_and]
    exact right5_l0 l h hl l.length 0 (by omega)
  · refine Ev.pos (by omega) ?_
    rw [decide_eq_false hl, Bool.false_and]
    exact Ev.now _

/-! ### resources -/
def oneB (n : Int) : Bool := decide (0 ≤ n) && decide (n ≤ 1125899906842624)
def resB (r : S70) : Bool := oneB r.f0 && (oneB r.f1 && (oneB r.f2 && (oneB r.f3 && oneB r.f4)))
theorem one_f (n : Int) : triremeref04_one.f n = some (oneB n) := by
  unfold triremeref04_one.f oneB
  by_cases h : 0 ≤ n
  · rw [if_pos (by omega), decide_eq_true h, Bool.true_and]
  · rw [if_neg (by omega), decide_eq_false h, Bool.false_and]
theorem right4_f (r : S70) : triremeref04_Right.f r.f0 r.f1 r.f2 r.f3 r.f4 = some (resB r) := by
  unfold triremeref04_Right.f resB
  simp only [one_f, Option.bind_some]
  cases oneB r.f0 <;> cases oneB r.f1 <;> cases oneB r.f2 <;> cases oneB r.f3 <;> cases oneB r.f4 <;> rfl

/-! ### taints -/
def effB (n : Int) : Bool := decide (1 ≤ n) && decide (n ≤ 3)
def tnt2 (l : List S157) (i k : Nat) : Bool := !(decide ((l.getD k z157).f0 = (l.getD i z157).f0) && decide ((l.getD k z157).f2 = (l.getD i z157).f2))
def tnt1 (l : List S157) (i : Nat) : Bool := wordB (l.getD i z157).f0 && (maybeB (l.getD i z157).f1 && (effB (l.getD i z157).f2 && allF (tnt2 l i) i 0))
def taintsB (l : List S157) : Bool := decide (l.length ≤ 16) && allF (tnt1 l) l.length 0
structure OkT (l : List S157) : Prop where
  key : ∀ i, (l.getD i z157).f0.size ≤ 4611686018427387904
  val : ∀ i, (l.getD i z157).f1.size ≤ 4611686018427387904
theorem eff_f (n : Int) : triremeref06_effect.f n = some (effB n) := by
  unfold triremeref06_effect.f effB
  by_cases h : 1 ≤ n
  · rw [if_pos (by omega), decide_eq_true h, Bool.true_and]
  · rw [if_neg (by omega), decide_eq_false h, Bool.false_and]
theorem toList_eq {a b : ByteArray} : a.toList = b.toList ↔ a = b := by
  constructor
  · intro h
    rw [ByteArray.toList_eq, ByteArray.toList_eq] at h
    cases a; cases b
    simp at h
    rw [h]
  · rintro rfl; rfl
theorem right6_l1 (l : List S157) (hl : l.length ≤ 16) (i : Nat) (hi : i < l.length) (r : Bool) (next : Ev (fun k => triremeref06_Right.l0 k l (wrap64 ((i : Int) + 1))) r) :
    ∀ (d k : Nat), k + d = i → Ev (fun n => triremeref06_Right.l1 n l i k) (allF (tnt2 l i) d k && r) := by
  intro d
  induction d with
  | zero =>
    intro k hd
    refine Ev.step (fun n => by rw [triremeref06_Right.l1]) (Ev.neg (by omega) ?_)
    simpa [allF] using next
  | succ d ih =>
    intro k hd
    have e1 : rd_T157 l (i : Int) = l.getD i z157 := by unfold rd_T157; simp
    have e2 : rd_T157 l (k : Int) = l.getD k z157 := by unfold rd_T157; simp
    have nx : Ev (fun n => triremeref06_Right.l1 n l i (wrap64 ((k : Int) + 1))) (allF (tnt2 l i) d (k + 1) && r) := by
      rw [w64 (by omega) (by omega)]
      exact ih (k + 1) (by omega)
    refine Ev.step (fun n => by rw [triremeref06_Right.l1]) (Ev.pos (by omega) (Ev.pos (by omega) (Ev.pos (by omega) (Ev.pos (by omega) (Ev.pos (by omega) ?_)))))
    rw [e1, e2]
    unfold allF tnt2
    by_cases h1 : (l.getD k z157).f0 = (l.getD i z157).f0
    · refine Ev.pos (toList_eq.2 h1) ?_
      by_cases h2 : (l.getD k z157).f2 = (l.getD i z157).f2
      · refine Ev.pos h2 ?_
        rw [decide_eq_true h1, decide_eq_true h2]
        exact Ev.now _
      · refine Ev.neg h2 ?_
        rw [decide_eq_false h2, Bool.and_false, Bool.not_false, Bool.true_and]
        exact nx
    · refine Ev.neg (fun h => h1 (toList_eq.1 h)) ?_
      rw [decide_eq_false h1, Bool.false_and, Bool.not_false, Bool.true_and]
      exact nx
theorem right6_l0 (l : List S157) (h : OkT l) (hl : l.length ≤ 16) : ∀ (d i : Nat), i + d = l.length → Ev (fun k => triremeref06_Right.l0 k l i) (allF (tnt1 l) d i) := by
  intro d
  induction d with
  | zero =>
    intro i hd
    refine Ev.step (fun k => by rw [triremeref06_Right.l0]) ?_
    exact Ev.neg (by omega) (Ev.now _)
  | succ d ih =>
    intro i hd
    have next : Ev (fun k => triremeref06_Right.l0 k l (wrap64 ((i : Int) + 1))) (allF (tnt1 l) d (i + 1)) := by
      rw [w64 (by omega) (by omega)]
      exact ih (i + 1) (by omega)
    have no' : ∀ b, Ev (fun k => triremeref06_Right.j1 k l i true) (false && b) := fun b => by
      refine Ev.step (fun k => by rw [triremeref06_Right.j1]) ?_
      exact Ev.pos rfl (Ev.now _)
    have e : rd_T157 l (i : Int) = l.getD i z157 := by unfold rd_T157; simp
    refine Ev.step (fun k => by rw [triremeref06_Right.l0]) (Ev.pos (by omega) (Ev.pos (by omega) ?_))
    rw [e]
    unfold allF
    rw [show tnt1 l i = (wordB (l.getD i z157).f0 && (maybeB (l.getD i z157).f1 && (effB (l.getD i z157).f2 && allF (tnt2 l i) i 0))) from rfl]
    refine Ev.ask (word_ev _ (h.key i)) (fun h1 => ?_) (fun h1 => ?_)
    · rw [h1, Bool.true_and]
      refine Ev.ask (maybe6_ev _ (h.val i)) (fun h2 => ?_) (fun h2 => ?_)
      · rw [h2, Bool.true_and]
        simp only [eff_f, Option.bind_some]
        cases effB (l.getD i z157).f2 with
        | true =>
          rw [Bool.true_and]
          refine Ev.step (g := fun k => triremeref06_Right.j1 k l i (!true)) (fun k => by rw [triremeref06_Right.j1]) ?_
          exact Ev.neg (by simp) (right6_l1 l hl i (by omega) _ next i 0 (by omega))
        | false => exact no' _
      · rw [h2]
        exact no' _
    · rw [h1]
      exact no' _
theorem right6_ev (l : List S157) (h : OkT l) : Ev (fun k => triremeref06_Right.f k l) (taintsB l) := by
  unfold taintsB triremeref06_Right.f
  by_cases hl : l.length ≤ 16
  · refine Ev.neg (by omega) ?_
    rw [decide_eq_true hl, Bool.true_and]
    exact right6_l0 l h hl l.length 0 (by omega)
  · refine Ev.pos (by omega) ?_
    rw [decide_eq_false hl, Bool.false_and]
    exact Ev.now _

/-! ### machines, groups -/
def betB (n a b : Int) : Bool := decide (a ≤ n) && decide (n ≤ b)
theorem in_f (n a b : Int) : triremeref07_in.f n a b = some (betB n a b) := by
  unfold triremeref07_in.f betB
  by_cases h : a ≤ n
  · rw [if_pos (by omega), decide_eq_true h, Bool.true_and]
  · rw [if_neg (by omega), decide_eq_false h, Bool.false_and]
structure OkM (m : S74) : Prop where
  name : m.f0.size ≤ 4611686018427387904
  group : m.f1.size ≤ 4611686018427387904
  labels : OkL m.f3
  taints : OkT m.f4
structure OkG (g : S76) : Prop where
  name : g.f0.size ≤ 4611686018427387904
  like : OkM g.f3
def machB (m : S74) : Bool := maybeB m.f0 && (maybeB m.f1 && (resB m.f2 && (labelsB m.f3 && taintsB m.f4)))
def groupB (g : S76) : Bool := wordB g.f0 && (betB g.f2 1 200 && (betB g.f1 0 g.f2 && (betB g.f4 0 1125899906842624 && (betB g.f5 0 1000 && (machB g.f3 && (decide (g.f3.f0 = ⟨#[]⟩) && (decide (g.f3.f1 = g.f0) && g.f3.f5)))))))
theorem machine_ev (m : S74) (h : OkM m) : Ev (fun k => triremeref07_RightMachine.f k m.f0 m.f1 m.f2.f0 m.f2.f1 m.f2.f2 m.f2.f3 m.f2.f4 m.f3 m.f4 m.f5) (machB m) := by
  unfold triremeref07_RightMachine.f machB
  refine Ev.ask (maybe7_ev _ h.name) (fun h1 => ?_) (fun h1 => by rw [h1]; exact Ev.now _)
  rw [h1, Bool.true_and]
  refine Ev.ask (maybe7_ev _ h.group) (fun h1 => ?_) (fun h1 => by rw [h1]; exact Ev.now _)
  rw [h1, Bool.true_and]
  refine Ev.ask ⟨0, fun k _ => right4_f m.f2⟩ (fun h1 => ?_) (fun h1 => by rw [h1]; exact Ev.now _)
  rw [h1, Bool.true_and]
  refine Ev.ask (right5_ev _ h.labels) (fun h1 => ?_) (fun h1 => by rw [h1]; exact Ev.now _)
  rw [h1, Bool.true_and]
  exact Ev.bind (right6_ev _ h.taints) (Ev.now _)
theorem group_ev (g : S76) (h : OkG g) : Ev (fun k => triremeref07_RightGroup.f k g.f0 g.f1 g.f2 g.f3.f0 g.f3.f1 g.f3.f2.f0 g.f3.f2.f1 g.f3.f2.f2 g.f3.f2.f3 g.f3.f2.f4 g.f3.f3 g.f3.f4 g.f3.f5 g.f4 g.f5) (groupB g) := by
  unfold triremeref07_RightGroup.f groupB
  refine Ev.ask (word_ev _ h.name) (fun h1 => ?_) (fun h1 => by rw [h1]; exact Ev.now _)
  rw [h1, Bool.true_and]
  refine Ev.ask ⟨0, fun k _ => in_f _ _ _⟩ (fun h1 => ?_) (fun h1 => by rw [h1]; exact Ev.now _)
  rw [h1, Bool.true_and]
  refine Ev.ask ⟨0, fun k _ => in_f _ _ _⟩ (fun h1 => ?_) (fun h1 => by rw [h1]; exact Ev.now _)
  rw [h1, Bool.true_and]
  refine Ev.ask ⟨0, fun k _ => in_f _ _ _⟩ (fun h1 => ?_) (fun h1 => by rw [h1]; exact Ev.now _)
  rw [h1, Bool.true_and]
  refine Ev.ask ⟨0, fun k _ => in_f _ _ _⟩ (fun h1 => ?_) (fun h1 => by rw [h1]; exact Ev.now _)
  rw [h1, Bool.true_and]
  refine Ev.ask (machine_ev _ h.like) (fun h1 => ?_) (fun h1 => by rw [h1]; exact Ev.now _)
  rw [h1, Bool.true_and]
  by_cases e : g.f3.f0 = ⟨#[]⟩
  · refine Ev.pos (by rw [e]; simp [ByteArray.toList_eq]) ?_
    rw [decide_eq_true e, Bool.true_and]
    by_cases e2 : g.f3.f1 = g.f0
    · refine Ev.pos (toList_eq.2 e2) ?_
      rw [decide_eq_true e2, Bool.true_and]
      exact Ev.now _
    · refine Ev.neg (fun h => e2 (toList_eq.1 h)) ?_
      rw [decide_eq_false e2, Bool.false_and]
      exact Ev.now _
  · refine Ev.neg (fun h => e (toList_eq.1 (h.trans (by simp [ByteArray.toList_eq])))) ?_
    rw [decide_eq_false e, Bool.false_and]
    exact Ev.now _
/-- a name's first place from i on. -/
def findF (l : List S76) (s : ByteArray) : Nat → Nat → Int
  | 0, _ => -1
  | d + 1, i => if (l.getD i z76).f0 = s then (i : Int) else findF l s d (i + 1)
def findN (l : List S76) (s : ByteArray) : Int := findF l s l.length 0
def grp1 (l : List S76) (i : Nat) : Bool := groupB (l.getD i z76) && (decide ((l.getD i z76).f0.size ≤ 48) && decide (findN l (l.getD i z76).f0 = i))
def groupsB (l : List S76) : Bool := decide (l.length ≤ 16) && allF (grp1 l) l.length 0
theorem find_l0 (l : List S76) (hl : l.length ≤ 1000000) (s : ByteArray) : ∀ (d i : Nat), i + d = l.length → Ev (fun k => triremeref16_Find.l0 k l s i) (findF l s d i) := by
  intro d
  induction d with
  | zero =>
    intro i hd
    refine Ev.step (fun k => by rw [triremeref16_Find.l0]) ?_
    exact Ev.neg (by omega) (Ev.now _)
  | succ d ih =>
    intro i hd
    have e : rd_T76 l (i : Int) = l.getD i z76 := by unfold rd_T76; simp
    refine Ev.step (fun k => by rw [triremeref16_Find.l0]) (Ev.pos (by omega) (Ev.pos (by omega) ?_))
    rw [e]
    unfold findF
    by_cases h : (l.getD i z76).f0 = s
    · refine Ev.pos (toList_eq.2 h) ?_
      rw [if_pos h]
      exact Ev.now _
    · refine Ev.neg (fun h' => h (toList_eq.1 h')) ?_
      rw [if_neg h, w64 (by omega) (by omega)]
      exact ih (i + 1) (by omega)
theorem find_ev (l : List S76) (hl : l.length ≤ 1000000) (s : ByteArray) : Ev (fun k => triremeref16_Find.f k l s) (findN l s) := find_l0 l hl s l.length 0 (by omega)
theorem gfind_l0 (l : List S76) (hl : l.length ≤ 1000000) (s : ByteArray) : ∀ (d i : Nat), i + d = l.length → Ev (fun k => group_Find.l0 k s l (l.length : Int) i) (findF l s d i) := by
  intro d
  induction d with
  | zero =>
    intro i hd
    refine Ev.step (fun k => by rw [group_Find.l0]) ?_
    exact Ev.neg (by omega) (Ev.now _)
  | succ d ih =>
    intro i hd
    have e : rd_T76 l (i : Int) = l.getD i z76 := by unfold rd_T76; simp
    refine Ev.step (fun k => by rw [group_Find.l0]) (Ev.pos (by omega) (Ev.pos (by omega) (Ev.pos (by omega) ?_)))
    rw [e]
    unfold findF
    by_cases h : (l.getD i z76).f0 = s
    · refine Ev.pos (toList_eq.2 h) ?_
      rw [if_pos h]
      exact Ev.now _
    · refine Ev.neg (fun h' => h (toList_eq.1 h')) ?_
      rw [if_neg h, w64 (by omega) (by omega)]
      exact ih (i + 1) (by omega)
theorem gfind_ev (l : List S76) (hl : l.length ≤ 1000000) (s : ByteArray) : Ev (fun k => group_Find.f k l s) (findN l s) := gfind_l0 l hl s l.length 0 (by omega)
structure OkGs (l : List S76) : Prop where
  each : ∀ i, OkG (l.getD i z76)
theorem right16_l0 (l : List S76) (h : OkGs l) (hl : l.length ≤ 16) : ∀ (d i : Nat), i + d = l.length → Ev (fun k => triremeref16_Right.l0 k l i) (allF (grp1 l) d i) := by
  intro d
  induction d with
  | zero =>
    intro i hd
    refine Ev.step (fun k => by rw [triremeref16_Right.l0]) ?_
    exact Ev.neg (by omega) (Ev.now _)
  | succ d ih =>
    intro i hd
    have next : Ev (fun k => triremeref16_Right.l0 k l (wrap64 ((i : Int) + 1))) (allF (grp1 l) d (i + 1)) := by
      rw [w64 (by omega) (by omega)]
      exact ih (i + 1) (by omega)
    have e : rd_T76 l (i : Int) = l.getD i z76 := by unfold rd_T76; simp
    refine Ev.step (fun k => by rw [triremeref16_Right.l0]) (Ev.pos (by omega) (Ev.pos (by omega) ?_))
    rw [e]
    unfold allF
    rw [show grp1 l i = (groupB (l.getD i z76) && (decide ((l.getD i z76).f0.size ≤ 48) && decide (findN l (l.getD i z76).f0 = i))) from rfl]
    refine Ev.ask (group_ev _ (h.each i)) (fun h1 => ?_) (fun h1 => by rw [h1]; exact Ev.now _)
    rw [h1, Bool.true_and]
    by_cases h2 : (l.getD i z76).f0.size ≤ 48
    · refine Ev.neg (by omega) ?_
      rw [decide_eq_true h2, Bool.true_and]
      refine Ev.bind (find_ev l (by omega) _) ?_
      by_cases h3 : findN l (l.getD i z76).f0 = i
      · refine Ev.pos h3 ?_
        rw [decide_eq_true h3, Bool.true_and]
        exact next
      · refine Ev.neg h3 ?_
        rw [decide_eq_false h3, Bool.false_and]
        exact Ev.now _
    · refine Ev.pos (by omega) ?_
      rw [decide_eq_false h2]
      exact Ev.now _
theorem right16_ev (l : List S76) (h : OkGs l) : Ev (fun k => triremeref16_Right.f k l) (groupsB l) := by
  unfold groupsB triremeref16_Right.f
  by_cases hl : l.length ≤ 16
  · refine Ev.neg (by omega) ?_
    rw [decide_eq_true hl, Bool.true_and]
    exact right16_l0 l h hl l.length 0 (by omega)
  · refine Ev.pos (by omega) ?_
    rw [decide_eq_false hl, Bool.false_and]
    exact Ev.now _
end Go.Proofs.Ytdpchfifaidamaa.U
