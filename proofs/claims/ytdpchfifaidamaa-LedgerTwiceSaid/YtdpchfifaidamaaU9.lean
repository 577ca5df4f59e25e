/- What light groups and light lists are; the reference's functions answer so. No condition. -/
import Derived.Test.YtdpchfifaidamaaU7
import Derived.Test.YtdpchfifaidamaaU8
namespace Go.Proofs.Ytdpchfifaidamaa.U
open Go.RowKit Go.Maps Go.Proofs.YtdpchfifaidamaaW.PrintWords Go.Proofs.Ytdpchfifaidamaa.B Go.Proofs.Ytdpchfifaidamaa.PLedgerTells
set_option linter.unusedVariables false
set_option linter.unusedSimpArgs false

def small (s : ByteArray) : Bool := decide (s.size ≤ 300)
def lt83 (l : List S83) (i : Nat) : Bool := small (l.getD i z83).f0 && small (l.getD i z83).f1
def light5B (l : List S83) : Bool := decide (l.length ≤ 40) && allF (lt83 l) l.length 0
def lt157 (l : List S157) (i : Nat) : Bool := small (l.getD i z157).f0 && small (l.getD i z157).f1
def light6B (l : List S157) : Bool := decide (l.length ≤ 40) && allF (lt157 l) l.length 0
def lightMB (m : S74) : Bool := small m.f0 && (small m.f1 && (light5B m.f3 && light6B m.f4))
def lt76 (l : List S76) (i : Nat) : Bool := small (l.getD i z76).f0 && lightMB (l.getD i z76).f3
def lightB (l : List S76) : Bool := decide (l.length ≤ 20) && allF (lt76 l) l.length 0
theorem light5_l0 (l : List S83) (hl : l.length ≤ 40) : ∀ (d i : Nat), i + d = l.length → Ev (fun k => triremeref05_Light.l0 k l i) (allF (lt83 l) d i) := by
  intro d
  induction d with
  | zero =>
    intro i hd
    refine Ev.step (fun k => by rw [triremeref05_Light.l0]) ?_
    exact Ev.neg (by omega) (Ev.now _)
  | succ d ih =>
    intro i hd
    have e : rd_T83 l (i : Int) = l.getD i z83 := by unfold rd_T83; simp
    refine Ev.step (fun k => by rw [triremeref05_Light.l0]) (Ev.pos (by omega) (Ev.pos (by omega) ?_))
    rw [e]
    unfold allF
    rw [show lt83 l i = (small (l.getD i z83).f0 && small (l.getD i z83).f1) from rfl]
    unfold small
    by_cases h1 : (l.getD i z83).f0.size ≤ 300
    · refine Ev.neg (by omega) ?_
      rw [decide_eq_true h1, Bool.true_and]
      by_cases h2 : (l.getD i z83).f1.size ≤ 300
      · refine Ev.neg (by omega) ?_
        rw [decide_eq_true h2, Bool.true_and, w64 (by omega) (by omega)]
        exact ih (i + 1) (by omega)
      · refine Ev.pos (by omega) ?_
        rw [decide_eq_false h2, Bool.false_and]
        exact Ev.now _
    · refine Ev.pos (by omega) ?_
      rw [decide_eq_false h1, Bool.false_and, Bool.false_and]
      exact Ev.now _
theorem light5_ev (l : List S83) : Ev (fun k => triremeref05_Light.f k l) (light5B l) := by
  unfold triremeref05_Light.f light5B
  by_cases h : l.length ≤ 40
  · refine Ev.neg (by omega) ?_
    rw [decide_eq_true h, Bool.true_and]
    exact light5_l0 l h l.length 0 (by omega)
  · refine Ev.pos (by omega) ?_
    rw [decide_eq_false h, Bool.false_and]
    exact Ev.now _
theorem light6_l1 (l : List S157) (hl : l.length ≤ 40) : ∀ (d i : Nat), i + d = l.length → Ev (fun k => triremeref06_Light.l1 k l i) (allF (lt157 l) d i) := by
  intro d
  induction d with
  | zero =>
    intro i hd
    refine Ev.step (fun k => by rw [triremeref06_Light.l1]) ?_
    exact Ev.neg (by omega) (Ev.now _)
  | succ d ih =>
    intro i hd
    have e : rd_T157 l (i : Int) = l.getD i z157 := by unfold rd_T157; simp
    refine Ev.step (fun k => by rw [triremeref06_Light.l1]) (Ev.pos (by omega) (Ev.pos (by omega) ?_))
    rw [e]
    unfold allF
    rw [show lt157 l i = (small (l.getD i z157).f0 && small (l.getD i z157).f1) from rfl]
    unfold small
    by_cases h1 : (l.getD i z157).f0.size ≤ 300
    · refine Ev.neg (by omega) ?_
      rw [decide_eq_true h1, Bool.true_and]
      by_cases h2 : (l.getD i z157).f1.size ≤ 300
      · refine Ev.neg (by omega) ?_
        rw [decide_eq_true h2, Bool.true_and, w64 (by omega) (by omega)]
        exact ih (i + 1) (by omega)
      · refine Ev.pos (by omega) ?_
        rw [decide_eq_false h2, Bool.false_and]
        exact Ev.now _
    · refine Ev.pos (by omega) ?_
      rw [decide_eq_false h1, Bool.false_and, Bool.false_and]
      exact Ev.now _
theorem light6_ev (l : List S157) : Ev (fun k => triremeref06_Light.f k [] l) (light6B l) := by
  unfold triremeref06_Light.f light6B
  refine Ev.neg (by simp) ?_
  by_cases h : l.length ≤ 40
  · rw [decide_eq_true h, Bool.true_and, show decide ((l.length : Int) > 40) = false from decide_eq_false (by omega)]
    refine Ev.step (fun k => by rw [triremeref06_Light.j0]) (Ev.neg (by simp) ?_)
    refine Ev.step (fun k => by rw [triremeref06_Light.l0]) (Ev.neg (by simp) ?_)
    exact light6_l1 l h l.length 0 (by omega)
  · rw [decide_eq_false h, Bool.false_and, show decide ((l.length : Int) > 40) = true from decide_eq_true (by omega)]
    exact Ev.step (fun k => by rw [triremeref06_Light.j0]) (Ev.pos rfl (Ev.now _))
theorem lightM_ev (m : S74) : Ev (fun k => triremeref07_LightMachine.f k m.f0 m.f1 m.f2.f0 m.f2.f1 m.f2.f2 m.f2.f3 m.f2.f4 m.f3 m.f4 m.f5) (lightMB m) := by
  unfold triremeref07_LightMachine.f lightMB small
  by_cases h0 : m.f0.size ≤ 300
  · refine Ev.pos (by omega) ?_
    rw [decide_eq_true h0, Bool.true_and]
    by_cases h1 : m.f1.size ≤ 300
    · refine Ev.pos (by omega) ?_
      rw [decide_eq_true h1, Bool.true_and]
      refine Ev.ask (light5_ev m.f3) (fun h2 => ?_) (fun h2 => by rw [h2]; exact Ev.now _)
      rw [h2, Bool.true_and]
      exact Ev.bind (light6_ev m.f4) (Ev.now _)
    · refine Ev.neg (by omega) ?_
      rw [decide_eq_false h1, Bool.false_and]
      exact Ev.now _
  · refine Ev.neg (by omega) ?_
    rw [decide_eq_false h0, Bool.false_and]
    exact Ev.now _
theorem light16_l0 (l : List S76) (hl : l.length ≤ 20) : ∀ (d i : Nat), i + d = l.length → Ev (fun k => triremeref16_Light.l0 k l i) (allF (lt76 l) d i) := by
  intro d
  induction d with
  | zero =>
    intro i hd
    refine Ev.step (fun k => by rw [triremeref16_Light.l0]) ?_
    exact Ev.neg (by omega) (Ev.now _)
  | succ d ih =>
    intro i hd
    have e : rd_T76 l (i : Int) = l.getD i z76 := by unfold rd_T76; simp
    refine Ev.step (fun k => by rw [triremeref16_Light.l0]) (Ev.pos (by omega) (Ev.pos (by omega) ?_))
    rw [e]
    unfold allF
    rw [show lt76 l i = (small (l.getD i z76).f0 && lightMB (l.getD i z76).f3) from rfl]
    unfold small
    by_cases h1 : (l.getD i z76).f0.size ≤ 300
    · refine Ev.neg (by omega) ?_
      rw [decide_eq_true h1, Bool.true_and]
      refine Ev.ask (lightM_ev _) (fun h2 => ?_) (fun h2 => by rw [h2]; exact Ev.now _)
      rw [h2, Bool.true_and, w64 (by omega) (by omega)]
      exact ih (i + 1) (by omega)
    · refine Ev.pos (by omega) ?_
      rw [decide_eq_false h1, Bool.false_and, Bool.false_and]
      exact Ev.now _
theorem light16_ev (l : List S76) : Ev (fun k => triremeref16_Light.f k l) (lightB l) := by
  unfold triremeref16_Light.f lightB
  by_cases h : l.length ≤ 20
  · refine Ev.neg (by omega) ?_
    rw [decide_eq_true h, Bool.true_and]
    exact light16_l0 l h l.length 0 (by omega)
  · refine Ev.pos (by omega) ?_
    rw [decide_eq_false h, Bool.false_and]
    exact Ev.now _
theorem light_calls (w : World) (A : Option Addr) (c : Nat) (l : List S76) (hr : Kd.C k76 w A l.length l) (hc : l.length ≤ c) :
    Calls Try.prog 46 #[.slice A l.length c] w fun e w' => e = .returned (.bool (lightB l)) ∧ Fr no w w' := by
  obtain ⟨k, hk⟩ := (light16_ev l).rounds
  exact (triremeref16_Light.calls k A c l (lightB l) w hr hc hk).mono fun e w' h => ⟨h.1, Fr.of_below h.2 _⟩
/-! ### lists of machines -/
def lt135 (l : List S135) (i : Nat) : Bool := small (l.getD i z135).f1 && small (l.getD i z135).f0
def ltI (l : List S135) : Bool := decide (l.length ≤ 60) && allF (lt135 l) l.length 0
def ltRow (L : List (List S135)) (i : Nat) : Bool := ltI (L.getD i [])
def lightIB (L : List (List S135)) : Bool := decide (L.length ≤ 30) && allF (ltRow L) L.length 0
theorem light35_l1 (L : List (List S135)) (i : Nat) (hL : L.length ≤ 30) (hi : i < L.length) (rest : Bool) (hn : Ev (fun k => triremelaw35_light.l0 k L ((i + 1 : Nat) : Int)) rest) (hl : (L.getD i []).length ≤ 60) :
    ∀ (d j : Nat), j + d = (L.getD i []).length → Ev (fun k => triremelaw35_light.l1 k L i j) (allF (lt135 (L.getD i [])) d j && rest) := by
  intro d
  have el : rd_L12 L (i : Int) = L.getD i [] := by unfold rd_L12; simp
  induction d with
  | zero =>
    intro j hd
    refine Ev.step (fun k => by rw [triremelaw35_light.l1]) (Ev.pos (by omega) (Ev.pos (by omega) ?_))
    rw [el]
    refine Ev.neg (by omega) ?_
    rw [w64 (by omega) (by omega)]
    rw [show allF (lt135 (L.getD i [])) 0 j = true from rfl, Bool.true_and]
    exact hn
  | succ d ih =>
    intro j hd
    refine Ev.step (fun k => by rw [triremelaw35_light.l1]) (Ev.pos (by omega) (Ev.pos (by omega) ?_))
    rw [el]
    obtain ⟨l, hll⟩ : ∃ l, l = L.getD i [] := ⟨_, rfl⟩
    rw [← hll] at hl hd ih ⊢
    have e : rd_T135 l (j : Int) = l.getD j z135 := by unfold rd_T135; simp
    refine Ev.pos (by omega) (Ev.pos (by omega) ?_)
    rw [e]
    unfold allF
    rw [show lt135 l j = (small (l.getD j z135).f1 && small (l.getD j z135).f0) from rfl]
    unfold small
    by_cases h1 : (l.getD j z135).f1.size ≤ 300
    · refine Ev.neg (by omega) ?_
      rw [decide_eq_true h1, Bool.true_and]
      by_cases h2 : (l.getD j z135).f0.size ≤ 300
      · refine Ev.neg (by omega) ?_
        rw [decide_eq_true h2, Bool.true_and, w64 (by omega) (by omega)]
        exact ih (j + 1) (by omega)
      · refine Ev.pos (by omega) ?_
        rw [decide_eq_false h2, Bool.false_and, Bool.false_and]
        exact Ev.now _
    · refine Ev.pos (by omega) ?_
      rw [decide_eq_false h1, Bool.false_and, Bool.false_and, Bool.false_and]
      exact Ev.now _
theorem light35_l0 (L : List (List S135)) (hL : L.length ≤ 30) : ∀ (d i : Nat), i + d = L.length → Ev (fun k => triremelaw35_light.l0 k L (i : Nat)) (allF (ltRow L) d i) := by
  intro d
  induction d with
  | zero =>
    intro i hd
    refine Ev.step (fun k => by rw [triremelaw35_light.l0]) ?_
    exact Ev.neg (by omega) (Ev.now _)
  | succ d ih =>
    intro i hd
    have el : rd_L12 L (i : Int) = L.getD i [] := by unfold rd_L12; simp
    refine Ev.step (fun k => by rw [triremelaw35_light.l0]) (Ev.pos (by omega) (Ev.pos (by omega) ?_))
    rw [el]
    unfold allF
    rw [show ltRow L i = (decide ((L.getD i []).length ≤ 60) && allF (lt135 (L.getD i [])) (L.getD i []).length 0) from rfl]
    by_cases h1 : (L.getD i []).length ≤ 60
    · refine Ev.neg (by omega) ?_
      rw [decide_eq_true h1, Bool.true_and]
      exact light35_l1 L i hL (by omega) _ (ih (i + 1) (by omega)) h1 (L.getD i []).length 0 (by omega)
    · refine Ev.pos (by omega) ?_
      rw [decide_eq_false h1, Bool.false_and, Bool.false_and]
      exact Ev.now _
theorem light35_ev (L : List (List S135)) : Ev (fun k => triremelaw35_light.f k L) (lightIB L) := by
  unfold triremelaw35_light.f lightIB
  by_cases h : L.length ≤ 30
  · refine Ev.neg (by omega) ?_
    rw [decide_eq_true h, Bool.true_and]
    exact light35_l0 L h L.length 0 (by omega)
  · refine Ev.pos (by omega) ?_
    rw [decide_eq_false h, Bool.false_and]
    exact Ev.now _
theorem ilight_calls (w : World) (A : Option Addr) (c : Nat) (L : List (List S135)) (hr : Kd.C (Kd.slice 135 k135) w A L.length L) (hc : L.length ≤ c) :
    Calls Try.prog 53 #[.slice A L.length c] w fun e w' => e = .returned (.bool (lightIB L)) ∧ Fr no w w' := by
  obtain ⟨k, hk⟩ := (light35_ev L).rounds
  exact calls_drawn (triremelaw35_light.calls k A c L (lightIB L) w hr hc hk)
/-! ### what follows from light -/
theorem small_iff {s : ByteArray} : small s = true ↔ s.size ≤ 300 := by unfold small; simp
theorem okL_of {l : List S83} (h : light5B l = true) : OkL l ∧ l.length ≤ 40 := by
  unfold light5B at h
  rw [Bool.and_eq_true, decide_eq_true_eq, allF_iff] at h
  have f : ∀ i, (l.getD i z83).f0.size ≤ 300 ∧ (l.getD i z83).f1.size ≤ 300 := fun i => by
    by_cases hi : i < l.length
    · have := h.2 i (by omega) (by omega)
      unfold lt83 at this
      rw [Bool.and_eq_true, small_iff, small_iff] at this
      exact this
    · rw [show l.getD i z83 = z83 from by rw [List.getD_eq_getElem?_getD, List.getElem?_eq_none (by omega)]; rfl]
      exact ⟨by decide, by decide⟩
  exact ⟨⟨fun i => by have := (f i).1; omega, fun i => by have := (f i).2; omega⟩, h.1⟩
theorem okT_of {l : List S157} (h : light6B l = true) : OkT l ∧ l.length ≤ 40 := by
  unfold light6B at h
  rw [Bool.and_eq_true, decide_eq_true_eq, allF_iff] at h
  have f : ∀ i, (l.getD i z157).f0.size ≤ 300 ∧ (l.getD i z157).f1.size ≤ 300 := fun i => by
    by_cases hi : i < l.length
    · have := h.2 i (by omega) (by omega)
      unfold lt157 at this
      rw [Bool.and_eq_true, small_iff, small_iff] at this
      exact this
    · rw [show l.getD i z157 = z157 from by rw [List.getD_eq_getElem?_getD, List.getElem?_eq_none (by omega)]; rfl]
      exact ⟨by decide, by decide⟩
  exact ⟨⟨fun i => by have := (f i).1; omega, fun i => by have := (f i).2; omega⟩, h.1⟩
theorem okA_zero : OkA z76 := ⟨⟨by decide, ⟨by decide, by decide, ⟨fun i => (by simp [z83, z76, z74]; decide), fun i => (by simp [z83, z76, z74]; decide)⟩, ⟨fun i => (by simp [z157, z76, z74]; decide), fun i => (by simp [z157, z76, z74]; decide)⟩⟩⟩, by decide, by decide⟩
theorem okA_of {l : List S76} (h : lightB l = true) : (∀ i, OkA (l.getD i z76)) ∧ l.length ≤ 20 ∧ ∀ i, (l.getD i z76).f0.size ≤ 300 := by
  unfold lightB at h
  rw [Bool.and_eq_true, decide_eq_true_eq, allF_iff] at h
  have f : ∀ i, OkA (l.getD i z76) ∧ (l.getD i z76).f0.size ≤ 300 := fun i => by
    by_cases hi : i < l.length
    · have := h.2 i (by omega) (by omega)
      unfold lt76 lightMB at this
      simp only [Bool.and_eq_true, small_iff] at this
      obtain ⟨h0, h1, h2, h3, h4⟩ := this
      have a := okL_of h3
      have b := okT_of h4
      exact ⟨⟨⟨by omega, ⟨by omega, by omega, a.1, b.1⟩⟩, by have := a.2; omega, by have := b.2; omega⟩, h0⟩
    · rw [show l.getD i z76 = z76 from by rw [List.getD_eq_getElem?_getD, List.getElem?_eq_none (by omega)]; rfl]
      exact ⟨okA_zero, by decide⟩
  exact ⟨fun i => (f i).1, h.1, fun i => (f i).2⟩
theorem rowI_of {l : List S135} (h : ltI l = true) : l.length ≤ 60 ∧ ∀ i, (l.getD i z135).f1.size ≤ 300 := by
  unfold ltI at h
  rw [Bool.and_eq_true, decide_eq_true_eq, allF_iff] at h
  refine ⟨h.1, fun i => ?_⟩
  by_cases hi : i < l.length
  · have := h.2 i (by omega) (by omega)
    unfold lt135 at this
    rw [Bool.and_eq_true, small_iff, small_iff] at this
    exact this.1
  · rw [show l.getD i z135 = z135 from by rw [List.getD_eq_getElem?_getD, List.getElem?_eq_none (by omega)]; rfl]
    exact (by decide)
theorem lists_of {L : List (List S135)} (h : lightIB L = true) : L.length ≤ 30 ∧ ∀ i, ltI (L.getD i []) = true := by
  unfold lightIB at h
  rw [Bool.and_eq_true, decide_eq_true_eq, allF_iff] at h
  refine ⟨h.1, fun i => ?_⟩
  by_cases hi : i < L.length
  · exact h.2 i (by omega) (by omega)
  · rw [show L.getD i [] = [] from by rw [List.getD_eq_getElem?_getD, List.getElem?_eq_none (by omega)]; rfl]
    rfl
end Go.Proofs.Ytdpchfifaidamaa.U
