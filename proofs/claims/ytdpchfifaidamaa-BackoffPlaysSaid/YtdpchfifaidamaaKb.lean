/- Contracts of the table of notes of failures: what it is, time, there, of, Until, Length, May, Groups. No condition. -/
import Derived.Test.YtdpchfifaidamaaKr
import Derived.Handy
namespace Go.Proofs.Ytdpchfifaidamaa.K
open Go.RowKit Go.Maps Go.Proofs.YtdpchfifaidamaaW.PrintWords Go.Proofs.Ytdpchfifaidamaa.B
set_option linter.unusedVariables false
set_option linter.unusedSimpArgs false

structure N3 where
  group : ByteArray
  len : Int
  til : Int
deriving DecidableEq
instance : Inhabited N3 := ⟨⟨⟨#[]⟩, 0, 0⟩⟩
def E120 : ET N3 where
  s := 52
  e := 120
  sz := 3
  bytes := 32
  zero := .agg #[.string ⟨#[]⟩, .int .i64 0, .int .i64 0]
  cells := fun a => [.string a.group, .int .i64 a.len, .int .i64 a.til]
  len := fun _ => rfl
  one := fun a u hu => by simp at hu; rcases hu with rfl | rfl | rfl <;> rfl
  under := Try.underlying52
  info := by kernel_rfl
  zs := rfl
  pos := by decide
  bpos := by decide
def at3 (L : List N3) (s : ByteArray) : Option N3 := L.find? (fun n => decide (n.group = s))
def note (L : List N3) (s : ByteArray) : Option NP := (at3 L s).map (fun n => (n.len, n.til))
def SB (g b : Nat) (v : Value) (k : Nat) : Prop := k = g ∨ k = b ∨ v.ownBlock = some k
def SR (g : Nat) (v : Value) (k : Nat) : Prop := k = g ∨ v.ownBlock = some k
structure Par (F M R : Int) : Prop where
  f1 : 1 ≤ F
  fm : F ≤ M
  m1 : M ≤ 1099511627776
  r1 : 1 ≤ R
  r2 : R ≤ 1099511627776
structure BT (w : World) (g b : Nat) (v : Value) (base n : Nat) (L : List N3) (F M R : Int) : Prop where
  blk : w.heap[g]? = some (.cells #[.map (some b), v, .int .i64 F, .int .i64 M, .int .i64 R] 115 (0, 0))
  own : SRow w base v (L.map N3.group)
  map : MapIs2 w b n (note L)
  base_le : base ≤ w.heap.size
  par : Par F M R
structure BR (w : World) (g : Nat) (v : Value) (base : Nat) (L : List N3) (F M R : Int) : Prop where
  blk : w.heap[g]? = some (.cells #[v, .int .i64 F, .int .i64 M, .int .i64 R] 54 (0, 0))
  own : EOwn E120 w base v L
  base_le : base ≤ w.heap.size
section
variable {w w' : World} {g b : Nat} {v : Value} {base n : Nat} {L : List N3} {F M R : Int}
theorem BT.gb (h : BT w g b v base n L F M R) : g ≠ b := h.map.cells_ne h.blk
theorem BT.gv (h : BT w g b v base n L F M R) : v.ownBlock ≠ some g := by
  intro e
  obtain ⟨cs, hc⟩ := h.own.cells e
  rw [h.blk] at hc
  cases hc
theorem BT.bv (h : BT w g b v base n L F M R) : v.ownBlock ≠ some b := by
  intro e
  obtain ⟨cs, hc⟩ := h.own.cells e
  exact h.map.cells_ne hc rfl
theorem BT.fr {S : Nat → Prop} (h : BT w g b v base n L F M R) (hk : Fr S w w') (hg : ¬ S g) (hb : ¬ S b) (hv : ∀ k, v.ownBlock = some k → ¬ S k) : BT w' g b v base n L F M R :=
  ⟨blk_fr h.blk hk hg, h.own.fr hk hv, h.map.fr hk hb, Nat.le_trans h.base_le hk.size, h.par⟩
theorem BT.no (h : BT w g b v base n L F M R) (hk : Fr no w w') : BT w' g b v base n L F M R := h.fr hk (fun h => h) (fun h => h) (fun _ _ h => h)
theorem BT.cell (h : BT w g b v base n L F M R) : w.cell? ⟨g, 0, none⟩ = some (.map (some b)) ∧ w.cell? ⟨g, 1, none⟩ = some v ∧ w.cell? ⟨g, 2, none⟩ = some (.int .i64 F) ∧ w.cell? ⟨g, 3, none⟩ = some (.int .i64 M) ∧ w.cell? ⟨g, 4, none⟩ = some (.int .i64 R) :=
  ⟨(blk_cell h.blk 0).trans rfl, (blk_cell h.blk 1).trans rfl, (blk_cell h.blk 2).trans rfl, (blk_cell h.blk 3).trans rfl, (blk_cell h.blk 4).trans rfl⟩
theorem BR.gv (h : BR w g v base L F M R) : v.ownBlock ≠ some g := by
  intro e
  obtain ⟨cs, hc⟩ := h.own.cells e
  rw [h.blk] at hc
  cases hc
theorem BR.fr {S : Nat → Prop} (h : BR w g v base L F M R) (hk : Fr S w w') (hg : ¬ S g) (hv : ∀ k, v.ownBlock = some k → ¬ S k) : BR w' g v base L F M R :=
  ⟨blk_fr h.blk hk hg, h.own.fr hk hv, Nat.le_trans h.base_le hk.size⟩
theorem BR.no (h : BR w g v base L F M R) (hk : Fr no w w') : BR w' g v base L F M R := h.fr hk (fun h => h) (fun _ _ h => h)
theorem BR.cell (h : BR w g v base L F M R) : w.cell? ⟨g, 0, none⟩ = some v ∧ w.cell? ⟨g, 1, none⟩ = some (.int .i64 F) ∧ w.cell? ⟨g, 2, none⟩ = some (.int .i64 M) ∧ w.cell? ⟨g, 3, none⟩ = some (.int .i64 R) :=
  ⟨(blk_cell h.blk 0).trans rfl, (blk_cell h.blk 1).trans rfl, (blk_cell h.blk 2).trans rfl, (blk_cell h.blk 3).trans rfl⟩
/-- the two tables lie apart. -/
theorem BR.beside {gr : Nat} {vr : Value} {Lr : List N3} {Fr' Mr Rr : Int} (h : BR w gr vr base Lr Fr' Mr Rr) (k : BT w g b v base n L F M R) (hk : Fr (SB g b v) w w') : BR w' gr vr base Lr Fr' Mr Rr := by
  refine h.fr hk ?_ ?_
  · rintro (e | e | e)
    · have h1 := h.blk; rw [e, k.blk] at h1; cases h1
    · exact k.map.cells_ne h.blk e
    · obtain ⟨cs, hc⟩ := k.own.cells e
      rw [h.blk] at hc; cases hc
  · intro j hj
    obtain ⟨cs, hc⟩ := h.own.cells hj
    rintro (e | e | e)
    · rw [e, k.blk] at hc; cases hc
    · exact k.map.cells_ne hc e
    · obtain ⟨cs', hc'⟩ := k.own.cells e
      rw [hc] at hc'; cases hc'
theorem BT.beside {gr : Nat} {vr : Value} {Lr : List N3} {Fr' Mr Rr : Int} (k : BT w g b v base n L F M R) (h : BR w gr vr base Lr Fr' Mr Rr) (hk : Fr (SR gr vr) w w') : BT w' g b v base n L F M R := by
  refine k.fr hk ?_ ?_ ?_
  · rintro (e | e)
    · have h1 := h.blk; rw [← e, k.blk] at h1; cases h1
    · obtain ⟨cs, hc⟩ := h.own.cells e
      rw [k.blk] at hc; cases hc
  · rintro (e | e)
    · exact k.map.cells_ne h.blk e.symm
    · obtain ⟨cs, hc⟩ := h.own.cells e
      exact k.map.cells_ne hc rfl
  · intro j hj
    obtain ⟨cs, hc⟩ := k.own.cells hj
    rintro (e | e)
    · rw [e, h.blk] at hc; cases hc
    · obtain ⟨cs', hc'⟩ := h.own.cells e
      rw [hc] at hc'; cases hc'
end

def timeB (n : Int) : Bool := decide (0 ≤ n) && decide (n ≤ 1099511627776)
theorem time_calls (n : Int) (w : World) : Calls Try.prog 80 #[.int .i64 n] w fun e w' => e = .returned (.bool (timeB n)) ∧ w = w' := by
  have hf : timeB n = (decide (0 ≤ n) && decide (n ≤ 1099511627776)) := rfl
  have Hf := Aside0.mk hf
  clear hf
  by_cases h : 0 ≤ n
  · have hd : decide (0 ≤ n) = true := decide_eq_true h
    go_enter Try.func80, Try.ntmps80
    go_wp2
    go_ret
    exact ⟨by rw [Hf.out]; simp <;> omega, rfl⟩
  · have hd : decide (0 ≤ n) = false := decide_eq_false h
    go_enter Try.func80, Try.ntmps80
    go_wp2
    go_ret
    exact ⟨by rw [Hf.out]; simp <;> omega, rfl⟩
theorem rtime_calls (n : Int) (w : World) : Calls Try.prog 81 #[.int .i64 n] w fun e w' => e = .returned (.bool (timeB n)) ∧ w = w' := by
  have hf : timeB n = (decide (0 ≤ n) && decide (n ≤ 1099511627776)) := rfl
  have Hf := Aside0.mk hf
  clear hf
  by_cases h : 0 ≤ n
  · have hd : decide (0 ≤ n) = true := decide_eq_true h
    go_enter Try.func81, Try.ntmps81
    go_wp2
    go_ret
    exact ⟨by rw [Hf.out]; simp <;> omega, rfl⟩
  · have hd : decide (0 ≤ n) = false := decide_eq_false h
    go_enter Try.func81, Try.ntmps81
    go_wp2
    go_ret
    exact ⟨by rw [Hf.out]; simp <;> omega, rfl⟩
theorem there_calls (w : World) (g : Nat) (F : Int) (hc : w.cell? ⟨g, 2, none⟩ = some (.int .i64 F)) (hF : 1 ≤ F) : Calls Try.prog 82 #[.pointer (some ⟨g, 0, none⟩)] w fun e w' => e = .returned (.bool true) ∧ w = w' := by
  have hd : decide (0 < F) = true := decide_eq_true (by omega)
  go_enter Try.func82, Try.ntmps82
  go_wp2
  go_ret
  exact ⟨rfl, rfl⟩
def nl (L : List N3) (s : ByteArray) : Int := ((note L s).getD (0, 0)).1
def nt (L : List N3) (s : ByteArray) : Int := ((note L s).getD (0, 0)).2
set_option maxRecDepth 100000 in
theorem of_calls (w : World) (g b : Nat) (v : Value) (base n : Nat) (L : List N3) (F M R : Int) (s : ByteArray) (H : BT w g b v base n L F M R) (hs : s.size ≤ maxLen) :
    Calls Try.prog 84 #[.pointer (some ⟨g, 0, none⟩), .string s] w fun e w' => e = .returned (.agg #[.int .i64 (nl L s), .int .i64 (nt L s)]) ∧ Fr no w w' := by
  have HH := Aside0.mk H
  have Hs := Aside0.mk hs
  have hu117 := Try.underlying117
  have hm0 := H.map.alloc (.cells #[.int .i64 0, .int .i64 0] 117)
  have HM := Aside0.mk hm0
  have hc := (H.no ((Fr.refl w no).alloc (.cells #[.int .i64 0, .int .i64 0] 117))).cell
  obtain ⟨hc0, hc1, hc2, hc3, hc4⟩ := hc
  have HCV := Aside0.mk (show (note L s).getD (0, 0) = (nl L s, nt L s) from rfl)
  obtain ⟨c1, he1⟩ : ∃ c, c = nl L s := ⟨_, rfl⟩
  obtain ⟨c2, he2⟩ : ∃ c, c = nt L s := ⟨_, rfl⟩
  rw [← he1, ← he2] at HCV ⊢
  have hfz := heap_alloc_new w (.cells #[.int .i64 0, .int .i64 0] 117)
  have hfz0 := blk_frozen hfz 0
  clear H hs hm0 hc1 hc3 hc4 he1 he2 hfz
  go_enter Try.func84, Try.ntmps84
  go_wp2_with (first
    | (go_at_call 82; refine (there_calls _ g F hc2 HH.out.par.f1).mono ?_; rintro e w' ⟨rfl, rfl⟩)
    | (at_lookup; refine wpL2_lookup rfl _ _ rfl rfl HM.out s rfl Hs.out c1 c2 HCV.out ?_))
  go_returns
  exact ⟨rfl, (Fr.refl w no).alloc _⟩
theorem field0 (W : World) (a b : Int) : (Instr.field 117 (.agg #[.int .i64 a, .int .i64 b]) 0).run Try.prog W = .ok (.int .i64 a) W := by kernel_rfl
theorem field1 (W : World) (a b : Int) : (Instr.field 117 (.agg #[.int .i64 a, .int .i64 b]) 1).run Try.prog W = .ok (.int .i64 b) W := by kernel_rfl
set_option maxRecDepth 100000 in
theorem until_calls (w : World) (g b : Nat) (v : Value) (base n : Nat) (L : List N3) (F M R : Int) (s : ByteArray) (H : BT w g b v base n L F M R) (hs : s.size ≤ maxLen) :
    Calls Try.prog 31 #[.pointer (some ⟨g, 0, none⟩), .string s] w fun e w' => e = .returned (.int .i64 (nt L s)) ∧ Fr no w w' := by
  have HH := Aside0.mk H
  have Hs := Aside0.mk hs
  have hu117 := Try.underlying117
  clear H hs
  have hfd0 := field0
  have hfd1 := field1
  go_enter Try.func31, Try.ntmps31
  go_wp2_with (first
    | (go_at_call 84; refine (of_calls _ g b v base n L F M R s HH.out Hs.out).mono ?_; rintro e w' ⟨rfl, hf⟩; have HF := Aside0.mk hf; clear hf))
  go_ret
  exact ⟨rfl, HF.out⟩
set_option maxRecDepth 100000 in
theorem length_calls (w : World) (g b : Nat) (v : Value) (base n : Nat) (L : List N3) (F M R : Int) (s : ByteArray) (H : BT w g b v base n L F M R) (hs : s.size ≤ maxLen) :
    Calls Try.prog 33 #[.pointer (some ⟨g, 0, none⟩), .string s] w fun e w' => e = .returned (.int .i64 (nl L s)) ∧ Fr no w w' := by
  have HH := Aside0.mk H
  have Hs := Aside0.mk hs
  have hu117 := Try.underlying117
  clear H hs
  have hfd0 := field0
  have hfd1 := field1
  go_enter Try.func33, Try.ntmps33
  go_wp2_with (first
    | (go_at_call 84; refine (of_calls _ g b v base n L F M R s HH.out Hs.out).mono ?_; rintro e w' ⟨rfl, hf⟩; have HF := Aside0.mk hf; clear hf))
  go_ret
  exact ⟨rfl, HF.out⟩
def mayB (L : List N3) (s : ByteArray) (now : Int) : Bool := timeB now && decide (nt L s ≤ now)
set_option maxRecDepth 100000 in
theorem may_calls (w : World) (g b : Nat) (v : Value) (base n : Nat) (L : List N3) (F M R : Int) (s : ByteArray) (now : Int) (H : BT w g b v base n L F M R) (hs : s.size ≤ maxLen) :
    Calls Try.prog 29 #[.pointer (some ⟨g, 0, none⟩), .string s, .int .i64 now] w fun e w' => e = .returned (.bool (mayB L s now)) ∧ Fr no w w' := by
  have HH := Aside0.mk H
  have Hs := Aside0.mk hs
  have hu117 := Try.underlying117
  obtain ⟨-, -, hc2, -, -⟩ := H.cell
  clear H hs
  cases ht : timeB now with
  | false =>
    have HT := Aside0.mk ht
    clear ht
    have hfd0 := field0
    have hfd1 := field1
    go_enter Try.func29, Try.ntmps29
    go_wp2_with (first
      | (go_at_call 82; refine (there_calls _ g F hc2 HH.out.par.f1).mono ?_; rintro e w' ⟨rfl, rfl⟩)
      | (go_at_call 80; refine (time_calls now _).mono ?_; rintro e w' ⟨rfl, rfl⟩; rw [HT.out]))
    go_ret
    exact ⟨by simp [mayB, HT.out], Fr.refl _ _⟩
  | true =>
    have HT := Aside0.mk ht
    obtain ⟨d, hd⟩ : ∃ d, d = nt L s := ⟨_, rfl⟩
    have HD := Aside0.mk hd
    clear ht hd
    have hfd0 := field0
    have hfd1 := field1
    go_enter Try.func29, Try.ntmps29
    go_wp2_with (first
      | (go_at_call 82; refine (there_calls _ g F hc2 HH.out.par.f1).mono ?_; rintro e w' ⟨rfl, rfl⟩)
      | (go_at_call 80; refine (time_calls now _).mono ?_; rintro e w' ⟨rfl, rfl⟩; rw [HT.out])
      | (go_at_call 84; refine (of_calls _ g b v base n L F M R s HH.out Hs.out).mono ?_; rintro e w' ⟨rfl, hf⟩; have HF := Aside0.mk hf; clear hf; rw [← HD.out]))
    go_ret
    exact ⟨by simp [mayB, HT.out, HD.out], HF.out⟩
def LPost (w : World) (l : List ByteArray) (e : Ending) (w' : World) : Prop := ∃ v, e = .returned v ∧ SOwn w' w.heap.size v l ∧ Fr no w w'
set_option maxRecDepth 100000 in
theorem groups_calls (w : World) (g b : Nat) (v : Value) (base n : Nat) (L : List N3) (F M R : Int) (H : BT w g b v base n L F M R) (hL : L.length < 1000000000) :
    Calls Try.prog 36 #[.pointer (some ⟨g, 0, none⟩)] w (LPost w (L.map N3.group)) := by
  have HH := Aside0.mk H
  obtain ⟨-, hc1, hc2, -, -⟩ := H.cell
  obtain ⟨A, c, rfl, hle, hcm, hr⟩ := H.own.form
  have HR := Aside0.mk hr
  obtain ⟨l, hl⟩ : ∃ l, l = L.map N3.group := ⟨_, rfl⟩
  have hll : l.length < 1000000000 := by rw [hl]; simpa using hL
  rw [← hl] at hc1 HR ⊢
  have HLL := Aside0.mk hll
  clear H hle hcm hr hL hl hll
  go_enter Try.func36, Try.ntmps36
  go_wp2_with (first
    | (go_at_call 82; refine (there_calls _ g F hc2 HH.out.par.f1).mono ?_; rintro e w' ⟨rfl, rfl⟩)
    | (at_builtin; refine wpL_append_els E9 w.heap.size rfl _ _ rfl _ [] l A c rfl rfl HR.out (EOwn.nil _ _) (Nat.le_refl _) (by have h9 := HLL.out; show (0 + l.length) * 16 ≤ _; omega) ?_; intro v1 w1 ho hf hat; have HO := Aside0.mk ho; have HF := Aside0.mk hf; clear ho hf hat))
  go_ret
  refine ⟨_, rfl, own9.1 (by simpa using HO.out), HF.out.mono (fun k h => by cases h)⟩
end Go.Proofs.Ytdpchfifaidamaa.K
