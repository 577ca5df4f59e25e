/- The walks of lex.head at plain, lex.Runes, lex.Word, and of the reference's Word: whether a text is a word. No condition. -/
import Derived.Test.YtdpchfifaidamaaU1
import Derived.Laws.RangeAny
namespace Go.Proofs.Ytdpchfifaidamaa.U
open Go.RowKit Go.Maps Go.Proofs.YtdpchfifaidamaaW.PrintWords Go.Proofs.Ytdpchfifaidamaa.B Go.Proofs.Ytdpchfifaidamaa.PLedgerTells
set_option linter.unusedVariables false
set_option linter.unusedSimpArgs false

/-- how many runes there are from a place on, if all are right, and plain. -/
def cw (s : ByteArray) : Nat → Nat → Nat → Option Nat
  | 0, pos, n => if pos < s.size then none else some n
  | b + 1, pos, n => if pos < s.size then (if rightB s pos && plainB (dec s pos).1 then cw s b (pos + (dec s pos).2) (n + 1) else none) else some n
def words (s : ByteArray) : Option Nat := cw s s.size 0 0
def wordB (s : ByteArray) : Bool := match words s with | some n => decide (1 ≤ n ∧ n ≤ 64) | none => false
theorem cw_end {s : ByteArray} (b : Nat) {pos n : Nat} (h : ¬ pos < s.size) : cw s b pos n = some n := by
  cases b <;> simp [cw, h]
theorem cw_step {s : ByteArray} {b pos n : Nat} (h : pos < s.size) (hb : s.size ≤ pos + b) : cw s b pos n = if rightB s pos && plainB (dec s pos).1 then cw s (b - 1) (pos + (dec s pos).2) (n + 1) else none := by
  cases b with
  | zero => omega
  | succ b => simp [cw, h]
theorem cw_le {s : ByteArray} : ∀ (b pos n m : Nat), s.size ≤ pos + b → cw s b pos n = some m → n ≤ m ∧ m ≤ n + (s.size - pos) := by
  intro b
  induction b with
  | zero => intro pos n m hb h; simp [cw] at h; omega
  | succ b ih =>
    intro pos n m hb h
    have hd := dec_pos s pos
    unfold cw at h
    split at h
    · split at h
      · have := ih _ _ _ (by omega) h; omega
      · cases h
    · cases h; omega
/-- a text of one byte and more that is made of right, plain runes has one and more of them. -/
theorem cw_some_pos {s : ByteArray} {b pos n m : Nat} (hb : s.size ≤ pos + b) (hp : pos < s.size) (h : cw s b pos n = some m) : n + 1 ≤ m := by
  rw [cw_step hp hb] at h
  have hd := dec_pos s pos
  split at h
  · exact (cw_le _ _ _ _ (by omega) h).1
  · cases h
/-- -/
theorem ite_le' {c : Prop} [Decidable c] {a b : Nat × Nat} (h1 : c → a.2 ≤ 4) (h2 : ¬ c → b.2 ≤ 4) : (if c then a else b).2 ≤ 4 := by
  by_cases h : c
  · rw [if_pos h]; exact h1 h
  · rw [if_neg h]; exact h2 h
theorem dec_wide (s : ByteArray) (i : Nat) : (dec s i).2 ≤ 4 := by
  rw [dec_ge]
  unfold Go.Lib.decodeN
  repeat' (refine ite_le' (fun _ => ?_) (fun _ => ?_))
  all_goals simp
theorem word_f (s : ByteArray) (hs : s.size ≤ 4611686018427387904) : ∀ (b pos n k : Nat), s.size ≤ pos + b → n ≤ pos → pos ≤ s.size + 4 → triremeref01_Word.l0 (k + b + 6) s n pos = some (match cw s b pos n with | some m => decide (1 ≤ m ∧ m ≤ 64) | none => false) := by
  have fin : ∀ (pos n k : Nat), ¬ pos < s.size → triremeref01_Word.l0 (k + 1) s n pos = some (decide (1 ≤ n ∧ n ≤ 64)) := by
    intro pos n k h
    rw [triremeref01_Word.l0]
    rw [if_neg (by omega)]
    by_cases h1 : (n : Int) ≥ 1
    · rw [if_pos h1]
      simp only [Option.some.injEq]
      rw [decide_eq_decide]
      omega
    · rw [if_neg h1]
      simp only [Option.some.injEq]
      symm
      rw [decide_eq_false_iff_not]
      omega
  intro b
  induction b with
  | zero =>
    intro pos n k h _ _
    rw [cw_end 0 (by omega)]
    exact fin pos n (k + 5) (by omega)
  | succ b ih =>
    intro pos n k h hn hp
    by_cases hlt : pos < s.size
    · rw [cw_step hlt h]
      rw [show k + (b + 1) + 6 = (k + b + 6) + 1 from by omega, triremeref01_Word.l0]
      rw [if_pos (by omega), show k + b + 6 = (k + b + 3) + 3 from by omega, rune_f s pos (k + b + 3) hlt hs]
      simp only [Option.bind_some]
      unfold runeP
      have hd := dec_pos s pos
      have hd4 := dec_wide s pos
      by_cases hr : rightB s pos = true
      · rw [hr]
        simp only [if_true, Bool.true_and]
        rw [if_neg (by omega), rplain_f]
        simp only [Option.bind_some]
        by_cases hpl : plainB (dec s pos).1 = true
        · rw [hpl, if_pos rfl, if_pos rfl, w64 (by omega) (by omega), w64 (by omega) (by omega)]
          rw [show (n : Int) + 1 = ((n + 1 : Nat) : Int) from by omega, show (pos : Int) + ((dec s pos).2 : Nat) = ((pos + (dec s pos).2 : Nat) : Int) from by omega]
          exact ih (pos + (dec s pos).2) (n + 1) k (by omega) (by omega) (by omega)
        · simp only [Bool.not_eq_true] at hpl
          rw [hpl]
          simp
      · simp only [Bool.not_eq_true] at hr
        rw [hr]
        simp
    · rw [cw_end _ hlt]
      exact fin pos n (k + (b + 1) + 5) hlt
theorem words_one (s : ByteArray) : wordB s = (match words s with | some n => decide (n ≤ 64 ∧ 0 < s.size) | none => false) := by
  unfold wordB
  cases h : words s with
  | none => rfl
  | some n =>
    simp only
    rw [decide_eq_decide]
    unfold words at h
    constructor
    · intro ⟨h1, h2⟩
      refine ⟨h2, ?_⟩
      rcases Nat.eq_zero_or_pos s.size with h0 | h0
      · rw [cw_end _ (by omega)] at h; cases h; omega
      · exact h0
    · intro ⟨h1, h2⟩
      exact ⟨by have := cw_some_pos (by omega) h2 h; omega, h1⟩

theorem calls_drawn {k : Nat} {args : Array Value} {w : World} {v : Value} (h : Calls Try.prog k args w fun e w' => e = .returned v ∧ Drawn0 w w') : Calls Try.prog k args w fun e w' => e = .returned v ∧ Fr no w w' :=
  h.mono fun e w' h => ⟨h.1, Fr.of_drawn h.2 _⟩
theorem rword_calls (s : ByteArray) (w : World) (hs : s.size ≤ 4611686018427387904) : Calls Try.prog 112 #[.string s] w fun e w' => e = .returned (.bool (wordB s)) ∧ Fr no w w' :=
  calls_drawn (triremeref01_Word.calls (0 + s.size + 6) s (wordB s) w (word_f s hs s.size 0 0 0 (by omega) (Nat.le_refl _) (by omega)))
theorem iter_fr (w : World) (s : ByteArray) (p : Nat) : Fr no w (w.iter s p) := (Fr.refl w no).alloc _
theorem right_calls (s : ByteArray) (i : Nat) (c : Int) (w : World) (hi : i < s.size) (hs : s.size ≤ 4611686018427387904) (hc : c = ((dec s i).1 : Nat)) : Calls Try.prog 143 #[.string s, .int .i64 (i : Nat), .int .i32 c] w fun e w' => e = .returned (.bool (rightB s i)) ∧ Drawn0 w w' :=
  lex_right.calls s i c (rightB s i) w (hc ▸ right_f s i hi hs)
theorem plain_calls (c : Int) (n : Nat) (w : World) (hc : c = n) : Calls Try.prog 131 #[.int .i32 c] w fun e w' => e = .returned (.bool (plainB n)) ∧ Drawn0 w w' :=
  lex_plain.calls c (plainB n) w (hc ▸ lplain_f n)
def HeadPost (s : ByteArray) (w : World) (e : Ending) (w' : World) : Prop :=
  ∃ (n : Int) (ok : Bool), e = .returned (.tuple #[.int .i64 n, .bool ok]) ∧ Fr no w w' ∧ ((words s).isSome = (ok && decide (n = s.size)))
theorem iter_drew (w : World) (s : ByteArray) (p m k : Nat) : ((w.drewN m).iter s p).drewN k = (w.drewN (m + k)).iter s p := by
  simp only [World.iter, World.alloc, World.drewN]
  congr 1
  all_goals first | rfl | (simp; omega) | omega
structure HInv (s : ByteArray) (b pos n : Nat) : Prop where
  eq : cw s b pos n = words s
  le : s.size ≤ pos + b
theorem HInv.no {s : ByteArray} {b pos n : Nat} (h : HInv s b pos n) (hp : pos < s.size) (hr : (rightB s pos && plainB (dec s pos).1) = false) : words s = none := by
  rw [← h.eq, cw_step hp h.le, hr]
  rfl
theorem HInv.step {s : ByteArray} {b pos n : Nat} (h : HInv s b pos n) (hp : pos < s.size) (hr : (rightB s pos && plainB (dec s pos).1) = true) : HInv s (b - 1) (pos + (dec s pos).2) (n + 1) := by
  have hd := dec_pos s pos
  have hl := h.le
  refine ⟨?_, by omega⟩
  rw [← h.eq, cw_step hp h.le, hr]
  rfl
theorem HInv.fin {s : ByteArray} {b pos n : Nat} (h : HInv s b pos n) (hp : ¬ pos < s.size) : words s = some n := by
  rw [← h.eq, cw_end _ hp]
theorem HInv.init (s : ByteArray) : HInv s s.size 0 0 := ⟨rfl, by omega⟩
set_option maxRecDepth 1000000 in
set_option maxHeartbeats 2000000 in
theorem head_calls (s : ByteArray) (w : World) (hs : s.size ≤ 4611686018427387904) :
    Calls Try.prog 130 #[.string s, .func (.func 131) #[] #[]] w (HeadPost s w) := by
  have HS := Aside0.mk hs
  clear hs
  have hsz : s.size ≤ 9223372036854775807 := by have := HS.out; omega
  go_enter Try.func130, Try.ntmps130
  go_wp2
  go_loopw [6, 7] (fun v6 v7 w' => ∃ (pos b n m : Nat), w' = (w.drewN m).iter s pos ∧ Aside0 (HInv s b pos n)) (fun _ _ w' => s.size - w'.iterPos w.heap.size)
  case atStart => exact ⟨0, s.size, 0, 0, rfl, ⟨HInv.init s⟩⟩
  case round =>
    obtain ⟨pos, b, n, m, rfl, HI⟩ := hrel
    by_cases hp : pos < s.size
    · have hnx : ∀ ty, (Instr.next (.pointer (some ⟨w.heap.size, 0, none⟩)) true ty).run Try.prog ((w.drewN m).iter s pos) = _ := fun ty => run_next_any (w.drewN m) s pos ty hp
      have hwd := dec_pos s pos
      obtain ⟨c, hc⟩ : ∃ c, c = (dec s pos).1 := ⟨_, rfl⟩
      obtain ⟨wd, hw⟩ : ∃ wd, wd = (dec s pos).2 := ⟨_, rfl⟩
      rw [← hc, ← hw] at hnx
      have HC := Aside0.mk hc
      have HW := Aside0.mk hw
      rw [← hw] at hwd
      clear hc hw
      cases hr : rightB s pos with
      | false =>
        have HR := Aside0.mk hr
        clear hr
        go_wp2_with (first
          | (go_at_call 143; refine (right_calls s pos _ _ hp HS.out (by rw [HC.out])).mono ?_; rintro e w' ⟨rfl, ⟨m2, rfl⟩⟩; rw [HR.out]))
        go_ret2
        exact ⟨pos, false, rfl, (((Fr.refl w no).drewN m).alloc _).drewN m2, by rw [HI.out.no hp (by rw [HR.out]; rfl)]; rfl⟩
      | true =>
        have HR := Aside0.mk hr
        clear hr
        cases hpl : plainB c with
        | false =>
          have HP := Aside0.mk hpl
          clear hpl
          go_wp2_with (first
            | (go_at_call 143; refine (right_calls s pos _ _ hp HS.out (by rw [HC.out])).mono ?_; rintro e w' ⟨rfl, ⟨m2, rfl⟩⟩; rw [HR.out])
            | (go_at_call 131; refine (plain_calls _ c _ rfl).mono ?_; rintro e w' ⟨rfl, ⟨m3, rfl⟩⟩; rw [HP.out]))
          go_ret2
          refine ⟨pos, true, rfl, (((Fr.refl w no).drewN m).alloc _).drewN (m2 + m3), ?_⟩
          rw [HI.out.no hp (by rw [HR.out, ← HC.out, HP.out]; rfl)]
          simp
          omega
        | true =>
          have HP := Aside0.mk hpl
          clear hpl
          go_wp2_with (first
            | (go_at_call 143; refine (right_calls s pos _ _ hp HS.out (by rw [HC.out])).mono ?_; rintro e w' ⟨rfl, ⟨m2, rfl⟩⟩; rw [HR.out])
            | (go_at_call 131; refine (plain_calls _ c _ rfl).mono ?_; rintro e w' ⟨rfl, ⟨m3, rfl⟩⟩; rw [HP.out]))
          rw [iter_drew]
          go_roundw
          case rel =>
            refine ⟨pos + wd, b - 1, n + 1, _, rfl, ⟨?_⟩⟩
            rw [HW.out]
            exact HI.out.step hp (by rw [HR.out, ← HC.out, HP.out]; rfl)
          case measure =>
            rw [show w.heap.size = (w.drewN m).heap.size from rfl, World.iterPos_iter]
            rw [show (w.drewN m).heap.size = (w.drewN (m + (m2 + m3))).heap.size from rfl, World.iterPos_iter]
            omega
    · have hnx : ∀ ty, (Instr.next (.pointer (some ⟨w.heap.size, 0, none⟩)) true ty).run Try.prog ((w.drewN m).iter s pos) = _ := fun ty => run_next_end (w.drewN m) s pos ty hp
      go_wp2
      go_ret2
      exact ⟨s.size, true, rfl, ((Fr.refl w no).drewN m).alloc _, by rw [HI.out.fin hp]; simp⟩
set_option maxRecDepth 1000000 in
set_option maxHeartbeats 2000000 in
theorem runes_calls (s : ByteArray) (w : World) (hs : s.size ≤ 4611686018427387904) (r : Nat) (hr : words s = some r) :
    Calls Try.prog 132 #[.string s] w fun e w' => e = .returned (.int .i64 r) ∧ Fr no w w' := by
  have HS := Aside0.mk hs
  have HW := Aside0.mk hr
  clear hs hr
  have hsz : s.size ≤ 9223372036854775807 := by have := HS.out; omega
  go_enter Try.func132, Try.ntmps132
  go_wp2
  go_loopw [3, 4, 5] (fun v3 v4 v5 w' => ∃ (pos b n m : Nat), v3 = .int .i64 n ∧ n ≤ pos ∧ pos ≤ s.size + 4 ∧ w' = (w.drewN m).iter s pos ∧ Aside0 (HInv s b pos n)) (fun _ _ _ w' => s.size - w'.iterPos w.heap.size)
  case atStart => exact ⟨0, s.size, 0, 0, rfl, Nat.le_refl _, by omega, rfl, ⟨HInv.init s⟩⟩
  case round =>
    obtain ⟨pos, b, n, m, rfl, hn, hpl, rfl, HI⟩ := hrel
    by_cases hp : pos < s.size
    · have hnx : ∀ ty, (Instr.next (.pointer (some ⟨w.heap.size, 0, none⟩)) true ty).run Try.prog ((w.drewN m).iter s pos) = _ := fun ty => run_next_any (w.drewN m) s pos ty hp
      have hwd := dec_pos s pos
      have hw4 := dec_wide s pos
      obtain ⟨c, hc⟩ : ∃ c, c = (dec s pos).1 := ⟨_, rfl⟩
      obtain ⟨wd, hw⟩ : ∃ wd, wd = (dec s pos).2 := ⟨_, rfl⟩
      rw [← hc, ← hw] at hnx
      have HC := Aside0.mk hc
      have HWD := Aside0.mk hw
      rw [← hw] at hwd hw4
      clear hc hw
      cases hr : (rightB s pos && plainB (dec s pos).1) with
      | false => exact absurd (HI.out.no hp hr) (by rw [HW.out]; simp)
      | true =>
        have HR := Aside0.mk (Bool.and_eq_true_iff.1 hr).1
        have HB := Aside0.mk hr
        clear hr
        go_wp2_with (first
          | (go_at_call 143; refine (right_calls s pos _ _ hp HS.out (by rw [HC.out])).mono ?_; rintro e w' ⟨rfl, ⟨m2, rfl⟩⟩; rw [HR.out]))
        rw [iter_drew]
        go_roundw
        case rel =>
          refine ⟨pos + wd, b - 1, n + 1, _, by go_num, by omega, by omega, rfl, ⟨?_⟩⟩
          rw [HWD.out]
          exact HI.out.step hp HB.out
        case measure =>
          rw [show w.heap.size = (w.drewN m).heap.size from rfl, World.iterPos_iter]
          rw [show (w.drewN m).heap.size = (w.drewN (m + m2)).heap.size from rfl, World.iterPos_iter]
          omega
    · have hnx : ∀ ty, (Instr.next (.pointer (some ⟨w.heap.size, 0, none⟩)) true ty).run Try.prog ((w.drewN m).iter s pos) = _ := fun ty => run_next_end (w.drewN m) s pos ty hp
      obtain rfl : n = r := Option.some.inj ((HI.out.fin hp).symm.trans HW.out)
      go_wp2
      go_ret
      exact ⟨rfl, ((Fr.refl w no).drewN m).alloc _⟩
set_option maxHeartbeats 1000000 in
theorem word_calls (s : ByteArray) (w : World) (hs : s.size ≤ 4611686018427387904) :
    Calls Try.prog 110 #[.string s] w fun e w' => e = .returned (.bool (wordB s)) ∧ Fr no w w' := by
  have HS := Aside0.mk hs
  have HB := Aside0.mk (words_one s)
  have hsz : s.size ≤ 9223372036854775807 := by omega
  clear hs
  cases hw : words s with
  | none =>
    have HW := Aside0.mk hw
    rw [hw] at HB
    clear hw
    go_enter Try.func110, Try.ntmps110
    go_wp2_with fail
    refine (head_calls s _ HS.out).mono ?_
    rintro e w1 ⟨n, ok, rfl, hf, ho⟩
    rw [HW.out] at ho
    have HF := Aside0.mk hf
    clear hf
    cases ok with
    | false =>
      clear ho
      go_wp2_with fail
      go_ret
      exact ⟨by rw [HB.out]; rfl, HF.out⟩
    | true =>
      have hne : (n == (s.size : Int)) = false := by simpa using ho.symm
      have hne2 : n ≠ (s.size : Int) := by simpa using hne
      clear ho
      go_wp2_with fail
      go_ret
      exact ⟨by rw [HB.out]; rfl, HF.out⟩
  | some r =>
    have HW := Aside0.mk hw
    replace HB := Aside0.mk (show wordB s = decide (r ≤ 64 ∧ 0 < s.size) from by rw [words_one, hw])
    clear hw
    go_enter Try.func110, Try.ntmps110
    go_wp2_with fail
    refine (head_calls s _ HS.out).mono ?_
    rintro e w1 ⟨n, ok, rfl, hf, ho⟩
    rw [HW.out] at ho
    have HF := Aside0.mk hf
    clear hf
    simp only [Option.isSome_some] at ho
    obtain ⟨rfl, hn⟩ : ok = true ∧ n = s.size := by simpa using ho.symm
    clear ho
    subst hn
    by_cases h0 : 0 < s.size
    · have h0d : decide ((0 : Int) < s.size) = true := decide_eq_true (by omega)
      have h0e : decide (0 < s.size) = true := decide_eq_true h0
      go_wp2_with (first
        | (go_at_call 132; refine (runes_calls s _ HS.out r HW.out).mono ?_; rintro e w2 ⟨rfl, hf2⟩; have HF2 := Aside0.mk hf2; clear hf2))
      go_ret
      refine ⟨?_, HF.out.then_ HF2.out (fun _ h => .inl h)⟩
      rw [HB.out]
      simp [h0]
      omega
    · have h0d : decide ((0 : Int) < s.size) = false := decide_eq_false (by omega)
      have h0e : decide (0 < s.size) = false := decide_eq_false h0
      go_wp2_with fail
      go_ret
      refine ⟨?_, HF.out⟩
      rw [HB.out]
      simp [h0]
end Go.Proofs.Ytdpchfifaidamaa.U
