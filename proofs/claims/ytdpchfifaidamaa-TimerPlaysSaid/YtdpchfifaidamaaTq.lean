/- The table and the reference's list say the same: names, what is ripe. No condition. -/
import Derived.Test.YtdpchfifaidamaaTp
import Derived.Test.YtdpchfifaidamaaTk
namespace Go.Proofs.Ytdpchfifaidamaa.T
open Go.RowKit Go.Maps Go.Proofs.YtdpchfifaidamaaW.PrintWords Go.Proofs.Ytdpchfifaidamaa.B
set_option linter.unusedVariables false
set_option linter.unusedSimpArgs false

theorem Inv.at0 {f : ByteArray → Option Int} {L : List NT} (h : Inv f L) {n : NT} (hn : n ∈ L) : T.at0 f n.name = n.since := by
  unfold T.at0
  rw [(h.mem n.name n.since).2 hn]
  rfl
theorem Inv.ahead {f : ByteArray → Option Int} {L : List NT} (h : Inv f L) {a b : NT} (ha : a ∈ L) (hb : b ∈ L) (hab : nltB a b = true) : aheadB f a.name b.name = true := by
  unfold aheadB
  rw [h.at0 ha, h.at0 hb]
  unfold nltB at hab
  by_cases e : a.since = b.since
  · rw [if_pos e]
    rw [e] at hab
    simpa using hab
  · rw [if_neg e]
    simpa [e] using hab
theorem Inv.sorted {f : ByteArray → Option Int} {L : List NT} (h : Inv f L) : Sorted f (L.map NT.name) := by
  unfold Sorted
  rw [List.pairwise_map]
  exact h.srt.imp_of_mem (fun ha hb hab => h.ahead ha hb hab)
theorem Inv.memn {f : ByteArray → Option Int} {L : List NT} (h : Inv f L) (s : ByteArray) : s ∈ L.map NT.name ↔ (s.size ≤ maxLen ∧ (f s).isSome = true) := by
  rw [List.mem_map]
  constructor
  · rintro ⟨n, hn, rfl⟩
    exact ⟨h.sz n hn, by rw [(h.mem n.name n.since).2 hn]; rfl⟩
  · rintro ⟨_, hs⟩
    obtain ⟨c, hc⟩ := Option.isSome_iff_exists.1 hs
    exact ⟨⟨s, c⟩, (h.mem s c).1 hc, rfl⟩
theorem Inv.ripe {f : ByteArray → Option Int} {L : List NT} (h : Inv f L) (now len : Int) : (L.map NT.name).filter (ripeB f now len) = (L.filter (fun n => decide (len ≤ now - n.since))).map NT.name := by
  rw [List.filter_map]
  congr 1
  refine List.filter_congr (fun n hn => ?_)
  unfold ripeB
  simp only [Function.comp]
  rw [h.at0 hn]
def LPost (w : World) (l : List ByteArray) (e : Ending) (w' : World) : Prop := ∃ v, e = .returned v ∧ SOwn w' w.heap.size v l ∧ Fr no w w'
theorem names_is (w : World) (g b n : Nat) (f : ByteArray → Option Int) (L : List NT) (H : TT w g b n f) (hn : n < 1000000000) (hI : Inv f L) :
    Calls Try.prog 20 #[.pointer (some ⟨g, 0, none⟩)] w (LPost w (L.map NT.name)) := by
  refine (names_calls w g b n f H hn).mono ?_
  rintro e w' ⟨v, l, rfl, ho, hr, hf⟩
  rw [hr.eq hI.sorted hI.memn] at ho
  exact ⟨v, rfl, ho, hf⟩
theorem ripe_is (w : World) (g b n : Nat) (f : ByteArray → Option Int) (L : List NT) (now len : Int) (H : TT w g b n f) (hn : n < 1000000000) (hf : Times f) (hI : Inv f L) :
    Calls Try.prog 18 #[.pointer (some ⟨g, 0, none⟩), .int .i64 now, .int .i64 len] w (LPost w (rRipe L now len)) := by
  cases hb : (timeB now && decide (0 ≤ len)) with
  | false =>
    refine (ripe_no w g b n f now len H hb).mono ?_
    rintro e w' ⟨rfl, rfl⟩
    unfold rRipe
    rw [hb]
    exact ⟨_, rfl, SOwn.nil _ _, Fr.refl _ _⟩
  | true =>
    have h2 : timeB now = true ∧ 0 ≤ len := by simpa using hb
    refine (ripe_yes w g b n f now len H hn hf h2.1 h2.2).mono ?_
    rintro e w' ⟨v, l, rfl, ho, hr, hfr⟩
    rw [hr.eq hI.sorted hI.memn, hI.ripe] at ho
    unfold rRipe
    rw [hb]
    exact ⟨v, rfl, ho, hfr⟩
theorem inv_times {f : ByteArray → Option Int} {L : List NT} (h : Inv f L) (ht : Times f) : ∀ n ∈ L, 0 ≤ n.since ∧ n.since ≤ 1099511627776 := fun n hn => ht n.name n.since (h.sz n hn) ((h.mem _ _).2 hn)
theorem rnote_calls (w : World) (g : Nat) (L : List NT) (f : ByteArray → Option Int) (A : Option Addr) (c : Nat) (names : List ByteArray) (now : Int) (h : RT w g L) (hI : Inv f L) (hL : L.length + names.length < 1000000000) (HR : Kd.C Kd.string w A names.length names) (hs : ∀ s ∈ names, s.size ≤ maxLen) :
    Calls Try.prog 39 #[.pointer (some ⟨g, 0, none⟩), .slice A names.length c, .int .i64 now] w (RNotePost w g (L.length + names.length) (noteF f names now)) := by
  cases ht : timeB now with
  | true =>
    unfold noteF
    rw [ht]
    exact rnote_yes w g L f A c names now h hI hL HR hs ht
  | false =>
    have H := Aside0.mk h
    have HI := Aside0.mk hI
    clear h hI HR hs hL
    have hne : noteF f names now = f := by unfold noteF; rw [ht]; rfl
    rw [hne]
    go_enter Try.func39, Try.ntmps39
    go_wp2_with (first
      | (go_at_call 85; refine (rtime_calls _ _).mono ?_; rintro e w' ⟨rfl, rfl⟩))
    exact ret0 rfl rfl ⟨L, rfl, H.out, HI.out, by omega, Fr.refl _ _⟩

/-- the timer's map and the reference's rows lie apart. -/
theorem rt_map {w : World} {g b n : Nat} {f : ByteArray → Option Int} {L : List NT} {w' : World} (h : RT w g L) (hm : MapIs w b n f) (hk : Fr (fun k => k = b) w w') : RT w' g L := by
  obtain ⟨A, c, hb, h1, h2, h3, h4⟩ := h.blk
  obtain ⟨D, ⟨es, clock, hb0, _⟩, _⟩ := hm
  refine h.fr hk (fun e => ?_) (fun A' c' hb' ad hA hL e => ?_)
  · rw [e, hb0] at hb; cases hb
  · rw [hb] at hb'
    simp only [Option.some.injEq, Obj.cells.injEq, Array.mk.injEq, List.cons.injEq, Value.slice.injEq, and_true, true_and] at hb'
    obtain ⟨rfl, _⟩ := hb'
    obtain ⟨ad', e', hc, _⟩ := note_cells h3 0 hL
    rw [hA] at e'
    cases e'
    have : w.heap[(ad.add (0 * 2)).block]? = some (.map es clock) := by rw [add_block, e]; exact hb0
    simp [World.cell?, this] at hc
theorem tt_rt {w : World} {g b gr n : Nat} {f : ByteArray → Option Int} {L : List NT} (h : TT w g b n f) (hr : RT w gr L) : g ≠ gr ∧ b ≠ gr := by
  obtain ⟨A, c, hb, _⟩ := hr.blk
  obtain ⟨D, ⟨es, clock, hb0, _⟩, _⟩ := h.map
  constructor
  · intro e
    have := h.blk
    rw [e, hb] at this
    cases this
  · intro e
    rw [e, hb] at hb0
    cases hb0

end Go.Proofs.Ytdpchfifaidamaa.T
