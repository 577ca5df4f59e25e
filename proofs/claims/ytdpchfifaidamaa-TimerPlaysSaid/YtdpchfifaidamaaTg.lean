/- The contract of the timer law's known: fixed calls answer as they must. No condition. -/
import Derived.Test.YtdpchfifaidamaaTf
import Derived.Test.YtdpchfifaidamaaB2
namespace Go.Proofs.Ytdpchfifaidamaa.T
open Go.RowKit Go.Maps Go.Proofs.YtdpchfifaidamaaW.PrintWords Go.Proofs.Ytdpchfifaidamaa.B
set_option linter.unusedVariables false
set_option linter.unusedSimpArgs false

/-! ### one sorted list for one set -/
theorem bl_irrefl : ∀ x : List UInt8, Op.bytesLess x x = false
  | [] => rfl
  | a :: x => by simp [Op.bytesLess, bl_irrefl x]
theorem ahead_irrefl (f : ByteArray → Option Int) (s : ByteArray) : aheadB f s s = false := by
  unfold aheadB
  rw [if_pos rfl]
  exact bl_irrefl _
theorem sorted_unique {f : ByteArray → Option Int} : ∀ {l l' : List ByteArray}, Sorted f l → Sorted f l' → (∀ s, s ∈ l ↔ s ∈ l') → l = l'
  | [], [], _, _, _ => rfl
  | [], y :: _, _, _, h => by have := (h y).2 (by simp); cases this
  | x :: _, [], _, _, h => by have := (h x).1 (by simp); cases this
  | x :: r, y :: r', hs, hs', h => by
    obtain ⟨h1, h2⟩ := List.pairwise_cons.1 hs
    obtain ⟨h1', h2'⟩ := List.pairwise_cons.1 hs'
    have hxy : x = y := by
      rcases List.mem_cons.1 ((h x).1 (by simp)) with e | hx
      · exact e
      · rcases List.mem_cons.1 ((h y).2 (by simp)) with e | hy
        · exact e.symm
        · have := ahead_trans (h1 y hy) (h1' x hx)
          rw [ahead_irrefl] at this
          cases this
    subst hxy
    have hr : r = r' := sorted_unique h2 h2' (fun s => by
      have := h s
      constructor
      · intro hm
        rcases List.mem_cons.1 (this.1 (by simp [hm])) with e | h'
        · subst e
          have := h1 s hm
          rw [ahead_irrefl] at this
          cases this
        · exact h'
      · intro hm
        rcases List.mem_cons.1 (this.2 (by simp [hm])) with e | h'
        · subst e
          have := h1' s hm
          rw [ahead_irrefl] at this
          cases this
        · exact h')
    rw [hr]
theorem Sorted.filter {f : ByteArray → Option Int} {l : List ByteArray} (h : Sorted f l) (p : ByteArray → Bool) : Sorted f (l.filter p) := List.Pairwise.filter p h
theorem NamesRes.eq {f : ByteArray → Option Int} {n : Nat} {l l' : List ByteArray} (h : NamesRes f n l) (hs : Sorted f l') (hm : ∀ s, s ∈ l' ↔ (s.size ≤ maxLen ∧ (f s).isSome = true)) : l = l' :=
  sorted_unique h.srt hs (fun s => by rw [h.mem, hm])

theorem kd_lit {w : World} {k : Nat} {l : List ByteArray} (h : w.heap[k]? = some (.cells (strs l).toArray 9 (0, 0))) (hl : l.length ≤ 9223372036854775807) : Kd.C Kd.string w (some ⟨k, 0, none⟩) l.length l :=
  Kd.C_of_reads (enc := Value.string) (h1 := fun _ => rfl) (d := ByteArray.empty) ⟨rfl, hl, fun _ => ⟨_, rfl, fun j hj => by
    rw [add_plain, cell_of_row w k j _ 9 (0, 0) h]
    simp [strs, encs, List.getElem?_eq_getElem hj, List.getD_eq_getElem?_getD]⟩⟩

def sA : ByteArray := ⟨#[97]⟩
def sB : ByteArray := ⟨#[98]⟩
def sC : ByteArray := ⟨#[99]⟩
theorem small_ab : ∀ s ∈ [sA, sB], s.size ≤ maxLen := by intro s hs; simp at hs; rcases hs with rfl | rfl <;> simp [sA, sB, maxLen, ByteArray.size]
theorem small_b : ∀ s ∈ [sB], s.size ≤ maxLen := by intro s hs; simp at hs; subst hs; simp [sB, maxLen, ByteArray.size]
theorem size_sA : sA.size ≤ maxLen := small_ab _ (by simp)
theorem size_sB : sB.size ≤ maxLen := small_ab _ (by simp)
theorem size_sC : sC.size ≤ maxLen := by simp [sC, maxLen, ByteArray.size]

set_option maxRecDepth 100000 in
set_option maxHeartbeats 2000000 in
theorem known_calls (w : World) : Calls Try.prog 14 #[] w fun e w' => e = .returned (.bool true) ∧ Below w.heap.size w w' := by
  go_enter Try.func14, Try.ntmps14
  go_wp2_with fail
  refine (new_calls _).mono ?_
  rintro e w1 ⟨g, b, rfl, ht1, hf1, hg1, hb1⟩
  have HT1 := Aside0.mk ht1; have HF1 := Aside0.mk hf1; have HG := Aside0.mk hg1; have HB := Aside0.mk hb1
  clear ht1 hf1 hg1 hb1
  go_wp2_with fail
  refine (note_yes _ g b 0 _ (some ⟨w1.heap.size, 0, none⟩) 2 [sA, sB] 5 (HT1.out.fr ((Fr.refl w1 no).alloc _) (fun h => h) (fun h => h)) (kd_lit (heap_alloc_new w1 _) (by decide)) (by decide) small_ab (by decide) rfl).mono ?_
  rintro e w2 ⟨rfl, ht2, hf2⟩
  have HT2 := Aside0.mk ht2; have HF2 := Aside0.mk (((Fr.refl w1 _).alloc _).then_ hf2 (fun _ h => .inl h))
  clear ht2 hf2
  go_wp2_with fail
  refine (note_yes _ g b 2 _ (some ⟨w2.heap.size, 0, none⟩) 1 [sB] 7 (HT2.out.fr ((Fr.refl w2 no).alloc _) (fun h => h) (fun h => h)) (kd_lit (heap_alloc_new w2 _) (by decide)) (by decide) small_b (by decide) rfl).mono ?_
  rintro e w3 ⟨rfl, ht3, hf3⟩
  have HT3 := Aside0.mk ht3; have HF3 := Aside0.mk (((Fr.refl w2 _).alloc _).then_ hf3 (fun _ h => .inl h))
  clear ht3 hf3
  go_wp2_with fail
  refine (note_yes _ g b 3 _ (some ⟨w3.heap.size, 0, none⟩) 2 [sA, sB] 9 (HT3.out.fr ((Fr.refl w3 no).alloc _) (fun h => h) (fun h => h)) (kd_lit (heap_alloc_new w3 _) (by decide)) (by decide) small_ab (by decide) rfl).mono ?_
  rintro e w4 ⟨rfl, ht4, hf4⟩
  obtain ⟨f, hf⟩ : ∃ f, f = noted (noted (noted (fun x => none) [sA, sB] 5) [sB] 7) [sA, sB] 9 := ⟨_, rfl⟩
  rw [← hf] at ht4
  have hA : f sA = some 9 := by rw [hf]; decide +kernel
  have hB : f sB = some 5 := by rw [hf]; decide +kernel
  have hC : f sC = none := by rw [hf]; decide +kernel
  have hmem : ∀ s, (f s).isSome = true ↔ s = sA ∨ s = sB := by
    intro s
    rw [hf]
    unfold noted
    by_cases h : s ∈ [sA, sB]
    · rw [if_pos h]
      simpa using h
    · rw [if_neg h]
      simpa using h
  have HT4 := Aside0.mk ht4; have HF4 := Aside0.mk (((Fr.refl w3 _).alloc _).then_ hf4 (fun _ h => .inl h))
  have HA := Aside0.mk hA; have HB5 := Aside0.mk hB; have HC := Aside0.mk hC; have HM := Aside0.mk hmem
  clear ht4 hf4 hf hA hB hC hmem
  go_wp2_with fail
  refine (since_calls _ g b _ f sA HT4.out size_sA).mono ?_
  rintro e w' ⟨rfl, rfl⟩
  rw [HA.out]
  go_wp2_with fail
  refine (since_calls _ g b _ f sB HT4.out size_sB).mono ?_
  rintro e w' ⟨rfl, rfl⟩
  rw [HB5.out]
  go_wp2_with fail
  refine (since_calls _ g b _ f sC HT4.out size_sC).mono ?_
  rintro e w' ⟨rfl, rfl⟩
  rw [HC.out]
  go_wp2_with fail
  have htimes : Times f := by
    intro s c hs hfs
    rcases (HM.out s).1 (by rw [hfs]; rfl) with rfl | rfl
    · rw [HA.out] at hfs; cases hfs; omega
    · rw [HB5.out] at hfs; cases hfs; omega
  have haBA : aheadB f sB sA = true := by unfold aheadB at0; rw [HA.out, HB5.out]; rfl
  refine (ripe_yes _ g b _ f 10 5 HT4.out (by decide) htimes rfl (by omega)).mono ?_
  rintro e w5 ⟨v, l, rfl, ho, hr, hf5⟩
  have hl : l = [sB, sA] := hr.eq (by simp [Sorted, haBA]) (fun s => by
    rw [HM.out]
    constructor
    · intro h; simp at h; rcases h with rfl | rfl
      · exact ⟨size_sB, .inr rfl⟩
      · exact ⟨size_sA, .inl rfl⟩
    · rintro ⟨_, h⟩; rcases h with rfl | rfl <;> simp)
  have hfl : l.filter (ripeB f 10 5) = [sB] := by
    rw [hl]
    have h1 : ripeB f 10 5 sB = true := by unfold ripeB at0; rw [HB5.out]; rfl
    have h2 : ripeB f 10 5 sA = false := by unfold ripeB at0; rw [HA.out]; rfl
    simp [h1, h2]
  rw [hfl] at ho
  obtain ⟨A5, c5, rfl, hle5, hC5⟩ := ho.form
  have HC5 := Aside0.mk hC5; have HO5 := Aside0.mk ho; have HF5 := Aside0.mk hf5
  have HT5 := Aside0.mk (HT4.out.fr hf5 (fun h => h) (fun h => h))
  clear ho hr hf5 hl hfl hC5 hle5 htimes haBA
  go_wp2_with fail
  refine (drop_calls _ g b _ f sB HT5.out size_sB).mono ?_
  rintro e w6 ⟨rfl, ht6, hf6⟩
  have HT6 := Aside0.mk ht6; have HF6 := Aside0.mk hf6
  have HO6 := Aside0.mk (HO5.out.fr hf6 (fun k hk e => own_ne_map HT5.out.map HO5.out hk e))
  clear ht6 hf6
  go_wp2_with fail
  refine (texts_calls _ A5 c5 [sB] _ 1 [sB] (HO6.out.alloc _).kd (kd_lit (l := [sB]) (heap_alloc_new w6 _) (by decide)) (by decide)).mono ?_
  rintro e w7 ⟨rfl, m7, rfl⟩
  rw [show decide ([sB] = [sB]) = true from by simp]
  have hf67 : Fr no w6 ((w6.alloc (.cells #[.string ⟨#[98]⟩] 9)).drewN m7) := ((Fr.refl w6 no).alloc _).drewN _
  have HF67 := Aside0.mk hf67
  have HT7 := Aside0.mk (HT6.out.fr hf67 (fun h => h) (fun h => h))
  clear hf67
  go_wp2_with fail
  refine (names_calls _ g b _ _ HT7.out (by decide)).mono ?_
  rintro e w8 ⟨v8, l8, rfl, ho8, hr8, hf8⟩
  have hl8 : l8 = [sA] := hr8.eq (by simp [Sorted]) (fun s => by
    unfold del
    by_cases e : s = sB
    · subst e; simp [sA, sB]
    · rw [if_neg e, HM.out]
      simp
      constructor
      · rintro rfl; exact ⟨size_sA, .inl rfl⟩
      · rintro ⟨_, h⟩; exact h.resolve_right e)
  rw [hl8] at ho8
  obtain ⟨A8, c8, rfl, _, _⟩ := ho8.form
  have HO8 := Aside0.mk ho8; have HF8 := Aside0.mk hf8
  clear ho8 hr8 hf8 hl8
  go_wp2_with fail
  refine (texts_calls _ A8 c8 [sA] _ 1 [sA] (HO8.out.alloc _).kd (kd_lit (l := [sA]) (heap_alloc_new w8 _) (by decide)) (by decide)).mono ?_
  rintro e w9 ⟨rfl, m9, rfl⟩
  rw [show decide ([sA] = [sA]) = true from by simp]
  go_wp2_with fail
  go_ret
  refine ⟨rfl, ?_⟩
  have h1 := HF1.out.no_below
  have hb := HB.out
  have h2 := below_fr h1 HF2.out (fun k hk => by rw [hk]; exact hb)
  have h3 := below_fr h2 HF3.out (fun k hk => by rw [hk]; exact hb)
  have h4 := below_fr h3 HF4.out (fun k hk => by rw [hk]; exact hb)
  have h5 := below_fr h4 HF5.out (fun k hk => hk.elim)
  have h6 := below_fr h5 HF6.out (fun k hk => by rw [hk]; exact hb)
  have h7 := below_fr h6 HF67.out (fun k hk => hk.elim)
  have h8 := below_fr h7 HF8.out (fun k hk => hk.elim)
  exact below_fr h8 (((Fr.refl w8 no).alloc _).drewN _) (fun k hk => hk.elim)

end Go.Proofs.Ytdpchfifaidamaa.T
