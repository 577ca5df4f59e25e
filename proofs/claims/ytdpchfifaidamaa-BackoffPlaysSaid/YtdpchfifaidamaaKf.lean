/- Fail. No condition. -/
import Derived.Test.YtdpchfifaidamaaKe
import Derived.Deep.CutBlock
namespace Go.Proofs.Ytdpchfifaidamaa.K
open Go.RowKit Go.Maps Go.Proofs.YtdpchfifaidamaaW.PrintWords Go.Proofs.Ytdpchfifaidamaa.B
set_option linter.unusedVariables false
set_option linter.unusedSimpArgs false

theorem fail_no (w : World) (g b : Nat) (v : Value) (base n : Nat) (L : List N3) (F M R : Int) (s : ByteArray) (now : Int) (h : BT w g b v base n L F M R) (ht : timeB now = false) :
    Calls Try.prog 23 #[.pointer (some ⟨g, 0, none⟩), .string s, .int .i64 now] w fun e w' => e = .returned (.int .i64 0) ∧ w = w' := by
  have HT := Aside0.mk ht
  obtain ⟨-, -, hc2, -, -⟩ := h.cell
  have HH := Aside0.mk h
  clear ht h
  go_enter Try.func23, Try.ntmps23
  go_wp2_with (first
    | (go_at_call 82; refine (there_calls _ g F hc2 HH.out.par.f1).mono ?_; rintro e w' ⟨rfl, rfl⟩)
    | (go_at_call 80; refine (time_calls now _).mono ?_; rintro e w' ⟨rfl, rfl⟩; rw [HT.out]))
  go_ret
  exact ⟨rfl, rfl⟩

def BPost (w : World) (g b : Nat) (v : Value) (base n : Nat) (L : List N3) (F M R : Int) (r : Value) (e : Ending) (w' : World) : Prop :=
  ∃ v', e = .returned r ∧ BT w' g b v' base n L F M R ∧ Fr (SB g b v) w w'
theorem note_append {L : List N3} {s : ByteArray} (x : N3) (hs : at3 L s = none) (hx : x.group = s) (t : ByteArray) : upd2 (note L) s (x.len, x.til) t = note (L ++ [x]) t := by
  unfold upd2 note at3
  rw [List.find?_append]
  by_cases e : t = s
  · subst e
    rw [if_pos rfl]
    unfold at3 at hs
    rw [hs]
    simp [hx]
  · rw [if_neg e]
    have : ¬ s = t := fun h => e h.symm
    simp [hx, this]
theorem note_set {L : List N3} {s : ByteArray} (k : Nat) (hk : k < L.length) (x : N3) (he : L[k].group = s) (hb : ∀ n ∈ L.take k, n.group ≠ s) (hx : x.group = s) (t : ByteArray) : upd2 (note L) s (x.len, x.til) t = note (L.set k x) t := by
  have h1 : L = L.take k ++ L[k] :: L.drop (k + 1) := by rw [← List.drop_eq_getElem_cons hk, List.take_append_drop]
  have h2 : L.set k x = L.take k ++ x :: L.drop (k + 1) := List.set_eq_take_append_cons_drop .. |>.trans (by rw [if_pos hk])
  unfold upd2 note at3
  rw [h2, List.find?_append, List.find?_cons]
  by_cases e : t = s
  · subst e
    have hn : (L.take k).find? (fun n => decide (n.group = t)) = none := by
      rw [List.find?_eq_none]
      intro n hn h
      exact hb n hn (by simpa using h)
    rw [if_pos rfl, hn]
    simp [hx]
  · rw [if_neg e]
    have e' : ¬ s = t := fun h => e h.symm
    conv => lhs; rw [h1, List.find?_append, List.find?_cons]
    simp [he, hx, e']

structure Mid (w wd : World) (g b : Nat) (v v2 : Value) (base n : Nat) (names : List ByteArray) (L : List N3) (F M R : Int) (bx : Nat) (c1 c2 : Int) : Prop where
  blk : wd.heap[g]? = some (.cells #[.map (some b), v2, .int .i64 F, .int .i64 M, .int .i64 R] 115 (0, 0))
  own : SRow wd base v2 names
  map : MapIs2 wd b n (note L)
  box : wd.heap[bx]? = some (.cells #[.int .i64 c1, .int .i64 c2] 117 (0, 0))
  base_le : base ≤ wd.heap.size
  fr : Fr (SB g b v) w wd
  bx0 : w.heap.size ≤ bx
theorem Mid.set {w wd : World} {g b : Nat} {v v2 : Value} {base n : Nat} {names : List ByteArray} {L : List N3} {F M R : Int} {bx : Nat} {c1 c2 : Int} (h : Mid w wd g b v v2 base n names L F M R bx c1 c2) (i : Nat) (t d1 d2 : Int) (hd : (#[Value.int .i64 c1, .int .i64 c2] : Array Value).setIfInBounds i (.int .i64 t) = #[.int .i64 d1, .int .i64 d2]) :
    Mid w (wd.setCell ⟨bx, i, none⟩ (.int .i64 t)) g b v v2 base n names L F M R bx d1 d2 := by
  have hfs : Fr (fun k => k = bx) wd (wd.setCell ⟨bx, i, none⟩ (.int .i64 t)) := (Fr.refl wd (fun k => k = bx)).setCell (p := ⟨bx, i, none⟩) (.inl rfl) _
  refine ⟨blk_fr h.blk hfs ?_, h.own.fr hfs ?_, h.map.fr hfs ?_, ?_, Nat.le_trans h.base_le hfs.size, h.fr.then_ hfs (fun k hk => .inr (by rw [hk]; exact h.bx0)), h.bx0⟩
  · intro e
    have h1 := h.blk
    rw [e, h.box] at h1
    cases h1
  · intro k hk e
    obtain ⟨cs, hc⟩ := h.own.cells hk
    rw [e, h.box] at hc
    cases hc
  · intro e
    exact h.map.cells_ne h.box e.symm
  · have := blk_set h.box i (.int .i64 t)
    rw [hd] at this
    exact this
theorem Mid.drew {w wd : World} {g b : Nat} {v v2 : Value} {base n : Nat} {names : List ByteArray} {L : List N3} {F M R : Int} {bx : Nat} {c1 c2 : Int} (h : Mid w wd g b v v2 base n names L F M R bx c1 c2) (m : Nat) : Mid w (wd.drewN m) g b v v2 base n names L F M R bx c1 c2 :=
  ⟨h.blk, h.own, h.map.drewN m, h.box, h.base_le, h.fr.drewN m, h.bx0⟩
theorem Mid.done {w wd w4 : World} {g b : Nat} {v v2 : Value} {base n : Nat} {names : List ByteArray} {L L' : List N3} {F M R : Int} {bx : Nat} {c1 c2 : Int} {s : ByteArray} (h : Mid w wd g b v v2 base n names L F M R bx c1 c2) (hP : Par F M R)
    (hm : MapIs2 w4 b (n + 1) (upd2 (note L) s (c1, c2))) (hf : Fr (fun k => k = b) wd w4) (hn : names = L'.map N3.group) (hl : ∀ t, upd2 (note L) s (c1, c2) t = note L' t) : BT w4 g b v2 base (n + 1) L' F M R ∧ Fr (SB g b v) w w4 := by
  refine ⟨⟨blk_fr h.blk hf (fun e => h.map.cells_ne h.blk e), ?_, hm.congr (fun t _ => hl t), Nat.le_trans h.base_le hf.size, hP⟩, h.fr.then_ hf (fun k hk => .inl (.inr (.inl hk)))⟩
  rw [← hn]
  refine h.own.fr hf (fun k hk e => ?_)
  obtain ⟨cs, hc⟩ := h.own.cells hk
  exact h.map.cells_ne hc e

set_option maxRecDepth 100000 in
set_option maxHeartbeats 1000000 in
theorem fail_new (w : World) (g b : Nat) (v : Value) (base n : Nat) (L : List N3) (F M R : Int) (s : ByteArray) (now : Int) (h : BT w g b v base n L F M R) (hs : s.size ≤ maxLen) (hn : n < 1000000000) (hL : L.length < 1000000000) (ht : timeB now = true) (ha : at3 L s = none) :
    Calls Try.prog 23 #[.pointer (some ⟨g, 0, none⟩), .string s, .int .i64 now] w (BPost w g b v base (n + 1) (L ++ [⟨s, F, now + F⟩]) F M R (.int .i64 F)) := by
  have HT := Aside0.mk ht
  have HH := Aside0.mk h
  have HS := Aside0.mk hs
  have HN := Aside0.mk hn
  have HA := Aside0.mk ha
  have HC := Aside0.mk (show (note L s).getD (0, 0) = (0, 0) by unfold note; rw [ha]; rfl)
  have HI := Aside0.mk (show (note L s).isSome = false by unfold note; rw [ha]; rfl)
  have hu117 := Try.underlying117
  obtain ⟨hc0, -, hc2, -, -⟩ := h.cell
  obtain ⟨w1, hw1⟩ : ∃ w1, w1 = w.alloc (.cells #[.int .i64 0, .int .i64 0] 117) := ⟨_, rfl⟩
  have hf1 : Fr no w w1 := by rw [hw1]; exact (Fr.refl w no).alloc _
  have H1 := Aside0.mk (h.no hf1)
  have hbx := heap_alloc_new w (.cells #[.int .i64 0, .int .i64 0] 117)
  have hP := h.par
  have hf1' := hP.f1
  have hf2' : F ≤ 1099511627776 := Int.le_trans hP.fm hP.m1
  have hb : 0 ≤ now ∧ now ≤ 1099511627776 := by unfold timeB at ht; simpa using ht
  obtain ⟨hb1, hb2⟩ := hb
  have hsum : IntKind.i64.wrap (now + F) = now + F := IntWalk.i64_in _ (by omega)
  have hmx : max 0 (now + F) = now + F := by omega
  have HSUM := Aside0.mk hsum
  have HMX := Aside0.mk hmx
  have HF1 := Aside0.mk hf1
  obtain ⟨hd0, hd1, hd2, hd3, hd4⟩ := H1.out.cell
  obtain ⟨l, hl⟩ : ∃ l, l = L.map N3.group := ⟨_, rfl⟩
  have hown := H1.out.own
  rw [← hl] at hown
  obtain ⟨A, c, hv, hlc, -, -⟩ := hown.form
  have HV := Aside0.mk hv
  have HL := Aside0.mk hl
  have HOWN := Aside0.mk hown
  rw [hv] at hd1
  have hll : l.length < 1000000000000 := by rw [hl, List.length_map]; omega
  have HLL := Aside0.mk hll
  obtain ⟨bx, hbx0⟩ : ∃ bx, bx = w.heap.size := ⟨_, rfl⟩
  have HBX := Aside0.mk (show w1.heap[bx]? = some (.cells #[.int .i64 0, .int .i64 0] 117 (0, 0)) by rw [hw1, hbx0]; exact hbx)
  have HW1 := Aside0.mk hw1
  have HBX0 := Aside0.mk hbx0
  have HOB := Aside0.mk (show ∀ k, v.ownBlock = some k → bx ≠ k by intro k hk; have := hown.cells hk; have h2 := HBX.out; intro e; rw [e] at h2; obtain ⟨cs, h3⟩ := this; rw [h2] at h3; cases h3)
  clear h hs hn hL ht ha hf1 hbx hP hb1 hb2 hsum hmx hf1' hf2' hlc hll hl hown hv hbx0 hw1
  go_enter Try.func23, Try.ntmps23
  go_upto_block 0 with (first
    | (go_at_call 82; refine (there_calls _ g F hc2 HH.out.par.f1).mono ?_; rintro e w' ⟨rfl, rfl⟩)
    | (go_at_call 80; refine (time_calls now _).mono ?_; rintro e w' ⟨rfl, rfl⟩; rw [HT.out])
    | (at_lookup; refine wpL2_lookup_ok rfl _ _ rfl rfl HH.out.map s rfl HS.out 0 0 false HC.out HI.out ?_))
  rw [← HW1.out, ← HBX0.out]
  go_cut [] from 26 to 67 (fun wd => ∃ v2 names, Aside0 (Mid w wd g b v v2 base n names L F M R bx F 0) ∧ Aside0 (names = (L ++ [({ group := s, len := F, til := now + F } : N3)]).map N3.group))
  case first =>
    go_upto_region 7 with (first
      | (at_builtin; refine wpL_append_row base rfl _ _ rfl (.slice A l.length c) l s w1.heap.size rfl rfl (heap_alloc_new w1 _) ((HV.out ▸ HOWN.out : SRow w1 base (.slice A l.length c) l).alloc _) ?_ HLL.out ?_; (exact Nat.le_trans H1.out.base_le (by simp)); intro g2 c2 w2 ho2 hf2; have HO2 := Aside0.mk ho2; have HF2 := Aside0.mk (show Fr (fun k => v.ownBlock = some k) w1 w2 from ((Fr.refl w1 (fun k => v.ownBlock = some k)).alloc _).then_ hf2 (fun k hk => .inl (HV.out ▸ hk))); have hg2 := blk_fr H1.out.blk HF2.out H1.out.gv; have HG2 := Aside0.mk hg2; have hz2 : w2.frozen? ⟨g, 1, none⟩ = false := blk_frozen hg2 1; have hz3 : w2.cell? ⟨g, 1, none⟩ = some (.slice A l.length c) := HV.out ▸ ((blk_cell hg2 1).trans rfl); clear ho2 hf2 hg2))
    obtain ⟨v2, hv2⟩ : ∃ v2, v2 = Value.slice (some ⟨g2, 0, none⟩) (l.length + 1) c2 := ⟨_, rfl⟩
    rw [← hv2] at HO2 ⊢
    have HV2 := Aside0.mk hv2
    clear hv2
    obtain ⟨w3, hw3⟩ : ∃ w3, w3 = w2.setCell ⟨g, 1, none⟩ v2 := ⟨_, rfl⟩
    have hfs : Fr (fun k => k = g) w2 w3 := by rw [hw3]; exact (Fr.refl w2 (fun k => k = g)).setCell (p := ⟨g, 1, none⟩) (.inl rfl) _
    have hblk : w3.heap[g]? = some (.cells #[.map (some b), v2, .int .i64 F, .int .i64 M, .int .i64 R] 115 (0, 0)) := by rw [hw3]; exact blk_set HG2.out 1 v2
    have hmid : Mid w w3 g b v v2 base n (l ++ [s]) L F M R bx 0 0 := by
      refine ⟨hblk, HO2.out.fr hfs ?_, (H1.out.map.fr HF2.out H1.out.bv).fr hfs (fun e => H1.out.gb e.symm), blk_fr (blk_fr HBX.out HF2.out ?_) hfs ?_, Nat.le_trans H1.out.base_le (Nat.le_trans HF2.out.size hfs.size), ((HF1.out.mono (fun _ h => h.elim)).then_ HF2.out (fun k hk => .inl (.inr (.inr hk)))).then_ hfs (fun k hk => .inl (.inl hk)), Nat.le_of_eq HBX0.out.symm⟩
      · intro k hk e
        obtain ⟨cs, hc⟩ := HO2.out.cells hk
        rw [e, HG2.out] at hc
        cases hc
      · exact fun hk => HOB.out bx hk rfl
      · intro e
        have h1 := HBX.out
        rw [e, H1.out.blk] at h1
        cases h1
    have MID := Aside0.mk hmid
    have ha0 : w3.cell? ⟨g, 2, none⟩ = some (.int .i64 F) := (blk_cell hblk 2).trans rfl
    have ha1 : w3.cell? ⟨bx, 0, none⟩ = some (.int .i64 0) := (blk_cell hmid.box 0).trans rfl
    have ha2 : w3.frozen? ⟨bx, 0, none⟩ = false := blk_frozen hmid.box 0
    rw [← hw3]
    clear hw3 hfs hblk hmid hz2 hz3
    go_wp2_with fail
    go_meet
    exact ⟨v2, l ++ [s], ⟨MID.out.set 0 F F 0 rfl⟩, ⟨by rw [HL.out]; simp⟩⟩
  case rest =>
  obtain ⟨v2, names, MID, HNM⟩ := hcut
  clear hc0 hc2 hd0 hd1 hd2 hd3 hd4
  have hb0 : wc.cell? ⟨bx, 0, none⟩ = some (.int .i64 F) := (blk_cell MID.out.box 0).trans rfl
  have hb1 : wc.cell? ⟨bx, 1, none⟩ = some (.int .i64 0) := (blk_cell MID.out.box 1).trans rfl
  have hz1 : wc.frozen? ⟨bx, 1, none⟩ = false := blk_frozen MID.out.box 1
  have hsum := HSUM.out
  go_upto_region 10 with fail
  go_cut [] from 68 to 83 (fun wd => Aside0 (Mid w wd g b v v2 base n names L F M R bx F (max 0 (now + F))))
  case first =>
    go_wp2_with fail
    all_goals
      go_meet
      exact ⟨MID.out.set 1 _ F (max 0 (now + F)) (by simp; omega)⟩
  case rest =>
  clear hb0 hb1 hz1 hsum
  have MID2 := hcut
  clear hcut
  obtain ⟨tl, htl⟩ : ∃ tl, tl = max 0 (now + F) := ⟨_, rfl⟩
  rw [← htl] at MID2
  have HTL := Aside0.mk htl
  have hb0 : wc.cell? ⟨bx, 0, none⟩ = some (.int .i64 F) := (blk_cell MID2.out.box 0).trans rfl
  have hb1 : wc.cell? ⟨bx, 1, none⟩ = some (.int .i64 tl) := (blk_cell MID2.out.box 1).trans rfl
  have hb2 : wc.cell? ⟨g, 0, none⟩ = some (.map (some b)) := (blk_cell MID2.out.blk 0).trans rfl
  clear htl
  go_upto_region 11 with fail
  go_still_tail 6, (by kernel_rfl)
  change wpList _ _ _ _ _ wc.drew
  refine wpL2_update rfl _ _ _ rfl rfl (MID2.out.map.drewN 1) (by have := HN.out; simp only [maxLen]; omega) s rfl HS.out F tl rfl ?_
  intro w4 hm4 hf4 _
  have hdone := (MID2.out.drew 1).done HH.out.par hm4 hf4 HNM.out (fun t => by rw [HTL.out, HMX.out]; exact note_append ⟨s, F, now + F⟩ HA.out rfl t)
  have DONE := Aside0.mk hdone
  have hcl := cell_fr (S := fun k => k = b) hb0 (((Fr.refl wc (fun k => k = b)).drewN 1).then_ hf4 (fun k hk => .inl hk)) (fun e => MID2.out.map.cells_ne MID2.out.box e)
  clear hm4 hf4 hdone hb0 hb1 hb2
  go_wp2_with fail
  go_ret
  exact ⟨v2, rfl, DONE.out.1, DONE.out.2⟩
end Go.Proofs.Ytdpchfifaidamaa.K
