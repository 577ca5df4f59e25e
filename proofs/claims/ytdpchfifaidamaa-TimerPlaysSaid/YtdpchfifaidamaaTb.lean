/- The contract of the timer's Note: what is noted is what was named, since the first time. No condition. -/
import Derived.Test.YtdpchfifaidamaaTa
namespace Go.Proofs.Ytdpchfifaidamaa.T
open Go.RowKit Go.Maps Go.Proofs.YtdpchfifaidamaaW.PrintWords Go.Proofs.Ytdpchfifaidamaa.B
set_option linter.unusedVariables false
set_option linter.unusedSimpArgs false

theorem cell_not_map {w : World} {b n : Nat} {f : ByteArray → Option Int} (h : MapIs w b n f) {a : Addr} {v : Value} (hc : w.cell? a = some v) : a.block ≠ b := by
  obtain ⟨D, ⟨es, clock, hb, _⟩, _⟩ := h
  intro e
  simp [World.cell?, e, hb] at hc

def cntf (l : List ByteArray) : ByteArray → Option Int := fun s => if l.count s = 0 then none else some (l.count s : Int)
theorem cntf_nil : cntf [] = fun _ => none := rfl
theorem cntf_step (l : List ByteArray) (x : ByteArray) : upd (cntf l) x ((cntf l x).getD 0 + 1) = cntf (l ++ [x]) := by
  funext s
  unfold upd cntf
  by_cases e : s = x
  · subst e
    by_cases h : l.count s = 0 <;> simp [h, List.count_append]
  · have : ([x] : List ByteArray).count s = 0 := List.count_eq_zero.2 (by simpa using e)
    simp [List.count_append, e, this]
theorem cntf_zero (l : List ByteArray) (s : ByteArray) : ((cntf l s).getD 0 == 0) = !decide (s ∈ l) := by
  unfold cntf
  by_cases h : s ∈ l
  · have : 0 < l.count s := List.count_pos_iff.2 h
    rw [if_neg (by omega)]
    simp [h]
    omega
  · have : l.count s = 0 := List.count_eq_zero.2 h
    simp [this, h]
theorem cntf_le (l : List ByteArray) (s : ByteArray) : 0 ≤ (cntf l s).getD 0 ∧ (cntf l s).getD 0 ≤ l.length := by
  unfold cntf
  have := List.count_le_length (a := s) (l := l)
  split <;> simp <;> omega
def fstf (f : ByteArray → Option Int) (l : List ByteArray) (now : Int) : ByteArray → Option Int := fun s => match f s with | some c => some c | none => if s ∈ l then some now else none
theorem fstf_nil (f : ByteArray → Option Int) (now : Int) : fstf f [] now = f := by
  funext s; unfold fstf; cases f s <;> simp
theorem fstf_new (f : ByteArray → Option Int) (l : List ByteArray) (now : Int) (x : ByteArray) (h : (fstf f l now x).isSome = false) : upd (fstf f l now) x now = fstf f (l ++ [x]) now := by
  funext s
  have h' : fstf f l now x = none := by simpa using h
  unfold upd
  by_cases e : s = x
  · subst e
    have : f s = none := by unfold fstf at h'; cases hf : f s <;> simp_all
    simp [fstf, this]
  · rw [if_neg e]; unfold fstf; cases f s <;> simp [e]
theorem fstf_old (f : ByteArray → Option Int) (l : List ByteArray) (now : Int) (x : ByteArray) (h : (fstf f l now x).isSome = true) : fstf f l now = fstf f (l ++ [x]) now := by
  funext s
  by_cases e : s = x
  · subst e
    unfold fstf at h ⊢
    cases hf : f s with
    | some c => rfl
    | none =>
      simp only [hf] at h ⊢
      by_cases hm : s ∈ l
      · simp [hm]
      · simp [hm] at h
  · unfold fstf; cases f s <;> simp [e]
def noted (f : ByteArray → Option Int) (l : List ByteArray) (now : Int) : ByteArray → Option Int := fun s => if s ∈ l then some ((f s).getD now) else none
def lstf (f : ByteArray → Option Int) (l : List ByteArray) (left : ByteArray → Bool) : ByteArray → Option Int := fun s => if s ∈ l ∨ left s = true then f s else none
theorem lstf_start (f : ByteArray → Option Int) (l : List ByteArray) : lstf f l (fun s => (f s).isSome) = f := by
  funext s; unfold lstf; cases hf : f s <;> simp [hf]
theorem lstf_drop (f : ByteArray → Option Int) (l : List ByteArray) (left : ByteArray → Bool) (x : ByteArray) (hx : ¬ x ∈ l) : del (lstf f l left) x = lstf f l (fun z => left z && !decide (z = x)) := by
  funext s
  unfold del lstf
  by_cases e : s = x
  · subst e; simp [hx]
  · simp [e]
theorem lstf_keep (f : ByteArray → Option Int) (l : List ByteArray) (left : ByteArray → Bool) (x : ByteArray) (hx : x ∈ l) : lstf f l left = lstf f l (fun z => left z && !decide (z = x)) := by
  funext s
  unfold lstf
  by_cases e : s = x
  · subst e; simp [hx]
  · simp [e]
theorem lstf_end (f : ByteArray → Option Int) (l : List ByteArray) (now : Int) (left : ByteArray → Bool) (s : ByteArray) (hl : left s = false) : lstf (fstf f l now) l left s = noted f l now s := by
  unfold lstf noted fstf
  rw [hl]
  by_cases h : s ∈ l
  · cases hf : f s <;> simp [h]
  · simp [h]

theorem left_twice (left : ByteArray → Bool) (x : ByteArray) : (fun z => left z && !decide (z = x) && !decide (z = x)) = fun z => left z && !decide (z = x) := by
  funext z
  cases left z <;> cases decide (z = x) <;> rfl
structure NoteInv (w wr : World) (g b n : Nat) (f : ByteArray → Option Int) (now : Int) (l : List ByteArray) : Prop where
  t : TT wr g b (n + l.length) (fstf f l now)
  so : MapIs wr w.heap.size l.length (cntf l)
  fr : Fr (fun k => k = b) w wr
structure NoteRng (w wr : World) (g b r n : Nat) (f : ByteArray → Option Int) (now : Int) (l : List ByteArray) : Prop where
  t : ∃ left cnt, RangeIs wr b r n (lstf (fstf f l now) l left) left cnt
  blk : wr.heap[g]? = some (.cells #[.map (some b)] 67 (0, 0))
  so : MapIs wr w.heap.size l.length (cntf l)
  fr : Fr (fun k => k = b) w wr

def NotePost (w : World) (g b n : Nat) (f : ByteArray → Option Int) (l : List ByteArray) (now : Int) (e : Ending) (w' : World) : Prop :=
  e = .returned (.tuple #[]) ∧ TT w' g b (n + l.length) (noted f l now) ∧ Fr (fun k => k = b) w w'

set_option maxRecDepth 100000 in
set_option maxHeartbeats 1000000 in
theorem note_yes (w : World) (g b n : Nat) (f : ByteArray → Option Int) (A : Option Addr) (c : Nat) (l : List ByteArray) (now : Int) (H : TT w g b n f) (HR : Kd.C Kd.string w A l.length l) (hc : l.length ≤ c) (hs : ∀ s ∈ l, s.size ≤ maxLen)
    (hn : n + l.length < 1000000000) (ht : timeB now = true) :
    Calls Try.prog 16 #[.pointer (some ⟨g, 0, none⟩), .slice A l.length c, .int .i64 now] w (NotePost w g b n f l now) := by
  have hmm := @run_makeMap Try.prog
  have HH := Aside0.mk H
  have hc0 : w.cell? ⟨g, 0, none⟩ = some (.map (some b)) := (blk_cell H.blk 0).trans rfl
  have HRR := Aside0.mk HR
  have HS := Aside0.mk hs
  have hn' := Aside0.mk hn
  have hwf : Aside0 ((Lit.int .i64 now).wf = true) := ⟨by
    unfold timeB at ht
    simp at ht
    exact WalkArith.wf_i64 (by omega)⟩
  clear H HR hs hn hc
  go_enter Try.func16, Try.ntmps16
  go_wp2_with (first
    | (go_at_call 77; refine (there_yes _ g b hc0).mono ?_; rintro e w' ⟨rfl, rfl⟩)
    | (go_at_call 78; refine (time_calls _ _).mono ?_; rintro e w' ⟨rfl, rfl⟩))
  go_loopw [23] (fun i wr => ∃ k : Nat, k ≤ l.length ∧ i = .int .i64 k ∧ Aside0 (NoteInv w wr g b n f now (l.take k))) (fun i _ => l.length - (intOf i).toNat)
  case atStart =>
    refine ⟨0, Nat.zero_le _, rfl, ⟨?_⟩⟩
    have h0 := (Fr.refl w (fun k => k = b)).alloc (.map #[] 0)
    have ht0 := HH.out.fr (S := no) ((Fr.refl w no).alloc (.map #[] 0)) (fun h => h) (fun h => h)
    exact ⟨by rw [List.take_zero, fstf_nil]; exact ht0, by rw [List.take_zero, cntf_nil]; exact MapIs.made w, h0⟩
  case round =>
    obtain ⟨k, hk, rfl, HI⟩ := hrel
    have hlm : l.length < 1000000000 := by have := hn'.out; omega
    by_cases hlt : k < l.length
    · obtain ⟨ad, e, hcell⟩ := Kd.at_string HRR.out (k : Int) (by omega) (by omega)
      cases e
      obtain ⟨x, hx⟩ : ∃ x, x = rdOf ByteArray.empty l (k : Int) := ⟨_, rfl⟩
      rw [← hx] at hcell
      have hxl : l.take (k + 1) = l.take k ++ [x] := by
        rw [List.take_succ_eq_append_getElem hlt, hx]
        simp [rdOf, List.getD_eq_getElem?_getD, List.getElem?_eq_getElem hlt]
      have hxm : x ∈ l := by
        have : x ∈ l.take (k + 1) := by rw [hxl]; simp
        exact List.mem_of_mem_take this
      have HX := Aside0.mk hxl
      have Hxs := Aside0.mk (HS.out x hxm)
      have hbl : (ad.add k).block ≠ b := cell_not_map HH.out.map (by simpa using hcell)
      have hcell' : wr.cell? (ad.add k) = some (.string x) := cell_fr (by simpa using hcell) HI.out.fr hbl
      have hcg : wr.cell? ⟨g, 0, none⟩ = some (.map (some b)) := (blk_cell HI.out.t.blk 0).trans rfl
      have hle := cntf_le (l.take k) x
      have hlk : (l.take k).length = k := by simp; omega
      rw [hlk] at hle
      have hb1 : w.heap.size ≠ b := by have := HH.out.map.lt; omega
      have hg1 : w.heap.size ≠ g := by have := blk_lt HH.out.blk; omega
      have HB1 := Aside0.mk hb1
      have HG1 := Aside0.mk hg1
      have HLK := Aside0.mk hlk
      clear hx hxl hcell hxm hbl hb1 hg1 hlk
      go_wp2_with (first
        | (at_lookup; refine wpL_lookup rfl _ _ rfl rfl HI.out.so x rfl Hxs.out ?_)
        | (at_mapUpdate; refine wpL_update rfl _ _ _ rfl rfl HI.out.so ?_ x rfl Hxs.out _ rfl ?_ ?_; (rw [HLK.out]; unfold maxLen; omega); (exact WalkArith.wf_i64 (by omega)); intro w1 hm1 hf1 hz1; have HM1 := Aside0.mk hm1; have HF1 := Aside0.mk hf1; clear hm1 hf1; have hcg1 : w1.cell? ⟨g, 0, none⟩ = some (.map (some b)) := cell_fr hcg HF1.out (fun e => HG1.out e.symm); have HT1 := Aside0.mk (HI.out.t.fr HF1.out (fun e => HG1.out e.symm) (fun e => HB1.out e.symm)))
        | (at_lookup; refine wpL_lookup_ok rfl _ _ rfl rfl HT1.out.map x rfl Hxs.out ?_)
        | (at_mapUpdate; refine wpL_update rfl _ _ _ rfl rfl HT1.out.map ?_ x rfl Hxs.out _ rfl ?_ ?_; (rw [HLK.out]; unfold maxLen; have hn2 := hn'.out; omega); (exact hwf.out); intro w2 hm2 hf2 hz2; have HM2 := Aside0.mk hm2; have HF2 := Aside0.mk hf2; clear hm2 hf2))
      · go_roundw
        case rel =>
          refine ⟨k + 1, by omega, by go_num, ⟨?_⟩⟩
          have hnew : (fstf f (l.take k) now x).isSome = false := by have h : (fstf f (l.take k) now x).isNone = true := by assumption
                                                                     revert h; cases fstf f (l.take k) now x <;> simp
          rw [HX.out]
          have e1 : n + (l.take k ++ [x]).length = n + (l.take k).length + 1 := by simp; omega
          have e2 : (l.take k ++ [x]).length = (l.take k).length + 1 := by simp
          exact ⟨by rw [e1, ← fstf_new f _ now x hnew]; exact ⟨blk_fr HT1.out.blk HF2.out (fun e => HT1.out.ne e.symm), HT1.out.ne, HM2.out⟩,
            by rw [e2, ← cntf_step]; exact HM1.out.fr HF2.out (fun e => HB1.out e),
            (HI.out.fr.then_ HF1.out (fun k hk => .inr (by rw [hk]; exact Nat.le_refl _))).then_ HF2.out (fun k hk => .inl hk)⟩
        case measure => simp [intOf]; omega
      · go_roundw
        case rel =>
          refine ⟨k + 1, by omega, by go_num, ⟨?_⟩⟩
          have hold : (fstf f (l.take k) now x).isSome = true := by have h : (fstf f (l.take k) now x).isNone = false := by assumption
                                                                    revert h; cases fstf f (l.take k) now x <;> simp
          rw [HX.out]
          have e1 : n + (l.take k ++ [x]).length = n + (l.take k).length + 1 := by simp; omega
          have e2 : (l.take k ++ [x]).length = (l.take k).length + 1 := by simp
          exact ⟨by rw [e1, ← fstf_old f _ now x hold]; exact ⟨HT1.out.blk, HT1.out.ne, HT1.out.map.mono (by omega)⟩,
            by rw [e2, ← cntf_step]; exact HM1.out,
            HI.out.fr.then_ HF1.out (fun k hk => .inr (by rw [hk]; exact Nat.le_refl _))⟩
        case measure => simp [intOf]; omega
    · obtain rfl : k = l.length := by omega
      have hI := HI.out
      rw [List.take_length] at hI
      have HJ := Aside0.mk hI
      clear hI HI
      have hb1 : w.heap.size ≠ b := by have := HH.out.map.lt; omega
      have hg1 : w.heap.size ≠ g := by have := blk_lt HH.out.blk; omega
      have HB1 := Aside0.mk hb1
      have HG1 := Aside0.mk hg1
      clear hb1 hg1
      have hcg : wr.cell? ⟨g, 0, none⟩ = some (.map (some b)) := (blk_cell HJ.out.t.blk 0).trans rfl
      go_wp2_with (first
        | (at_range; refine wpL_range rfl _ rfl rfl HJ.out.t.map ?_; intro w1 cnt hr1 hf1 hz1 hc1; have HR1 := Aside0.mk hr1; have HF1 := Aside0.mk hf1; have HZ1 := Aside0.mk hz1; clear hr1 hf1 hz1 hc1))
      go_frame
      have hinv : NoteRng w w1 g b wr.heap.size (n + l.length) f now l := by
        refine ⟨⟨_, _, by rw [lstf_start]; exact HR1.out⟩, blk_fr HJ.out.t.blk HF1.out (fun h => h), HJ.out.so.fr HF1.out (fun h => h), HJ.out.fr.then_ HF1.out (fun _ h => h.elim)⟩
      have HI := Aside0.mk hinv
      obtain ⟨r, hr⟩ : ∃ r, r = wr.heap.size := ⟨_, rfl⟩
      have hrg : r ≠ g := by have := blk_lt HJ.out.t.blk; omega
      have hrs : r ≠ w.heap.size := by have := HJ.out.so.lt; omega
      have hrw : w.heap.size ≤ r := by have := HJ.out.fr.size; omega
      rw [← hr] at HI ⊢
      have HRG := Aside0.mk hrg
      have HRS := Aside0.mk hrs
      have HRW := Aside0.mk hrw
      clear hinv hrg hrs hrw hr HR1 HF1 HZ1 HJ hcg
      go_loopw [11] (fun _ wr => Aside0 (NoteRng w wr g b r (n + l.length) f now l)) (fun _ wr => wr.rangeLeft b r)
      case atStart => exact HI
      case round =>
        clear HI
        obtain ⟨left, cnt, hrg⟩ := hrel.out.t
        have HR := Aside0.mk hrg
        have HI := hrel
        clear hrg hrel
        go_wp2_with (first
          | (at_next; refine wpL_next rfl _ rfl rfl HR.out ?_ ?_))
        · intro _ hl
          have HL := Aside0.mk hl
          clear hl
          go_wp2
          go_end0
          exact ⟨rfl, ⟨HI.out.blk, HH.out.ne, HR.out.owns.congr (fun s hs => lstf_end f l now left s (HL.out s hs))⟩, HI.out.fr⟩
        · intro x c w2 cnt2 hxs hwc hlx hfx hr2 hlt2 hf2 hz2 hen
          have HXS := Aside0.mk hxs
          have HR2 := Aside0.mk hr2
          have HF2 := Aside0.mk hf2
          have HLX := Aside0.mk hlx
          have HLT := Aside0.mk hlt2
          clear hxs hr2 hf2 hlx hfx hwc hlt2 hz2
          have HSO := Aside0.mk (HI.out.so.fr HF2.out (fun e => HRS.out e.symm))
          have hcg : w2.cell? ⟨g, 0, none⟩ = some (.map (some b)) := (blk_cell (blk_fr HI.out.blk HF2.out (fun e => HRG.out e.symm)) 0).trans rfl
          have hz := cntf_zero l x
          go_wp2_with (first
            | (at_lookup; refine wpL_lookup rfl _ _ rfl rfl HSO.out x rfl HXS.out ?_)
            | (at_delete; refine wpL_delete_range rfl _ _ rfl rfl HR2.out x rfl HXS.out ?_; intro w3 cnt3 hr3 hc3 hf3 hz3; have HR3 := Aside0.mk hr3; have HF3 := Aside0.mk hf3; clear hr3 hf3; go_frame))
          · have hx : ¬ x ∈ l := by
              have h : (!decide (x ∈ l)) = true := by assumption
              simpa using h
            have HX := Aside0.mk hx
            clear hx
            go_roundw
            case rel =>
              have hr3 := HR3.out
              rw [left_twice, lstf_drop _ l _ x HX.out] at hr3
              refine ⟨⟨⟨_, _, hr3⟩, ?_, ?_, ?_⟩⟩
              · exact blk_fr (blk_fr HI.out.blk HF2.out (fun e => HRG.out e.symm)) HF3.out (fun e => HH.out.ne e.symm)
              · exact HSO.out.fr HF3.out (fun e => HB1.out e)
              · exact (HI.out.fr.then_ HF2.out (fun k hk => .inr (by rw [hk]; exact HRW.out))).then_ HF3.out (fun k hk => .inl hk)
            case measure => rw [HR3.out.left_eq, HR.out.left_eq]; have := HLT.out; omega
          · have hx : x ∈ l := by
              have h : (!decide (x ∈ l)) = false := by assumption
              simpa using h
            have HX := Aside0.mk hx
            clear hx
            go_roundw
            case rel =>
              have hr2 := HR2.out
              rw [lstf_keep _ l _ x HX.out] at hr2
              refine ⟨⟨⟨_, _, hr2⟩, ?_, HSO.out, ?_⟩⟩
              · exact blk_fr HI.out.blk HF2.out (fun e => HRG.out e.symm)
              · exact HI.out.fr.then_ HF2.out (fun k hk => .inr (by rw [hk]; exact HRW.out))
            case measure => rw [HR2.out.left_eq, HR.out.left_eq]; exact HLT.out

end Go.Proofs.Ytdpchfifaidamaa.T
