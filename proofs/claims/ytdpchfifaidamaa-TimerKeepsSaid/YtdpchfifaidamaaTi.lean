/- The walk of TimerKeeps: what is noted again and again stays noted since the first time; what is left out once begins anew. No condition. -/
import Derived.Test.YtdpchfifaidamaaTg
namespace Go.Proofs.Ytdpchfifaidamaa.T
open Go.RowKit Go.Maps Go.Proofs.YtdpchfifaidamaaW.PrintWords Go.Proofs.Ytdpchfifaidamaa.B
set_option linter.unusedVariables false
set_option linter.unusedSimpArgs false

theorem str_eq (y name : ByteArray) : (y.toList == name.toList) = decide (name = y) := by
  by_cases h : name = y
  · simp [h]
  · have := toList_ne (Ne.symm h)
    simp [h, this]
structure KInv (w wr : World) (g b n : Nat) (f : ByteArray → Option Int) (name : ByteArray) (now since : Int) (so : Bool) (k : Nat) : Prop where
  tt : TT wr g b n f
  len : n ≤ 3 * k
  at_ : f name = if so then some since else none
  nw : 0 ≤ now ∧ now ≤ 127 * k
  sn : 0 ≤ since ∧ since ≤ now
  times : ∀ s c, f s = some c → 0 ≤ c ∧ c ≤ now
  fr : Below w.heap.size w wr
theorem KInv.times_ {w wr : World} {g b n : Nat} {f : ByteArray → Option Int} {name : ByteArray} {now since : Int} {so : Bool} {k : Nat} (h : KInv w wr g b n f name now since so k) (hk : k ≤ 40) : Times f := fun s c _ hf => by
  have := h.times s c hf
  have := h.nw
  omega

set_option maxRecDepth 100000 in
set_option maxHeartbeats 4000000 in
theorem keeps_walk (w : World) (name : ByteArray) (A : Option Addr) (c : Nat) (l : List Int) (hr : ReadsInt w .u8 A l.length l) (hw : ∀ x ∈ l, 0 ≤ x ∧ x ≤ 255) (hs : name.size ≤ 140737488351232) :
    Calls Try.prog 3 #[.string name, .slice A l.length c] w fun e w' => e = .returned (.bool true) ∧ Below w.heap.size w w' := by
  have HR := Aside0.mk hr
  have HW := Aside0.mk hw
  have hlm : l.length ≤ 9223372036854775807 := hr.2.1
  clear hr hw
  by_cases hb : 300 < name.size
  · have hd : decide (300 < name.size) = true := decide_eq_true hb
    go_enter Try.func3, Try.ntmps3
    go_wp2_with (go_at_call 14; refine (known_calls _).mono ?_; rintro e w' ⟨rfl, hw⟩; have HW := Aside0.mk hw; clear hw)
    go_ret
    exact ⟨rfl, HW.out⟩
  · have hd : decide (300 < name.size) = false := decide_eq_false hb
    have HNS := Aside0.mk (show name.size ≤ maxLen by simp only [maxLen]; omega)
    have hnx : (name ++ (⟨#[120]⟩ : ByteArray)).size = name.size + 1 := by rw [ByteArray.size_append]; rfl
    have hnx2 : (name ++ (⟨#[120]⟩ : ByteArray)).size ≤ maxLen := by rw [hnx]; simp only [maxLen]; omega
    have HNX := Aside0.mk hnx2
    have hne : name ≠ name ++ (⟨#[120]⟩ : ByteArray) := by
      intro e
      rw [← e] at hnx
      omega
    have HNE := Aside0.mk hne
    clear hnx hnx2 hne
    go_enter Try.func3, Try.ntmps3
    go_wp2_with (first
      | (go_at_call 15; refine (new_calls _).mono ?_; rintro e w1 ⟨g, b, rfl, ht1, hf1, hg1, hb1⟩; have HT1 := Aside0.mk ht1; have HF1 := Aside0.mk hf1; have HG := Aside0.mk hg1; have HB := Aside0.mk hb1; clear ht1 hf1 hg1 hb1))
    go_loopw [6, 7, 8, 9] (fun v6 v7 v8 v9 wr => ∃ (k : Nat) (now since : Int) (so : Bool) (n : Nat) (f : ByteArray → Option Int), k ≤ l.length ∧ k ≤ 40 ∧ v6 = .int .i64 now ∧ v7 = .int .i64 since ∧ v8 = .bool so ∧ v9 = .int .i64 k ∧ Aside0 (KInv w wr g b n f name now since so k)) (fun _ _ _ v9 _ => l.length - (intOf v9).toNat)
    case atStart =>
      exact ⟨0, 0, 0, false, 0, _, Nat.zero_le _, by omega, rfl, rfl, rfl, rfl, ⟨⟨HT1.out, by omega, rfl, by omega, by omega, (fun s c h => by cases h), HF1.out.no_below⟩⟩⟩
    case round =>
      obtain ⟨k, now, since, so, n, f, hk, hk40, rfl, rfl, rfl, rfl, HI⟩ := hrel
      by_cases hlt : k < l.length ∧ k < 40
      · obtain ⟨hlt, hlt40⟩ := hlt
        obtain ⟨ad, e, hcell⟩ := HR.out.at_ (k : Int) (by omega) (by omega)
        cases e
        obtain ⟨x, hx⟩ : ∃ x, x = Go.Proofs.YtdpchfifaidamaaW.PrintWords.rd l (k : Int) := ⟨_, rfl⟩
        rw [← hx] at hcell
        have hxb : 0 ≤ x ∧ x ≤ 255 := by
          apply HW.out
          rw [hx]
          simp [Go.Proofs.YtdpchfifaidamaaW.PrintWords.rd, List.getD_eq_getElem?_getD, List.getElem?_eq_getElem hlt]
        obtain ⟨hx0, hx1⟩ := hxb
        have hcell' : wr.cell? (ad.add k) = some (.int .u8 x) := pw_cell_below HI.out.fr (by simpa using hcell)
        have hi1 := HI.out.nw
        have hi2 := HI.out.sn
        clear hcell hx
        by_cases hpar : x % 2 = 0
        · have hp : (x % 2 == 0) = true := by simp [hpar]
          clear hpar
          have hsm : ∀ s ∈ [name, name ++ (⟨#[120]⟩ : ByteArray), name], s.size ≤ maxLen := by
            intro s hs
            simp at hs
            rcases hs with rfl | rfl | rfl
            · exact HNS.out
            · exact HNX.out
            · exact HNS.out
          have HSM := Aside0.mk hsm
          have hat0 : noted f [name, name ++ (⟨#[120]⟩ : ByteArray), name] (now + x / 2) name = some (if so then since else now + x / 2) := by
            have := HI.out.at_
            unfold noted
            rw [if_pos (by simp), this]
            cases so <;> rfl
          have htm0 : ∀ s c, noted f [name, name ++ (⟨#[120]⟩ : ByteArray), name] (now + x / 2) s = some c → 0 ≤ c ∧ c ≤ now + x / 2 := by
            intro s c h
            unfold noted at h
            split at h
            · cases hf : f s with
              | none => rw [hf] at h; simp at h; omega
              | some d => rw [hf] at h; simp at h; have := HI.out.times s d hf; omega
            · cases h
          have htb : timeB (now + x / 2) = true := by unfold timeB; simp; omega
          have hln : n + [name, name ++ (⟨#[120]⟩ : ByteArray), name].length < 1000000000 := by have h1 := HI.out.len; show n + 3 < 1000000000; omega
          have HLN := Aside0.mk hln
          have HTB := Aside0.mk htb
          have HN2 := Aside0.mk hln
          have hti : Times (noted f [name, name ++ (⟨#[120]⟩ : ByteArray), name] (now + x / 2)) := fun s c _ hf => by have := htm0 s c hf; omega
          obtain ⟨f2, hf2n⟩ : ∃ f2, f2 = noted f [name, name ++ (⟨#[120]⟩ : ByteArray), name] (now + x / 2) := ⟨_, rfl⟩
          rw [← hf2n] at hat0 htm0 hti
          have HFN := Aside0.mk hf2n
          have HTI := Aside0.mk hti
          have HAT := Aside0.mk hat0
          have HTM := Aside0.mk htm0
          clear hsm hat0 htm0 htb hln hti hf2n
          cases so with
          | false =>
            go_wp2_with fail
            refine (note_yes _ g b n f (some ⟨wr.heap.size, 0, none⟩) 3 [name, name ++ (⟨#[120]⟩ : ByteArray), name] (now + x / 2) (HI.out.tt.fr ((Fr.refl wr no).alloc _) (fun h => h) (fun h => h)) (kd_lit (l := [name, name ++ (⟨#[120]⟩ : ByteArray), name]) (heap_alloc_new wr _) (by simp)) (by simp) HSM.out HLN.out HTB.out).mono ?_
            rintro e w2 ⟨rfl, ht2, hf2⟩
            rw [← HFN.out] at ht2
            have HT2 := Aside0.mk ht2
            have HF2 := Aside0.mk (((Fr.refl wr _).alloc _).then_ hf2 (fun _ h => .inl h))
            clear ht2 hf2
            go_wp2_with fail
            refine (since_calls _ g b _ _ name HT2.out HNS.out).mono ?_
            rintro e w' ⟨rfl, rfl⟩
            rw [HAT.out]
            go_wp2_with fail
            refine (ripe_yes _ g b _ _ (now + x / 2) 0 HT2.out HN2.out HTI.out HTB.out ?_).mono ?_
            · omega
            rintro e w3 ⟨v3, nl, rfl, ho3, hr3, hf3⟩
            obtain ⟨A3, c3, rfl, hle3, hC3⟩ := ho3.form
            obtain ⟨rl, hrl⟩ : ∃ rl, rl = nl.filter (ripeB f2 (now + x / 2) 0) := ⟨_, rfl⟩
            have hmem : name ∈ rl ↔ (true : Bool) = true := by
              rw [hrl, List.mem_filter, hr3.mem]
              simp only [ripeB, at0, HAT.out, Option.isSome_some, decide_eq_true_eq]
              exact ⟨fun _ => trivial, fun _ => ⟨⟨HNS.out, trivial⟩, by simp⟩⟩
            have hrll : rl.length < 1000000000 := by
              have h1 := List.length_filter_le (ripeB f2 (now + x / 2) 0) nl
              rw [← hrl] at h1
              have h2 := hr3.len
              have h3 := HN2.out
              omega
            rw [← hrl] at hC3 hle3 ⊢
            have HC3 := Aside0.mk hC3; have HF3 := Aside0.mk hf3; have HMEM := Aside0.mk hmem
            have HT3 := Aside0.mk (HT2.out.fr hf3 (fun h => h) (fun h => h))
            clear ho3 hr3 hf3 hrl hC3 hle3 hmem
            go_wp2
            go_loop [13, 14] (fun v13 v14 => ∃ j : Nat, j ≤ rl.length ∧ v14 = .int .i64 j ∧ v13 = .bool (decide (name ∈ rl.take j))) (fun _ v14 => rl.length - (intOf v14).toNat)
            case atStart => exact ⟨0, Nat.zero_le _, rfl, by simp⟩
            case round =>
              obtain ⟨j, hj, rfl, rfl⟩ := hrel
              by_cases hjl : j < rl.length
              · obtain ⟨ad3, e3, hcell3⟩ := Kd.at_string HC3.out (j : Int) (by omega) (by omega)
                cases e3
                have htk := take_snoc rl j hjl
                obtain ⟨y, hy⟩ : ∃ y, y = rdOf ByteArray.empty rl (j : Int) := ⟨_, rfl⟩
                rw [← hy] at hcell3 htk
                rw [Int.toNat_natCast] at hcell3
                have HTK := Aside0.mk htk
                clear hy htk
                by_cases hin : name ∈ rl.take j
                · have hdm : decide (name ∈ rl.take j) = true := by simpa using hin
                  have HIN := Aside0.mk hin
                  clear hin
                  go_wp2
                  go_round
                  case rel => exact ⟨j + 1, by omega, by go_num, by rw [HTK.out]; simp [HIN.out]⟩
                  case measure => simp [intOf]; omega
                · have hdm : decide (name ∈ rl.take j) = false := by simpa using hin
                  have HIN := Aside0.mk hin
                  clear hin
                  go_wp2
                  go_round
                  case rel => exact ⟨j + 1, by omega, by go_num, by rw [HTK.out]; simp [HIN.out, str_eq]⟩
                  case measure => simp [intOf]; omega
              · obtain rfl : j = rl.length := by omega
                have hdm : decide (name ∈ rl.take rl.length) = true := by rw [List.take_length]; have h := HMEM.out; simpa using h
                have hdm2 : decide (name ∈ rl) = true := by have h := HMEM.out; simpa using h
                go_wp2
                go_roundw
                case rel =>
                  refine ⟨k + 1, now + x / 2, (now + x / 2), true, _, _, by omega, by omega, rfl, rfl, rfl, by go_num, ⟨⟨HT3.out, ?_, HAT.out, by have := HI.out.nw; omega, by have := HI.out.sn; omega, HTM.out, ?_⟩⟩⟩
                  · have := HI.out.len
                    first | (show n + 3 ≤ 3 * (k + 1); omega) | (show n + 1 ≤ 3 * (k + 1); omega)
                  · exact below_fr (below_fr HI.out.fr HF2.out (fun k hk => by rw [hk]; exact HB.out)) HF3.out (fun k hk => hk.elim)
                case measure => simp [intOf]; omega
          | true =>
            go_wp2_with fail
            refine (note_yes _ g b n f (some ⟨wr.heap.size, 0, none⟩) 3 [name, name ++ (⟨#[120]⟩ : ByteArray), name] (now + x / 2) (HI.out.tt.fr ((Fr.refl wr no).alloc _) (fun h => h) (fun h => h)) (kd_lit (l := [name, name ++ (⟨#[120]⟩ : ByteArray), name]) (heap_alloc_new wr _) (by simp)) (by simp) HSM.out HLN.out HTB.out).mono ?_
            rintro e w2 ⟨rfl, ht2, hf2⟩
            rw [← HFN.out] at ht2
            have HT2 := Aside0.mk ht2
            have HF2 := Aside0.mk (((Fr.refl wr _).alloc _).then_ hf2 (fun _ h => .inl h))
            clear ht2 hf2
            go_wp2_with fail
            refine (since_calls _ g b _ _ name HT2.out HNS.out).mono ?_
            rintro e w' ⟨rfl, rfl⟩
            rw [HAT.out]
            go_wp2_with fail
            refine (ripe_yes _ g b _ _ (now + x / 2) (now + x / 2 - since) HT2.out HN2.out HTI.out HTB.out ?_).mono ?_
            · omega
            rintro e w3 ⟨v3, nl, rfl, ho3, hr3, hf3⟩
            obtain ⟨A3, c3, rfl, hle3, hC3⟩ := ho3.form
            obtain ⟨rl, hrl⟩ : ∃ rl, rl = nl.filter (ripeB f2 (now + x / 2) (now + x / 2 - since)) := ⟨_, rfl⟩
            have hmem : name ∈ rl ↔ (true : Bool) = true := by
              rw [hrl, List.mem_filter, hr3.mem]
              simp only [ripeB, at0, HAT.out, Option.isSome_some, decide_eq_true_eq]
              exact ⟨fun _ => trivial, fun _ => ⟨⟨HNS.out, trivial⟩, by simp⟩⟩
            have hrll : rl.length < 1000000000 := by
              have h1 := List.length_filter_le (ripeB f2 (now + x / 2) (now + x / 2 - since)) nl
              rw [← hrl] at h1
              have h2 := hr3.len
              have h3 := HN2.out
              omega
            rw [← hrl] at hC3 hle3 ⊢
            have HC3 := Aside0.mk hC3; have HF3 := Aside0.mk hf3; have HMEM := Aside0.mk hmem
            have HT3 := Aside0.mk (HT2.out.fr hf3 (fun h => h) (fun h => h))
            clear ho3 hr3 hf3 hrl hC3 hle3 hmem
            go_wp2
            go_loop [13, 14] (fun v13 v14 => ∃ j : Nat, j ≤ rl.length ∧ v14 = .int .i64 j ∧ v13 = .bool (decide (name ∈ rl.take j))) (fun _ v14 => rl.length - (intOf v14).toNat)
            case atStart => exact ⟨0, Nat.zero_le _, rfl, by simp⟩
            case round =>
              obtain ⟨j, hj, rfl, rfl⟩ := hrel
              by_cases hjl : j < rl.length
              · obtain ⟨ad3, e3, hcell3⟩ := Kd.at_string HC3.out (j : Int) (by omega) (by omega)
                cases e3
                have htk := take_snoc rl j hjl
                obtain ⟨y, hy⟩ : ∃ y, y = rdOf ByteArray.empty rl (j : Int) := ⟨_, rfl⟩
                rw [← hy] at hcell3 htk
                rw [Int.toNat_natCast] at hcell3
                have HTK := Aside0.mk htk
                clear hy htk
                by_cases hin : name ∈ rl.take j
                · have hdm : decide (name ∈ rl.take j) = true := by simpa using hin
                  have HIN := Aside0.mk hin
                  clear hin
                  go_wp2
                  go_round
                  case rel => exact ⟨j + 1, by omega, by go_num, by rw [HTK.out]; simp [HIN.out]⟩
                  case measure => simp [intOf]; omega
                · have hdm : decide (name ∈ rl.take j) = false := by simpa using hin
                  have HIN := Aside0.mk hin
                  clear hin
                  go_wp2
                  go_round
                  case rel => exact ⟨j + 1, by omega, by go_num, by rw [HTK.out]; simp [HIN.out, str_eq]⟩
                  case measure => simp [intOf]; omega
              · obtain rfl : j = rl.length := by omega
                have hdm : decide (name ∈ rl.take rl.length) = true := by rw [List.take_length]; have h := HMEM.out; simpa using h
                have hdm2 : decide (name ∈ rl) = true := by have h := HMEM.out; simpa using h
                go_wp2
                go_roundw
                case rel =>
                  refine ⟨k + 1, now + x / 2, since, true, _, _, by omega, by omega, rfl, rfl, rfl, by go_num, ⟨⟨HT3.out, ?_, HAT.out, by have := HI.out.nw; omega, by have := HI.out.sn; omega, HTM.out, ?_⟩⟩⟩
                  · have := HI.out.len
                    first | (show n + 3 ≤ 3 * (k + 1); omega) | (show n + 1 ≤ 3 * (k + 1); omega)
                  · exact below_fr (below_fr HI.out.fr HF2.out (fun k hk => by rw [hk]; exact HB.out)) HF3.out (fun k hk => hk.elim)
                case measure => simp [intOf]; omega
        · have hp : (x % 2 == 0) = false := by simp [hpar]
          clear hpar
          have hsm : ∀ s ∈ [name ++ (⟨#[120]⟩ : ByteArray)], s.size ≤ maxLen := by
            intro s hs
            simp at hs
            rw [hs]
            exact HNX.out
          have HSM := Aside0.mk hsm
          have hat0 : noted f [name ++ (⟨#[120]⟩ : ByteArray)] (now + x / 2) name = none := by
            unfold noted
            rw [if_neg (by simpa using HNE.out)]
          have htm0 : ∀ s c, noted f [name ++ (⟨#[120]⟩ : ByteArray)] (now + x / 2) s = some c → 0 ≤ c ∧ c ≤ now + x / 2 := by
            intro s c h
            unfold noted at h
            split at h
            · cases hf : f s with
              | none => rw [hf] at h; simp at h; omega
              | some d => rw [hf] at h; simp at h; have := HI.out.times s d hf; omega
            · cases h
          have htb : timeB (now + x / 2) = true := by unfold timeB; simp; omega
          have hln : n + [name ++ (⟨#[120]⟩ : ByteArray)].length < 1000000000 := by have h1 := HI.out.len; show n + 1 < 1000000000; omega
          have HLN := Aside0.mk hln
          have HN2 := Aside0.mk hln
          have HTB := Aside0.mk htb
          have hti : Times (noted f [name ++ (⟨#[120]⟩ : ByteArray)] (now + x / 2)) := fun s c _ hf => by have := htm0 s c hf; omega
          obtain ⟨f2, hf2n⟩ : ∃ f2, f2 = noted f [name ++ (⟨#[120]⟩ : ByteArray)] (now + x / 2) := ⟨_, rfl⟩
          rw [← hf2n] at hat0 htm0 hti
          have HFN := Aside0.mk hf2n
          have HTI := Aside0.mk hti
          have HAT := Aside0.mk hat0
          have HTM := Aside0.mk htm0
          clear hsm hat0 htm0 htb hln hti hf2n
          go_wp2_with fail
          refine (note_yes _ g b n f (some ⟨wr.heap.size, 0, none⟩) 1 [name ++ (⟨#[120]⟩ : ByteArray)] (now + x / 2) (HI.out.tt.fr ((Fr.refl wr no).alloc _) (fun h => h) (fun h => h)) (kd_lit (l := [name ++ (⟨#[120]⟩ : ByteArray)]) (heap_alloc_new wr _) (by simp)) (by simp) HSM.out HLN.out HTB.out).mono ?_
          rintro e w2 ⟨rfl, ht2, hf2⟩
          rw [← HFN.out] at ht2
          have HT2 := Aside0.mk ht2
          have HF2 := Aside0.mk (((Fr.refl wr _).alloc _).then_ hf2 (fun _ h => .inl h))
          clear ht2 hf2
          go_wp2_with fail
          refine (since_calls _ g b _ _ name HT2.out HNS.out).mono ?_
          rintro e w' ⟨rfl, rfl⟩
          rw [HAT.out]
          go_wp2_with fail
          refine (ripe_yes _ g b _ _ (now + x / 2) (now + x / 2 - since) HT2.out HN2.out HTI.out HTB.out ?_).mono ?_
          · omega
          rintro e w3 ⟨v3, nl, rfl, ho3, hr3, hf3⟩
          obtain ⟨A3, c3, rfl, hle3, hC3⟩ := ho3.form
          obtain ⟨rl, hrl⟩ : ∃ rl, rl = nl.filter (ripeB f2 (now + x / 2) (now + x / 2 - since)) := ⟨_, rfl⟩
          have hmem : name ∈ rl ↔ (false : Bool) = true := by
            rw [hrl, List.mem_filter, hr3.mem]
            simp [HAT.out]
          have hrll : rl.length < 1000000000 := by
            have h1 := List.length_filter_le (ripeB f2 (now + x / 2) (now + x / 2 - since)) nl
            rw [← hrl] at h1
            have h2 := hr3.len
            have h3 := HN2.out
            omega
          rw [← hrl] at hC3 hle3 ⊢
          have HC3 := Aside0.mk hC3; have HF3 := Aside0.mk hf3; have HMEM := Aside0.mk hmem
          have HT3 := Aside0.mk (HT2.out.fr hf3 (fun h => h) (fun h => h))
          clear ho3 hr3 hf3 hrl hC3 hle3 hmem
          go_wp2
          go_loop [13, 14] (fun v13 v14 => ∃ j : Nat, j ≤ rl.length ∧ v14 = .int .i64 j ∧ v13 = .bool (decide (name ∈ rl.take j))) (fun _ v14 => rl.length - (intOf v14).toNat)
          case atStart => exact ⟨0, Nat.zero_le _, rfl, by simp⟩
          case round =>
            obtain ⟨j, hj, rfl, rfl⟩ := hrel
            by_cases hjl : j < rl.length
            · obtain ⟨ad3, e3, hcell3⟩ := Kd.at_string HC3.out (j : Int) (by omega) (by omega)
              cases e3
              have htk := take_snoc rl j hjl
              obtain ⟨y, hy⟩ : ∃ y, y = rdOf ByteArray.empty rl (j : Int) := ⟨_, rfl⟩
              rw [← hy] at hcell3 htk
              rw [Int.toNat_natCast] at hcell3
              have HTK := Aside0.mk htk
              clear hy htk
              by_cases hin : name ∈ rl.take j
              · have hdm : decide (name ∈ rl.take j) = true := by simpa using hin
                have HIN := Aside0.mk hin
                clear hin
                go_wp2
                go_round
                case rel => exact ⟨j + 1, by omega, by go_num, by rw [HTK.out]; simp [HIN.out]⟩
                case measure => simp [intOf]; omega
              · have hdm : decide (name ∈ rl.take j) = false := by simpa using hin
                have HIN := Aside0.mk hin
                clear hin
                go_wp2
                go_round
                case rel => exact ⟨j + 1, by omega, by go_num, by rw [HTK.out]; simp [HIN.out, str_eq]⟩
                case measure => simp [intOf]; omega
            · obtain rfl : j = rl.length := by omega
              have hdm : decide (name ∈ rl.take rl.length) = false := by rw [List.take_length]; have h := HMEM.out; simpa using h
              have hdm2 : decide (name ∈ rl) = false := by have h := HMEM.out; simpa using h
              go_wp2
              go_roundw
              case rel =>
                refine ⟨k + 1, now + x / 2, since, false, _, _, by omega, by omega, rfl, rfl, rfl, by go_num, ⟨⟨HT3.out, ?_, HAT.out, by have := HI.out.nw; omega, by have := HI.out.sn; omega, HTM.out, ?_⟩⟩⟩
                · have := HI.out.len
                  first | (show n + 3 ≤ 3 * (k + 1); omega) | (show n + 1 ≤ 3 * (k + 1); omega)
                · exact below_fr (below_fr HI.out.fr HF2.out (fun k hk => by rw [hk]; exact HB.out)) HF3.out (fun k hk => hk.elim)
              case measure => simp [intOf]; omega
      · by_cases hlt1 : k < l.length
        · have hd40 : ¬ (k < 40) := fun h => hlt ⟨hlt1, h⟩
          clear hlt
          go_wp2_with (go_at_call 14; refine (known_calls _).mono ?_; rintro e w' ⟨rfl, hw⟩; have HW2 := Aside0.mk hw; clear hw)
          go_ret
          exact ⟨rfl, below_then HI.out.fr HI.out.fr.size HW2.out⟩
        · clear hlt
          go_wp2_with (go_at_call 14; refine (known_calls _).mono ?_; rintro e w' ⟨rfl, hw⟩; have HW2 := Aside0.mk hw; clear hw)
          go_ret
          exact ⟨rfl, below_then HI.out.fr HI.out.fr.size HW2.out⟩

end Go.Proofs.Ytdpchfifaidamaa.T
