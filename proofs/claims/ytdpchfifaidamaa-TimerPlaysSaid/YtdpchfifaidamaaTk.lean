/- The walk of TimerMore: what is so for longer is so for less long; what is ripe is noted. No condition. -/
import Derived.Test.YtdpchfifaidamaaTj
namespace Go.Proofs.Ytdpchfifaidamaa.T
open Go.RowKit Go.Maps Go.Proofs.YtdpchfifaidamaaW.PrintWords Go.Proofs.Ytdpchfifaidamaa.B
set_option linter.unusedVariables false
set_option linter.unusedSimpArgs false

def noteF (f : ByteArray → Option Int) (l : List ByteArray) (now : Int) : ByteArray → Option Int := if timeB now then noted f l now else f
theorem note_calls (w : World) (g b n : Nat) (f : ByteArray → Option Int) (A : Option Addr) (c : Nat) (l : List ByteArray) (now : Int) (H : TT w g b n f) (HR : Kd.C Kd.string w A l.length l) (hc : l.length ≤ c) (hs : ∀ s ∈ l, s.size ≤ maxLen)
    (hn : n + l.length < 1000000000) :
    Calls Try.prog 16 #[.pointer (some ⟨g, 0, none⟩), .slice A l.length c, .int .i64 now] w fun e w' => e = .returned (.tuple #[]) ∧ TT w' g b (n + l.length) (noteF f l now) ∧ Fr (fun k => k = b) w w' := by
  cases ht : timeB now with
  | true =>
    refine (note_yes w g b n f A c l now H HR hc hs hn ht).mono fun e w' h => ?_
    unfold noteF
    rw [ht]
    exact h
  | false =>
    refine (note_no w g b n f _ now H ht).mono ?_
    rintro e w' ⟨rfl, rfl⟩
    unfold noteF
    rw [ht]
    exact ⟨rfl, ⟨H.blk, H.ne, H.map.mono (by omega)⟩, Fr.refl _ _⟩
theorem noteF_times {f : ByteArray → Option Int} (h : Times f) (l : List ByteArray) (now : Int) : Times (noteF f l now) := by
  unfold noteF
  cases ht : timeB now with
  | false => exact h
  | true =>
    intro s c hs hf
    simp only [if_true] at hf
    unfold noted at hf
    split at hf
    · simp only [Option.some.injEq] at hf
      cases hfs : f s with
      | some d => rw [hfs] at hf; simp at hf; subst hf; exact h s d hs hfs
      | none => rw [hfs] at hf; simp at hf; subst hf; simpa [timeB] using ht
    · cases hf
theorem op_cells {w : World} {A : Option Addr} {l : List OpV} (h : SC ROp 4 w A l) (j : Nat) (hj : j < l.length) : ∃ ad An c, A = some ad ∧
    w.cell? (ad.add (j * 4)) = some (.int .i64 l[j].kind) ∧ w.cell? ⟨(ad.add (j * 4)).block, (ad.add (j * 4)).off + 1, none⟩ = some (.slice An l[j].names.length c) ∧
    w.cell? ⟨(ad.add (j * 4)).block, (ad.add (j * 4)).off + 2, none⟩ = some (.int .i64 l[j].now) ∧ w.cell? ⟨(ad.add (j * 4)).block, (ad.add (j * 4)).off + 3, none⟩ = some (.int .i64 l[j].long) ∧
    l[j].names.length ≤ c ∧ c ≤ maxLen ∧ Kd.C Kd.string w An l[j].names.length l[j].names ∧ (∀ s ∈ l[j].names, s.size ≤ maxLen) ∧ (Lit.int .i64 l[j].kind).wf = true ∧ (Lit.int .i64 l[j].now).wf = true ∧ (Lit.int .i64 l[j].long).wf = true := by
  obtain ⟨ad, cs, e, hlen, hcell, An, c, hcs, w1, w2, w3, hc, hm, hn⟩ := h j hj
  subst hcs
  have hs := hn.strings (by simp only [maxLen] at hm; omega)
  refine ⟨ad, An, c, e, ?_, ?_, ?_, ?_, hc, hm, hs.1, hs.2, w1, w2, w3⟩
  · simpa using hcell 0 _ rfl
  · rw [← add_field _ _ 1 (by omega)]; exact hcell 1 _ rfl
  · rw [← add_field _ _ 2 (by omega)]; exact hcell 2 _ rfl
  · rw [← add_field _ _ 3 (by omega)]; exact hcell 3 _ rfl

structure MInv (w wr : World) (g b n : Nat) (f : ByteArray → Option Int) (k : Nat) : Prop where
  tt : TT wr g b n f
  len : n ≤ 20 * k
  times : Times f
  fr : Below w.heap.size w wr

set_option maxRecDepth 100000 in
set_option maxHeartbeats 4000000 in
theorem more_walk (w : World) (A : Option Addr) (c : Nat) (l : List OpV) (now len : Int) (hr : SC ROp 4 w A l) (hlc : l.length ≤ c) (hcm : c ≤ maxLen) (hn : 0 ≤ now ∧ now ≤ 65535) (hl : 0 ≤ len ∧ len ≤ 255) :
    Calls Try.prog 4 #[.slice A l.length c, .int .u16 now, .int .u8 len] w fun e w' => e = .returned (.bool true) ∧ Below w.heap.size w w' := by
  have HR := Aside0.mk hr
  have hlm : l.length ≤ 9223372036854775807 := by simp only [maxLen] at hcm; omega
  obtain ⟨hn0, hn1⟩ := hn
  obtain ⟨hl0, hl1⟩ := hl
  have hu36 := Try.underlying36
  clear hr hcm
  go_enter Try.func4, Try.ntmps4
  go_wp2_with (first
    | (go_at_call 15; refine (new_calls _).mono ?_; rintro e w1 ⟨g, b, rfl, ht1, hf1, hg1, hb1⟩; have HT1 := Aside0.mk ht1; have HF1 := Aside0.mk hf1; have HG := Aside0.mk hg1; have HB := Aside0.mk hb1; clear ht1 hf1 hg1 hb1))
  go_loopw [8] (fun v8 wr => ∃ (k n : Nat) (f : ByteArray → Option Int), k ≤ l.length ∧ k ≤ 20 ∧ v8 = .int .i64 k ∧ Aside0 (MInv w wr g b n f k)) (fun v8 _ => l.length - (intOf v8).toNat)
  case atStart => exact ⟨0, 0, _, Nat.zero_le _, by omega, rfl, ⟨⟨HT1.out, by omega, (fun s c _ h => by cases h), HF1.out.no_below⟩⟩⟩
  case round =>
    obtain ⟨k, n, f, hk, hk20, rfl, HI⟩ := hrel
    by_cases hlt : k < l.length ∧ k < 20
    · obtain ⟨hlt, hlt20⟩ := hlt
      have hsc := HR.out.below stable_op HI.out.fr
      obtain ⟨ad, An, cn, e, hc0, hc1, hc2, hc3, hcn, hcm, hC, hsz, hwf⟩ := op_cells hsc k hlt
      cases e
      obtain ⟨o, ho⟩ : ∃ o, o = l[k] := ⟨_, rfl⟩
      rw [← ho] at hc0 hc1 hc2 hc3 hcn hC hsz
      have HC := Aside0.mk hC
      have HSZ := Aside0.mk hsz
      have hol : o.names.length ≤ 9223372036854775807 := by simp only [maxLen] at hcm; omega
      have HCN := Aside0.mk hcn
      clear hsc hC hsz ho hcm hcn hwf
      go_wp2_with (first
        | (go_at_call 19; refine (light_calls _ _ _ _ An cn o.names HC.out hol).mono ?_; rintro e w2 ⟨rfl, hf2⟩; have HF2 := Aside0.mk hf2; clear hf2))
      · have hlb : lightB o.names = true := by assumption
        have hl20 : o.names.length ≤ 20 := by unfold lightB at hlb; simp at hlb; exact hlb.1
        have hd1 : w2.cell? ⟨(ad.add (k * 4)).block, (ad.add (k * 4)).off + 1, none⟩ = some (.slice An o.names.length cn) := cell_fr hc1 HF2.out (fun h => h)
        have hd2 : w2.cell? ⟨(ad.add (k * 4)).block, (ad.add (k * 4)).off + 2, none⟩ = some (.int .i64 o.now) := cell_fr hc2 HF2.out (fun h => h)
        have hk0 : (0 : Int) ≤ k := by omega
        have hkl : (k : Int) < l.length := by omega
        have HL20 := Aside0.mk hl20
        clear hl20 hc0 hc1 hc2 hc3
        go_still_tail 11, (by kernel_rfl)
        change wpList _ _ _ _ _ w2.drew
        obtain ⟨w3, hw3⟩ : ∃ w3, w3 = w2.drew := ⟨_, rfl⟩
        have hf3 : Fr no wr w3 := by rw [hw3]; exact HF2.out.drew
        have HF3 := Aside0.mk hf3
        rw [← hw3]
        clear hf3 hw3 hd1 hd2
        go_wp2_with fail
        refine (note_calls _ g b n f An cn o.names o.now (HI.out.tt.fr HF3.out (fun h => h) (fun h => h)) (Kd.C_below HC.out HF3.out.no_below) HCN.out HSZ.out ?_).mono ?_
        · have := HL20.out; have := HI.out.len; omega
        rintro e w4 ⟨rfl, ht4, hf4⟩
        have HT4 := Aside0.mk ht4; have HF4 := Aside0.mk hf4
        clear ht4 hf4
        go_wp2_with fail
        go_roundw
        case rel => exact ⟨k + 1, _, _, by omega, by omega, by go_num, ⟨⟨HT4.out, by have := HI.out.len; have := HL20.out; omega, noteF_times HI.out.times _ _, below_fr (below_fr HI.out.fr HF3.out (fun k hk => hk.elim)) HF4.out (fun k hk => by rw [hk]; exact HB.out)⟩⟩⟩
        case measure => simp [intOf]; omega
      · go_roundw
        case rel => exact ⟨k + 1, n, f, by omega, by omega, by go_num, ⟨⟨HI.out.tt.fr HF2.out (fun h => h) (fun h => h), by have := HI.out.len; omega, HI.out.times, below_fr HI.out.fr HF2.out (fun k hk => hk.elim)⟩⟩⟩
        case measure => simp [intOf]; omega
    · have hnn : n < 1000000000 := by have := HI.out.len; omega
      have HNN := Aside0.mk hnn
      have htb : timeB now = true := by unfold timeB; simp; omega
      have HTB := Aside0.mk htb
      clear hnn htb
      by_cases hlt1 : k < l.length
      · have hd40 : ¬ (k < 20) := fun h => hlt ⟨hlt1, h⟩
        clear hlt
        go_wp2_with fail
        refine (ripe_yes wr g b n f now (len + 1) HI.out.tt HNN.out HI.out.times HTB.out (by omega)).mono ?_
        rintro e w5 ⟨va, la, rfl, hoa, hra, hfa⟩
        obtain ⟨Aa, ca, rfl, hlea, hCa⟩ := hoa.form
        have HT5 := Aside0.mk (HI.out.tt.fr hfa (fun h => h) (fun h => h))
        obtain ⟨al, hal⟩ : ∃ al, al = la.filter (ripeB f now (len + 1)) := ⟨_, rfl⟩
        rw [← hal] at hlea hCa ⊢
        have HAL := Aside0.mk hal; have HCA := Aside0.mk hCa; have HFA := Aside0.mk hfa; have HRA := Aside0.mk hra
        clear hoa hra hfa hal hCa
        go_wp2_with fail
        refine (ripe_yes w5 g b n f now len HT5.out HNN.out HI.out.times HTB.out (by omega)).mono ?_
        rintro e w6 ⟨vb, lb, rfl, hob, hrb, hfb⟩
        obtain ⟨Ab, cb, rfl, hleb, hCb⟩ := hob.form
        have HT6 := Aside0.mk (HT5.out.fr hfb (fun h => h) (fun h => h))
        have hlab : lb = la := sorted_unique hrb.srt HRA.out.srt (fun s => by rw [hrb.mem, HRA.out.mem])
        subst hlab
        obtain ⟨bl, hbl⟩ : ∃ bl, bl = lb.filter (ripeB f now len) := ⟨_, rfl⟩
        rw [← hbl] at hleb hCb ⊢
        have hall : al.length < 1000000000 := by
          have h1 := List.length_filter_le (ripeB f now (len + 1)) lb
          have h2 := HRA.out.len
          have h3 := HNN.out
          rw [HAL.out]; omega
        have hbll : bl.length ≤ lb.length := by rw [hbl]; exact List.length_filter_le _ _
        have hlbl : lb.length < 1000000000 := by have h2 := HRA.out.len; have h3 := HNN.out; omega
        have hsub : al.Sublist bl := by
          have e1 : al = bl.filter (ripeB f now (len + 1)) := by
            rw [HAL.out, hbl, List.filter_filter]
            refine List.filter_congr (fun s _ => ?_)
            unfold ripeB
            by_cases h : len + 1 ≤ now - at0 f s
            · simp [h]; omega
            · simp [h]
          rw [e1]
          exact List.filter_sublist
        have HSUB := Aside0.mk hsub; have HCA6 := Aside0.mk (Kd.C_below HCA.out hfb.no_below); have HCB := Aside0.mk hCb; have HFB := Aside0.mk hfb
        clear hob hrb hfb hbl hCb hsub hlea hleb
        go_wp2_with fail
        go_loopw [11, 12] (fun v11 v12 wq => ∃ at_ i : Nat, i ≤ al.length ∧ at_ ≤ bl.length ∧ v11 = .int .i64 at_ ∧ v12 = .int .i64 i ∧ Aside0 ((al.drop i).Sublist (bl.drop at_)) ∧ ∃ m, wq = w6.drewN m) (fun _ v12 _ => al.length - (intOf v12).toNat)
        case atStart => exact ⟨0, 0, Nat.zero_le _, Nat.zero_le _, rfl, rfl, HSUB, 0, rfl⟩
        case round =>
          obtain ⟨at_, i, hi, hat, rfl, rfl, HS, m, rfl⟩ := hrel
          by_cases hil : i < al.length
          · obtain ⟨adx, ex, hcx⟩ := Kd.at_string HCA6.out (i : Int) (by omega) (by omega)
            cases ex
            obtain ⟨x, hx⟩ : ∃ x, x = rdOf ByteArray.empty al (i : Int) := ⟨_, rfl⟩
            rw [← hx, Int.toNat_natCast] at hcx
            have hxe : x = al[i] := hx.trans (rdOf_lt al i hil)
            have hdx : al.drop i = x :: al.drop (i + 1) := by rw [hxe]; exact List.drop_eq_getElem_cons hil
            have hxm : x ∈ al := by rw [hxe]; exact List.getElem_mem hil
            have hxf := HAL.out ▸ hxm
            rw [List.mem_filter, HRA.out.mem] at hxf
            obtain ⟨⟨hxs, hxi⟩, hxr⟩ := hxf
            obtain ⟨cx, hcx0⟩ := Option.isSome_iff_exists.1 hxi
            have hcxn : cx ≤ now := by
              unfold ripeB at0 at hxr
              rw [hcx0] at hxr
              simp at hxr
              omega
            have hi0 : (0 : Int) ≤ i := by omega
            have hi1 : (i : Int) < al.length := by omega
            have HDX := Aside0.mk hdx; have HXS := Aside0.mk hxs; have HCX0 := Aside0.mk hcx0
            clear hx hxe hdx hxm hxs hxi hxr hcx0
            go_wp2_with fail
            go_loopw [11] (fun v11 wq => ∃ at_ : Nat, at_ ≤ bl.length ∧ v11 = .int .i64 at_ ∧ Aside0 ((al.drop i).Sublist (bl.drop at_)) ∧ ∃ m, wq = w6.drewN m) (fun v11 _ => bl.length - (intOf v11).toNat)
            case atStart => exact ⟨at_, hat, rfl, HS, m, rfl⟩
            case round =>
              clear HS
              obtain ⟨at_, hat, rfl, HS, m, rfl⟩ := hrel
              have hatl : at_ < bl.length := by
                have h1 := HS.out.length_le
                rw [HDX.out] at h1
                simp at h1
                omega
              obtain ⟨ady, ey, hcy⟩ := Kd.at_string HCB.out (at_ : Int) (by omega) (by omega)
              cases ey
              obtain ⟨y, hy⟩ : ∃ y, y = rdOf ByteArray.empty bl (at_ : Int) := ⟨_, rfl⟩
              rw [← hy, Int.toNat_natCast] at hcy
              have hye : y = bl[at_] := hy.trans (rdOf_lt bl at_ hatl)
              have hdy : bl.drop at_ = y :: bl.drop (at_ + 1) := by rw [hye]; exact List.drop_eq_getElem_cons hatl
              have HDY := Aside0.mk hdy
              have ha0 : (0 : Int) ≤ at_ := by omega
              have ha1 : (at_ : Int) < bl.length := by omega
              have hda : decide (at_ < bl.length) = true := decide_eq_true hatl
              have hda2 : decide ((at_ : Int) < bl.length) = true := decide_eq_true ha1
              clear hy hye hdy
              by_cases hyx : y = x
              · have hb3 : (y.toList == x.toList) = true := by simp [hyx]
                have hneq : ((at_ : Int) == (bl.length : Int)) = false := by simp; omega
                have htm : TT (w6.drewN m) g b n f := HT6.out.fr (S := no) ((Fr.refl w6 no).drewN m) (fun h => h) (fun h => h)
                have HYX := Aside0.mk hyx
                have HTM := Aside0.mk htm
                clear hyx htm
                go_wp2
                go_quiet (fail)
                go_wp2_with fail
                refine (since_calls _ g b _ f x (HT6.out.fr (S := no) ((Fr.refl w6 no).drewN _) (fun h => h) (fun h => h)) HXS.out).mono ?_
                rintro e w' ⟨rfl, rfl⟩
                rw [HCX0.out]
                go_wp2_with fail
                go_roundw
                case rel =>
                  refine ⟨at_, i + 1, by omega, by omega, rfl, by go_num, ⟨?_⟩, _, rfl⟩
                  have h := HS.out
                  rw [HDX.out] at h
                  exact List.sublist_of_cons_sublist h
                case measure => simp [intOf]; omega
              · have hb3 : (y.toList == x.toList) = false := by simpa using toList_ne hyx
                have HYX := Aside0.mk hyx
                clear hyx
                go_wp2
                go_quiet (fail)
                go_wp2
                go_roundw
                case rel =>
                  refine ⟨at_ + 1, by omega, by go_num, ⟨?_⟩, _, rfl⟩
                  have h := HS.out
                  rw [HDX.out, HDY.out] at h
                  rw [HDX.out]
                  cases h with
                  | cons _ h => exact h
                  | cons_cons _ h => exact absurd rfl HYX.out
                case measure => simp [intOf]; omega
          · obtain rfl : i = al.length := by omega
            go_wp2_with fail
            refine (names_calls _ g b n f (HT6.out.fr (S := no) ((Fr.refl w6 no).drewN m) (fun h => h) (fun h => h)) HNN.out).mono ?_
            rintro e w7 ⟨v7, l7, rfl, ho7, hr7, hf7⟩
            obtain ⟨A7, c7, rfl, _, _⟩ := ho7.form
            have hl7 : l7 = lb := sorted_unique hr7.srt HRA.out.srt (fun s => by rw [hr7.mem, HRA.out.mem])
            subst hl7
            have HF7 := Aside0.mk hf7
            clear ho7 hr7 hf7
            go_wp2_with fail
            refine (known_calls _).mono ?_
            rintro e w8 ⟨rfl, hw⟩
            have HW2 := Aside0.mk hw
            clear hw
            go_wp2_with fail
            go_ret
            refine ⟨rfl, ?_⟩
            have h1 := below_fr HI.out.fr HFA.out (fun _ h => h.elim)
            have h2 := below_fr h1 HFB.out (fun _ h => h.elim)
            have h3 := below_fr h2 ((Fr.refl w6 no).drewN m) (fun _ h => h.elim)
            have h4 := below_fr h3 HF7.out (fun _ h => h.elim)
            exact below_then h4 h4.size HW2.out
      · clear hlt
        go_wp2_with fail
        refine (ripe_yes wr g b n f now (len + 1) HI.out.tt HNN.out HI.out.times HTB.out (by omega)).mono ?_
        rintro e w5 ⟨va, la, rfl, hoa, hra, hfa⟩
        obtain ⟨Aa, ca, rfl, hlea, hCa⟩ := hoa.form
        have HT5 := Aside0.mk (HI.out.tt.fr hfa (fun h => h) (fun h => h))
        obtain ⟨al, hal⟩ : ∃ al, al = la.filter (ripeB f now (len + 1)) := ⟨_, rfl⟩
        rw [← hal] at hlea hCa ⊢
        have HAL := Aside0.mk hal; have HCA := Aside0.mk hCa; have HFA := Aside0.mk hfa; have HRA := Aside0.mk hra
        clear hoa hra hfa hal hCa
        go_wp2_with fail
        refine (ripe_yes w5 g b n f now len HT5.out HNN.out HI.out.times HTB.out (by omega)).mono ?_
        rintro e w6 ⟨vb, lb, rfl, hob, hrb, hfb⟩
        obtain ⟨Ab, cb, rfl, hleb, hCb⟩ := hob.form
        have HT6 := Aside0.mk (HT5.out.fr hfb (fun h => h) (fun h => h))
        have hlab : lb = la := sorted_unique hrb.srt HRA.out.srt (fun s => by rw [hrb.mem, HRA.out.mem])
        subst hlab
        obtain ⟨bl, hbl⟩ : ∃ bl, bl = lb.filter (ripeB f now len) := ⟨_, rfl⟩
        rw [← hbl] at hleb hCb ⊢
        have hall : al.length < 1000000000 := by
          have h1 := List.length_filter_le (ripeB f now (len + 1)) lb
          have h2 := HRA.out.len
          have h3 := HNN.out
          rw [HAL.out]; omega
        have hbll : bl.length ≤ lb.length := by rw [hbl]; exact List.length_filter_le _ _
        have hlbl : lb.length < 1000000000 := by have h2 := HRA.out.len; have h3 := HNN.out; omega
        have hsub : al.Sublist bl := by
          have e1 : al = bl.filter (ripeB f now (len + 1)) := by
            rw [HAL.out, hbl, List.filter_filter]
            refine List.filter_congr (fun s _ => ?_)
            unfold ripeB
            by_cases h : len + 1 ≤ now - at0 f s
            · simp [h]; omega
            · simp [h]
          rw [e1]
          exact List.filter_sublist
        have HSUB := Aside0.mk hsub; have HCA6 := Aside0.mk (Kd.C_below HCA.out hfb.no_below); have HCB := Aside0.mk hCb; have HFB := Aside0.mk hfb
        clear hob hrb hfb hbl hCb hsub hlea hleb
        go_wp2_with fail
        go_loopw [11, 12] (fun v11 v12 wq => ∃ at_ i : Nat, i ≤ al.length ∧ at_ ≤ bl.length ∧ v11 = .int .i64 at_ ∧ v12 = .int .i64 i ∧ Aside0 ((al.drop i).Sublist (bl.drop at_)) ∧ ∃ m, wq = w6.drewN m) (fun _ v12 _ => al.length - (intOf v12).toNat)
        case atStart => exact ⟨0, 0, Nat.zero_le _, Nat.zero_le _, rfl, rfl, HSUB, 0, rfl⟩
        case round =>
          obtain ⟨at_, i, hi, hat, rfl, rfl, HS, m, rfl⟩ := hrel
          by_cases hil : i < al.length
          · obtain ⟨adx, ex, hcx⟩ := Kd.at_string HCA6.out (i : Int) (by omega) (by omega)
            cases ex
            obtain ⟨x, hx⟩ : ∃ x, x = rdOf ByteArray.empty al (i : Int) := ⟨_, rfl⟩
            rw [← hx, Int.toNat_natCast] at hcx
            have hxe : x = al[i] := hx.trans (rdOf_lt al i hil)
            have hdx : al.drop i = x :: al.drop (i + 1) := by rw [hxe]; exact List.drop_eq_getElem_cons hil
            have hxm : x ∈ al := by rw [hxe]; exact List.getElem_mem hil
            have hxf := HAL.out ▸ hxm
            rw [List.mem_filter, HRA.out.mem] at hxf
            obtain ⟨⟨hxs, hxi⟩, hxr⟩ := hxf
            obtain ⟨cx, hcx0⟩ := Option.isSome_iff_exists.1 hxi
            have hcxn : cx ≤ now := by
              unfold ripeB at0 at hxr
              rw [hcx0] at hxr
              simp at hxr
              omega
            have hi0 : (0 : Int) ≤ i := by omega
            have hi1 : (i : Int) < al.length := by omega
            have HDX := Aside0.mk hdx; have HXS := Aside0.mk hxs; have HCX0 := Aside0.mk hcx0
            clear hx hxe hdx hxm hxs hxi hxr hcx0
            go_wp2_with fail
            go_loopw [11] (fun v11 wq => ∃ at_ : Nat, at_ ≤ bl.length ∧ v11 = .int .i64 at_ ∧ Aside0 ((al.drop i).Sublist (bl.drop at_)) ∧ ∃ m, wq = w6.drewN m) (fun v11 _ => bl.length - (intOf v11).toNat)
            case atStart => exact ⟨at_, hat, rfl, HS, m, rfl⟩
            case round =>
              clear HS
              obtain ⟨at_, hat, rfl, HS, m, rfl⟩ := hrel
              have hatl : at_ < bl.length := by
                have h1 := HS.out.length_le
                rw [HDX.out] at h1
                simp at h1
                omega
              obtain ⟨ady, ey, hcy⟩ := Kd.at_string HCB.out (at_ : Int) (by omega) (by omega)
              cases ey
              obtain ⟨y, hy⟩ : ∃ y, y = rdOf ByteArray.empty bl (at_ : Int) := ⟨_, rfl⟩
              rw [← hy, Int.toNat_natCast] at hcy
              have hye : y = bl[at_] := hy.trans (rdOf_lt bl at_ hatl)
              have hdy : bl.drop at_ = y :: bl.drop (at_ + 1) := by rw [hye]; exact List.drop_eq_getElem_cons hatl
              have HDY := Aside0.mk hdy
              have ha0 : (0 : Int) ≤ at_ := by omega
              have ha1 : (at_ : Int) < bl.length := by omega
              have hda : decide (at_ < bl.length) = true := decide_eq_true hatl
              have hda2 : decide ((at_ : Int) < bl.length) = true := decide_eq_true ha1
              clear hy hye hdy
              by_cases hyx : y = x
              · have hb3 : (y.toList == x.toList) = true := by simp [hyx]
                have hneq : ((at_ : Int) == (bl.length : Int)) = false := by simp; omega
                have htm : TT (w6.drewN m) g b n f := HT6.out.fr (S := no) ((Fr.refl w6 no).drewN m) (fun h => h) (fun h => h)
                have HYX := Aside0.mk hyx
                have HTM := Aside0.mk htm
                clear hyx htm
                go_wp2
                go_quiet (fail)
                go_wp2_with fail
                refine (since_calls _ g b _ f x (HT6.out.fr (S := no) ((Fr.refl w6 no).drewN _) (fun h => h) (fun h => h)) HXS.out).mono ?_
                rintro e w' ⟨rfl, rfl⟩
                rw [HCX0.out]
                go_wp2_with fail
                go_roundw
                case rel =>
                  refine ⟨at_, i + 1, by omega, by omega, rfl, by go_num, ⟨?_⟩, _, rfl⟩
                  have h := HS.out
                  rw [HDX.out] at h
                  exact List.sublist_of_cons_sublist h
                case measure => simp [intOf]; omega
              · have hb3 : (y.toList == x.toList) = false := by simpa using toList_ne hyx
                have HYX := Aside0.mk hyx
                clear hyx
                go_wp2
                go_quiet (fail)
                go_wp2
                go_roundw
                case rel =>
                  refine ⟨at_ + 1, by omega, by go_num, ⟨?_⟩, _, rfl⟩
                  have h := HS.out
                  rw [HDX.out, HDY.out] at h
                  rw [HDX.out]
                  cases h with
                  | cons _ h => exact h
                  | cons_cons _ h => exact absurd rfl HYX.out
                case measure => simp [intOf]; omega
          · obtain rfl : i = al.length := by omega
            go_wp2_with fail
            refine (names_calls _ g b n f (HT6.out.fr (S := no) ((Fr.refl w6 no).drewN m) (fun h => h) (fun h => h)) HNN.out).mono ?_
            rintro e w7 ⟨v7, l7, rfl, ho7, hr7, hf7⟩
            obtain ⟨A7, c7, rfl, _, _⟩ := ho7.form
            have hl7 : l7 = lb := sorted_unique hr7.srt HRA.out.srt (fun s => by rw [hr7.mem, HRA.out.mem])
            subst hl7
            have HF7 := Aside0.mk hf7
            clear ho7 hr7 hf7
            go_wp2_with fail
            refine (known_calls _).mono ?_
            rintro e w8 ⟨rfl, hw⟩
            have HW2 := Aside0.mk hw
            clear hw
            go_wp2_with fail
            go_ret
            refine ⟨rfl, ?_⟩
            have h1 := below_fr HI.out.fr HFA.out (fun _ h => h.elim)
            have h2 := below_fr h1 HFB.out (fun _ h => h.elim)
            have h3 := below_fr h2 ((Fr.refl w6 no).drewN m) (fun _ h => h.elim)
            have h4 := below_fr h3 HF7.out (fun _ h => h.elim)
            exact below_then h4 h4.size HW2.out

end Go.Proofs.Ytdpchfifaidamaa.T
