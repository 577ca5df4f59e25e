/- The reference's Fail. No condition. -/
import Derived.Test.YtdpchfifaidamaaKc
import Derived.StillTailTactics
import Derived.Deep.AppendLies
import Derived.Deep.RegionLaw
import Derived.IntWalk
namespace Go.Proofs.Ytdpchfifaidamaa.K
open Go.RowKit Go.Maps Go.Proofs.YtdpchfifaidamaaW.PrintWords Go.Proofs.Ytdpchfifaidamaa.B
set_option linter.unusedVariables false
set_option linter.unusedSimpArgs false

theorem step_append_el {α : Type} {W : World} (E : ET α) (base : Nat) {ops : Array Oper} {o : Oper} {a : Act} {K : Act → World → Prop} {Q : Exit → Act → World → Prop} {E' : Prop} (hgd : o.guard = none) (s x : Operand) (ho : o.op = .call { callee := .builtin .append, args := #[s, x], argTypes := #[E.s, E.s] })
    (v : Value) (l : List α) (y : α) (k : Nat) (hs : a.eval s = v) (hx : a.eval x = .slice (some ⟨k, 0, none⟩) 1 1) (hk : W.heap[k]? = some (.cells (E.cells y).toArray E.e (0, 0))) (HO : EOwn E W base v l) (hbase : base ≤ W.heap.size) (hl : (l.length + 1) * E.bytes ≤ 140737488355328)
    (h : ∀ g c w1, EOwn E w1 base (.slice (some ⟨g, 0, none⟩) (l.length + 1) c) (l ++ [y]) → Fr (fun k => v.ownBlock = some k) W w1 → (v.ownBlock = some g ∨ g = W.heap.size) → K (a.put o.dst (.slice (some ⟨g, 0, none⟩) (l.length + 1) c)) w1) :
    if Region.wanted o (yielded ops a.tmps) = true then Oper.wp Try.prog o a W K Q else E' := by
  obtain ⟨i0, hi, hzz⟩ := Option.map_eq_some_iff.1 E.info
  simp only [Prod.mk.injEq] at hzz
  obtain ⟨hz0, hz1, hz2⟩ := hzz
  have hle : l.length + 1 ≤ 140737488355328 := Nat.le_trans (Nat.le_mul_of_pos_right _ E.bpos) hl
  refine step_append_lies W hgd s x E.s ho base E.e i0 _ E.sz E.bytes E.under hi hz0 hz1 hz2 E.zs E.pos v l.length (l.flatMap E.cells) hs HO ⟨k, 0, none⟩ 1 1 (E.cells y) hx (by rw [E.len, Nat.one_mul]) (fun j u hu => World.news_of_block hk j u (by simpa using hu)) (E.one y)
    (by omega) (by simp only [maxLen]; omega) hl hbase W.heap.size rfl ?_
  intro g c w1 hown hg hat _
  refine h g c w1 ?_ (.of_grown hg (fun k e => e.symm ▸ rfl)) hat
  unfold EOwn
  simpa using hown

theorem BR.lay {w w3 : World} {g : Nat} {v v' : Value} {base : Nat} {L L' : List N3} {F M R : Int} (HH : BR w g v base L F M R) (hf : Fr (SR g v) w w3) (hb3 : w3.heap[g]? = some (.cells #[v, .int .i64 F, .int .i64 M, .int .i64 R] 54 (0, 0))) (ho : EOwn E120 w3 base v' L') :
    BR (w3.setCell ⟨g, 0, none⟩ v') g v' base L' F M R ∧ Fr (SR g v) w (w3.setCell ⟨g, 0, none⟩ v') := by
  have hfs : Fr (fun k => k = g) w3 (w3.setCell ⟨g, 0, none⟩ v') := (Fr.refl w3 (fun k => k = g)).setCell (p := ⟨g, 0, none⟩) (.inl rfl) _
  refine ⟨⟨blk_set hb3 0 v', ho.fr hfs ?_, Nat.le_trans HH.base_le (Nat.le_trans hf.size hfs.size)⟩, hf.then_ hfs (fun k hk => .inl (.inl hk))⟩
  intro k hk e
  obtain ⟨cs, hc⟩ := ho.cells hk
  rw [e, hb3] at hc
  cases hc
theorem rfail_no (w : World) (g : Nat) (s : ByteArray) (now : Int) (ht : timeB now = false) :
    Calls Try.prog 24 #[.pointer (some ⟨g, 0, none⟩), .string s, .int .i64 now] w fun e w' => e = .returned (.int .i64 0) ∧ w = w' := by
  have HT := Aside0.mk ht
  clear ht
  go_enter Try.func24, Try.ntmps24
  go_wp2_with (go_at_call 81; refine (rtime_calls now _).mono ?_; rintro e w' ⟨rfl, rfl⟩; rw [HT.out])
  go_ret
  exact ⟨rfl, rfl⟩

set_option maxRecDepth 100000 in
set_option maxHeartbeats 1000000 in
theorem rfail_new (w : World) (g : Nat) (v : Value) (base : Nat) (L : List N3) (F M R : Int) (s : ByteArray) (now : Int) (h : BR w g v base L F M R) (hP : Par F M R) (hL : L.length < 1000000000) (ht : timeB now = true) (hn : at3 L s = none) :
    Calls Try.prog 24 #[.pointer (some ⟨g, 0, none⟩), .string s, .int .i64 now] w (RPost w g v base (L ++ [⟨s, F, now + F⟩]) F M R (.int .i64 F)) := by
  have HH := Aside0.mk h
  have HT := Aside0.mk ht
  obtain ⟨hc0, hc1, hc2, hc3⟩ := h.cell
  obtain ⟨A, c, hv, hlc, hcm, hr⟩ := h.own.form
  have hp : place3 L s = -1 := place3_none (by
    intro n hm e
    unfold at3 at hn
    rw [List.find?_eq_none] at hn
    exact hn n hm (by simpa using e))
  have HP := Aside0.mk hp
  have HL := Aside0.mk hL
  have hu120 := Try.underlying120
  have hb : 0 ≤ now ∧ now ≤ 1099511627776 := by unfold timeB at ht; simpa using ht
  obtain ⟨hb1, hb2⟩ := hb
  have hf1 := hP.f1
  have hf2 : F ≤ 1099511627776 := Int.le_trans hP.fm hP.m1
  have hsum : IntKind.i64.wrap (now + F) = now + F := IntWalk.i64_in _ (by omega)
  subst hv
  clear h ht hn hp hlc hcm hr hL hP hb1 hb2 hf1 hf2
  go_enter Try.func24, Try.ntmps24
  go_upto_region 5 with (first
    | (go_at_call 81; refine (rtime_calls now _).mono ?_; rintro e w' ⟨rfl, rfl⟩; rw [HT.out])
    | (go_at_call 83; refine (place_calls _ g _ base L F M R s HH.out).mono ?_; rintro e w' ⟨rfl, rfl⟩; rw [HP.out]))
  have HS := Aside0.mk hsum
  have ha0 := cell_fr hc0 ((Fr.refl w no).alloc (.cells #[.string s, .int .i64 F, .int .i64 (now + F)] 120)) (fun h => h)
  go_region_law (first
    | (refine step_append_el E120 base rfl _ _ rfl (.slice A L.length c) L ⟨s, F, now + F⟩ w.heap.size rfl rfl (heap_alloc_new _ _) ((HH.out.no ((Fr.refl w no).drew.alloc _)).own) ?_ ?_ ?_; (exact Nat.le_trans HH.out.base_le (by simp)); (have h9 := HL.out; show (L.length + 1) * 32 ≤ _; omega); intro g2 c2 w3 ho3 hf3 hat3; have HO3 := Aside0.mk ho3; have HF3 := Aside0.mk hf3; have hb3 := blk_fr (HH.out.no ((Fr.refl w no).drew.alloc _)).blk hf3 HH.out.gv; have HB3 := Aside0.mk hb3; have hz3 : w3.frozen? ⟨g, 0, none⟩ = false := blk_frozen hb3 0; have hz4 : w3.cell? ⟨g, 0, none⟩ = some (.slice A L.length c) := (blk_cell hb3 0).trans rfl; have hz5 : w3.cell? ⟨g, 1, none⟩ = some (.int .i64 F) := (blk_cell hb3 1).trans rfl; clear ho3 hf3 hat3 hb3))
  all_goals
    go_wp2
    go_ret
    exact ⟨_, rfl, BR.lay HH.out (((Fr.refl w (SR g (.slice A L.length c))).alloc _).drew.then_ HF3.out (fun k hk => .inl (.inr hk))) HB3.out (by have := HO3.out; simpa using this)⟩
end Go.Proofs.Ytdpchfifaidamaa.K
