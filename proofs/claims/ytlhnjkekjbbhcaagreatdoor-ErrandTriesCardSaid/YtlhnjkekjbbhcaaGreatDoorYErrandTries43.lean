/- Parts of the proof of ErrandTries, in order. No conditions but those that each theorem states. -/
import Derived.Test.YtlhnjkekjbbhcaaGreatDoorYErrandTries0
import Derived.Lib.SlBytesConst
import Derived.Lib.LaidTab
import Derived.Lib.ItoaNum
import Derived.Lib.ItoaLen
import Derived.Sort.Grow
import Derived.DeepKeys4
import Derived.Deep.MidRow
import Derived.Test.YtlhnjkekjbbhcaaGreatDoorYErrandTries42
set_option linter.unusedSimpArgs false
set_option linter.unusedVariables false
namespace Go.Proofs.YtlhnjkekjbbhcaaGreatDoor
open Go.RowKit Go.Shelf
theorem rsOf_good {s : Int} (h : 0 ≤ s ∧ s ≤ 600) : goodRs (rsOf s) := by
  refine ⟨Nat.zero_le _, ⟨?_, ?_⟩, ⟨?_, ?_⟩, ⟨?_, ?_⟩⟩
  · show _ ≤ s; omega
  · show s ≤ _; omega
  · show _ ≤ (0 : Int); omega
  · show (0 : Int) ≤ _; omega
  · show _ ≤ (0 : Int); omega
  · show (0 : Int) ≤ _; omega
structure Ginv (E : ErS) : Prop where
  res : goodRs E.res
  sm : ∀ f ∈ E.head.F, f.value.length ≤ 1048576
  bg : in64 E.began
  kt : E.known.typ.length ≤ 140737488351232
  ks : in64 E.known.size
section
variable {E R : ErS}
theorem ginv_new (k : Ky) (c : Cf) {t : Tk} (ht : t.typ.length ≤ 140737488351232) (hs : in64 t.size) : Ginv (erNew k c t) :=
  ⟨rsOf_good (s := 0) (by omega), (fun f hf => by cases hf), (by show in64 0; unfold in64; omega), ht, hs⟩
theorem ginv_keep (h : Ginv E) (hr : R.res = E.res) (hh : R.head = E.head) (hb : R.began = E.began) (hk : R.known = E.known) : Ginv R :=
  ⟨by rw [hr]; exact h.res, by rw [hh]; exact h.sm, by rw [hb]; exact h.bg, by rw [hk]; exact h.kt, by rw [hk]; exact h.ks⟩
theorem ginv_begin (h : Ginv E) {now : Int} (hn : in64 now) : Ginv (erBegin E now) := ⟨h.res, (fun f hf => by cases hf), hn, h.kt, h.ks⟩
theorem ginv_fin (h : Ginv E) {r : Rs} (hr : goodRs r) : Ginv (erFin E r) := ⟨hr, h.sm, h.bg, h.kt, h.ks⟩
theorem ginv_miss (h : Ginv E) {s : Int} (hs : 0 ≤ s ∧ s ≤ 600) (now : Int) : Ginv (erMiss E s now) := by
  unfold erMiss
  split
  · exact ginv_fin (E := { E with misses := E.misses + 1 }) (ginv_keep h rfl rfl rfl rfl) (rsOf_good hs)
  · exact ginv_keep h rfl rfl rfl rfl
theorem ginv_head (h : Ginv E) {a : Ans} (ha : ∀ f ∈ a.F, f.value.length ≤ 1048576) : Ginv { E with head := a } := ⟨h.res, ha, h.bg, h.kt, h.ks⟩
theorem ginv_one {n c : Nat} {P : ReS} (h : Ginv E) (ho : P.ok n) (hn : n ≤ 400000) (ha : P.ans = none) (hc : E.cnt c) (hcb : c ≤ 1000000) (now : Int) : Ginv (erOne E (nextR P) now) := by
  have hs := next_small ho ha; have hs' : ∀ f ∈ (nextR P).a.F, f.value.length ≤ 1048576 := fun f hf => Nat.le_trans (hs.2 f hf).2 (by omega)
  have hH := ginv_head h hs'
  have hz : in64 E.size := by
    have := hc.2.2.2.2.1; unfold in64; omega
  unfold erOne
  split
  · unfold erHead
    split
    · exact ginv_keep hH rfl rfl rfl rfl
    · split
      · exact ginv_miss (E := { E with rep := some (nextR P).p, head := (nextR P).a, heard := E.heard + 1 }) (ginv_keep hH rfl rfl rfl rfl) (by omega) now
      · have hj : goodRs (judgeR E.key E.known (nextR P).a E.began) := judge_good h.bg h.kt h.ks (typM_le hs')
        split
        · exact ginv_fin (E := { E with rep := some (nextR (nextR P).p).p, head := (nextR P).a, heard := E.heard + 1, reuse := erClean { E with head := (nextR P).a } (nextR P).p }) (ginv_keep hH rfl rfl rfl rfl) hj
        · exact ginv_fin (E := { E with rep := some (nextR P).p, head := (nextR P).a, heard := E.heard + 1, reuse := false }) (ginv_keep hH rfl rfl rfl rfl) hj
  · split
    · exact ginv_keep h rfl rfl rfl rfl
    · split
      · unfold erEnd; refine ginv_fin (E := { E with rep := some (nextR P).p, heard := E.heard + 1, reuse := decide (reRest (nextR P).p = []) && !E.head.cl }) (ginv_keep h rfl rfl rfl rfl) ?_; have := typM_le h.sm; have hb := h.bg; unfold in64 at hz hb; exact ⟨by show (typM E.head.F).length ≤ maxLen; unfold maxLen; omega, ⟨by show _ ≤ (200 : Int); omega, by show (200 : Int) ≤ _; omega⟩, hz, hb⟩
      · split
        · exact ginv_miss (E := { E with rep := some (nextR P).p, silent := E.silent + 1 }) (ginv_keep h rfl rfl rfl rfl) (by omega) now
        · exact ginv_keep h rfl rfl rfl rfl
theorem ginv_take {n : Nat} (hn : n ≤ 400000) {now : Int} : ∀ (N c : Nat) (E : ErS), erTake N E now = some R → E.okR n → E.told → E.cnt c → c + N ≤ 1000000 → Ginv E → Ginv R
  | 0, _, _, h, _, _, _, _, _ => by simp [erTake] at h
  | N + 1, c, E, h, ho, ht, hc, hcb, hD => by
    by_cases h2 : E.state = 2
    · cases hP : E.rep with
      | none =>
        unfold erTake at h; rw [if_neg (by simp [h2]), hP] at h; cases h
      | some P =>
        rw [take_on h2 hP] at h; have h1 := ginv_one hD (ho P hP) hn (ht P hP) hc (by omega) now
        split at h
        · exact ginv_take hn N (c + 1) _ h (one_okR (ho P hP) now) (one_told E P now) (one_cnt hc _ (Nat.le_trans (next_s (ho P hP)) hn) now) (by omega) h1
        · obtain rfl := Option.some.inj h; exact h1
    · rw [take_out h2] at h; obtain rfl := Option.some.inj h; exact hD
theorem ginv_hearL (now : Int) : ∀ (N n c : Nat) (E : ErS) (s : List UInt8) (F : ErS) (u : List UInt8), erHearL N E s now = some (F, u) → n + 2 * s.length ≤ 400000 → E.okR n → E.told → E.cnt c → c + 5 * s.length + 5 ≤ 1000000 → Ginv E → Ginv F
  | 0, _, _, _, _, _, _, h, _, _, _, _, _, _ => by simp [erHearL] at h
  | N + 1, n, c, E, s, F, u, h, hn, ho, ht, hc, hcb, hD => by
    by_cases hx : s = [] ∨ E.state ≠ 2
    · obtain ⟨rfl, _⟩ := hearL_stop hx h; exact hD
    · have hs : s ≠ [] := fun hh => hx (.inl hh)
      have h2 : E.state = 2 := Classical.byContradiction fun hh => hx (.inr hh)
      obtain ⟨m, P, G, hm, hP, hG, hr⟩ := hearL_more hs h2 h; obtain rfl : N = m := by omega
      have hpos : 0 < s.length := List.length_pos_iff.2 hs; have hsum : (s.take 4096).length + (s.drop 4096).length = s.length := by rw [← List.length_append, List.take_append_drop]
      have htp : 0 < (s.take 4096).length := by rw [List.length_take]; omega
      have hok1 : (reAdd P (s.take 4096)).1.ok (n + 2 * (s.take 4096).length) := reAdd_ok (ho P hP) _; have ha1 : (reAdd P (s.take 4096)).1.ans = none := radd_ans (ht P hP) _; have hD1 : Ginv { E with rep := some (reAdd P (s.take 4096)).1 } := ginv_keep hD rfl rfl rfl rfl; obtain ⟨g1, g2, g3⟩ := took (n := n + 2 * (s.take 4096).length) (by omega) now 5 c _ G hG (fun Q hQ => by cases hQ; exact hok1) (fun Q hQ => by cases hQ; exact ha1) hc; have g4 := ginv_take (n := n + 2 * (s.take 4096).length) (by omega) 5 c _ hG (fun Q hQ => by cases hQ; exact hok1) (fun Q hQ => by cases hQ; exact ha1) hc (by omega) hD1; exact ginv_hearL now N (n + 2 * (s.take 4096).length) (c + 5) G _ F u hr (by omega) g1 g2 g3 (by omega) g4
theorem ginv_hear {n c : Nat} {s : List UInt8} {cut : Bool} {now : Int} (h : erHear E s cut now = some R) (hn : n + 2 * s.length ≤ 400000) (ho : E.okR n) (ht : E.told) (hc : E.cnt c) (hcb : c + 5 * (s.length + 1) + 5 ≤ 1000000) (hl : E.live) (hD : Ginv E) : Ginv R := by
  by_cases h2 : E.state = 2
  · obtain ⟨F, u, G, hF, hG, rfl⟩ := hear_yes h2 h; have hD0 : Ginv (erHeard E s now) := ginv_keep hD rfl rfl rfl rfl; obtain ⟨F', u', f1, f2, f3, f4, _⟩ := hearL_some now (s.length + 1) n c (erHeard E s now) s (Nat.lt_succ_self _) hn ho ht hc hl; rw [f1] at hF; obtain ⟨rfl, rfl⟩ := Prod.mk.inj (Option.some.inj hF); have hDF : Ginv F' := ginv_hearL now (s.length + 1) n c (erHeard E s now) s F' u' f1 hn ho ht hc (by omega) hD0
    have h3 : Ginv G := by
      by_cases hcut : cut = true ∧ F'.state = 2
      · obtain ⟨P, hP, hS⟩ := shut_yes hcut hG; have hok1 : (reShut P).ok (n + 2 * s.length) := ⟨(f2 P hP).wt, (f2 P hP).big, (f2 P hP).size, (f2 P hP).left, (f2 P hP).st, (f2 P hP).head, (f2 P hP).chk⟩
        exact ginv_take hn 5 _ _ hS (fun Q hQ => by cases hQ; exact hok1) (fun Q hQ => by cases hQ; exact f3 P hP) f4 (by omega) (ginv_keep hDF rfl rfl rfl rfl)
      · exact shut_no hcut hG ▸ hDF
    exact ginv_keep h3 rfl rfl rfl rfl
  · exact hear_no h2 h ▸ hD
theorem ginv_tick (h : Ginv E) (now : Int) : Ginv (erTick E now) := by
  unfold erTick
  split
  · exact ginv_miss (E := { E with silent := E.silent + 1 }) (ginv_keep h rfl rfl rfl rfl) (by omega) now
  · exact h
theorem ginv_took (h : Ginv E) : Ginv (erTook E) := ginv_keep h rfl rfl rfl rfl
end
theorem asked_some {k : Ky} {t : Tk} {host : List UInt8} (h : askedE k host t = 0) : (S (askedS k host t)).toList.isEmpty = false := by
  rw [S_toList]
  have hx : askE (methB k) (rtText (routeM k)) (askF k host t) = 0 := by
    unfold askedE at h
    split at h
    · rename_i hh; exact hh.2
    · omega
  have hg : goodKyM k = true := by
    unfold askedE at h
    split at h
    · rename_i hh; exact hh.1
    · omega
  rw [(asked_yes hg hx).2]; unfold askE at hx; unfold askS
  split at hx
  · rename_i ho; rw [if_pos ho]; unfold laidS; rw [if_pos hx]; unfold headT askT methB
    split <;> rfl
  · omega
section
variable {w0 w : World} {b n : Nat} {rp va : Value} {X L : List Nat} {E : ErS}
theorem keepC {F : Nat} {A : Array Value} {v : Ending} (h : Calls Tryz.prog F A w fun e w' => e = v ∧ w = w') : Calls Tryz.prog F A w fun e w' => e = v ∧ Keep [] w w' := h.mono (by rintro e w' ⟨rfl, rfl⟩; exact ⟨rfl, Keep.refl _ _⟩)
theorem er_TriesQ {x : Int} (h : Et w0 w b rp va X E n L) (hx : E.tries = x) : Calls Tryz.prog 20 #[.pointer (some ⟨b, 0, Option.none⟩)] w fun e w' => e = .returned (.int .i64 x) ∧ Keep [] w w' := hx ▸ keepC (er_Tries h)
theorem er_MissesQ {x : Int} (h : Et w0 w b rp va X E n L) (hx : E.misses = x) : Calls Tryz.prog 26 #[.pointer (some ⟨b, 0, Option.none⟩)] w fun e w' => e = .returned (.int .i64 x) ∧ Keep [] w w' := hx ▸ keepC (er_Misses h)
theorem er_SilentQ {x : Int} (h : Et w0 w b rp va X E n L) (hx : E.silent = x) : Calls Tryz.prog 27 #[.pointer (some ⟨b, 0, Option.none⟩)] w fun e w' => e = .returned (.int .i64 x) ∧ Keep [] w w' := hx ▸ keepC (er_Silent h)
theorem er_HeardQ {x : Int} (h : Et w0 w b rp va X E n L) (hx : E.heard = x) : Calls Tryz.prog 28 #[.pointer (some ⟨b, 0, Option.none⟩)] w fun e w' => e = .returned (.int .i64 x) ∧ Keep [] w w' := hx ▸ keepC (er_Heard h)
theorem er_ResultQ {r : Rs} (h : Et w0 w b rp va X E n L) (hx : E.res = r) : Calls Tryz.prog 19 #[.pointer (some ⟨b, 0, Option.none⟩)] w fun e w' => e = .returned (.agg r.cells.toArray) ∧ Keep [] w w' := hx ▸ er_Result h
end
theorem rs_field0 (r : Rs) (w : World) : (Instr.field 39 (.agg r.cells.toArray) 0).run Tryz.prog w = .ok (.int .i64 r.status) w := by
  obtain ⟨s, ⟨q, hl⟩, l, m, n⟩ := r; obtain ⟨b0, b1, b2, b3, b4, b5, b6, b7, b8, b9, b10, b11, b12, b13, b14, b15, b16, b17, b18, b19, b20, b21, b22, b23, b24, b25, b26, b27, b28, b29, b30, b31, rfl⟩ := list32 q hl; kernel_rfl
end Go.Proofs.YtlhnjkekjbbhcaaGreatDoor
