/- Parts of the proof of ErrandGets, in order. No conditions but those that each theorem states. -/
import Derived.Test.YtlhnjkekjbbhcaaGreatDoorYErrandGets0
import Derived.Lib.SlBytesConst
import Derived.DeepKeys4
import Derived.Deep.MidRow
import Derived.Test.YtlhnjkekjbbhcaaGreatDoorYErrandGets46
import Derived.Test.YtlhnjkekjbbhcaaGreatDoorYErrandGets47
set_option linter.unusedSimpArgs false
set_option linter.unusedVariables false
namespace Go.Proofs.YtlhnjkekjbbhcaaGreatDoor
open Go.RowKit Go.Shelf
structure Gz (T b : List UInt8) (a : Ans) (i : Nat) (rest got l : List UInt8) (E : ErS) : Prop where
  eq : l ++ rest = T
  on : rest ≠ [] → Gi got l E ∧ E.okR (2 * l.length) ∧ E.told ∧ E.cnt (5 * (l.length + i)) ∧ E.live
  off : rest = [] → Gd a b got E
theorem gz_new {T b : List UInt8} {a : Ans} (hT : T ≠ []) : Gz T b a 0 T [] [] (erBegin (erNew ky24 cf24 tk0) 100) := by
  refine ⟨rfl, fun _ => ⟨gi_new, fun P hP => ?_, fun P hP => ?_, ?_, fun _ => ⟨_, rfl⟩⟩, fun h => absurd h hT⟩
  · cases hP; exact reNew_ok _ in64_most
  · cases hP; rfl
  · show cntOf 0 0 0 0 0 4611686018427387904 0; unfold cntOf; refine ⟨⟨?_, ?_⟩, ⟨?_, ?_⟩, ⟨?_, ?_⟩, ?_, ⟨?_, ?_⟩, ?_⟩ <;> decide
structure Gr (T b : List UInt8) (a : Ans) (i : Nat) (rest got l : List UInt8) (now : Int) (R : ErS) : Prop where
  last : R.last = now
  tick : erTick R (now + 9) = R
  taken : R.taken = (got.length : Nat)
  dat : R.data.length ≤ 70368744177664
  gotl : got.length ≤ 70368744177664
  zero : R.misses = 0 ∧ R.silent = 0
  cfg : R.cfg = cf24
  nxt : Gz T b a (i + 1) rest (got ++ R.data) l (erTook R)
  done : rest = [] → Gd a b got R
section
variable {T b rest got l : List UInt8} {a : Ans} {i : Nat} {E : ErS}
theorem gz_hear {s rest' : List UInt8} {now : Int} (hW : Whole T a b) (ha : a.st = 200) (hcl : a.cl = false) (hT : T.length ≤ 16384) (hb : b.length ≤ 4096) (hi : i ≤ 60) (h : Gz T b a i rest got l E) (hs : s ≠ []) (hr : rest = s ++ rest') :
    ∃ R, erHear E s false now = some R ∧ 2 * l.length + 2 * s.length ≤ 400000 ∧ E.cnt (5 * (l.length + i)) ∧ 5 * (l.length + i) + 5 * (s.length + 1) + 5 ≤ 1000000 ∧ E.told ∧ Gr T b a i rest' got (l ++ s) now R := by
  have hne : rest ≠ [] := by rw [hr]; intro hh; exact hs (List.append_eq_nil_iff.1 hh).1
  obtain ⟨hG, hok, htl, hcn, hlv⟩ := h.on hne; have heq : l ++ (s ++ rest') = T := by rw [← hr]; exact h.eq
  have hlen : l.length + (s.length + rest'.length) = T.length := by rw [← heq, List.length_append, List.length_append]
  have hn : 2 * l.length + 2 * s.length ≤ 400000 := by omega
  obtain ⟨R, r1, r2, r3, r4⟩ := gi_hear (now := now) hW ha hcl hT hs heq hG; obtain ⟨R', q1, q2, q3, q4, q5, _⟩ := hear_some (n := 2 * l.length) s false now hn hok htl hcn hlv; rw [r1] at q1; obtain rfl := Option.some.inj q1; have hcnt : R.cnt (5 * ((l ++ s).length + (i + 1))) := q4.mono (by rw [List.length_append]; omega); have hls : (l ++ s).length ≤ 16384 := by rw [List.length_append]; omega
  have hle : (l ++ s).length + (i + 1) ≤ 16445 := by omega
  have hdat : R.data.length ≤ 32890000000 := by
    have := hcnt.2.2.2.1; have h2 : 5 * ((l ++ s).length + (i + 1)) * 400000 ≤ 82225 * 400000 := Nat.mul_le_mul (by omega) (Nat.le_refl _); omega
  refine ⟨R, r1, hn, hcn, by omega, htl, ?_⟩; by_cases h0 : rest' = []
  · have hD := r4 h0
    have hgl : got.length ≤ 4096 := by
      have := congrArg List.length hD.data; rw [List.length_append] at this; omega
    exact ⟨r2, gd_tick hD, hD.taken, by omega, by omega, ⟨hD.cnt.1, hD.cnt.2.1⟩, hD.cfg, ⟨by rw [List.append_assoc]; exact heq, fun hh => absurd h0 hh, fun _ => gd_took hD⟩, fun _ => hD⟩
  · have hI := r3 h0; obtain ⟨P, a0, f, e1, e2, e3, e4, e5, e6, e7⟩ := hI.seen
    have hgl : got.length ≤ 70368744177664 := by
      have h1 := hcnt.2.2.2.2.1.2; rw [e5, ← e6, List.length_append] at h1; have h2 : 5 * ((l ++ s).length + (i + 1)) ≤ 82225 := by omega
      generalize 5 * ((l ++ s).length + (i + 1)) = c at h1 h2; omega
    refine ⟨r2, gi_tick hI r2, e7, by omega, hgl, ⟨hI.cnt.1, hI.cnt.2.1⟩, hI.cfg, ⟨by rw [List.append_assoc]; exact heq, fun _ => ⟨gi_took hI, ?_, q3, ?_, q5⟩, fun hh => absurd hh h0⟩, fun hh => absurd hh h0⟩
    · rw [List.length_append]; exact fun P hP => ok_mono (q2 P hP) (by omega)
    · obtain ⟨f1, f2, f3, f4, f5, f6⟩ := hcnt; exact ⟨f1, f2, f3, Nat.zero_le _, f5, f6⟩
end
def rsG (b : List UInt8) : Rs := ⟨200, dig1, textX, (b.length : Nat), 100⟩
theorem rsG_good (b : List UInt8) (hb : b.length ≤ 4096) : goodRs (rsG b) := by
  refine ⟨(by show textX.length ≤ maxLen; decide), ⟨?_, ?_⟩, ⟨?_, ?_⟩, ⟨?_, ?_⟩⟩
  · show _ ≤ (200 : Int); omega
  · show (200 : Int) ≤ _; omega
  · show _ ≤ ((b.length : Nat) : Int); omega
  · show ((b.length : Nat) : Int) ≤ _; omega
  · show _ ≤ (100 : Int); omega
  · show (100 : Int) ≤ _; omega
theorem bd_rsG (b : List UInt8) : Tryz.prog.built 39 [(0, .int .i64 200), (1, .agg (digC dig1).toArray), (2, .string ⟨#[116, 101, 120, 116, 47, 120]⟩), (3, .int .i64 (b.length : Nat)), (4, .int .i64 100)] = some (rsG b).cells.toArray := bd_rs 200 dig1 textX (b.length : Nat) 100
set_option maxRecDepth 100000 in
set_option maxHeartbeats 16000000 in
theorem errandGets_walk (b : List UInt8) (x : Int) (v : Value) (Ls : List Int) (w : World) (hm : ML w) (hp : P10 w) (hbl : b.length ≤ 140737488351232) (hv : Sl intC 1 w v Ls) :
    Calls Tryz.prog 7 #[.string (S b), .int .i64 x, v] w fun e w' => e = .returned (.bool true) ∧ Keep [] w w' := by
  have hsz : (S b).size = b.length := S_size _; have HAw := Lib.hid (errand_awake w hm); have HM := Lib.hid hm; have HP := Lib.hid hp; have HV := Lib.hid hv; obtain ⟨va, vcap, rfl, hvl⟩ := hv.shape; have hbl' : b.length ≤ 9223372036854775807 := by omega
  clear hm hp hv hbl; by_cases hbig : 4096 < b.length
  · have d1 : decide ((4096 : Int) < (b.length : Int)) = true := decide_eq_true (by omega); have d2 : decide (4096 < b.length) = true := decide_eq_true hbig; go_enter Tryz.func7, Tryz.ntmps7; go_wp2_with fail; refine HAw.out.mono ?_; rintro e w1 ⟨rfl, k1⟩; have K1 := Lib.hid k1; clear k1; go_wp2_with fail; go_ret; exact ⟨rfl, K1.out⟩
  have d1 : decide ((4096 : Int) < (b.length : Int)) = false := decide_eq_false (by omega); have d2 : decide (4096 < b.length) = false := decide_eq_false hbig; by_cases hcu : 60 < Ls.length
  · have d3 : decide ((60 : Int) < (Ls.length : Int)) = true := decide_eq_true (by omega); have d4 : decide (60 < Ls.length) = true := decide_eq_true hcu; go_enter Tryz.func7, Tryz.ntmps7; go_wp2_with fail; refine HAw.out.mono ?_; rintro e w1 ⟨rfl, k1⟩; have K1 := Lib.hid k1; clear k1; go_wp2_with fail; go_ret; exact ⟨rfl, K1.out⟩
  have d3 : decide ((60 : Int) < (Ls.length : Int)) = false := decide_eq_false (by omega); have d4 : decide (60 < Ls.length) = false := decide_eq_false hcu; have hb : b.length ≤ 4096 := by omega
  have hcn : Ls.length ≤ 60 := by omega
  obtain ⟨r, hr2, er⟩ := u64_mod x 2 (by omega); replace er : (IntKind.u64.wrap x).tmod 2 = (r : Int) := er; have HAn := Lib.hid (fun w' (kk : Keep [] w w') => law24_answer b x r hr2 er w' (HP.out.keep0 kk) hb); have HW := Lib.hid (ansT_whole b (r == 0) hb); have HTs := Lib.hid (ansT_some b (r == 0) hb); have HTl := Lib.hid (ansT_len b (r == 0) hb); obtain ⟨T, hTT⟩ : ∃ z, ansT b (r == 0) = z := ⟨_, rfl⟩
  rw [hTT] at HAn HW HTs HTl; obtain ⟨a, haa⟩ : ∃ z, ansA b (r == 0) = z := ⟨_, rfl⟩
  have ha := ansA_st b (r == 0); have hcl := ansA_cl b (r == 0); have hty := ansA_typ b (r == 0); rw [haa] at HW ha hcl hty; have HA := Lib.hid (And.intro ha (And.intro hcl hty)); have HAA := Lib.hid haa; have HB := Lib.hid hb; have HCN := Lib.hid hcn; have HER := Lib.hid (And.intro hr2 er); have HBd := Lib.hid (fun w' => law24_body w'); have HSm := Lib.hid (fun w' => law24_some w'); have HB0 := Lib.hid bd_tk0; have HN1 := Lib.hid (fun w' (k : Keep [] w w') => er_New (w0 := w) (L := []) ky24 cf24 tk0 k (HM.out.keep k (by simp)) ok_ky24 (by decide) (by simp)); clear hTT haa ha hcl hty hbig hcu hb hcn hr2 er; go_enter Tryz.func7, Tryz.ntmps7; go_wp2_with fail; refine HAw.out.mono ?_; rintro e w1 ⟨rfl, k1⟩; have K1 := Lib.hid k1; clear k1 HAw; go_wp2_with fail; refine (HBd.out _).mono ?_; rintro e w2 ⟨rfl, k2⟩; have K2 := Lib.hid (K1.out.trans k2); clear k2 K1; go_wp2_with fail; refine (HSm.out _).mono ?_; rintro e w3 ⟨rfl, k3⟩; have K3 := Lib.hid (K2.out.trans k3); clear k3 K2
  go_wp2_with (first | ((with_reducible refine gB 33 ?_); refine wpList_buildM (by rfl) 27 _ rfl ([]) (by simp [Act.eval]) (tk0.cells) HB0 ?_; try simp only [Act.put, sqA, sqB, sqC]) | fail); refine (HN1.out _ K3.out).mono ?_; rintro e w4 hN; rcases hN with ⟨_, bb, rfl, hbb, hE, k4⟩ | ⟨hno, _⟩
  rotate_left
  · rw [aw24_new] at hno; cases hno
  have H4 := Lib.hid hE; clear hbb hE k4 K3 HN1 HBd HSm; have hwa : (decide ((erNew ky24 cf24 tk0).state = 1) && decide ((erNew ky24 cf24 tk0).unt ≤ 100)) = true := by decide
  have HBg := Lib.hid (er_Begin H4.out HM.out 100 hwa ok_ky24 (by decide) aw24_asked.1 ⟨by decide, by decide⟩); obtain ⟨qs, hqs⟩ : ∃ z, askedS (erNew ky24 cf24 tk0).key (erNew ky24 cf24 tk0).cfg.host (erNew ky24 cf24 tk0).known = z := ⟨_, rfl⟩
  rw [hqs] at HBg; clear hwa hqs; go_wp2_with fail; refine HBg.out.mono ?_; rintro e w5 ⟨rfl, rp, vE, X, hE, _, _⟩; have H5 := Lib.hid (⟨hE, Mem.of hE.kp⟩ : Lw w w5 bb rp vE X (erBegin (erNew ky24 cf24 tk0) 100) 0 []); clear hE HBg H4; have htx : S textX = (⟨#[116, 101, 120, 116, 47, 120]⟩ : ByteArray) := rfl; rw [htx] at HAn; go_wp2_with fail; refine (HAn.out _ H5.out.et.kp).mono ?_; rintro e w6 ⟨rfl, k6⟩; have H6 := Lib.hid (H5.out.keep0 k6); have Z6 := Lib.hid (gz_new (b := b) (a := a) HTs.out); clear k6 H5 HAn htx
  go_upto_block 0 with fail
  go_cut [9, 10, 11] (fun sv gv nv wx => ∃ (i : Nat) (rest got l : List UInt8) (E : ErS) (rp vE : Value) (X : List Nat), sv = .string (S rest) ∧ gv = .string (S got) ∧ nv = .int .i64 (100 + 9 * (i : Int)) ∧ i ≤ 60 ∧ Hid (Lw w wx bb rp vE X E (2 * l.length) []) ∧ Hid (Gz T b a i rest got l E))
  case first =>
    go_wp2_with fail
    go_loopg [9, 10, 11, 12] (Ls.length) (fun gg sv gv nv iv wr => ∃ (i : Nat) (rest got l : List UInt8) (E : ErS) (rp vE : Value) (X : List Nat), sv = .string (S rest) ∧ gv = .string (S got) ∧ nv = .int .i64 (100 + 9 * (i : Int)) ∧ iv = .int .i64 (i : Nat) ∧ i ≤ Ls.length ∧ gg = Ls.length - i ∧ Hid (Lw w wr bb rp vE X E (2 * l.length) []) ∧ Hid (Gz T b a i rest got l E))
    case atStart => exact ⟨0, T, [], [], _, _, _, _, rfl, rfl, rfl, rfl, by omega, rfl, H6, Z6⟩
    case round =>
      clear H6 Z6; obtain ⟨i, rest, got, l, E, rp, vE, X, rfl, rfl, rfl, rfl, hi, hgg, HR, ZR⟩ := hrel; have hcn := HCN.out; by_cases hcont : i < Ls.length ∧ rest ≠ []
      · as_aux_lemma =>
          obtain ⟨hlt, hrs⟩ := hcont; have wi := IntWalk.i64_in ((i : Int) + 1) (by omega); have wn : IntKind.i64.wrap (100 + 9 * (i : Int) + 9) = 100 + 9 * (i : Int) + 9 := IntWalk.i64_in _ (by omega); obtain ⟨c, hx⟩ : ∃ c, Ls[i]? = some c := ⟨_, List.getElem?_eq_getElem hlt⟩
          have hsl := HV.out.keep intC_length (by omega) HV.out HR.out.et.kp (by simp) (Nat.le_refl _); obtain ⟨ba, off, cap', hve, _, _, hcell⟩ := hsl.cell hx; obtain ⟨rfl, _, rfl⟩ : va = some ⟨ba, off, none⟩ ∧ True ∧ vcap = cap' := by simpa using hve
          have x0 := hcell 0 (by omega); simp only [intC, List.getElem?_cons_zero, Nat.add_zero, Nat.mul_one] at x0; clear hcell hve hsl hx; have e1 : decide ((i : Int) < (Ls.length : Int)) = true := decide_eq_true (by omega); have e1' : decide (i < Ls.length) = true := decide_eq_true hlt; have e2 : (S rest).toList.isEmpty = false := by rw [S_toList]; cases rest with | nil => exact absurd rfl hrs | cons => rfl
          have hrp : 0 < rest.length := List.length_pos_iff.2 hrs; have hTl := HTl.out; have hlen : l.length + rest.length = T.length := by rw [← ZR.out.eq, List.length_append]
          have hsr : (S rest).size = rest.length := S_size _; obtain ⟨q, hq, eq⟩ := u64_mod c rest.length hrp; have wl : IntKind.u64.wrap (rest.length : Int) = rest.length := IntWalk.u64_in _ (by omega); have wq : IntKind.i64.wrap (q : Int) = q := IntWalk.i64_in _ (by omega); obtain ⟨K, hK⟩ : ∃ K, q + 1 = K := ⟨_, rfl⟩
          have wK : IntKind.i64.wrap (1 + (q : Int)) = (K : Int) := by rw [IntWalk.i64_in _ (by omega)]; omega
          have hz : ((rest.length : Int) == 0) = false := by simp; omega
          have hz' : ¬ ((rest.length : Int) = 0) := by omega
          have hKl : K ≤ rest.length := by omega
          have hK0 : (0 : Int) ≤ (K : Int) := by omega
          have hKl' : (K : Int) ≤ (rest.length : Int) := by omega
          have htn : ((K : Int)).toNat = K := by omega
          have htn2 : ((rest.length : Int)).toNat = rest.length := by omega
          have hx1 : (S rest).extract 0 K = S (rest.take K) := by rw [S_extract, List.drop_zero]
          have hx2 : (S rest).extract K rest.length = S (rest.drop K) := by rw [S_extract, List.take_length]
          have htk : rest.take K ≠ [] := by
            intro hh; have := congrArg List.length hh; rw [List.length_take, List.length_nil] at this; omega
          obtain ⟨R, r1, r2, r3, r4, r5, hG⟩ := gz_hear (now := 100 + 9 * (i : Int)) HW.out HA.out.1 HA.out.2.1 (by omega) HB.out (by omega) ZR.out htk (List.take_append_drop K rest).symm; have HH := Lib.hid (er_Hear HR.out.et HM.out (rest.take K) false (100 + 9 * (i : Int)) (by omega) r2 r1 r3 r4 r5); have HG := Lib.hid hG; have hn2 : 2 * l.length + 2 * (rest.take K).length = 2 * (l ++ rest.take K).length := by rw [List.length_append]; omega
          rw [hn2] at HH; have hgt : got.length ≤ 70368744177664 := hG.gotl; have hdl := hG.dat; have hcat : S got ++ S R.data = S (got ++ R.data) := S_append _ _; have hz1 : (S got).size = got.length := S_size _; have hz2 : (S R.data).size = R.data.length := S_size _; have f1 : ((got.length : Int) != (got.length : Int)) = false := by simp
          have f2 : (got.length != got.length) = false := by simp
          have HQ := Lib.hid (show 0 ≤ (100 : Int) + 9 * (i : Int) ∧ (100 : Int) + 9 * (i : Int) ≤ 10000 by omega); clear r1 r2 r3 r4 r5 hG hn2 hlen htk hrs hTl ZR hK hq; go_wp2_with fail; refine HH.out.mono ?_; rintro e v1 ⟨rfl, va1, X1, hE1, k1, _⟩; have H1 := Lib.hid (HR.out.got hE1 k1); have HT := Lib.hid (er_Tick H1.out.et (100 + 9 * (i : Int) + 9) ⟨by rw [HG.out.zero.1]; decide, by have := HQ.out; omega, by rw [HG.out.cfg]; decide⟩ (by rw [HG.out.last]; have := HQ.out; omega) (by rw [HG.out.zero.2]; decide)); rw [HG.out.tick] at HT; clear hE1 k1 HH; go_wp2_with fail; refine HT.out.mono ?_; rintro e v2 ⟨rfl, hE2, k2⟩; have H2 := Lib.hid (H1.out.got hE2 (k2.mono (fun y hy _ => by simp only [List.mem_singleton] at hy; subst hy; simp))); have HTk := Lib.hid (er_Take H2.out.et HG.out.dat (by rw [HG.out.taken]; have := HG.out.gotl; omega)); rw [HG.out.taken] at HTk; clear hE2 k2 HT H1; go_wp2_with fail; refine HTk.out.mono ?_; rintro e v3 ⟨rfl, hE3, k3⟩; have H3 := Lib.hid (H2.out.got hE3 (k3.mono (fun y hy _ => by simp only [List.mem_singleton] at hy; subst hy; simp))); have Z3 := Lib.hid HG.out.nxt; clear hE3 k3 HTk H2; go_wp2_with fail
          go_roundg (Ls.length - (i + 1))
          case measure => omega
          case rel => exact ⟨i + 1, rest.drop K, got ++ R.data, l ++ rest.take K, erTook R, rp, va1, X1, rfl, rfl, by rw [show (100 : Int) + 9 * ((i + 1 : Nat) : Int) = 100 + 9 * (i : Int) + 9 by omega], by go_num, by omega, rfl, H3, Z3⟩
      · by_cases hlt : i < Ls.length
        · have hrs : rest = [] := Classical.byContradiction fun hh => hcont ⟨hlt, hh⟩
          have e1 : decide ((i : Int) < (Ls.length : Int)) = true := decide_eq_true (by omega); have e1' : decide (i < Ls.length) = true := decide_eq_true hlt; have e2 : (S rest).toList.isEmpty = true := by rw [S_toList, hrs]; rfl
          clear hrs; go_wp2_with fail; go_meet; exact ⟨i, rest, got, l, E, rp, vE, X, rfl, rfl, rfl, by omega, HR, ZR⟩
        · have e1 : decide ((i : Int) < (Ls.length : Int)) = false := decide_eq_false (by omega); have e1' : decide (i < Ls.length) = false := decide_eq_false hlt; go_wp2_with fail; go_meet; exact ⟨i, rest, got, l, E, rp, vE, X, rfl, rfl, rfl, by omega, HR, ZR⟩
  case rest =>
    obtain ⟨i, rest, got, l, E, rp, vE, X, rfl, rfl, rfl, hi, HR, ZR⟩ := hcut; obtain ⟨em, hem⟩ : ∃ z, (S rest).toList.isEmpty = z := ⟨_, rfl⟩
    go_upto_if 96 with fail
    go_cut [9] (fun sv wx => sv = .string (S rest) ∧ ∃ (R : ErS) (rp vE : Value) (X : List Nat) (n : Nat), Hid (Lw w wx bb rp vE X R n []) ∧ Hid (Gd a b got R))
    case first =>
      cases em with
      | true =>
        have h0 : rest = [] := by rw [S_toList] at hem; cases rest with | nil => rfl | cons => cases hem
        have D0 := Lib.hid (ZR.out.off h0); clear h0; go_wp2_with fail; go_meet; exact ⟨rfl, E, rp, vE, X, _, HR, D0⟩
      | false =>
        have h0 : rest ≠ [] := by intro hh; rw [S_toList, hh] at hem; cases hem
        have hTl := HTl.out; obtain ⟨R, r1, r2, r3, r4, r5, hG⟩ := gz_hear (s := rest) (rest' := []) (now := 100 + 9 * (i : Int)) HW.out HA.out.1 HA.out.2.1 (by omega) HB.out (by omega) ZR.out h0 (List.append_nil _).symm; have HH := Lib.hid (er_Hear HR.out.et HM.out rest false (100 + 9 * (i : Int)) (by omega) r2 r1 r3 r4 r5); have D0 := Lib.hid (hG.done rfl); clear r1 r2 r3 r4 r5 hG h0 hTl; go_wp2_with fail; refine HH.out.mono ?_; rintro e v1 ⟨rfl, va1, X1, hE1, k1, _⟩; have H1 := Lib.hid (HR.out.got hE1 k1); clear hE1 k1 HH; go_wp2_with fail; go_meet; exact ⟨rfl, R, rp, va1, X1, _, H1, D0⟩
    case rest =>
      obtain ⟨rfl, R, rp, vE, X, n, HR, DR⟩ := hcut; have hb := HB.out; have hdl := congrArg List.length DR.out.data; rw [List.length_append] at hdl; have HTk := er_Take HR.out.et (by omega) (by rw [DR.out.taken]; omega); rw [DR.out.taken] at HTk; have HTk := Lib.hid HTk; have hcat : S got ++ S R.data = S b := by rw [S_append, DR.out.data]
      have hz1 : (S got).size = got.length := S_size _; have hz2 : (S R.data).size = R.data.length := S_size _; have f1 : ((got.length : Int) != (got.length : Int)) = false := by simp
      have f2 : (got.length != got.length) = false := by simp
      have f3 : ((b.length : Int) == (b.length : Int)) = true := by simp
      have f4 : (b.length == b.length) = true := by simp
      go_wp2_with fail; refine HTk.out.mono ?_; rintro e v2 ⟨rfl, hE2, k2⟩; have H2 := Lib.hid (HR.out.got hE2 (k2.mono (fun y hy _ => by simp only [List.mem_singleton] at hy; subst hy; simp))); have D2 := Lib.hid (gd_took DR.out); clear hE2 k2 HTk HR; have hs2 := er_State H2.out.et; rw [D2.out.st] at hs2; have HS2 := Lib.hid hs2; have hrs : (erTook R).res = rsG b := by rw [D2.out.res, HA.out.2.2]; rfl
      have HRs := Lib.hid (er_ResultQ H2.out.et hrs); have heq := fun w' => eqRs (rsG b) (rsG b) (rsG_good b hb) (rsG_good b hb) w'
      rw [decide_eq_true rfl] at heq; have HB1 := Lib.hid bd_dig1; have HBR := Lib.hid (bd_rsG b); clear hs2 hrs DR hem; obtain ⟨hr2, er⟩ := HER.out; clear HER; rcases (show r = 0 ∨ r = 1 by omega) with rfl | rfl
      · as_aux_lemma =>
          have e0 : (((0 : Nat) : Int) == 0) = true := by decide
          have HSz := er_Size H2.out.et D2.out.body (si := ((b.length : Nat) : Int)) (is := true) (fun hh => by rw [D2.out.head, ← HAA.out] at hh; rcases hh with hh | hh; cases hh; exact absurd (show ((b.length : Nat) : Int) < 0 from hh) (by omega)) (fun _ => by rw [D2.out.head, ← HAA.out]; exact ⟨rfl, rfl⟩); have HSz := Lib.hid HSz; go_wp2_with (first | (go_at_call 18; refine HS2.out.mono ?_; rintro e w' ⟨rfl, rfl⟩) | (go_at_call 41; refine HSz.out.mono ?_; rintro e w' ⟨rfl, rfl⟩) | fail); refine HRs.out.mono ?_; rintro e v3 ⟨rfl, k3⟩; have H3 := Lib.hid (H2.out.keep0 k3); clear k3 HRs HSz HS2; have g1 := er_Reuse H3.out.et; have g2 := er_Heard H3.out.et; have g3 := er_Misses H3.out.et; have g4 := er_Silent H3.out.et; rw [D2.out.reuse] at g1; rw [D2.out.cnt.2.2] at g2; rw [D2.out.cnt.1] at g3; rw [D2.out.cnt.2.1] at g4; have G1 := Lib.hid g1; have G2 := Lib.hid g2; have G3 := Lib.hid g3; have G4 := Lib.hid g4; have g5 := er_Type H3.out.et (HM.out.keep H3.out.et.kp (by simp)) D2.out.body; rw [D2.out.head, HA.out.2.2, show S textX = (⟨#[116, 101, 120, 116, 47, 120]⟩ : ByteArray) from rfl] at g5; have G5 := Lib.hid g5; clear g1 g2 g3 g4 g5 H2
          go_wp2_with (first | (go_at_call 42; refine G1.out.mono ?_; rintro e w' ⟨rfl, rfl⟩) | (go_at_call 28; refine G2.out.mono ?_; rintro e w' ⟨rfl, rfl⟩) | (go_at_call 26; refine G3.out.mono ?_; rintro e w' ⟨rfl, rfl⟩) | (go_at_call 27; refine G4.out.mono ?_; rintro e w' ⟨rfl, rfl⟩) | ((with_reducible refine gB 129 ?_); refine wpList_buildM (by rfl) 23 _ rfl ([(0, .int .u8 1)]) (by simp [Act.eval]) (digC dig1) HB1 ?_; try simp only [Act.put, sqA, sqB, sqC]) | ((with_reducible refine gB 132 ?_); refine wpList_buildM (by rfl) 39 _ rfl ([(0, .int .i64 200), (1, .agg (digC dig1).toArray), (2, .string ⟨#[116, 101, 120, 116, 47, 120]⟩), (3, .int .i64 (b.length : Nat)), (4, .int .i64 100)]) (by simp [Act.eval]) ((rsG b).cells) HBR ?_; try simp only [Act.put, sqA, sqB, sqC]) | fail); refine G5.out.mono ?_; rintro e v4 ⟨rfl, k4⟩; have H4 := Lib.hid (H3.out.keep0 k4); clear k4 G5; go_wp2_with fail; go_ret; exact ⟨rfl, H4.out.et.kp⟩
      · as_aux_lemma =>
          have e0 : (((1 : Nat) : Int) == 0) = false := by decide
          have HSz := er_Size H2.out.et D2.out.body (si := 0) (is := false) (fun _ => ⟨rfl, rfl⟩) (fun hh => absurd (.inl (by rw [D2.out.head, ← HAA.out]; rfl)) hh); have HSz := Lib.hid HSz; go_wp2_with (first | (go_at_call 18; refine HS2.out.mono ?_; rintro e w' ⟨rfl, rfl⟩) | (go_at_call 41; refine HSz.out.mono ?_; rintro e w' ⟨rfl, rfl⟩) | fail); refine HRs.out.mono ?_; rintro e v3 ⟨rfl, k3⟩; have H3 := Lib.hid (H2.out.keep0 k3); clear k3 HRs HSz HS2; have g1 := er_Reuse H3.out.et; have g2 := er_Heard H3.out.et; have g3 := er_Misses H3.out.et; have g4 := er_Silent H3.out.et; rw [D2.out.reuse] at g1; rw [D2.out.cnt.2.2] at g2; rw [D2.out.cnt.1] at g3; rw [D2.out.cnt.2.1] at g4; have G1 := Lib.hid g1; have G2 := Lib.hid g2; have G3 := Lib.hid g3; have G4 := Lib.hid g4; have g5 := er_Type H3.out.et (HM.out.keep H3.out.et.kp (by simp)) D2.out.body; rw [D2.out.head, HA.out.2.2, show S textX = (⟨#[116, 101, 120, 116, 47, 120]⟩ : ByteArray) from rfl] at g5; have G5 := Lib.hid g5; clear g1 g2 g3 g4 g5 H2
          go_wp2_with (first | (go_at_call 42; refine G1.out.mono ?_; rintro e w' ⟨rfl, rfl⟩) | (go_at_call 28; refine G2.out.mono ?_; rintro e w' ⟨rfl, rfl⟩) | (go_at_call 26; refine G3.out.mono ?_; rintro e w' ⟨rfl, rfl⟩) | (go_at_call 27; refine G4.out.mono ?_; rintro e w' ⟨rfl, rfl⟩) | ((with_reducible refine gB 129 ?_); refine wpList_buildM (by rfl) 23 _ rfl ([(0, .int .u8 1)]) (by simp [Act.eval]) (digC dig1) HB1 ?_; try simp only [Act.put, sqA, sqB, sqC]) | ((with_reducible refine gB 132 ?_); refine wpList_buildM (by rfl) 39 _ rfl ([(0, .int .i64 200), (1, .agg (digC dig1).toArray), (2, .string ⟨#[116, 101, 120, 116, 47, 120]⟩), (3, .int .i64 (b.length : Nat)), (4, .int .i64 100)]) (by simp [Act.eval]) ((rsG b).cells) HBR ?_; try simp only [Act.put, sqA, sqB, sqC]) | fail); refine G5.out.mono ?_; rintro e v4 ⟨rfl, k4⟩; have H4 := Lib.hid (H3.out.keep0 k4); clear k4 G5; go_wp2_with fail; go_ret; exact ⟨rfl, H4.out.et.kp⟩
end Go.Proofs.YtlhnjkekjbbhcaaGreatDoor
