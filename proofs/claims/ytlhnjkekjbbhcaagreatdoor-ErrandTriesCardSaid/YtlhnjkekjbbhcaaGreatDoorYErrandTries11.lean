/- Parts of the proof of ErrandTries, in order. No conditions but those that each theorem states. -/
import Derived.Test.YtlhnjkekjbbhcaaGreatDoorYErrandTries0
import Derived.Lib.SlBytesConst
import Derived.Lib.LaidTab
import Derived.Lib.ItoaNum
import Derived.Lib.ItoaLen
import Derived.Sort.Grow
import Derived.Test.YtlhnjkekjbbhcaaGreatDoorYErrandTries10
set_option linter.unusedSimpArgs false
set_option linter.unusedVariables false
namespace Go.Proofs.YtlhnjkekjbbhcaaGreatDoor
open Go.RowKit Go.Shelf
def http1B : List UInt8 := [72, 84, 84, 80, 47, 49, 46]
structure StL where
  n : Int
  v : Int
  ok : Bool
def stl0 : StL := ⟨0, 0, false⟩
def stN (cs : List UInt8) : Int := cs.foldl (fun a c => a * 10 + ((c.toNat : Int) - 48)) 0
def wdOk (ws : List UInt8) : Bool := match ws with
  | [] => true
  | b :: _ => b == 32 && isTxt ws
def sixOk (v sp a b c : UInt8) (ws : List UInt8) : Bool := (v == 48 || v == 49) && sp == 32 && [a, b, c].all digB && decide (49 ≤ a.toNat) && decide (a.toNat ≤ 53) && wdOk ws
def slM (l : List UInt8) : StL := if Lib.hasPrefix l http1B then (match l.drop 7 with
  | v :: sp :: a :: b :: c :: ws => if sixOk v sp a b c ws then ⟨stN [a, b, c], (v.toNat : Int) - 48, true⟩ else stl0
  | _ => stl0) else stl0
theorem slM_pre {l : List UInt8} (h : Lib.hasPrefix l http1B = false) : slM l = stl0 := by unfold slM; rw [h]; rfl
theorem slM_short {l : List UInt8} (h : l.length < 12) : slM l = stl0 := by
  unfold slM
  split
  · have h5 : (l.drop 7).length < 5 := by rw [List.length_drop]; omega
    match hd : l.drop 7, h5 with
    | [], _ => rfl
    | [_], _ => rfl
    | [_, _], _ => rfl
    | [_, _, _], _ => rfl
    | [_, _, _, _], _ => rfl
    | _ :: _ :: _ :: _ :: _ :: ws, h => simp at h; omega
  · rfl
theorem slM_six {l ws : List UInt8} {v sp a b c : UInt8} (h : Lib.hasPrefix l http1B = true) (hd : l.drop 7 = v :: sp :: a :: b :: c :: ws) : slM l = if sixOk v sp a b c ws then ⟨stN [a, b, c], (v.toNat : Int) - 48, true⟩ else stl0 := by
  unfold slM; rw [h, hd]; rfl
theorem six_of {l : List UInt8} (h : 12 ≤ l.length) : ∃ v sp a b c ws, l.drop 7 = v :: sp :: a :: b :: c :: ws ∧ ws = l.drop 12 := by
  have h5 : 5 ≤ (l.drop 7).length := by rw [List.length_drop]; omega
  have e : l.drop 12 = (l.drop 7).drop 5 := by rw [List.drop_drop]
  match hd : l.drop 7, h5 with
  | [], h => simp at h
  | [_], h => simp at h
  | [_, _], h => simp at h
  | [_, _, _], h => simp at h
  | [_, _, _, _], h => simp at h
  | v :: sp :: a :: b :: c :: ws, _ => exact ⟨v, sp, a, b, c, ws, rfl, by rw [e, hd]; rfl⟩
theorem parse_x (l : List UInt8) : parseE ([120, 58] ++ l) = if isTxt l then 0 else 3 := by
  have h : Lib.cut ([120, 58] ++ l) [58] = ([120], l, true) := cut_by [120] l 58 (by decide); have ht : isTok [120] = true := by decide +kernel
  have hp : parseF ([120, 58] ++ l) = if isTxt l then some ⟨[120], trimW l⟩ else none := by
    unfold parseF; rw [h]; simp only [ht, Bool.true_and]
  unfold parseE; rw [hp]; cases isTxt l <;> rfl
set_option maxRecDepth 100000 in
set_option maxHeartbeats 2000000 in
theorem reply_isText (l : List UInt8) (w : World) (hm : ML w) (hl : l.length < 4294967000) :
    Calls Tryz.prog 235 #[.string (S l)] w fun e w' => e = .returned (.bool (isTxt l)) ∧ Keep [] w w' := by
  have HP := Lib.hid (field_Parse ([120, 58] ++ l) w hm (by simp; omega)); rw [parse_x] at HP; have hc : (⟨#[120, 58]⟩ : ByteArray) ++ S l = S ([120, 58] ++ l) := S_append [120, 58] l; have sz := S_size l; have hov : ¬ 9223372036854775807 < 2 + l.length := by omega
  generalize [120, 58] ++ l = x at *; obtain ⟨v1, v2, hv⟩ : ∃ v1 v2, (parseV x).cells = [.string (S v1), .string (S v2)] := ⟨_, _, rfl⟩
  rw [hv] at HP
  cases ht : isTxt l with
  | false =>
    rw [ht] at HP; clear hm hv ht; go_enter Tryz.func235, Tryz.ntmps235; go_wp2_with fail; refine HP.out.mono ?_; rintro e w1 ⟨rfl, k1⟩; have K1 := Lib.hid (k1.alloc (.cells #[.string (S v1), .string (S v2)] 89)); clear k1; go_wp2_with fail; go_ret; exact ⟨rfl, K1.out⟩
  | true =>
    rw [ht] at HP; clear hm hv ht; go_enter Tryz.func235, Tryz.ntmps235; go_wp2_with fail; refine HP.out.mono ?_; rintro e w1 ⟨rfl, k1⟩; have K1 := Lib.hid (k1.alloc (.cells #[.string (S v1), .string (S v2)] 89)); clear k1; go_wp2_with fail; go_ret; exact ⟨rfl, K1.out⟩
structure Six (r : ByteArray) (n : Nat) (v sp a b c : UInt8) (ws : List UInt8) : Prop where
  sz : r.size = n
  g0 : ∀ h : 0 < r.size, r[0]'h = v
  g1 : ∀ h : 1 < r.size, r[1]'h = sp
  x1 : r.extract 2 5 = S [a, b, c]
  x2 : r.extract 5 n = S ws
  le : n = ws.length + 5
theorem six_S (v sp a b c : UInt8) (ws : List UInt8) : Six (S (v :: sp :: a :: b :: c :: ws)) (ws.length + 5) v sp a b c ws :=
  ⟨by rw [S_size]; rfl, fun h => S_get rfl h, fun h => S_get rfl h, by rw [S_extract]; rfl, by rw [S_extract, show ws.length + 5 = (v :: sp :: a :: b :: c :: ws).length from rfl, List.take_length]; rfl, rfl⟩
theorem res3 {fn : Func} {t u v : Tmp} (h : fn.results = #[.tmp t, .tmp u, .tmp v]) (tmps : Array Value) (P : Program) (w : World) :
    (results fn tmps).run P w = .ok (.tuple #[tmps.getD t undef, tmps.getD u undef, tmps.getD v undef]) w := by
  simp [results, h]
theorem stN_nat (cs : List UInt8) (h : cs.all digB = true) (hl : cs.length ≤ 3) : ∃ m : Nat, stN cs = (m : Nat) ∧ m < 10 ^ cs.length := by
  have hd : ∀ x ∈ cs, 48 ≤ x.toNat ∧ x.toNat ≤ 57 := fun x hx => by simpa [digB] using List.all_eq_true.1 h x hx
  match cs, hl with
  | [], _ => exact ⟨0, rfl, by decide⟩
  | [x], _ =>
    have hx := hd x (by simp); exact ⟨x.toNat - 48, by simp [stN]; omega, by simp; omega⟩
  | [x, y], _ =>
    have hx := hd x (by simp); have hy := hd y (by simp); exact ⟨(x.toNat - 48) * 10 + (y.toNat - 48), by simp [stN]; omega, by simp; omega⟩
  | [x, y, z], _ =>
    have hx := hd x (by simp); have hy := hd y (by simp); have hz := hd z (by simp); exact ⟨((x.toNat - 48) * 10 + (y.toNat - 48)) * 10 + (z.toNat - 48), by simp [stN]; omega, by simp; omega⟩
theorem six_no {v sp a b c : UInt8} {ws : List UInt8} {R y : StL} (hR : R = if sixOk v sp a b c ws then y else stl0) (h : sixOk v sp a b c ws = false) : R = stl0 := by rw [hR, h]; rfl
theorem stN_snoc (l : List UInt8) (c : UInt8) : stN (l ++ [c]) = stN l * 10 + ((c.toNat : Int) - 48) := by unfold stN; rw [List.foldl_append]; rfl
def StL.out (r : StL) : Value := .tuple #[.int .i64 r.n, .int .i64 r.v, .bool r.ok]
set_option maxRecDepth 100000 in
set_option maxHeartbeats 4000000 in
theorem reply_Line (l : List UInt8) (w : World) (hm : ML w) (hl : l.length < 4294967000) :
    Calls Tryz.prog 217 #[.string (S l)] w fun e w' => e = .returned (slM l).out ∧ Keep [] w w' := by
  have hP : Calls Tryz.prog 74 #[.string (S l), .string ⟨#[72, 84, 84, 80, 47, 49, 46]⟩] w fun e w' => e = .returned (.tuple #[.string (S (Lib.trimPrefix l http1B)), .bool (Lib.hasPrefix l http1B)]) ∧ w' = w := by
    have := Tryz.strings_CutPrefix (S l) ⟨#[72, 84, 84, 80, 47, 49, 46]⟩ w; rw [S_list] at this; exact this
  have hsz := S_size l; have hcut := slM_pre (l := l); have hsh := slM_short (l := l); have hsx := @slM_six l; have hsi := six_of (l := l); have htr : Lib.hasPrefix l http1B = true → Lib.trimPrefix l http1B = l.drop 7 := fun h => by unfold Lib.trimPrefix; rw [if_pos h]; rfl
  generalize slM l = R at *
  cases hpf : Lib.hasPrefix l http1B with
  | false =>
    rw [hpf] at hP; have HR := Lib.hid (hcut hpf); have HP := Lib.hid hP; clear hP hpf hcut hsh hsx hsi htr hm; go_enter Tryz.func217, Tryz.ntmps217; go_wp2_with fail; refine HP.out.mono ?_; rintro e w1 ⟨rfl, rfl⟩; go_wp2_with fail; refine bodyPost_ret (res3 rfl _ _ _) rfl ⟨?_, Keep.refl _ _⟩; rw [HR.out]; rfl
  | true =>
    rw [hpf, htr hpf] at hP; by_cases h12 : l.length < 12
    · have HR := Lib.hid (hsh h12); have HP := Lib.hid hP; have q : decide ((l.length : Int) < 12) = true := by simp; omega
      clear hP hpf hcut hsh hsx hsi htr hm; go_enter Tryz.func217, Tryz.ntmps217; go_wp2_with fail; refine HP.out.mono ?_; rintro e w1 ⟨rfl, rfl⟩; go_wp2_with fail; refine bodyPost_ret (res3 rfl _ _ _) rfl ⟨?_, Keep.refl _ _⟩; rw [HR.out]; rfl
    have q : decide ((l.length : Int) < 12) = false := by simp; omega
    obtain ⟨v, sp, a, b, c, ws, hd, hws⟩ := hsi (by omega); have hr := hsx hpf hd; have hwl : ws.length ≤ l.length := by rw [hws]; simp
    rw [hd] at hP; have hS := six_S v sp a b c ws; generalize S (v :: sp :: a :: b :: c :: ws) = r at *; obtain ⟨n, hn⟩ : ∃ n, ws.length + 5 = n := ⟨_, rfl⟩
    rw [hn] at hS; obtain ⟨s1, s2, s3, s4, s5, -⟩ := hS; have n5 : (5 : Int) ≤ (n : Int) := by omega
    have nl : (n : Int) ≤ 9223372036854775807 := by omega
    clear hn; have HP := Lib.hid hP; have HR := Lib.hid hr; have HT := Lib.hid (fun w' (k : Keep [] w w') => reply_isText ws w' (hm.keep k (by simp)) (by omega)); have hs3 : (S [a, b, c]).size = 3 := S_size _; have hsw := S_size ws; have cv := u8_nat v; have csp := u8_nat sp; clear hP hr hpf hcut hsh hsx hsi htr hd hws; by_cases hvv : v = 48 ∨ v = 49
    case neg =>
      have hR := Lib.hid (six_no HR.out (by unfold sixOk; have h1 : (v == 48) = false := by simp; exact fun h => hvv (.inl h)
                                            have h2 : (v == 49) = false := by simp; exact fun h => hvv (.inr h)
                                            rw [h1, h2]; rfl))
      have hn1 : v.toNat ≠ 48 := fun h => hvv (.inl (UInt8.toNat_inj.1 (by rw [h]; rfl)))
      have hn2 : v.toNat ≠ 49 := fun h => hvv (.inr (UInt8.toNat_inj.1 (by rw [h]; rfl)))
      have q1 : (((v.toNat : Nat) : Int) != 48) = true := by simp; omega
      have q2 : (((v.toNat : Nat) : Int) != 49) = true := by simp; omega
      clear hvv hn1 hn2; go_enter Tryz.func217, Tryz.ntmps217; go_wp2_with fail; refine HP.out.mono ?_; rintro e w1 ⟨rfl, rfl⟩; go_wp2_with fail; refine bodyPost_ret (res3 rfl _ _ _) rfl ⟨?_, Keep.refl _ _⟩; rw [hR.out]; rfl
    have hv2 : ((((v.toNat : Nat) : Int) != 48) = false ∨ ((((v.toNat : Nat) : Int) != 48) = true ∧ (((v.toNat : Nat) : Int) != 49) = false)) := by
      rcases hvv with rfl | rfl
      · exact .inl rfl
      · exact .inr ⟨rfl, rfl⟩
    have hvb : (v == 48 || v == 49) = true := by rcases hvv with rfl | rfl <;> rfl
    have hvr : 48 ≤ v.toNat ∧ v.toNat ≤ 49 := by rcases hvv with rfl | rfl <;> decide
    have wv1 := IntWalk.u8_in ((v.toNat : Int) - 48) (by omega); have wv2 := IntWalk.i64_in ((v.toNat : Int) - 48) (by omega); have HVB := Lib.hid hvb; clear hvv hvb hvr; by_cases hsp : sp = 32
    case neg =>
      have hR := Lib.hid (six_no HR.out (by unfold sixOk; have h1 : (sp == 32) = false := by simpa using hsp
                                            rw [h1]; simp))
      have hn : sp.toNat ≠ 32 := fun h => hsp (UInt8.toNat_inj.1 (by rw [h]; rfl))
      have q3 : (((sp.toNat : Nat) : Int) != 32) = true := by simp; omega
      clear hsp hn; rcases hv2 with q1 | ⟨q1, q2⟩
      all_goals
        go_enter Tryz.func217, Tryz.ntmps217; go_wp2_with fail; refine HP.out.mono ?_; rintro e w1 ⟨rfl, rfl⟩; go_wp2_with fail; refine bodyPost_ret (res3 rfl _ _ _) rfl ⟨?_, Keep.refl _ _⟩; rw [hR.out]; rfl
    have q3 : (((sp.toNat : Nat) : Int) != 32) = false := by rw [hsp]; rfl
    have HSP := Lib.hid hsp; clear hsp; have HCS : Hid ([a, b, c].length = 3) := Lib.hid rfl; have HA0 : Hid (∀ h : 0 < (S [a, b, c]).size, (S [a, b, c])[0]'h = a) := Lib.hid (fun h => S_get rfl h); have HX6 : Hid (R = if (v == 48 || v == 49) && sp == 32 && [a, b, c].all digB && decide (49 ≤ a.toNat) && decide (a.toNat ≤ 53) && wdOk ws then ⟨stN [a, b, c], (v.toNat : Int) - 48, true⟩ else stl0) := HR; generalize hcs : [a, b, c] = cs at *; have hcv := conv_run w.drew (S cs); have hcell : Hid (∀ (k : Nat) (x : UInt8), cs[k]? = some x → (Lib.bytesWorld w.drew 5 (S cs)).cell? ⟨w.heap.size, k, none⟩ = some (.int .u8 (x.toNat : Nat))) := fun k x h => conv_at w.drew 5 h
    have hkp := ((Keep.refl [] w).drew).trans (conv_keep w.drew 5 (S cs)); generalize Lib.bytesWorld w.drew 5 (S cs) = wb at hcv hcell hkp; have HK := Lib.hid hkp; clear hkp hcs HR; rcases hv2 with q1 | ⟨q1, q2⟩
    all_goals
      go_enter Tryz.func217, Tryz.ntmps217; go_wp2_with fail; refine HP.out.mono ?_; rintro e w1 ⟨rfl, rfl⟩; go_wp2_with fail
      go_region_with fail
      go_wp2_with fail
      go_loopg [9, 46] 3 (fun gg sv iv wr => ∃ k m : Nat, sv = .int .i64 (m : Nat) ∧ iv = .int .i64 (k : Nat) ∧ k ≤ 3 ∧ gg = 3 - k ∧ m ≤ 999 ∧ (k ≤ 2 → m ≤ 99) ∧ Hid (stN (cs.take k) = (m : Nat) ∧ (cs.take k).all digB = true) ∧ wr = wb)
      case atStart => exact ⟨0, 0, rfl, rfl, by omega, rfl, by omega, by omega, Lib.hid ⟨rfl, rfl⟩, rfl⟩
      case round =>
        obtain ⟨k, m, rfl, rfl, hk, hgg, hm1, hm2, HS, rfl⟩ := hrel; by_cases hlt : k < 3
        · obtain ⟨x, hx⟩ : ∃ x, cs[k]? = some x := ⟨_, List.getElem?_eq_getElem (by rw [HCS.out]; exact hlt)⟩
          have hc := hcell.out k x hx; have hx8 := u8_nat x; have hts := take_snoc hx; by_cases hdx : digB x = true
          · have hd9 : 48 ≤ x.toNat ∧ x.toNat ≤ 57 := by simpa [digB] using hdx
            obtain ⟨hd1, hd2⟩ := hd9; have hm3 := hm2 (by omega); have wx1 := IntWalk.u8_in ((x.toNat : Int) - 48) (by omega); have wx2 := IntWalk.i64_in ((x.toNat : Int) - 48) (by omega); have wm1 := IntWalk.i64_in ((m : Int) * 10) (by omega); have wm2 := IntWalk.i64_in ((m : Int) * 10 + ((x.toNat : Int) - 48)) (by omega); have hall : (cs.take (k + 1)).all digB = true := by rw [hts, List.all_append, HS.out.2]; simp [hdx]
            obtain ⟨m', e', hb'⟩ := stN_nat _ hall (by rw [List.length_take]; omega); have he : (m : Int) * 10 + ((x.toNat : Int) - 48) = (m' : Nat) := by rw [← e', hts, stN_snoc, HS.out.1]
            have hlk : (cs.take (k + 1)).length = k + 1 := by rw [List.length_take, HCS.out]; omega
            rw [hlk] at hb'
            have hb1 : m' ≤ 999 ∧ (k + 1 ≤ 2 → m' ≤ 99) := by
              have : k = 0 ∨ k = 1 ∨ k = 2 := by omega
              rcases this with rfl | rfl | rfl <;> (simp at hb'; omega)
            have HN := Lib.hid (And.intro e' hall); clear hx hts hdx hall e' hb' hlk hm3 hm2 HS; go_wp2_with fail
            go_roundg (3 - (k + 1))
            case measure => omega
            case rel => exact ⟨k + 1, m', by rw [← he], by go_num, by omega, rfl, hb1.1, hb1.2, HN, rfl⟩
          · have hno : cs.all digB = false := by rw [List.all_eq_false]; exact ⟨x, List.mem_of_getElem? hx, hdx⟩
            have hR : R = stl0 := by rw [HX6.out, hno]; simp
            have HR := Lib.hid hR
            have hd9 : x.toNat < 48 ∨ (48 ≤ x.toNat ∧ 57 < x.toNat) := by
              have : ¬ (48 ≤ x.toNat ∧ x.toNat ≤ 57) := by simpa [digB] using hdx
              omega
            clear hx hts hdx hno hR hm2 HS; rcases hd9 with hd1 | ⟨hd1, hd2⟩
            all_goals
              go_wp2_with fail; refine bodyPost_ret (res3 rfl _ _ _) rfl ⟨?_, HK.out⟩; rw [HR.out]; rfl
        · have hk3 : k = 3 := by omega
          have hfull : cs.take k = cs := List.take_of_length_le (by rw [HCS.out]; omega); rw [hfull] at HS
          have hR : R = if decide (49 ≤ a.toNat) && decide (a.toNat ≤ 53) && wdOk ws then ⟨m, (v.toNat : Int) - 48, true⟩ else stl0 := by
            rw [HX6.out, HVB.out, HSP.out, HS.out.1, HS.out.2]; simp
          have HR := Lib.hid hR; have ca := u8_nat a; have a0 := HA0.out; clear hfull HS hm2 hR hlt; by_cases ha1 : a.toNat < 49
          · have hR := Lib.hid (show R = stl0 by rw [HR.out, decide_eq_false (show ¬ 49 ≤ a.toNat by omega)]; rfl); go_wp2_with fail; refine bodyPost_ret (res3 rfl _ _ _) rfl ⟨?_, HK.out⟩; rw [hR.out]; rfl
          by_cases ha2 : 53 < a.toNat
          · have hR := Lib.hid (show R = stl0 by rw [HR.out, decide_eq_false (show ¬ a.toNat ≤ 53 by omega)]; simp); go_wp2_with fail; refine bodyPost_ret (res3 rfl _ _ _) rfl ⟨?_, HK.out⟩; rw [hR.out]; rfl
          have hR2 : R = if wdOk ws then ⟨m, (v.toNat : Int) - 48, true⟩ else stl0 := by rw [HR.out, decide_eq_true (show 49 ≤ a.toNat by omega), decide_eq_true (show a.toNat ≤ 53 by omega)]; rfl
          clear HR; by_cases hnil : ws = []
          case pos =>
            have hR := Lib.hid (show R = ⟨m, (v.toNat : Int) - 48, true⟩ by rw [hR2, hnil]; rfl); have tl0 := S_toList []; subst hnil; clear hR2; go_wp2_with fail
            go_region_with fail
            all_goals
              go_wp2_with fail; refine bodyPost_ret (res3 rfl _ _ _) rfl ⟨?_, ?_⟩
              · rw [hR.out]; rfl
              · repeat (first | exact HK.out | apply Keep.drew)
          case neg =>
            obtain ⟨d, wt, hws⟩ := List.exists_cons_of_ne_nil hnil; clear hnil; have hw1 : wdOk ws = (d == 32 && isTxt ws) := by rw [hws]; rfl
            have d0 : ∀ h : 0 < (S ws).size, (S ws)[0]'h = d := fun h => S_get (by rw [hws]; rfl) h
            have tl := S_toList ws; have te : ws.isEmpty = false := by rw [hws]; rfl
            have te2 : (ws == []) = false := by rw [hws]; rfl
            have cd := u8_nat d; have hlw : 0 < ws.length := by rw [hws]; simp
            clear hws; by_cases hd : d = 32
            case neg =>
              have hR := Lib.hid (show R = stl0 by rw [hR2, hw1, show (d == 32) = false by simpa using hd]; rfl); have hn : d.toNat ≠ 32 := fun h => hd (UInt8.toNat_inj.1 (by rw [h]; rfl))
              have q4 : (((d.toNat : Nat) : Int) != 32) = true := by simp; omega
              clear hR2 hw1 hd hn; go_wp2_with fail; refine bodyPost_ret (res3 rfl _ _ _) rfl ⟨?_, HK.out⟩; rw [hR.out]; rfl
            have q4 : (((d.toNat : Nat) : Int) != 32) = false := by rw [hd]; rfl
            rw [show (d == 32) = true by simp [hd], Bool.true_and] at hw1; clear hd; have HT2 := Lib.hid (HT.out _ HK.out)
            cases hit : isTxt ws with
            | false =>
              rw [hit] at HT2; have hR := Lib.hid (show R = stl0 by rw [hR2, hw1, hit]; rfl); clear hR2 hw1 hit; go_wp2_with fail; refine HT2.out.mono ?_; rintro e w3 ⟨rfl, k3⟩; have K3 := Lib.hid (HK.out.trans k3); clear k3; go_wp2_with fail; refine bodyPost_ret (res3 rfl _ _ _) rfl ⟨?_, K3.out⟩; rw [hR.out]; rfl
            | true =>
              rw [hit] at HT2; have hR := Lib.hid (show R = ⟨m, (v.toNat : Int) - 48, true⟩ by rw [hR2, hw1, hit]; rfl); clear hR2 hw1 hit; go_wp2_with fail; refine HT2.out.mono ?_; rintro e w3 ⟨rfl, k3⟩; have K3 := Lib.hid (HK.out.trans k3); clear k3; go_wp2_with fail
              go_region_with fail
              all_goals
                go_wp2_with fail; refine bodyPost_ret (res3 rfl _ _ _) rfl ⟨?_, ?_⟩
                · rw [hR.out]; rfl
                · repeat (first | exact K3.out | apply Keep.drew)
end Go.Proofs.YtlhnjkekjbbhcaaGreatDoor
