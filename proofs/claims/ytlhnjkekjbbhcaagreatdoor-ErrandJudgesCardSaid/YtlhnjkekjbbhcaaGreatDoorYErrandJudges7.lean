/- Parts of the proof of ErrandJudges, in order. No conditions but those that each theorem states. -/
import Derived.Test.YtlhnjkekjbbhcaaGreatDoorYErrandJudges0
import Derived.Lib.SlBytesConst
import Derived.Lib.LaidTab
import Derived.Lib.ItoaNum
import Derived.Lib.ItoaLen
import Derived.Sort.Grow
import Derived.Lib.Builder
import Derived.Lib.AppendStr
import Derived.Test.YtlhnjkekjbbhcaaGreatDoorYErrandJudges6
namespace Go.Proofs.YtlhnjkekjbbhcaaGreatDoor
open Go.RowKit Go.Shelf
def http1B : List UInt8 := [72, 84, 84, 80, 47, 49, 46]
structure StL where
  n : Int
  v : Int
  ok : Bool
def stl0 : StL := ⟨0, 0, false⟩
def stN (cs : List UInt8) : Int := cs.foldl (fun a c => a * 10 + ((c.toNat : Int) - 48)) 0
def wdOk (ws : List UInt8) : Bool := match ws with
  | [] => true
  | b :: _ => b == 32 && isTxt ws
def sixOk (v sp a b c : UInt8) (ws : List UInt8) : Bool := (v == 48 || v == 49) && sp == 32 && [a, b, c].all digB && decide (49 ≤ a.toNat) && decide (a.toNat ≤ 53) && wdOk ws
def slM (l : List UInt8) : StL := if Lib.hasPrefix l http1B then (match l.drop 7 with
  | v :: sp :: a :: b :: c :: ws => if sixOk v sp a b c ws then ⟨stN [a, b, c], (v.toNat : Int) - 48, true⟩ else stl0
  | _ => stl0) else stl0
theorem slM_pre {l : List UInt8} (h : Lib.hasPrefix l http1B = false) : slM l = stl0 := by unfold slM; rw [h]; rfl
theorem slM_short {l : List UInt8} (h : l.length < 12) : slM l = stl0 := by
  unfold slM
  split
  · have h5 : (l.drop 7).length < 5 := by rw [List.length_drop]; omega
    match hd : l.drop 7, h5 with
    | [], _ => rfl
    | [_], _ => rfl
    | [_, _], _ => rfl
    | [_, _, _], _ => rfl
    | [_, _, _, _], _ => rfl
    | _ :: _ :: _ :: _ :: _ :: ws, h => simp at h; omega
  · rfl
theorem slM_six {l ws : List UInt8} {v sp a b c : UInt8} (h : Lib.hasPrefix l http1B = true) (hd : l.drop 7 = v :: sp :: a :: b :: c :: ws) : slM l = if sixOk v sp a b c ws then ⟨stN [a, b, c], (v.toNat : Int) - 48, true⟩ else stl0 := by
  unfold slM; rw [h, hd]; rfl
theorem six_of {l : List UInt8} (h : 12 ≤ l.length) : ∃ v sp a b c ws, l.drop 7 = v :: sp :: a :: b :: c :: ws ∧ ws = l.drop 12 := by
  have h5 : 5 ≤ (l.drop 7).length := by rw [List.length_drop]; omega
  have e : l.drop 12 = (l.drop 7).drop 5 := by rw [List.drop_drop]
  match hd : l.drop 7, h5 with
  | [], h => simp at h
  | [_], h => simp at h
  | [_, _], h => simp at h
  | [_, _, _], h => simp at h
  | [_, _, _, _], h => simp at h
  | v :: sp :: a :: b :: c :: ws, _ => exact ⟨v, sp, a, b, c, ws, rfl, by rw [e, hd]; rfl⟩
theorem parse_x (l : List UInt8) : parseE ([120, 58] ++ l) = if isTxt l then 0 else 3 := by
  have h : Lib.cut ([120, 58] ++ l) [58] = ([120], l, true) := cut_by [120] l 58 (by decide); have ht : isTok [120] = true := by decide +kernel
  have hp : parseF ([120, 58] ++ l) = if isTxt l then some ⟨[120], trimW l⟩ else none := by
    unfold parseF; rw [h]; simp only [ht, Bool.true_and]
  unfold parseE; rw [hp]; cases isTxt l <;> rfl
set_option maxRecDepth 100000 in
set_option maxHeartbeats 2000000 in
theorem reply_isText (l : List UInt8) (w : World) (hm : ML w) (hl : l.length < 4294967000) :
    Calls Tryz.prog 235 #[.string (S l)] w fun e w' => e = .returned (.bool (isTxt l)) ∧ Keep [] w w' := by
  have HP := Lib.hid (field_Parse ([120, 58] ++ l) w hm (by simp; omega)); rw [parse_x] at HP; have hc : (⟨#[120, 58]⟩ : ByteArray) ++ S l = S ([120, 58] ++ l) := S_append [120, 58] l; have sz := S_size l; have hov : ¬ 9223372036854775807 < 2 + l.length := by omega
  generalize [120, 58] ++ l = x at *; obtain ⟨v1, v2, hv⟩ : ∃ v1 v2, (parseV x).cells = [.string (S v1), .string (S v2)] := ⟨_, _, rfl⟩
  rw [hv] at HP
  cases ht : isTxt l with
  | false =>
    rw [ht] at HP; clear hm hv ht; go_enter Tryz.func235, Tryz.ntmps235; go_wp2_with fail; refine HP.out.mono ?_; rintro e w1 ⟨rfl, k1⟩; have K1 := Lib.hid (k1.alloc (.cells #[.string (S v1), .string (S v2)] 89)); clear k1; go_wp2_with fail; go_ret; exact ⟨rfl, K1.out⟩
  | true =>
    rw [ht] at HP; clear hm hv ht; go_enter Tryz.func235, Tryz.ntmps235; go_wp2_with fail; refine HP.out.mono ?_; rintro e w1 ⟨rfl, k1⟩; have K1 := Lib.hid (k1.alloc (.cells #[.string (S v1), .string (S v2)] 89)); clear k1; go_wp2_with fail; go_ret; exact ⟨rfl, K1.out⟩
structure Six (r : ByteArray) (n : Nat) (v sp a b c : UInt8) (ws : List UInt8) : Prop where
  sz : r.size = n
  g0 : ∀ h : 0 < r.size, r[0]'h = v
  g1 : ∀ h : 1 < r.size, r[1]'h = sp
  x1 : r.extract 2 5 = S [a, b, c]
  x2 : r.extract 5 n = S ws
  le : n = ws.length + 5
theorem six_S (v sp a b c : UInt8) (ws : List UInt8) : Six (S (v :: sp :: a :: b :: c :: ws)) (ws.length + 5) v sp a b c ws :=
  ⟨by rw [S_size]; rfl, fun h => S_get rfl h, fun h => S_get rfl h, by rw [S_extract]; rfl, by rw [S_extract, show ws.length + 5 = (v :: sp :: a :: b :: c :: ws).length from rfl, List.take_length]; rfl, rfl⟩
theorem res3 {fn : Func} {t u v : Tmp} (h : fn.results = #[.tmp t, .tmp u, .tmp v]) (tmps : Array Value) (P : Program) (w : World) :
    (results fn tmps).run P w = .ok (.tuple #[tmps.getD t undef, tmps.getD u undef, tmps.getD v undef]) w := by
  simp [results, h]
theorem stN_nat (cs : List UInt8) (h : cs.all digB = true) (hl : cs.length ≤ 3) : ∃ m : Nat, stN cs = (m : Nat) ∧ m < 10 ^ cs.length := by
  have hd : ∀ x ∈ cs, 48 ≤ x.toNat ∧ x.toNat ≤ 57 := fun x hx => by simpa [digB] using List.all_eq_true.1 h x hx
  match cs, hl with
  | [], _ => exact ⟨0, rfl, by decide⟩
  | [x], _ =>
    have hx := hd x (by simp); exact ⟨x.toNat - 48, by simp [stN]; omega, by simp; omega⟩
  | [x, y], _ =>
    have hx := hd x (by simp); have hy := hd y (by simp); exact ⟨(x.toNat - 48) * 10 + (y.toNat - 48), by simp [stN]; omega, by simp; omega⟩
  | [x, y, z], _ =>
    have hx := hd x (by simp); have hy := hd y (by simp); have hz := hd z (by simp); exact ⟨((x.toNat - 48) * 10 + (y.toNat - 48)) * 10 + (z.toNat - 48), by simp [stN]; omega, by simp; omega⟩
theorem six_no {v sp a b c : UInt8} {ws : List UInt8} {R y : StL} (hR : R = if sixOk v sp a b c ws then y else stl0) (h : sixOk v sp a b c ws = false) : R = stl0 := by rw [hR, h]; rfl
theorem stN_snoc (l : List UInt8) (c : UInt8) : stN (l ++ [c]) = stN l * 10 + ((c.toNat : Int) - 48) := by unfold stN; rw [List.foldl_append]; rfl
def StL.out (r : StL) : Value := .tuple #[.int .i64 r.n, .int .i64 r.v, .bool r.ok]
set_option maxRecDepth 100000 in
set_option maxHeartbeats 4000000 in
theorem reply_Line (l : List UInt8) (w : World) (hm : ML w) (hl : l.length < 4294967000) :
    Calls Tryz.prog 217 #[.string (S l)] w fun e w' => e = .returned (slM l).out ∧ Keep [] w w' := by
  have hP : Calls Tryz.prog 74 #[.string (S l), .string ⟨#[72, 84, 84, 80, 47, 49, 46]⟩] w fun e w' => e = .returned (.tuple #[.string (S (Lib.trimPrefix l http1B)), .bool (Lib.hasPrefix l http1B)]) ∧ w' = w := by
    have := Tryz.strings_CutPrefix (S l) ⟨#[72, 84, 84, 80, 47, 49, 46]⟩ w; rw [S_list] at this; exact this
  have hsz := S_size l; have hcut := slM_pre (l := l); have hsh := slM_short (l := l); have hsx := @slM_six l; have hsi := six_of (l := l); have htr : Lib.hasPrefix l http1B = true → Lib.trimPrefix l http1B = l.drop 7 := fun h => by unfold Lib.trimPrefix; rw [if_pos h]; rfl
  generalize slM l = R at *
  cases hpf : Lib.hasPrefix l http1B with
  | false =>
    rw [hpf] at hP; have HR := Lib.hid (hcut hpf); have HP := Lib.hid hP; clear hP hpf hcut hsh hsx hsi htr hm; go_enter Tryz.func217, Tryz.ntmps217; go_wp2_with fail; refine HP.out.mono ?_; rintro e w1 ⟨rfl, rfl⟩; go_wp2_with fail; refine bodyPost_ret (res3 rfl _ _ _) rfl ⟨?_, Keep.refl _ _⟩; rw [HR.out]; rfl
  | true =>
    rw [hpf, htr hpf] at hP; by_cases h12 : l.length < 12
    · have HR := Lib.hid (hsh h12); have HP := Lib.hid hP; have q : decide ((l.length : Int) < 12) = true := by simp; omega
      clear hP hpf hcut hsh hsx hsi htr hm; go_enter Tryz.func217, Tryz.ntmps217; go_wp2_with fail; refine HP.out.mono ?_; rintro e w1 ⟨rfl, rfl⟩; go_wp2_with fail; refine bodyPost_ret (res3 rfl _ _ _) rfl ⟨?_, Keep.refl _ _⟩; rw [HR.out]; rfl
    have q : decide ((l.length : Int) < 12) = false := by simp; omega
    obtain ⟨v, sp, a, b, c, ws, hd, hws⟩ := hsi (by omega); have hr := hsx hpf hd; have hwl : ws.length ≤ l.length := by rw [hws]; simp
    rw [hd] at hP; have hS := six_S v sp a b c ws; generalize S (v :: sp :: a :: b :: c :: ws) = r at *; obtain ⟨n, hn⟩ : ∃ n, ws.length + 5 = n := ⟨_, rfl⟩
    rw [hn] at hS; obtain ⟨s1, s2, s3, s4, s5, -⟩ := hS; have n5 : (5 : Int) ≤ (n : Int) := by omega
    have nl : (n : Int) ≤ 9223372036854775807 := by omega
    clear hn; have HP := Lib.hid hP; have HR := Lib.hid hr; have HT := Lib.hid (fun w' (k : Keep [] w w') => reply_isText ws w' (hm.keep k (by simp)) (by omega)); have hs3 : (S [a, b, c]).size = 3 := S_size _; have hsw := S_size ws; have cv := u8_nat v; have csp := u8_nat sp; clear hP hr hpf hcut hsh hsx hsi htr hd hws; by_cases hvv : v = 48 ∨ v = 49
    case neg =>
      have hR := Lib.hid (six_no HR.out (by unfold sixOk; have h1 : (v == 48) = false := by simp; exact fun h => hvv (.inl h)
                                            have h2 : (v == 49) = false := by simp; exact fun h => hvv (.inr h)
                                            rw [h1, h2]; rfl))
      have hn1 : v.toNat ≠ 48 := fun h => hvv (.inl (UInt8.toNat_inj.1 (by rw [h]; rfl)))
      have hn2 : v.toNat ≠ 49 := fun h => hvv (.inr (UInt8.toNat_inj.1 (by rw [h]; rfl)))
      have q1 : (((v.toNat : Nat) : Int) != 48) = true := by simp; omega
      have q2 : (((v.toNat : Nat) : Int) != 49) = true := by simp; omega
      clear hvv hn1 hn2; go_enter Tryz.func217, Tryz.ntmps217; go_wp2_with fail; refine HP.out.mono ?_; rintro e w1 ⟨rfl, rfl⟩; go_wp2_with fail; refine bodyPost_ret (res3 rfl _ _ _) rfl ⟨?_, Keep.refl _ _⟩; rw [hR.out]; rfl
    have hv2 : ((((v.toNat : Nat) : Int) != 48) = false ∨ ((((v.toNat : Nat) : Int) != 48) = true ∧ (((v.toNat : Nat) : Int) != 49) = false)) := by
      rcases hvv with rfl | rfl
      · exact .inl rfl
      · exact .inr ⟨rfl, rfl⟩
    have hvb : (v == 48 || v == 49) = true := by rcases hvv with rfl | rfl <;> rfl
    have hvr : 48 ≤ v.toNat ∧ v.toNat ≤ 49 := by rcases hvv with rfl | rfl <;> decide
    have wv1 := IntWalk.u8_in ((v.toNat : Int) - 48) (by omega); have wv2 := IntWalk.i64_in ((v.toNat : Int) - 48) (by omega); have HVB := Lib.hid hvb; clear hvv hvb hvr; by_cases hsp : sp = 32
    case neg =>
      have hR := Lib.hid (six_no HR.out (by unfold sixOk; have h1 : (sp == 32) = false := by simpa using hsp
                                            rw [h1]; simp))
      have hn : sp.toNat ≠ 32 := fun h => hsp (UInt8.toNat_inj.1 (by rw [h]; rfl))
      have q3 : (((sp.toNat : Nat) : Int) != 32) = true := by simp; omega
      clear hsp hn; rcases hv2 with q1 | ⟨q1, q2⟩
      all_goals
        go_enter Tryz.func217, Tryz.ntmps217; go_wp2_with fail; refine HP.out.mono ?_; rintro e w1 ⟨rfl, rfl⟩; go_wp2_with fail; refine bodyPost_ret (res3 rfl _ _ _) rfl ⟨?_, Keep.refl _ _⟩; rw [hR.out]; rfl
    have q3 : (((sp.toNat : Nat) : Int) != 32) = false := by rw [hsp]; rfl
    have HSP := Lib.hid hsp; clear hsp; have HCS : Hid ([a, b, c].length = 3) := Lib.hid rfl; have HA0 : Hid (∀ h : 0 < (S [a, b, c]).size, (S [a, b, c])[0]'h = a) := Lib.hid (fun h => S_get rfl h); have HX6 : Hid (R = if (v == 48 || v == 49) && sp == 32 && [a, b, c].all digB && decide (49 ≤ a.toNat) && decide (a.toNat ≤ 53) && wdOk ws then ⟨stN [a, b, c], (v.toNat : Int) - 48, true⟩ else stl0) := HR; generalize hcs : [a, b, c] = cs at *; have hcv := conv_run w.drew (S cs); have hcell : Hid (∀ (k : Nat) (x : UInt8), cs[k]? = some x → (Lib.bytesWorld w.drew 5 (S cs)).cell? ⟨w.heap.size, k, none⟩ = some (.int .u8 (x.toNat : Nat))) := fun k x h => conv_at w.drew 5 h
    have hkp := ((Keep.refl [] w).drew).trans (conv_keep w.drew 5 (S cs)); generalize Lib.bytesWorld w.drew 5 (S cs) = wb at hcv hcell hkp; have HK := Lib.hid hkp; clear hkp hcs HR; rcases hv2 with q1 | ⟨q1, q2⟩
    all_goals
      go_enter Tryz.func217, Tryz.ntmps217; go_wp2_with fail; refine HP.out.mono ?_; rintro e w1 ⟨rfl, rfl⟩; go_wp2_with fail
      go_region_with fail
      go_wp2_with fail
      go_loopg [9, 46] 3 (fun gg sv iv wr => ∃ k m : Nat, sv = .int .i64 (m : Nat) ∧ iv = .int .i64 (k : Nat) ∧ k ≤ 3 ∧ gg = 3 - k ∧ m ≤ 999 ∧ (k ≤ 2 → m ≤ 99) ∧ Hid (stN (cs.take k) = (m : Nat) ∧ (cs.take k).all digB = true) ∧ wr = wb)
      case atStart => exact ⟨0, 0, rfl, rfl, by omega, rfl, by omega, by omega, Lib.hid ⟨rfl, rfl⟩, rfl⟩
      case round =>
        obtain ⟨k, m, rfl, rfl, hk, hgg, hm1, hm2, HS, rfl⟩ := hrel; by_cases hlt : k < 3
        · obtain ⟨x, hx⟩ : ∃ x, cs[k]? = some x := ⟨_, List.getElem?_eq_getElem (by rw [HCS.out]; exact hlt)⟩
          have hc := hcell.out k x hx; have hx8 := u8_nat x; have hts := take_snoc hx; by_cases hdx : digB x = true
          · have hd9 : 48 ≤ x.toNat ∧ x.toNat ≤ 57 := by simpa [digB] using hdx
            obtain ⟨hd1, hd2⟩ := hd9; have hm3 := hm2 (by omega); have wx1 := IntWalk.u8_in ((x.toNat : Int) - 48) (by omega); have wx2 := IntWalk.i64_in ((x.toNat : Int) - 48) (by omega); have wm1 := IntWalk.i64_in ((m : Int) * 10) (by omega); have wm2 := IntWalk.i64_in ((m : Int) * 10 + ((x.toNat : Int) - 48)) (by omega); have hall : (cs.take (k + 1)).all digB = true := by rw [hts, List.all_append, HS.out.2]; simp [hdx]
            obtain ⟨m', e', hb'⟩ := stN_nat _ hall (by rw [List.length_take]; omega); have he : (m : Int) * 10 + ((x.toNat : Int) - 48) = (m' : Nat) := by rw [← e', hts, stN_snoc, HS.out.1]
            have hlk : (cs.take (k + 1)).length = k + 1 := by rw [List.length_take, HCS.out]; omega
            rw [hlk] at hb'
            have hb1 : m' ≤ 999 ∧ (k + 1 ≤ 2 → m' ≤ 99) := by
              have : k = 0 ∨ k = 1 ∨ k = 2 := by omega
              rcases this with rfl | rfl | rfl <;> (simp at hb'; omega)
            have HN := Lib.hid (And.intro e' hall); clear hx hts hdx hall e' hb' hlk hm3 hm2 HS; go_wp2_with fail
            go_roundg (3 - (k + 1))
            case measure => omega
            case rel => exact ⟨k + 1, m', by rw [← he], by go_num, by omega, rfl, hb1.1, hb1.2, HN, rfl⟩
          · have hno : cs.all digB = false := by rw [List.all_eq_false]; exact ⟨x, List.mem_of_getElem? hx, hdx⟩
            have hR : R = stl0 := by rw [HX6.out, hno]; simp
            have HR := Lib.hid hR
            have hd9 : x.toNat < 48 ∨ (48 ≤ x.toNat ∧ 57 < x.toNat) := by
              have : ¬ (48 ≤ x.toNat ∧ x.toNat ≤ 57) := by simpa [digB] using hdx
              omega
            clear hx hts hdx hno hR hm2 HS; rcases hd9 with hd1 | ⟨hd1, hd2⟩
            all_goals
              go_wp2_with fail; refine bodyPost_ret (res3 rfl _ _ _) rfl ⟨?_, HK.out⟩; rw [HR.out]; rfl
        · have hk3 : k = 3 := by omega
          have hfull : cs.take k = cs := List.take_of_length_le (by rw [HCS.out]; omega); rw [hfull] at HS
          have hR : R = if decide (49 ≤ a.toNat) && decide (a.toNat ≤ 53) && wdOk ws then ⟨m, (v.toNat : Int) - 48, true⟩ else stl0 := by
            rw [HX6.out, HVB.out, HSP.out, HS.out.1, HS.out.2]; simp
          have HR := Lib.hid hR; have ca := u8_nat a; have a0 := HA0.out; clear hfull HS hm2 hR hlt; by_cases ha1 : a.toNat < 49
          · have hR := Lib.hid (show R = stl0 by rw [HR.out, decide_eq_false (show ¬ 49 ≤ a.toNat by omega)]; rfl); go_wp2_with fail; refine bodyPost_ret (res3 rfl _ _ _) rfl ⟨?_, HK.out⟩; rw [hR.out]; rfl
          by_cases ha2 : 53 < a.toNat
          · have hR := Lib.hid (show R = stl0 by rw [HR.out, decide_eq_false (show ¬ a.toNat ≤ 53 by omega)]; simp); go_wp2_with fail; refine bodyPost_ret (res3 rfl _ _ _) rfl ⟨?_, HK.out⟩; rw [hR.out]; rfl
          have hR2 : R = if wdOk ws then ⟨m, (v.toNat : Int) - 48, true⟩ else stl0 := by rw [HR.out, decide_eq_true (show 49 ≤ a.toNat by omega), decide_eq_true (show a.toNat ≤ 53 by omega)]; rfl
          clear HR; by_cases hnil : ws = []
          case pos =>
            have hR := Lib.hid (show R = ⟨m, (v.toNat : Int) - 48, true⟩ by rw [hR2, hnil]; rfl); have tl0 := S_toList []; subst hnil; clear hR2; go_wp2_with fail
            go_region_with fail
            all_goals
              go_wp2_with fail; refine bodyPost_ret (res3 rfl _ _ _) rfl ⟨?_, ?_⟩
              · rw [hR.out]; rfl
              · repeat (first | exact HK.out | apply Keep.drew)
          case neg =>
            obtain ⟨d, wt, hws⟩ := List.exists_cons_of_ne_nil hnil; clear hnil; have hw1 : wdOk ws = (d == 32 && isTxt ws) := by rw [hws]; rfl
            have d0 : ∀ h : 0 < (S ws).size, (S ws)[0]'h = d := fun h => S_get (by rw [hws]; rfl) h
            have tl := S_toList ws; have te : ws.isEmpty = false := by rw [hws]; rfl
            have te2 : (ws == []) = false := by rw [hws]; rfl
            have cd := u8_nat d; have hlw : 0 < ws.length := by rw [hws]; simp
            clear hws; by_cases hd : d = 32
            case neg =>
              have hR := Lib.hid (show R = stl0 by rw [hR2, hw1, show (d == 32) = false by simpa using hd]; rfl); have hn : d.toNat ≠ 32 := fun h => hd (UInt8.toNat_inj.1 (by rw [h]; rfl))
              have q4 : (((d.toNat : Nat) : Int) != 32) = true := by simp; omega
              clear hR2 hw1 hd hn; go_wp2_with fail; refine bodyPost_ret (res3 rfl _ _ _) rfl ⟨?_, HK.out⟩; rw [hR.out]; rfl
            have q4 : (((d.toNat : Nat) : Int) != 32) = false := by rw [hd]; rfl
            rw [show (d == 32) = true by simp [hd], Bool.true_and] at hw1; clear hd; have HT2 := Lib.hid (HT.out _ HK.out)
            cases hit : isTxt ws with
            | false =>
              rw [hit] at HT2; have hR := Lib.hid (show R = stl0 by rw [hR2, hw1, hit]; rfl); clear hR2 hw1 hit; go_wp2_with fail; refine HT2.out.mono ?_; rintro e w3 ⟨rfl, k3⟩; have K3 := Lib.hid (HK.out.trans k3); clear k3; go_wp2_with fail; refine bodyPost_ret (res3 rfl _ _ _) rfl ⟨?_, K3.out⟩; rw [hR.out]; rfl
            | true =>
              rw [hit] at HT2; have hR := Lib.hid (show R = ⟨m, (v.toNat : Int) - 48, true⟩ by rw [hR2, hw1, hit]; rfl); clear hR2 hw1 hit; go_wp2_with fail; refine HT2.out.mono ?_; rintro e w3 ⟨rfl, k3⟩; have K3 := Lib.hid (HK.out.trans k3); clear k3; go_wp2_with fail
              go_region_with fail
              all_goals
                go_wp2_with fail; refine bodyPost_ret (res3 rfl _ _ _) rfl ⟨?_, ?_⟩
                · rw [hR.out]; rfl
                · repeat (first | exact K3.out | apply Keep.drew)
structure Bd (B : Nat) (w : World) (b o : Nat) (T : TypeId) (cs : List Value) (v : Value) (l : List UInt8) : Prop where
  blk : Blk w b T cs
  ad : cs[o]? = some (.pointer none) ∨ cs[o]? = some (.pointer (some ⟨b, o, none⟩))
  buf : cs[o + 1]? = some v
  own : Own byteC 1 B 5 w v l
  ne : v.ownBlock ≠ some b
def Lies (T : TypeId) (n o : Nat) : Prop := liesAt Tryz.prog Tryz.prog.depth T (n / Tryz.prog.cellsOf T) o 174 1 = true ∧ o + 1 < n
theorem lies_own : Lies 174 2 0 := ⟨by kernel_rfl, by omega⟩
theorem bld_info : ∃ j, Tryz.prog.info? 174 = some j ∧ j.size = 2 := by
  have : (Tryz.prog.info? 174).map (·.size) = some 2 := by kernel_rfl
  cases h : Tryz.prog.info? 174 with
  | none => rw [h] at this; cases this
  | some j => exact ⟨j, rfl, by rw [h] at this; simpa using this⟩
theorem u8_info : ∃ i, Tryz.prog.info? 5 = some i ∧ i.zero = some (.int .u8 0) ∧ i.size = 1 ∧ i.bytes = 1 := by
  have : (Tryz.prog.info? 5).map (fun i => (i.zero, i.size, i.bytes)) = some (some (.int .u8 0), 1, 1) := by kernel_rfl
  cases h : Tryz.prog.info? 5 with
  | none => rw [h] at this; cases this
  | some i => rw [h] at this; simp at this; exact ⟨i, rfl, this⟩
theorem rows_bytes (l : List UInt8) : rows byteC l = Lib.byteCells l := by
  induction l with
  | nil => rfl
  | cons c r ih => show byteC c ++ rows byteC r = _; rw [ih]; rfl
theorem append_string_at {P : Program} {w : World} (base : Nat) (t u ty e : TypeId) (i : TypeInfo) (ht : P.underlying t = some (.slice e)) (hu : P.underlying u = some .string) (hi : P.info? e = some i) (hz : i.zero = some (.int .u8 0))
    (hsize : i.size = 1) (hby : i.bytes = 1) (v : Value) (n : Nat) (xs : List Value) (hown : w.ownsRow base e 1 v n xs) (s : ByteArray)
    (h63 : n + s.size ≤ maxLen) (hbytes : n + s.size ≤ 140737488355328) (hbase : base ≤ w.heap.size) :
    ∃ v' w', (Builtin.append_ #[t, u] ty #[v, .string s]).run P w = .ok v' w' ∧ w'.ownsRow base e 1 v' (n + s.size) (xs ++ Lib.strCells s) ∧ w.grownBy w' v.ownBlock ∧
      (v'.ownBlock = v.ownBlock ∨ ∃ g, v'.ownBlock = some g ∧ w.heap.size ≤ g) := by
  obtain ⟨v', w', hr, h2, h3, _⟩ := Lib.run_append_own_string (P := P) w base t u ty e i ht hu hi hz hsize hby v n xs hown s h63 hbytes hbase; refine ⟨v', w', hr, h2, h3, ?_⟩; have hown0 := hown; rcases hown.2 with ⟨rfl, rfl⟩ | ⟨g, cap, cur, rfl, hbg, hg, hnc, hcm, hcs, htake⟩
  · obtain ⟨v2, w2, hr2, k2, _, _⟩ := Lib.run_append_own_string (P := P) w w.heap.size t u ty e i ht hu hi hz hsize hby (.slice none 0 0) 0 xs ⟨hown.1, .inl ⟨rfl, rfl⟩⟩ s h63 hbytes (Nat.le_refl _); rw [hr] at hr2; injection hr2 with e1 e2
    subst e1
    cases hb : v'.ownBlock with
    | none => exact .inl rfl
    | some g => exact .inr ⟨g, rfl, (World.ownsRow.lt k2 g hb).1⟩
  · by_cases hroom : n + s.size ≤ cap
    · have hr2 := Lib.run_append_room_string (P := P) w t u ty e i ht hu hi hsize g n cap cur hg s hroom (by have := hcs; simp at this; omega); rw [hr] at hr2; injection hr2 with e1 e2
      subst e1; exact .inl rfl
    · have hsmall : n + s.size ≤ 9223372036854775807 := h63; have hr2 := Lib.run_append_grow_string (P := P) w t u ty e i (.int .u8 0) ht hu hi hz ⟨g, 0, none⟩ n cap xs (by rw [hsize]; simpa using hown0.1) (World.ownsRow.cells hown0 (g := g) rfl) s (by omega) (by omega) (by rw [hby]; exact growslice_fits (by omega) (by omega)); rw [hr] at hr2; injection hr2 with e1 e2
      subst e1; exact .inr ⟨w.heap.size, rfl, Nat.le_refl _⟩
theorem wpList_append_string_at {P : Program} {ops : Array Oper} {rest : List Oper} {o : Oper} {a : Act} {w : World} {Q : Exit → Act → World → Prop} (hgd : o.guard = none) (sl x : Operand) (t u : TypeId)
    (ho : o.op = .call { callee := .builtin .append, args := #[sl, x], argTypes := #[t, u] })
    (base : Nat) (e : TypeId) (i : TypeInfo) (ht : P.underlying t = some (.slice e)) (hu : P.underlying u = some .string) (hi : P.info? e = some i) (hz : i.zero = some (.int .u8 0))
    (hsize : i.size = 1) (hby : i.bytes = 1)
    (v : Value) (n : Nat) (xs : List Value) (hs : a.eval sl = v) (hown : w.ownsRow base e 1 v n xs) (s : ByteArray) (hx : a.eval x = .string s)
    (h63 : n + s.size ≤ maxLen) (hbytes : n + s.size ≤ 140737488355328) (hbase : base ≤ w.heap.size)
    (h : ∀ v' w', w'.ownsRow base e 1 v' (n + s.size) (xs ++ Lib.strCells s) → w.grownBy w' v.ownBlock → (v'.ownBlock = v.ownBlock ∨ ∃ g, v'.ownBlock = some g ∧ w.heap.size ≤ g) → wpList P ops Q rest (a.put o.dst v') w') : wpList P ops Q (o :: rest) a w := by
  refine wpList_plain hgd fun K hK => ?_
  obtain ⟨v', w', hr, h2, h3, h4⟩ := append_string_at (P := P) (w := w) base t u o.type e i ht hu hi hz hsize hby v n xs hown s h63 hbytes hbase; unfold Oper.wp execOp; simp only [ho, resolve, invoke, builtin, Sem.run_bind, Sem.run_pure, Result.andThen_ok, List.map_toArray, List.map_cons, List.map_nil, hs, hx, hr]; exact hK _ _ (h v' w' h2 h3 h4)
set_option maxHeartbeats 1000000 in
set_option maxRecDepth 100000 in
theorem bld_copyCheck (b o : Nat) (T : TypeId) (cs : List Value) (w : World) (hb : Blk w b T cs) (hl : Lies T cs.length o) (had : cs[o]? = some (.pointer none) ∨ cs[o]? = some (.pointer (some ⟨b, o, none⟩))) :
    Calls Tryz.prog 176 #[.pointer (some ⟨b, o, none⟩)] w fun e w' => e = .returned (.tuple #[]) ∧ Blk w' b T (cs.set o (.pointer (some ⟨b, o, none⟩))) ∧ Keep [b] w w' := by
  obtain ⟨j, hj, hjs⟩ := bld_info; have hu82 := Tryz.underlying172; have hu112 := Tryz.underlying220; rcases had with h0 | h0
  · have c0 := hb.get h0; have f0 := hb.frozen o
    have hsh : w.shape? b = some (T, cs.length) := by
      have : w.heap[b]? = some (.cells cs.toArray T (0, 0)) := hb; simp [World.shape?, this]
    have hk : Keep [b] w (w.setCell ⟨b, o, none⟩ (.pointer (some ⟨b, o, none⟩))) := (Keep.refl _ _).setCell _ _ (by simp); have hb' := hb.set o (.pointer (some ⟨b, o, none⟩)); have HP := Lib.hid (And.intro hb' hk); have HB := Lib.hid hb; clear hb' hk hb; go_enter Tryz.func176, Tryz.ntmps176; go_wp2_with fail; rw [Lib.run_to_unsafe w ⟨b, o, none⟩ hu82 hu112 hj (by rw [hjs]; decide) hsh (by have := hl.2; show o < _; omega)]; simp only [Result.andThen]; rw [Oper.upon_value]; go_wp2_with fail; rw [run_callFunc_extern Tryz.func210 (by kernel_rfl) (by kernel_rfl) (by kernel_rfl) (e := Extern.AbiNoEscape.same) (by kernel_rfl)]; rw [Lib.run_noEscape]; simp only [Result.andThen]; rw [Oper.upon_value]; go_wp2_with fail; rw [Lib.run_from_unsafe w ⟨b, o, none⟩ hu112 hu82 hj hsh hl.1]; simp only [Result.andThen]; rw [Oper.upon_value]; have g0 := HP.out.1.get (k := o) (v := .pointer (some ⟨b, o, none⟩)) (by rw [List.getElem?_set_self (by have := hl.2; omega)]); go_wp2_with fail; go_end0; exact ⟨rfl, HP.out.1, HP.out.2⟩
  · have c0 := hb.get h0; have hcs : cs.set o (.pointer (some ⟨b, o, none⟩)) = cs := list_set_self _ _ _ h0; rw [hcs]; have HB := Lib.hid hb; clear hb hcs h0; go_enter Tryz.func176, Tryz.ntmps176; go_wp2_with fail; rw [Lib.run_neq_ptr_same w _ hu82 hj]; go_wp2_with fail; go_end0; exact ⟨rfl, HB.out, Keep.refl _ _⟩
set_option maxHeartbeats 1000000 in
set_option maxRecDepth 100000 in
theorem bld_Write {B b o : Nat} {T : TypeId} {cs : List Value} {v : Value} {l : List UInt8} {w : World} (s : List UInt8) (h : Bd B w b o T cs v l) (hl : Lies T cs.length o) (hB : B ≤ w.heap.size) (hlen : l.length + s.length ≤ 140737488355328) :
    Calls Tryz.prog 134 #[.pointer (some ⟨b, o, none⟩), .string (S s)] w fun e w' => e = .returned (.tuple #[.int .i64 (s.length : Nat), .nilIface]) ∧
      ∃ v', Bd B w' b o T ((cs.set o (.pointer (some ⟨b, o, none⟩))).set (o + 1) v') v' (l ++ s) ∧ Keep (b :: v.ownBlock.toList) w w' ∧ (v'.ownBlock = v.ownBlock ∨ ∃ g, v'.ownBlock = some g ∧ w.heap.size ≤ g) := by
  obtain ⟨i, hi, hz, h1, h2⟩ := u8_info; have hC := Lib.hid (bld_copyCheck b o T cs w h.blk hl h.ad); have hsz := S_size s; have H := Lib.hid h; clear h; go_enter Tryz.func134, Tryz.ntmps134; go_wp2_with fail; refine hC.out.mono ?_; rintro e w1 ⟨rfl, hb1, hk1⟩
  have hown1 : Own byteC 1 B 5 w1 v l := H.out.own.keep hk1 (fun g hg => by
    simp only [List.mem_singleton]; rintro rfl; exact H.out.ne hg)
  have c1 := hb1.get (k := o + 1) (v := v) (by rw [List.getElem?_set_ne (by omega)]; exact H.out.buf); have hor := hown1; unfold Own at hor; rw [rows_bytes] at hor; have HO := Lib.hid hor; have HB1 := Lib.hid hb1; have HK1 := Lib.hid hk1; clear hor hown1 hb1 hk1; go_wp2_with (at_builtin; go_must (refine wpList_append_string_at rfl _ _ 143 9 rfl B 5 i Tryz.underlying143 Tryz.underlying9 hi hz h1 h2 v l.length (Lib.byteCells l) rfl HO.out (S s) rfl (by rw [hsz]; unfold maxLen; omega) (by rw [hsz]; exact hlen) (by have := HK1.out.size; omega) ?_)); intro v' w2 hown' hgrow hat; have hbl := HB1.out.lt
  have hb2 : Blk w2 b T (cs.set o (.pointer (some ⟨b, o, none⟩))) := by
    unfold Blk; rw [hgrow.block b hbl (fun e => H.out.ne e.symm)]; exact HB1.out
  have d1 := hb2.get (k := o + 1) (v := v) (by rw [List.getElem?_set_ne (by omega)]; exact H.out.buf); have f1 := hb2.frozen (o + 1); have hb3 := hb2.set (o + 1) v'
  have hne' : v'.ownBlock ≠ some b := by
    rcases hat with e | ⟨g, e, hg⟩
    · rw [e]; exact H.out.ne
    · rw [e]; intro e'; injection e' with e'; omega
  have hown2 : Own byteC 1 B 5 w2 v' (l ++ s) := by
    unfold Own; rw [rows_bytes, List.length_append]; (try rw [hsz] at hown'); have e : Lib.byteCells (l ++ s) = Lib.byteCells l ++ Lib.strCells (S s) := by unfold Lib.byteCells; rw [List.map_append]; rfl
    rw [e]; exact hown'
  have hown3 : Own byteC 1 B 5 (w2.setCell ⟨b, o + 1, none⟩ v') v' (l ++ s) := hown2.keep (S := [b]) ((Keep.refl _ _).setCell _ _ (by simp)) (fun g hg => by
    simp only [List.mem_singleton]; rintro rfl; exact hne' hg)
  have hkk : Keep (b :: v.ownBlock.toList) w (w2.setCell ⟨b, o + 1, none⟩ v') := ((HK1.out.mono (by simp)).grown hgrow (fun k hk _ => by simp [hk])).setCell _ _ (by simp)
  have hat' : v'.ownBlock = v.ownBlock ∨ ∃ g, v'.ownBlock = some g ∧ w.heap.size ≤ g := by
    rcases hat with e | ⟨g, e, hg⟩
    · exact .inl e
    · exact .inr ⟨g, e, Nat.le_trans HK1.out.size hg⟩
  have HF := Lib.hid (And.intro hb3 (And.intro hne' (And.intro hown3 (And.intro hkk hat'))))
  obtain ⟨ao, n', cap, rfl⟩ : ∃ ao n' cap, v' = .slice ao n' cap := by
    rcases hown'.2 with ⟨hv, _⟩ | ⟨g, cap, cur, hv, _⟩
    · exact ⟨_, _, _, hv⟩
    · exact ⟨_, _, _, hv⟩
  clear hb3 hne' hown3 hown2 hkk hat hat' hgrow hown' hb2; have h20 : (cs.set o (.pointer (some ⟨b, o, none⟩)))[o]? = some (.pointer (some ⟨b, o, none⟩)) := by rw [List.getElem?_set_self (by have := hl.2; omega)]
  go_wp2_with fail; go_ret2; refine ⟨by rw [← hsz]; rfl, _, ⟨HF.out.1, .inr ?_, ?_, HF.out.2.2.1, HF.out.2.1⟩, HF.out.2.2.2.1, HF.out.2.2.2.2⟩
  · rw [List.getElem?_set_ne (by omega)]; exact h20
  · rw [List.getElem?_set_self (by simpa using hl.2)]
theorem Bd.lib {B b : Nat} {cs : List Value} {v : Value} {l : List UInt8} {w : World} (h : Bd B w b 0 174 cs v l) (hc : cs.length = 2) (hb : B ≤ b) : Lib.IsBuilder 174 5 B b (Lib.byteCells l) w := by
  obtain ⟨p, q, rfl⟩ : ∃ p q, cs = [p, q] := by
    match cs, hc with
    | [p, q], _ => exact ⟨p, q, rfl⟩
  have hq : q = v := by have := h.buf; simpa using this
  subst hq; have hown := h.own; unfold Own at hown; rw [rows_bytes, ← Lib.byteCells_length l] at hown; rcases h.ad with e | e
  · simp at e; subst e; exact .inl ⟨hb, q, h.blk, hown, h.ne⟩
  · simp at e; subst e; exact .inr ⟨hb, q, h.blk, hown, h.ne⟩
def Bld (w0 w : World) (b : Nat) (l : List UInt8) : Prop := ∃ cs v, Bd w0.heap.size w b 0 174 cs v l ∧ cs.length = 2 ∧ w0.heap.size ≤ b ∧ Keep [] w0 w
theorem Bd.keep {B b o : Nat} {T : TypeId} {cs : List Value} {v : Value} {l : List UInt8} {w w' : World} {S : List Nat} (h : Bd B w b o T cs v l) (k : Keep S w w') (hb : b ∉ S) (hv : ∀ g, v.ownBlock = some g → g ∉ S) : Bd B w' b o T cs v l :=
  ⟨k.blk h.blk hb, h.ad, h.buf, h.own.keep k hv, h.ne⟩
theorem Bld.keep0 {w0 w w' : World} {b : Nat} {l : List UInt8} (h : Bld w0 w b l) (k : Keep [] w w') : Bld w0 w' b l := by
  obtain ⟨cs, v, h1, h2, h3, h4⟩ := h; exact ⟨cs, v, h1.keep k (by simp) (by simp), h2, h3, h4.trans k⟩
theorem Bld.kept {w0 w : World} {b : Nat} {l : List UInt8} (h : Bld w0 w b l) : Keep [] w0 w := let ⟨_, _, _, _, _, h4⟩ := h; h4
theorem bld_new {w0 w : World} (k : Keep [] w0 w) : Bld w0 (w.alloc (.cells #[.pointer none, .slice none 0 0] 174)) w.heap.size [] :=
  ⟨[.pointer none, .slice none 0 0], .slice none 0 0, ⟨Blk.newA w _ _, .inl rfl, rfl, Own.nil _ _ _ _ _, by simp [Value.ownBlock]⟩, rfl, k.size, k.alloc _⟩
theorem bld_write {w0 w : World} {b : Nat} {l : List UInt8} (h : Bld w0 w b l) (s : List UInt8) (hlen : l.length + s.length ≤ 140737488355328) :
    Calls Tryz.prog 134 #[.pointer (some ⟨b, 0, none⟩), .string (S s)] w fun e w' => e = .returned (.tuple #[.int .i64 (s.length : Nat), .nilIface]) ∧ Bld w0 w' b (l ++ s) := by
  obtain ⟨cs, v, h1, h2, h3, h4⟩ := h; refine (bld_Write s h1 (by rw [h2]; exact lies_own) h4.size hlen).mono ?_; rintro e w' ⟨rfl, v', k1, k2, _⟩
  exact ⟨rfl, _, v', k1, by simpa using h2, h3, h4.trans' k2 (fun x hx hl => by
    rcases List.mem_cons.1 hx with rfl | hx
    · omega
    · have := (h1.own.lt x (by simpa using hx)).1; omega)⟩
theorem bld_len {w0 w : World} {b : Nat} {l : List UInt8} (h : Bld w0 w b l) :
    Calls Tryz.prog 137 #[.pointer (some ⟨b, 0, none⟩)] w fun e w' => e = .returned (.int .i64 (l.length : Nat)) ∧ w' = w := by
  obtain ⟨cs, v, h1, h2, h3, h4⟩ := h; have := Tryz.Builder_Len w0.heap.size b _ w (h1.lib h2 h3); rw [Lib.byteCells_length] at this; exact this
theorem bld_string {w0 w : World} {b : Nat} {l : List UInt8} (h : Bld w0 w b l) :
    Calls Tryz.prog 138 #[.pointer (some ⟨b, 0, none⟩)] w fun e w' => e = .returned (.string (S l)) ∧ Keep [] w0 w' := by
  obtain ⟨cs, v, h1, h2, h3, h4⟩ := h; refine (Tryz.Builder_String_any w0.heap.size b l w (h1.lib h2 h3) h4.size).mono ?_; rintro e w' ⟨rfl, hb⟩; exact ⟨rfl, hb.os.trans h4.os, hb.tape.trans h4.tape, hb.output.trans h4.output, Nat.le_trans h4.size hb.size, fun k hk hn => (hb.block k hk).trans (h4.block k hk hn)⟩
def ckC (c : Ck) (ad v : Value) : List Value := [.int .i64 (c.st : Nat), .int .i64 (c.left : Nat), .int .i64 (c.most : Nat), .int .i64 (c.flds : Nat), .string (S c.inp), ad, v, .int .i64 (c.dat.length : Nat), .int .i64 c.err]
theorem ck_lies : Lies 200 9 5 := ⟨by kernel_rfl, by omega⟩
def Ct (B : Nat) (w : World) (b : Nat) (p : List UInt8) (c : Ck) (v : Value) : Prop := ∃ ad o, Bd B w b 5 200 (ckC c ad v) v o ∧ c.dat = p ++ o
theorem Ct.keep {B b : Nat} {w w' : World} {p : List UInt8} {c : Ck} {v : Value} {S : List Nat} (h : Ct B w b p c v) (k : Keep S w w') (hb : b ∉ S) (hv : ∀ g, v.ownBlock = some g → g ∉ S) : Ct B w' b p c v := by
  obtain ⟨ad, o, h1, h2⟩ := h; exact ⟨ad, o, h1.keep k hb hv, h2⟩
theorem Ct.keep0 {B b : Nat} {w w' : World} {p : List UInt8} {c : Ck} {v : Value} (h : Ct B w b p c v) (k : Keep [] w w') : Ct B w' b p c v := h.keep k (by simp) (by simp)
theorem Ct.cells {B b : Nat} {w : World} {p : List UInt8} {c : Ck} {v : Value} (h : Ct B w b p c v) : ∃ ad, Blk w b 200 (ckC c ad v) := let ⟨ad, _, h1, _⟩ := h; ⟨ad, h1.blk⟩
theorem Ct.set {B b : Nat} {w : World} {p : List UInt8} {c c' : Ck} {v : Value} (h : Ct B w b p c v) (k : Nat) (x : Value) (hc : ∀ ad, (ckC c ad v).set k x = ckC c' ad v) (hd : c'.dat = c.dat) : Ct B (w.setCell ⟨b, k, none⟩ x) b p c' v := by
  obtain ⟨ad, o, h1, h2⟩ := h; refine ⟨ad, o, ⟨?_, ?_, rfl, ?_, h1.ne⟩, hd.trans h2⟩
  · rw [← hc ad]; exact h1.blk.set k x
  · have := h1.ad; simpa [ckC] using this
  · exact h1.own.keep (S := [b]) ((Keep.refl _ _).setCell _ _ (by simp)) (fun g hg => by
      simp only [List.mem_singleton]; rintro rfl; exact h1.ne hg)
theorem Ct.at {B b : Nat} {w : World} {p : List UInt8} {c : Ck} {v : Value} (h : Ct B w b p c v) : w.cell? ⟨b, 0, none⟩ = some (.int .i64 (c.st : Nat)) ∧ w.cell? ⟨b, 1, none⟩ = some (.int .i64 (c.left : Nat)) ∧ w.cell? ⟨b, 2, none⟩ = some (.int .i64 (c.most : Nat)) ∧ w.cell? ⟨b, 3, none⟩ = some (.int .i64 (c.flds : Nat)) ∧
    w.cell? ⟨b, 4, none⟩ = some (.string (S c.inp)) ∧ w.cell? ⟨b, 7, none⟩ = some (.int .i64 (c.dat.length : Nat)) ∧ w.cell? ⟨b, 8, none⟩ = some (.int .i64 c.err) := by
  obtain ⟨ad, h1⟩ := h.cells; exact ⟨h1.get rfl, h1.get rfl, h1.get rfl, h1.get rfl, h1.get rfl, h1.get rfl, h1.get rfl⟩
theorem Ct.free {B b : Nat} {w : World} {p : List UInt8} {c : Ck} {v : Value} (h : Ct B w b p c v) (k : Nat) : w.frozen? ⟨b, k, none⟩ = false := let ⟨_, h1⟩ := h.cells; h1.frozen k
theorem idx_n {l : List UInt8} {m : Nat} {w : World} (_hm : m ≤ l.length) : Calls Tryz.prog 97 #[.string ((S l).extract 0 m), .int .u8 10] w fun e w' => e = .returned (.int .i64 (Lib.indexByte (l.take m) 10)) ∧ w' = w := by
  have h := Tryz.strings_IndexByte ((S l).extract 0 m) 10 w; rw [S_extract, List.drop_zero] at h ⊢; exact h
set_option maxRecDepth 100000 in
set_option maxHeartbeats 1000000 in
theorem chunk_line (B b : Nat) (p : List UInt8) (c : Ck) (v : Value) (w : World) (h : Ct B w b p c v) (hl : c.inp.length ≤ 1048576) :
    Calls Tryz.prog 225 #[.pointer (some ⟨b, 0, none⟩)] w fun e w' => e = .returned (.tuple #[.string (S (lnC c.inp).t), .int .i64 (lnC c.inp).e]) ∧ Ct B w' b p { c with inp := (lnC c.inp).r } v ∧ Keep [b] w w' := by
  have sz := S_size c.inp; obtain ⟨_, _, _, _, c4, _, _⟩ := h.at; have H := Lib.hid h; have hI := fun w1 => idx_n (l := c.inp) (m := min c.inp.length 256) (w := w1) (Nat.min_le_left _ _)
  have e256 : c.inp.take (min c.inp.length 256) = c.inp.take 256 := by
    rcases Nat.le_total c.inp.length 256 with hh | hh
    · rw [Nat.min_eq_left hh, List.take_length, List.take_of_length_le hh]
    · rw [Nat.min_eq_right hh]
  rw [e256] at hI; have hmin : min ((c.inp.length : Nat) : Int) 256 = ((min c.inp.length 256 : Nat) : Int) := by omega
  generalize hmm : min c.inp.length 256 = m at *; have m1 : (m : Int) ≤ (c.inp.length : Int) := by omega
  have m0 : (0 : Int) ≤ (m : Int) := by omega
  have HI := Lib.hid hI; have hcases := line_cases c.inp; have hshort := line_short (l := c.inp); have hat := fun k => line_at (l := c.inp) (k := k)
  clear h e256 hmm hI; generalize Lib.indexByte (c.inp.take 256) 10 = ix at *; go_enter Tryz.func225, Tryz.ntmps225
  go_upto_region 1 with fail
  go_cut [4] (fun y wx => y = .int .i64 ix ∧ Hid (Keep [] w wx))
  case first =>
    clear hcases hshort hat; go_region_with (first | (go_at_call 97; refine (HI.out _).mono ?_; rintro e w1 ⟨rfl, rfl⟩) | fail)
    all_goals
      go_wp2_with fail; go_meet; exact ⟨rfl, Lib.hid (by repeat (first | exact Keep.refl _ _ | apply Keep.drew))⟩
  case rest =>
  obtain ⟨rfl, KX⟩ := hcut; have H1 := Lib.hid (H.out.keep0 KX.out); clear c4 HI hmin m1 m0; obtain ⟨_, _, _, _, c4, _, _⟩ := H1.out.at; have f4 := H1.out.free 4; have K1 := Lib.hid (KX.out.mono (S' := [b]) (by simp)); rcases hcases with hn | ⟨k, hk, hkl, h256⟩
  · have hL := hshort hn; by_cases h2 : 256 ≤ c.inp.length
    · rw [if_pos h2] at hL; have HL := Lib.hid hL; have h2' : decide (((c.inp.length : Nat) : Int) ≥ 256) = true := by simp; omega
      clear hL hshort hat; go_wp2_with fail; go_ret2; rw [HL.out]; exact ⟨rfl, H1.out, K1.out⟩
    · rw [if_neg h2] at hL; have HL := Lib.hid hL; have h2' : decide (((c.inp.length : Nat) : Int) ≥ 256) = false := by simp; omega
      clear hL hshort hat; go_wp2_with fail; go_ret2; rw [HL.out]; exact ⟨rfl, H1.out, K1.out⟩
  · have hL := hat k hk; subst hk; have hx1 : (S c.inp).extract 0 (k + 1) = S (c.inp.take (k + 1)) := by rw [S_extract, List.drop_zero]
    have hx2 : (S c.inp).extract (k + 1) c.inp.length = S (c.inp.drop (k + 1)) := by rw [S_extract, List.take_length]
    have hCS : ∀ w1, Calls Tryz.prog 222 #[.string (S (c.inp.take (k + 1))), .string ⟨#[13, 10]⟩] w1 fun e w' => e = .returned (.tuple #[.string (S (Lib.trimSuffix (c.inp.take (k + 1)) crlfC)), .bool (Lib.hasSuffix (c.inp.take (k + 1)) crlfC)]) ∧ w' = w1 := fun w1 =>
      Tryz.strings_CutSuffix (S (c.inp.take (k + 1))) ⟨#[13, 10]⟩ w1 (by rw [S_size, List.length_take]; omega)
    generalize Lib.trimSuffix (c.inp.take (k + 1)) crlfC = t at *; generalize hsx : Lib.hasSuffix (c.inp.take (k + 1)) crlfC = sx at *; have hkw := IntWalk.i64_in ((k : Int) + 1) (by omega); have hk1 : (k : Int) + 1 ≤ (c.inp.length : Int) := by omega
    have hk0 : (0 : Int) ≤ (k : Int) + 1 := by omega
    have hkn : ((k : Int) + 1).toNat = k + 1 := by omega
    have hkl0 : decide ((k : Int) < 0) = false := by simp
    clear hshort hat hsx
    cases sx with
    | false =>
      have HL := Lib.hid (show lnC c.inp = ⟨[], 3, c.inp⟩ from hL); have HCS := Lib.hid hCS; clear hL hCS; go_wp2_with fail; refine (HCS.out _).mono ?_; rintro e w1 ⟨rfl, rfl⟩; go_wp2_with fail; go_ret2; rw [HL.out]; exact ⟨rfl, H1.out, K1.out⟩
    | true =>
      have HL := Lib.hid (show lnC c.inp = ⟨t, 0, c.inp.drop (k + 1)⟩ from hL); have HCS := Lib.hid hCS; clear hL hCS; go_wp2_with fail; refine (HCS.out _).mono ?_; rintro e w1 ⟨rfl, rfl⟩; go_wp2_with fail; go_ret2; rw [HL.out]; exact ⟨rfl, H1.out.set 4 _ (fun _ => rfl) rfl, K1.out.setCell _ _ (by simp)⟩
def xColon : List UInt8 := [120, 58]
theorem isRest_parse (r : List UInt8) : parseE (xColon ++ r) = if isTxt r then 0 else 3 := by
  have hi : Lib.indexByte (xColon ++ r) 58 = ((1 : Nat) : Int) := indexByte_at rfl (fun j hj => by
    have : j = 0 := by omega
    subst this; show (some (120 : UInt8)) ≠ some 58; decide)
  unfold parseE; rw [parseF_eq, hi]; have h1 : (xColon ++ r).take ((1 : Nat) : Int).toNat = [120] := rfl; have h2 : (xColon ++ r).drop (((1 : Nat) : Int).toNat + 1) = r := rfl; rw [h1, h2]; have h3 : isTok [120] = true := by decide +kernel
  cases isTxt r <;> simp [h3]
theorem parse_two (l : List UInt8) (w : World) (hm : ML w) (hl : l.length < 4294967281) : Calls Tryz.prog 223 #[.string (S l)] w fun e w' => e = .returned (.tuple #[.agg #[.string (S (parseV l).name), .string (S (parseV l).value)], .int .i64 (parseE l)]) ∧ Keep [] w w' := field_Parse l w hm hl
set_option maxRecDepth 100000 in
set_option maxHeartbeats 1000000 in
theorem chunk_isRest (r : List UInt8) (w : World) (hm : ML w) (hl : r.length ≤ 1048576) :
    Calls Tryz.prog 226 #[.string (S r)] w fun e w' => e = .returned (.bool (restOk r)) ∧ Keep [] w w' := by
  have hsz := S_size r; have hte := S_toList r
  cases r with
  | nil =>
    go_enter Tryz.func226, Tryz.ntmps226; go_wp2_with fail; go_ret; exact ⟨rfl, Keep.refl _ _⟩
  | cons c r =>
    have hO : restOk (c :: r) = (isTxt (c :: r) && decide (0 ≤ Lib.indexByte [32, 9, 59] c)) := rfl; have hg := fun hk => S_get (l := c :: r) (k := 0) (c := c) rfl hk
    have hP := parse_two (xColon ++ (c :: r)) w hm (by simp [xColon] at hl ⊢; omega); rw [isRest_parse] at hP; have hcat : (⟨#[120, 58]⟩ : ByteArray) ++ S (c :: r) = S (xColon ++ (c :: r)) := S_append xColon _; have hix := Tryz.strings_IndexByte ⟨#[32, 9, 59]⟩ c.toNat; have ec : ((c.toNat : Int)).toNat.toUInt8 = c := by simp
    rw [ec] at hix; change ∀ w1, Calls Tryz.prog 97 #[.string ⟨#[32, 9, 59]⟩, .int .u8 c.toNat] w1 fun e w' => e = .returned (.int .i64 (Lib.indexByte [32, 9, 59] c)) ∧ w' = w1 at hix
    generalize restOk (c :: r) = ro at *; generalize hl0 : c :: r = l at *; have hemp : l.isEmpty = false := by rw [← hl0]; rfl
    have hlen : 0 < l.length := by rw [← hl0]; simp
    generalize (parseV (xColon ++ l)).name = pn at *; generalize (parseV (xColon ++ l)).value = pw at *; generalize xColon ++ l = xl at *; generalize Lib.indexByte [32, 9, 59] c = ix at *; have hcc := u8_nat c; clear hl0 ec; have HIX := Lib.hid hix
    cases htx : isTxt l with
    | false =>
      rw [htx] at hP hO; have HP := Lib.hid hP; have HO := Lib.hid hO; clear hP hO htx hix hg; go_enter Tryz.func226, Tryz.ntmps226; go_wp2_with fail; refine HP.out.mono ?_; rintro e w1 ⟨rfl, k1⟩; go_wp2_with fail; go_ret; refine ⟨ret_bool (by rw [HO.out]; rfl), ?_⟩
      repeat (first | exact k1 | exact Keep.alloc k1 _ | (refine Keep.setCell ?_ _ _ (by first | omega | (intro hh; exact absurd hh (by have := k1.size; simp; omega)))))
    | true =>
      rw [htx] at hP hO; have HP := Lib.hid hP; have HO := Lib.hid hO; clear hP hO htx hix; by_cases h0 : 0 ≤ ix
      · have h0' : decide (ix ≥ 0) = true := by simp; omega
        go_enter Tryz.func226, Tryz.ntmps226; go_wp2_with fail; refine HP.out.mono ?_; rintro e w1 ⟨rfl, k1⟩; go_wp2_with fail; refine (HIX.out _).mono ?_; rintro e w2 ⟨rfl, rfl⟩; go_wp2_with fail; go_ret; refine ⟨ret_bool (by rw [HO.out]; simp [h0]), ?_⟩
        repeat (first | exact k1 | exact Keep.alloc k1 _ | (refine Keep.setCell ?_ _ _ (by first | omega | (intro hh; exact absurd hh (by have := k1.size; simp; omega)))))
      · have h0' : decide (ix ≥ 0) = false := by simp; omega
        go_enter Tryz.func226, Tryz.ntmps226; go_wp2_with fail; refine HP.out.mono ?_; rintro e w1 ⟨rfl, k1⟩; go_wp2_with fail; refine (HIX.out _).mono ?_; rintro e w2 ⟨rfl, rfl⟩; go_wp2_with fail; go_ret; refine ⟨ret_bool (by rw [HO.out]; simp [h0]), ?_⟩
        repeat (first | exact k1 | exact Keep.alloc k1 _ | (refine Keep.setCell ?_ _ _ (by first | omega | (intro hh; exact absurd hh (by have := k1.size; simp; omega)))))
theorem num_len (t : List UInt8) : (numRest t).length ≤ t.length := by unfold numRest Lib.trimLeftS; exact List.Sublist.length_le (List.dropWhile_sublist _)
set_option maxRecDepth 100000 in
set_option maxHeartbeats 2000000 in
theorem chunk_begin (B b : Nat) (p : List UInt8) (c : Ck) (v : Value) (w : World) (hm : ML w) (hb : 1 ≠ b) (h : Ct B w b p c v) (hl : c.inp.length ≤ 1048576) (hmost : (c.most : Int) ≤ 9223372036854775807) (hok : c.dat.length ≤ c.most) :
    Calls Tryz.prog 201 #[.pointer (some ⟨b, 0, none⟩)] w fun e w' => e = .returned (.int .i64 (beginM c).2) ∧ Ct B w' b p (beginM c).1 v ∧ Keep [b] w w' := by
  have HL := Lib.hid (chunk_line B b p c v w h hl); have hle := line_le c.inp
  have HT := Lib.hid (fun w1 => show Calls Tryz.prog 146 #[.string (S (lnC c.inp).t), .string ⟨#[48, 49, 50, 51, 52, 53, 54, 55, 56, 57, 97, 98, 99, 100, 101, 102, 65, 66, 67, 68, 69, 70]⟩] w1 fun e w' => e = .returned (.string (S (numRest (lnC c.inp).t))) ∧ Below w1.heap.size w1 w' from
    Any.strings_TrimLeft_laid Tryz.lays161 (by kernel_rfl) (S (lnC c.inp).t) ⟨#[48, 49, 50, 51, 52, 53, 54, 55, 56, 57, 97, 98, 99, 100, 101, 102, 65, 66, 67, 68, 69, 70]⟩ w1 (by decide) (ascii_of_all (by decide)))
  have hnl := num_len (lnC c.inp).t; have HR := Lib.hid (fun w1 (hm1 : ML w1) => chunk_isRest (numRest (lnC c.inp).t) w1 hm1 (by omega)); have HU := Lib.hid (fun w1 => hexa_Unhexnum (numT (lnC c.inp).t) ((c.most : Int) - (c.dat.length : Nat)) w1 (show (numT (lnC c.inp).t).length ≤ 9223372036854775807 by unfold numT; rw [List.length_take]; omega))
  have hbe : beginM c = if (lnC c.inp).e ≠ 0 then (c, (lnC c.inp).e)
    else if numE (lnC c.inp).t ((c.most : Int) - (c.dat.length : Nat)) ≠ 0 then ({ c with inp := (lnC c.inp).r }, numE (lnC c.inp).t ((c.most : Int) - (c.dat.length : Nat)))
    else ({ c with inp := (lnC c.inp).r, left := (numV (lnC c.inp).t ((c.most : Int) - (c.dat.length : Nat))).toNat, st := if numV (lnC c.inp).t ((c.most : Int) - (c.dat.length : Nat)) = 0 then 3 else 1 }, 0) := rfl
  have hE : numE (lnC c.inp).t ((c.most : Int) - (c.dat.length : Nat)) = if restOk (numRest (lnC c.inp).t) then (if unhexE (numT (lnC c.inp).t) ((c.most : Int) - (c.dat.length : Nat)) = 14 then 4 else unhexE (numT (lnC c.inp).t) ((c.most : Int) - (c.dat.length : Nat))) else 3 := rfl
  have hV : numV (lnC c.inp).t ((c.most : Int) - (c.dat.length : Nat)) = unhexV (numT (lnC c.inp).t) ((c.most : Int) - (c.dat.length : Nat)) := rfl; have hVr := fun hh => numV_range (t := (lnC c.inp).t) (m := (c.most : Int) - (c.dat.length : Nat)) hh
  have hEr := unhex_range (numT (lnC c.inp).t) ((c.most : Int) - (c.dat.length : Nat)); have hle2 := line_err (l := c.inp); generalize (lnC c.inp).e = le at *; generalize hrr : (lnC c.inp).r = lr at *; have hx : (S (lnC c.inp).t).extract 0 ((lnC c.inp).t.length - (numRest (lnC c.inp).t).length) = S (numT (lnC c.inp).t) := by rw [S_extract, List.drop_zero]; rfl
  generalize numT (lnC c.inp).t = nt at *; generalize restOk (numRest (lnC c.inp).t) = ro at *; generalize numE (lnC c.inp).t ((c.most : Int) - (c.dat.length : Nat)) = ne at *; generalize numV (lnC c.inp).t ((c.most : Int) - (c.dat.length : Nat)) = nv at *; generalize unhexE nt ((c.most : Int) - (c.dat.length : Nat)) = ue at *; generalize unhexV nt ((c.most : Int) - (c.dat.length : Nat)) = uv at *; generalize numRest (lnC c.inp).t = nr at *; generalize (lnC c.inp).t = lt at *; have s1 := S_size lt; have s2 := S_size nr; subst hV; clear h; by_cases h0 : le = 0
  · subst h0; rw [if_neg (by simp)] at hbe
    cases ro with
    | false =>
      rw [if_neg (by simp)] at hE; subst hE; rw [if_pos (by decide)] at hbe; have HB := Lib.hid hbe; clear hbe hVr hEr hx hle2; go_enter Tryz.func201, Tryz.ntmps201; go_wp2_with fail; refine HL.out.mono ?_; rintro e w1 ⟨rfl, t1, k1⟩; have T1 := Lib.hid t1; have K1 := Lib.hid k1; clear t1 k1; go_wp2_with fail; refine (HT.out _).mono ?_; rintro e w2 ⟨rfl, k2⟩; have K2 := Lib.hid (Keep.of_below k2 []); clear k2; go_wp2_with fail; refine (HR.out _ ((hm.keep K1.out (by simpa using hb)).keep K2.out (by simp))).mono ?_; rintro e w3 ⟨rfl, k3⟩; have K3 := Lib.hid k3; clear k3; go_wp2_with fail; go_ret; rw [HB.out]; exact ⟨rfl, (T1.out.keep0 K2.out).keep0 K3.out, (K1.out.trans' K2.out (by simp)).trans' K3.out (by simp)⟩
    | true =>
      rw [if_pos rfl] at hE; have hsub : ((lt.length : Nat) : Int) - ((nr.length : Nat) : Int) = ((lt.length - nr.length : Nat) : Int) := by omega
      have hsw := IntWalk.i64_in (((lt.length - nr.length : Nat)) : Int) (by omega); have hs0 : (0 : Int) ≤ ((lt.length - nr.length : Nat) : Int) := by omega
      have hs1 : ((lt.length - nr.length : Nat) : Int) ≤ ((lt.length : Nat) : Int) := by omega
      have hmw := IntWalk.i64_in ((c.most : Int) - (c.dat.length : Nat)) (by omega); generalize lt.length - nr.length = sl at *; by_cases hu0 : ue = 0
      · subst hu0; rw [if_neg (by decide)] at hE; subst hE; rw [if_neg (by simp)] at hbe; obtain ⟨v0, v1⟩ := hVr rfl; obtain ⟨m, rfl⟩ : ∃ m : Nat, nv = m := ⟨nv.toNat, by omega⟩
        have htn : ((m : Nat) : Int).toNat = m := by omega
        rw [htn] at hbe; by_cases hz : m = 0
        · rw [if_pos (by omega)] at hbe; subst hz; have HB := Lib.hid hbe; clear hbe hVr hEr hle2; go_enter Tryz.func201, Tryz.ntmps201; go_wp2_with fail; refine HL.out.mono ?_; rintro e w1 ⟨rfl, t1, k1⟩; have T1 := Lib.hid t1; have K1 := Lib.hid k1; clear t1 k1; go_wp2_with fail; refine (HT.out _).mono ?_; rintro e w2 ⟨rfl, k2⟩; have K2 := Lib.hid (Keep.of_below k2 []); clear k2; go_wp2_with fail; refine (HR.out _ ((hm.keep K1.out (by simpa using hb)).keep K2.out (by simp))).mono ?_; rintro e w3 ⟨rfl, k3⟩; have T3 := Lib.hid ((T1.out.keep0 K2.out).keep0 k3); have K3 := Lib.hid ((K1.out.trans' K2.out (by simp)).trans' k3 (by simp)); clear k3; obtain ⟨_, _, c2, _, _, c7, _⟩ := T3.out.at; dsimp only at c2 c7
          go_upto_region 7 with fail
          go_cut [6, 4] (fun y z wx => y = .int .i64 0 ∧ z = .int .i64 0 ∧ Hid (Keep [] w3 wx))
          case first =>
            go_region_with (first | (go_at_call 227; refine (HU.out _).mono ?_; rintro e w4 ⟨rfl, k4⟩; have K4 := Lib.hid (Keep.trans (S := []) (a := w3) (by repeat (first | exact Keep.refl [] _ | apply Keep.drew)) k4); clear k4) | fail)
            all_goals
              go_wp2_with fail; go_meet; exact ⟨rfl, rfl, Lib.hid (by repeat (first | exact K4.out | apply Keep.drew))⟩
          case rest =>
          obtain ⟨rfl, rfl, KX⟩ := hcut; have T4 := Lib.hid (T3.out.keep0 KX.out); have K4 := Lib.hid (K3.out.trans' KX.out (by simp)); clear KX c2 c7; obtain ⟨d0, d1, _, _, _, _, _⟩ := T4.out.at; have f0 := T4.out.free 0; have f1 := T4.out.free 1; dsimp only at d0 d1; go_wp2_with fail; go_ret; rw [HB.out]; refine ⟨rfl, ?_, ((K4.out.setCell _ _ (by simp)).setCell _ _ (by simp)).setCell _ _ (by simp)⟩; exact (((T4.out.set 1 _ (fun _ => rfl) rfl (c' := { c with inp := lr, left := 0 })).set 0 _ (fun _ => rfl) rfl (c' := { c with inp := lr, left := 0, st := 1 })).set 0 _ (fun _ => rfl) rfl)
        · rw [if_neg (by omega)] at hbe; have HB := Lib.hid hbe; have hz' := (int_ne (show ((m : Nat) : Int) ≠ 0 by omega)).1; clear hbe hVr hEr hle2; go_enter Tryz.func201, Tryz.ntmps201; go_wp2_with fail; refine HL.out.mono ?_; rintro e w1 ⟨rfl, t1, k1⟩; have T1 := Lib.hid t1; have K1 := Lib.hid k1; clear t1 k1; go_wp2_with fail; refine (HT.out _).mono ?_; rintro e w2 ⟨rfl, k2⟩; have K2 := Lib.hid (Keep.of_below k2 []); clear k2; go_wp2_with fail; refine (HR.out _ ((hm.keep K1.out (by simpa using hb)).keep K2.out (by simp))).mono ?_; rintro e w3 ⟨rfl, k3⟩; have T3 := Lib.hid ((T1.out.keep0 K2.out).keep0 k3); have K3 := Lib.hid ((K1.out.trans' K2.out (by simp)).trans' k3 (by simp)); clear k3; obtain ⟨_, _, c2, _, _, c7, _⟩ := T3.out.at; dsimp only at c2 c7
          go_upto_region 7 with fail
          go_cut [6, 4] (fun y z wx => y = .int .i64 (m : Nat) ∧ z = .int .i64 0 ∧ Hid (Keep [] w3 wx))
          case first =>
            go_region_with (first | (go_at_call 227; refine (HU.out _).mono ?_; rintro e w4 ⟨rfl, k4⟩; have K4 := Lib.hid (Keep.trans (S := []) (a := w3) (by repeat (first | exact Keep.refl [] _ | apply Keep.drew)) k4); clear k4) | fail)
            all_goals
              go_wp2_with fail; go_meet; exact ⟨rfl, rfl, Lib.hid (by repeat (first | exact K4.out | apply Keep.drew))⟩
          case rest =>
          obtain ⟨rfl, rfl, KX⟩ := hcut; have T4 := Lib.hid (T3.out.keep0 KX.out); have K4 := Lib.hid (K3.out.trans' KX.out (by simp)); clear KX c2 c7; obtain ⟨d0, d1, _, _, _, _, _⟩ := T4.out.at; have f0 := T4.out.free 0; have f1 := T4.out.free 1; dsimp only at d0 d1; go_wp2_with fail; go_ret; rw [HB.out]; refine ⟨rfl, ?_, (K4.out.setCell _ _ (by simp)).setCell _ _ (by simp)⟩; exact ((T4.out.set 1 _ (fun _ => rfl) rfl (c' := { c with inp := lr, left := m })).set 0 _ (fun _ => rfl) rfl)
      · have hne : ne ≠ 0 := by rw [hE]; split <;> omega
        rw [if_pos hne] at hbe
        have hcase : (ue = 14 ∧ ne = 4) ∨ (ue = 3 ∧ ne = 3) := by
          rcases (hEr.2 hu0).2 with h14 | h3
          · exact .inl ⟨h14, by rw [hE, if_pos h14]⟩
          · exact .inr ⟨h3, by rw [hE, if_neg (by omega), h3]⟩
        rcases hcase with ⟨h14, hne4⟩ | ⟨h3, hne4⟩
        · rw [hne4] at hbe; have q1 := (int_eq h14).1; clear h14 hne4; have HB := Lib.hid hbe; clear hbe hVr hEr hle2 hE hne hu0; go_enter Tryz.func201, Tryz.ntmps201; go_wp2_with fail; refine HL.out.mono ?_; rintro e w1 ⟨rfl, t1, k1⟩; have T1 := Lib.hid t1; have K1 := Lib.hid k1; clear t1 k1; go_wp2_with fail; refine (HT.out _).mono ?_; rintro e w2 ⟨rfl, k2⟩; have K2 := Lib.hid (Keep.of_below k2 []); clear k2; go_wp2_with fail; refine (HR.out _ ((hm.keep K1.out (by simpa using hb)).keep K2.out (by simp))).mono ?_; rintro e w3 ⟨rfl, k3⟩; have T3 := Lib.hid ((T1.out.keep0 K2.out).keep0 k3); have K3 := Lib.hid ((K1.out.trans' K2.out (by simp)).trans' k3 (by simp)); clear k3; obtain ⟨_, _, c2, _, _, c7, _⟩ := T3.out.at; dsimp only at c2 c7
          go_upto_region 7 with fail
          go_cut [6, 4] (fun y z wx => y = .int .i64 nv ∧ z = .int .i64 ue ∧ Hid (Keep [] w3 wx))
          case first =>
            go_region_with (first | (go_at_call 227; refine (HU.out _).mono ?_; rintro e w4 ⟨rfl, k4⟩; have K4 := Lib.hid (Keep.trans (S := []) (a := w3) (by repeat (first | exact Keep.refl [] _ | apply Keep.drew)) k4); clear k4) | fail)
            all_goals
              go_wp2_with fail; go_meet; exact ⟨rfl, rfl, Lib.hid (by repeat (first | exact K4.out | apply Keep.drew))⟩
          case rest =>
          obtain ⟨rfl, rfl, KX⟩ := hcut; have T4 := Lib.hid (T3.out.keep0 KX.out); have K4 := Lib.hid (K3.out.trans' KX.out (by simp)); clear KX c2 c7; go_wp2_with fail; go_ret; rw [HB.out]; exact ⟨rfl, T4.out, K4.out⟩
        · rw [hne4, ← h3] at hbe; have q1 := (int_ne (show ue ≠ 14 by omega)).1; have q2 := (int_ne hu0).2; clear h3 hne4; have HB := Lib.hid hbe; clear hbe hVr hEr hle2 hE hne hu0; go_enter Tryz.func201, Tryz.ntmps201; go_wp2_with fail; refine HL.out.mono ?_; rintro e w1 ⟨rfl, t1, k1⟩; have T1 := Lib.hid t1; have K1 := Lib.hid k1; clear t1 k1; go_wp2_with fail; refine (HT.out _).mono ?_; rintro e w2 ⟨rfl, k2⟩; have K2 := Lib.hid (Keep.of_below k2 []); clear k2; go_wp2_with fail; refine (HR.out _ ((hm.keep K1.out (by simpa using hb)).keep K2.out (by simp))).mono ?_; rintro e w3 ⟨rfl, k3⟩; have T3 := Lib.hid ((T1.out.keep0 K2.out).keep0 k3); have K3 := Lib.hid ((K1.out.trans' K2.out (by simp)).trans' k3 (by simp)); clear k3; obtain ⟨_, _, c2, _, _, c7, _⟩ := T3.out.at; dsimp only at c2 c7
          go_upto_region 7 with fail
          go_cut [6, 4] (fun y z wx => y = .int .i64 nv ∧ z = .int .i64 ue ∧ Hid (Keep [] w3 wx))
          case first =>
            go_region_with (first | (go_at_call 227; refine (HU.out _).mono ?_; rintro e w4 ⟨rfl, k4⟩; have K4 := Lib.hid (Keep.trans (S := []) (a := w3) (by repeat (first | exact Keep.refl [] _ | apply Keep.drew)) k4); clear k4) | fail)
            all_goals
              go_wp2_with fail; go_meet; exact ⟨rfl, rfl, Lib.hid (by repeat (first | exact K4.out | apply Keep.drew))⟩
          case rest =>
          obtain ⟨rfl, rfl, KX⟩ := hcut; have T4 := Lib.hid (T3.out.keep0 KX.out); have K4 := Lib.hid (K3.out.trans' KX.out (by simp)); clear KX c2 c7; go_wp2_with fail; go_ret; rw [HB.out]; exact ⟨rfl, T4.out, K4.out⟩
  · rw [if_pos h0] at hbe; obtain ⟨rfl, rfl⟩ := hle2 h0; have h0' := (int_ne h0).2; have HB := Lib.hid hbe; clear hbe hVr hEr hle2 hE hx h0; go_enter Tryz.func201, Tryz.ntmps201; go_wp2_with fail; refine HL.out.mono ?_; rintro e w1 ⟨rfl, t1, k1⟩; have T1 := Lib.hid t1; have K1 := Lib.hid k1; clear t1 k1; go_wp2_with fail; go_ret; rw [HB.out]; exact ⟨rfl, T1.out, K1.out⟩
end Go.Proofs.YtlhnjkekjbbhcaaGreatDoor
