/- Parts of the proof of StockReplays, in order. No conditions but those that each theorem states. -/
import Derived.Test.YtkghgaopcgcheaaGreatDoorYStockReplays0
import Derived.Test.YtkghgaopcgcheaaGreatDoorYStockReplays17
set_option maxRecDepth 100000
set_option maxHeartbeats 16000000
set_option linter.unusedSimpArgs false
set_option linter.unusedVariables false
namespace Go.Proofs.YtkghgaopcgcheaaGreatDoor
open Go.RowKit Go.Shelf
def bodyM (x : Slp) : List UInt8 := ((([u8of x.kind] ++ (if (fdsOf x.kind).names then pgText x.repo ++ pgText x.tag else [])) ++ (if (fdsOf x.kind).digest then x.dig.1 else [])) ++ (if (fdsOf x.kind).thing then pgText x.typ ++ numB x.size 8 else [])) ++ (if (fdsOf x.kind).tick then numB x.tick 8 else [])
def slipW (x : Slp) : List UInt8 := framedM (bodyM x)
theorem good_len {x : Slp} (h : goodS x = true) : x.repo.length ≤ 128 ∧ x.tag.length ≤ 128 ∧ x.typ.length ≤ 100 ∧ isKind x.kind = true ∧ 0 ≤ x.size ∧ x.size ≤ 1099511627776 ∧ 0 ≤ x.tick ∧ x.tick ≤ 1099511627776 := by
  unfold goodS at h; simp only [Bool.and_eq_true, Bool.or_eq_true, Bool.not_eq_true', decide_eq_true_eq] at h; obtain ⟨⟨⟨⟨⟨h1, h2⟩, h3⟩, h4⟩, h5⟩, h6⟩ := h
  have hr : x.repo.length ≤ 128 ∧ x.tag.length ≤ 128 := by
    rcases h3 with h3 | h3
    · have e1 : x.repo = [] := by rw [h2]; simp [onlyS, h3]
      have e2 : x.tag = [] := by rw [h2]; simp [onlyS, h3]
      rw [e1, e2]; simp
    · omega
  exact ⟨hr.1, hr.2, h4, h1, h5.1, by omega, h6.1, h6.2⟩
theorem slip_Write (x : Slp) (w : World) (hx : slipIn x) (hg : goodS x = true) (ht : NibT w) :
    Calls Tryz.prog 145 #[.agg x.cells.toArray] w fun e w' => e = .returned (.tuple #[.string (S (slipW x)), .int .i64 0]) ∧ Keep [] w w' := by
  obtain ⟨f, hf⟩ : ∃ f, fdsOf x.kind = f := ⟨_, rfl⟩
  obtain ⟨n, hn⟩ : ∃ n, w.heap.size = n := ⟨_, rfl⟩
  have HOF := Lib.hid (fun w => slip_of x.kind w); rw [hf] at HOF; have HG := Lib.hid (fun w => slip_Good x w hx); rw [hg] at HG; obtain ⟨XC, hXC⟩ : ∃ l, x.cells = l := ⟨_, rfl⟩
  obtain ⟨FC, hFC⟩ : ∃ l, f.cells = l := ⟨_, rfl⟩
  rw [hFC] at HOF; rw [hXC] at HG; have hk1 := (Keep.refl [] w).alloc (.cells XC.toArray 27); have hb1 := Blk.new w XC 27; have hz1 := alloc_size w (.cells XC.toArray 27); rw [hn] at hb1 hz1; rw [hXC]; have c0 : (w.alloc (.cells XC.toArray 27)).cell? ⟨n, 0, none⟩ = some (.int .i64 x.kind) := hb1.get (by rw [← hXC]; exact x.at0); have HX := Lib.hid (And.intro hXC (And.intro hFC hn)); have HF := Lib.hid hf; have HT := Lib.hid ht; clear hXC hFC hf ht; go_enter Tryz.func145, Tryz.ntmps145
  go_upto_region 1 with fail
  generalize w.alloc (.cells XC.toArray 27) = w1 at hk1 hb1 hz1 c0 ⊢; have HB1 := Lib.hid (And.intro hk1 hb1); have HL := Lib.hid (show XC.length = 38 from by rw [← HX.out.1]; exact Slp.cells_length x); clear hk1 hb1 hz1 hn
  go_upto_region 3 with (first
    | (with_reducible (show wpList _ _ _ ((⟨none, .load _ (.tmp 1), _, _, _, _⟩ : Oper) :: _) _ _)
       fail)
    | (with_reducible (show wpList _ _ _ ((⟨_, .load 27 (.tmp 1), _, _, _, none⟩ : Oper) :: _) _ _)
       refine wpList_load_mid rfl 27 (.tmp 1) rfl n 0 (by rfl) XC _ HB1.out.2.rng Tryz.underlying27 rfl (by rw [HL.out]; kernel_rfl) ?_)
    | (go_at_call 73
       refine (HG.out w1).mono ?_; rintro e w2 ⟨rfl, k2⟩; have HK2 := Lib.hid k2; have c2 : w2.cell? ⟨n, 0, none⟩ = some (.int .i64 x.kind) := (k2.blk HB1.out.2 (by simp)).get (by rw [← HX.out.1]; exact x.at0); clear k2 c0)
    | fail)
  have HF1 := Lib.hid (show FC.length = 4 ∧ ∀ v ∈ FC, v.oneCell' = true by rw [← HX.out.2.1]; exact ⟨rfl, by intro v hv; simp [Fds.cells] at hv; rcases hv with rfl | rfl | rfl | rfl <;> rfl⟩); go_wp2_with fail; refine (HOF.out w2).mono ?_; rintro e w3 ⟨rfl, k3⟩
  go_upto_region 4 with (first | ((with_reducible refine gS 4 14 ?_); refine wpList_store_new rfl 189 (.tmp 4) (.tmp 14) rfl _ FC (by rfl) (by rfl) (by rw [HF1.out.1]; kernel_rfl) (by rw [HF1.out.1]; kernel_rfl) HF1.out.2 ?_) | fail)
  obtain ⟨m, hm⟩ : ∃ m, w3.heap.size = m := ⟨_, rfl⟩
  have k4 := ((HB1.out.1.trans HK2.out).trans k3).alloc (.cells FC.toArray 189); have b4 := ((k3.blk (HK2.out.blk HB1.out.2 (by simp)) (by simp))).alloc (.cells FC.toArray 189); have d4 := Blk.new w3 FC 189; (try simp only [Act.put]); rw [hm] at d4 ⊢; generalize w3.alloc (.cells FC.toArray 189) = w4 at k4 b4 d4 ⊢; have HB4 := Lib.hid (And.intro k4 (And.intro b4 d4)); have HP0 := Lib.hid (pg_new (w0 := w4) (Keep.refl [] w4)); clear k3 k4 b4 d4 hm c2; obtain ⟨p, hp⟩ : ∃ p, w4.heap.size = p := ⟨_, rfl⟩
  rw [hp] at HP0
  go_upto_region 5 with fail
  generalize w4.alloc (.cells #[.pointer none, .slice none 0 0] 245) = w5 at HP0 ⊢
  have HC := Lib.hid (show ∀ w', Keep [] w4 w' → Blk w' n 27 x.cells ∧ Blk w' m 189 f.cells from fun w' k => by
    rw [HX.out.1, HX.out.2.1]; exact ⟨k.blk HB4.out.2.1 (by simp), k.blk HB4.out.2.2 (by simp)⟩)
  clear hp; have c0 : w5.drew.cell? ⟨n, 0, none⟩ = some (.int .i64 x.kind) := (HC.out _ HP0.out.kept.drew).1.get x.at0; have wu := u8of_wrap x.kind; have HE := Lib.hid (show bodyM x = ((([u8of x.kind] ++ (if f.names then pgText x.repo ++ pgText x.tag else [])) ++ (if f.digest then x.dig.1 else [])) ++ (if f.thing then pgText x.typ ++ numB x.size 8 else [])) ++ (if f.tick then numB x.tick 8 else []) by unfold bodyM; rw [HF.out]); generalize u8of x.kind = kc at wu HE; have HB := Lib.hid (pg_byte (HP0.out.keep0 (Keep.refl [] w5).drew) kc (by simp))
  go_region_with (first
    | (go_at_call 181
       refine HB.out.mono ?_; rintro e w6 ⟨rfl, p6⟩)
    | fail)
  all_goals
    have HP6 := Lib.hid p6; clear p6 c0 HB HP0; have HLN := Lib.hid (good_len hg); have HZ6 := Lib.hid (show ([] ++ [kc]).length ≤ 300 by simp)
    have HDB := Lib.hid (show ∀ w', Keep [] w4 w' → (convert 126 9 (.slice (some ⟨n, 3, none⟩) 32 32)).run Tryz.prog w' = .ok (.string (S x.dig.1)) w' from fun w' k => by
      have := run_convert_bytes_back (P := Tryz.prog) w' 126 9 5 ⟨n, 3, none⟩ 32 x.dig.1 Tryz.underlying126 Tryz.underlying5 Tryz.underlying9 (fun j hj => by
        have ha : (⟨n, 3, none⟩ : Addr).add j = ⟨n, 3 + j, none⟩ := by unfold Addr.add; split <;> simp_all
        rw [ha]; exact (HC.out _ k).1.get (x.atD (by simp [digC, hj])))
      rwa [x.dig.2] at this)
    -- BRANCHES
    have a0 : w6.cell? ⟨m, 0, none⟩ = some (.bool f.names) := (HC.out _ HP6.out.kept).2.get rfl; obtain ⟨l7, hl⟩ : ∃ l, ([] ++ [kc]) ++ (if f.names = true then (pgText x.repo ++ pgText x.tag) else []) = l := ⟨_, rfl⟩
    have HL7 := Lib.hid hl
    have HZ7 := Lib.hid (show l7.length ≤ 2 * 300 by
      have h1 := HLN.out; have h2 := HZ6.out; have h3 := x.dig.2; rw [← hl]
      split <;> try simp only [List.length_append, List.length_nil, pgText, List.length_cons, numB, List.length_map, List.length_range] at h2 ⊢ <;> omega)
    clear hl
    go_upto_region 6 with fail
    rename_i K1 hK1 K hK
    go_cut [26] (fun v wx => v = .bool f.names ∧ w6 = wx)
    case first =>
      go_wp2_with fail; go_meet; exact ⟨rfl, rfl⟩
    case rest =>
      obtain ⟨rfl, rfl⟩ := hcut; refine hK _ _ ?_; clear hK a0
      go_cut [] (fun wx => Pg w4 wx p l7)
      case first =>
        cases hfl : f.names with
        | false =>
          have E := Lib.hid (show ([] ++ [kc]) = l7 by have h := HL7.out; rwa [hfl, if_neg Bool.false_ne_true, List.append_nil] at h); clear hfl; go_wp2_with fail; go_meet; exact E.out ▸ HP6.out
        | true =>
          have E := Lib.hid (show ([] ++ [kc]) ++ (pgText x.repo ++ pgText x.tag) = l7 by have h := HL7.out; rwa [hfl, if_pos rfl] at h); clear hfl; have c1 : w6.cell? ⟨n, 1, none⟩ = some (.string (S x.repo)) := (HC.out _ HP6.out.kept).1.get x.at1; have HT1 := Lib.hid (page_text HP6.out x.repo (by have := HLN.out; have := HZ6.out; (try simp only [List.length_append, List.length_nil, pgText, List.length_cons, numB, List.length_map, List.length_range] at this ⊢); omega)); clear HP6; go_wp2_with fail; refine HT1.out.mono ?_; rintro e w71 ⟨rfl, p1⟩; have HQ1 := Lib.hid p1; clear p1 c1 HT1; have c2 : w71.cell? ⟨n, 2, none⟩ = some (.string (S x.tag)) := (HC.out _ HQ1.out.kept).1.get x.at2; have HT2 := Lib.hid (page_text HQ1.out x.tag (by have := HLN.out; have := HZ6.out; (try simp only [List.length_append, List.length_nil, pgText, List.length_cons, numB, List.length_map, List.length_range] at this ⊢); omega)); clear HQ1; go_wp2_with fail; refine HT2.out.mono ?_; rintro e w72 ⟨rfl, p2⟩; have HQ2 := Lib.hid p2; clear p2 c2 HT2; go_wp2_with fail; go_meet; exact E.out ▸ (by simpa only [List.append_assoc] using HQ2.out)
      case rest =>
        have HP7 := Lib.hid hcut; obtain ⟨w17, hw⟩ : ∃ w, w = wc := ⟨_, rfl⟩
        subst hw; clear hcut HP6; have a0 : w17.cell? ⟨m, 1, none⟩ = some (.bool f.digest) := (HC.out _ HP7.out.kept).2.get rfl; obtain ⟨l8, hl⟩ : ∃ l, l7 ++ (if f.digest = true then x.dig.1 else []) = l := ⟨_, rfl⟩
        have HL8 := Lib.hid hl
        have HZ8 := Lib.hid (show l8.length ≤ 3 * 300 by
          have h1 := HLN.out; have h2 := HZ7.out; have h3 := x.dig.2; rw [← hl]
          split <;> try simp only [List.length_append, List.length_nil, pgText, List.length_cons, numB, List.length_map, List.length_range] at h2 ⊢ <;> omega)
        clear hl; refine hK1 _ _ ?_; clear hK1
        go_upto_region 9 with fail
        rename_i K1 hK1 K hK
        go_cut [36] (fun v wx => v = .bool f.digest ∧ w17 = wx)
        case first =>
          go_wp2_with fail; go_meet; exact ⟨rfl, rfl⟩
        case rest =>
          obtain ⟨rfl, rfl⟩ := hcut; refine hK _ _ ?_; clear hK a0
          go_cut [] (fun wx => Pg w4 wx p l8)
          case first =>
            cases hfl : f.digest with
            | false =>
              have E := Lib.hid (show l7 = l8 by have h := HL8.out; rwa [hfl, if_neg Bool.false_ne_true, List.append_nil] at h); clear hfl; go_wp2_with fail; go_meet; exact E.out ▸ HP7.out
            | true =>
              have E := Lib.hid (show l7 ++ x.dig.1 = l8 by have h := HL8.out; rwa [hfl, if_pos rfl] at h); clear hfl; have hd := HDB.out _ HP7.out.kept.drew; have HT := Lib.hid (pg_write (HP7.out.keep0 (Keep.refl [] w17).drew) x.dig.1 (by have := HZ7.out; have := x.dig.2; omega)); clear HP7; go_wp2_with fail
              go_region_with (first
                | (go_at_call 146
                   refine HT.out.mono ?_; rintro e w71 ⟨rfl, p71⟩)
                | fail)
              all_goals
                have HQ1 := Lib.hid p71; clear p71; go_wp2_with fail; go_meet; exact E.out ▸ HQ1.out
          case rest =>
            have HP8 := Lib.hid hcut; obtain ⟨w18, hw⟩ : ∃ w, w = wc := ⟨_, rfl⟩
            subst hw; clear hcut HP7; have a0 : w18.cell? ⟨m, 2, none⟩ = some (.bool f.thing) := (HC.out _ HP8.out.kept).2.get rfl; obtain ⟨l9, hl⟩ : ∃ l, l8 ++ (if f.thing = true then (pgText x.typ ++ numB x.size 8) else []) = l := ⟨_, rfl⟩
            have HL9 := Lib.hid hl
            have HZ9 := Lib.hid (show l9.length ≤ 4 * 300 by
              have h1 := HLN.out; have h2 := HZ8.out; have h3 := x.dig.2; rw [← hl]
              split <;> try simp only [List.length_append, List.length_nil, pgText, List.length_cons, numB, List.length_map, List.length_range] at h2 ⊢ <;> omega)
            clear hl; refine hK1 _ _ ?_; clear hK1
            go_upto_region 11 with fail
            rename_i K1 hK1 K hK
            go_cut [45] (fun v wx => v = .bool f.thing ∧ w18 = wx)
            case first =>
              go_wp2_with fail; go_meet; exact ⟨rfl, rfl⟩
            case rest =>
              obtain ⟨rfl, rfl⟩ := hcut; refine hK _ _ ?_; clear hK a0
              go_cut [] (fun wx => Pg w4 wx p l9)
              case first =>
                cases hfl : f.thing with
                | false =>
                  have E := Lib.hid (show l8 = l9 by have h := HL9.out; rwa [hfl, if_neg Bool.false_ne_true, List.append_nil] at h); clear hfl; go_wp2_with fail; go_meet; exact E.out ▸ HP8.out
                | true =>
                  have E := Lib.hid (show l8 ++ (pgText x.typ ++ numB x.size 8) = l9 by have h := HL9.out; rwa [hfl, if_pos rfl] at h); clear hfl; have c35 : w18.cell? ⟨n, 35, none⟩ = some (.string (S x.typ)) := (HC.out _ HP8.out.kept).1.get x.at35; have HT35 := Lib.hid (page_text HP8.out x.typ (by have := HLN.out; have := HZ8.out; (try simp only [List.length_append, List.length_nil, pgText, List.length_cons, numB, List.length_map, List.length_range] at this ⊢); omega)); clear HP8; go_wp2_with fail; refine HT35.out.mono ?_; rintro e w71 ⟨rfl, p35⟩; have HQ1 := Lib.hid p35; clear p35 c35 HT35; have c36 : w71.cell? ⟨n, 36, none⟩ = some (.int .i64 x.size) := (HC.out _ HQ1.out.kept).1.get x.at36; have HT36 := Lib.hid (page_number HQ1.out x.size HLN.out.2.2.2.2.1 HLN.out.2.2.2.2.2.1 (by have := HLN.out; have := HZ8.out; (try simp only [List.length_append, List.length_nil, pgText, List.length_cons, numB, List.length_map, List.length_range] at this ⊢); omega)); clear HQ1; go_wp2_with fail; refine HT36.out.mono ?_; rintro e w72 ⟨rfl, p36⟩; have HQ2 := Lib.hid p36; clear p36 c36 HT36; go_wp2_with fail; go_meet; exact E.out ▸ (by simpa only [List.append_assoc] using HQ2.out)
              case rest =>
                have HP9 := Lib.hid hcut; obtain ⟨w19, hw⟩ : ∃ w, w = wc := ⟨_, rfl⟩
                subst hw; clear hcut HP8; have a0 : w19.cell? ⟨m, 3, none⟩ = some (.bool f.tick) := (HC.out _ HP9.out.kept).2.get rfl; obtain ⟨l10, hl⟩ : ∃ l, l9 ++ (if f.tick = true then numB x.tick 8 else []) = l := ⟨_, rfl⟩
                have HL10 := Lib.hid hl
                have HZ10 := Lib.hid (show l10.length ≤ 5 * 300 by
                  have h1 := HLN.out; have h2 := HZ9.out; have h3 := x.dig.2; rw [← hl]
                  split <;> try simp only [List.length_append, List.length_nil, pgText, List.length_cons, numB, List.length_map, List.length_range] at h2 ⊢ <;> omega)
                clear hl; refine hK1 _ _ ?_; clear hK1
                go_upto_region 14 with fail
                rename_i K1 hK1 K hK
                go_cut [55] (fun v wx => v = .bool f.tick ∧ w19 = wx)
                case first =>
                  go_wp2_with fail; go_meet; exact ⟨rfl, rfl⟩
                case rest =>
                  obtain ⟨rfl, rfl⟩ := hcut; refine hK _ _ ?_; clear hK a0
                  go_cut [] (fun wx => Pg w4 wx p l10)
                  case first =>
                    cases hfl : f.tick with
                    | false =>
                      have E := Lib.hid (show l9 = l10 by have h := HL10.out; rwa [hfl, if_neg Bool.false_ne_true, List.append_nil] at h); clear hfl; go_wp2_with fail; go_meet; exact E.out ▸ HP9.out
                    | true =>
                      have E := Lib.hid (show l9 ++ numB x.tick 8 = l10 by have h := HL10.out; rwa [hfl, if_pos rfl] at h); clear hfl; have c37 : w19.cell? ⟨n, 37, none⟩ = some (.int .i64 x.tick) := (HC.out _ HP9.out.kept).1.get x.at37; have HT37 := Lib.hid (page_number HP9.out x.tick HLN.out.2.2.2.2.2.2.1 HLN.out.2.2.2.2.2.2.2 (by have := HLN.out; have := HZ9.out; (try simp only [List.length_append, List.length_nil, pgText, List.length_cons, numB, List.length_map, List.length_range] at this ⊢); omega)); clear HP9; go_wp2_with fail; refine HT37.out.mono ?_; rintro e w71 ⟨rfl, p37⟩; have HQ1 := Lib.hid p37; clear p37 c37 HT37; go_wp2_with fail; go_meet; exact E.out ▸ HQ1.out
                  case rest =>
                    have HP10 := Lib.hid hcut; obtain ⟨w20, hw⟩ : ∃ w, w = wc := ⟨_, rfl⟩
                    subst hw; clear hcut HP9; refine hK1 _ _ ?_; clear hK1; have E := Lib.hid (show bodyM x = l10 from HE.out.trans (by rw [← HL10.out, ← HL9.out, ← HL8.out, ← HL7.out]; rfl)); have hne : l10 ≠ [] := by rw [← E.out]; unfold bodyM; simp
                    have hlen : l10.length ≤ 1000000 := by have := HZ10.out; omega
                    have HT1 := Lib.hid (pg_string HP10.out hne); have HFR := Lib.hid (fun w' (k : Keep [] w4 w') => slip_framed l10 w' hlen (HT.out.keep0 (HB4.out.1.trans k))); clear hne hlen; go_wp2_with fail; refine HT1.out.mono ?_; rintro e w71 ⟨rfl, k71⟩; have HFR1 := Lib.hid (HFR.out w71 k71); have HK7 := Lib.hid (HB4.out.1.trans k71); clear k71; go_wp2_with fail; refine HFR1.out.mono ?_; rintro e w72 ⟨rfl, k72⟩; have HK8 := Lib.hid (HK7.out.trans k72); clear k72; go_wp2_with fail; go_ret2; exact ⟨by unfold slipW; rw [E.out]; rfl, HK8.out⟩
end Go.Proofs.YtkghgaopcgcheaaGreatDoor
namespace Go.Proofs.YtkghgaopcgcheaaGreatDoor
open Go.RowKit
abbrev PS := Slp × (List UInt8 × Bool)
def pNames (f : Fds) (a : PS) : PS := if f.names then ({ a.1 with repo := (textM a.2).1, tag := (textM (textM a.2).2).1 }, (textM (textM a.2).2).2) else a
def digTo (d : Dig) (l : List UInt8) : Dig := if h : l.length = 32 then ⟨l, h⟩ else d
def pDig (f : Fds) (a : PS) : PS := if f.digest then ({ a.1 with dig := digTo a.1.dig (takeM a.2 32).1 }, (takeM a.2 32).2) else a
def pThing (f : Fds) (a : PS) : PS := if f.thing then ({ a.1 with typ := (textM a.2).1, size := (numberM (textM a.2).2).1 }, (numberM (textM a.2).2).2) else a
def pTick (f : Fds) (a : PS) : PS := if f.tick then ({ a.1 with tick := (numberM a.2).1 }, (numberM a.2).2) else a
def pKind (l : List UInt8) : PS := ({ Slp.zero with kind := (byteM (l, false)).1 }, (byteM (l, false)).2)
def pAll (l : List UInt8) : PS := let a := pKind l; let f := fdsOf a.1.kind; pTick f (pThing f (pDig f (pNames f a)))
def parseM (l : List UInt8) : Option Slp := if (pAll l).2.2 = false ∧ (pAll l).2.1 = [] ∧ goodS (pAll l).1 = true then some (pAll l).1 else none
def readS (s : List UInt8) : Option (Slp × Nat) :=
  match s with
  | a :: b :: _ =>
    let n := a.toNat * 256 + b.toNat
    if s.length < 6 ∨ n = 0 ∨ 1024 < n ∨ s.length < 6 + n then none
    else if framedM ((s.take (6 + n)).drop 6) = s.take (6 + n) then (parseM ((s.take (6 + n)).drop 6)).map fun x => (x, 6 + n) else none
  | _ => none
def allS : Nat → List UInt8 → List Slp × Nat
  | 0, _ => ([], 0)
  | k + 1, s => match readS s with
    | none => ([], 0)
    | some (x, n) => (x :: (allS k (s.drop n)).1, n + (allS k (s.drop n)).2)
theorem readS_pos {s : List UInt8} {x : Slp} {n : Nat} (h : readS s = some (x, n)) : 6 < n ∧ n ≤ s.length := by
  unfold readS at h
  split at h
  · rename_i a b r; simp only at h
    split at h
    · cases h
    · rename_i hh
      split at h
      · cases hp : parseM (List.drop 6 (List.take (6 + (a.toNat * 256 + b.toNat)) (a :: b :: r))) with
        | none => rw [hp] at h; cases h
        | some y =>
          rw [hp] at h; simp only [Option.map_some, Option.some.injEq, Prod.mk.injEq] at h; obtain ⟨_, rfl⟩ := h; omega
      · cases h
  · cases h
structure Par (w wx : World) (n bs bx bf : Nat) (f : Fds) (a : PS) : Prop where
  keep : Keep [] w wx
  res : Blk wx n 27 Slp.zero.cells
  scn : Sc wx bs a.2
  slp : Blk wx bx 27 a.1.cells
  fds : Blk wx bf 189 f.cells
  old : w.heap.size ≤ n ∧ w.heap.size ≤ bs ∧ w.heap.size ≤ bx ∧ w.heap.size ≤ bf
  sep : n ≠ bs ∧ n ≠ bx ∧ n ≠ bf ∧ bs ≠ bx ∧ bs ≠ bf ∧ bx ≠ bf
theorem Par.drew {w wx : World} {n bs bx bf : Nat} {f : Fds} {a : PS} (h : Par w wx n bs bx bf f a) : Par w wx.drew n bs bx bf f a := ⟨h.keep.drew, h.res, h.scn, h.slp, h.fds, h.old, h.sep⟩
theorem Par.scan {w wx wy : World} {n bs bx bf : Nat} {f : Fds} {a : PS} {s : List UInt8 × Bool} (h : Par w wx n bs bx bf f a) (hs : Sc wy bs s) (k : Keep [bs] wx wy) : Par w wy n bs bx bf f (a.1, s) := by
  obtain ⟨s1, s2, s3, s4, s5, s6⟩ := h.sep; exact ⟨h.keep.trans' k (fun x hx hl => by simp at hx; subst hx; have := h.old.2.1; omega), k.blk h.res (by simpa using s1), hs, k.blk h.slp (by simpa using Ne.symm s4), k.blk h.fds (by simpa using Ne.symm s5), h.old, h.sep⟩
theorem Par.set {w wx : World} {n bs bx bf : Nat} {f : Fds} {a : PS} (h : Par w wx n bs bx bf f a) (k : Nat) (v : Value) {x : Slp} (e : a.1.cells.set k v = x.cells) : Par w (wx.setCell ⟨bx, k, none⟩ v) n bs bx bf f (x, a.2) := by
  obtain ⟨s1, s2, s3, s4, s5, s6⟩ := h.sep; have kk : Keep [bx] wx (wx.setCell ⟨bx, k, none⟩ v) := (Keep.refl _ _).setCell _ _ (by simp); exact ⟨h.keep.trans' kk (fun x hx hl => by simp at hx; subst hx; have := h.old.2.2.1; omega), kk.blk h.res (by simpa using s2), kk.blk h.scn (by simpa using s4), e ▸ h.slp.set k v, kk.blk h.fds (by simpa using Ne.symm s6), h.old, h.sep⟩
theorem Par.setDig {w wx : World} {n bs bx bf : Nat} {f : Fds} {a : PS} (h : Par w wx n bs bx bf f a) (d : Dig) {x : Slp} (e : putAt a.1.cells 3 (digC d) = x.cells) : Par w (wx.setCells bx 3 (digC d)) n bs bx bf f (x, a.2) := by
  obtain ⟨s1, s2, s3, s4, s5, s6⟩ := h.sep; have kk := Keep.cellsTo (S := [bx]) bx (fun _ => by simp) (digC d) 3 wx (Keep.refl _ _); exact ⟨Keep.cellsTo _ (fun hh => by have := h.old.2.2.1; omega) _ _ _ h.keep, kk.blk h.res (by simpa using s2), kk.blk h.scn (by simpa using s4), e ▸ Blk.overC _ _ _ _ h.slp, kk.blk h.fds (by simpa using Ne.symm s6), h.old, h.sep⟩
theorem textM_le (s : List UInt8 × Bool) : (textM s).2.1.length ≤ s.1.length := Nat.le_trans (takeM_le _ _) (byteM_le s).1
theorem numberM_le (s : List UInt8 × Bool) : (numberM s).2.1.length ≤ s.1.length := by
  unfold numberM
  split
  · exact takeM_le s 8
  · exact takeM_le s 8
theorem pNames_le (f : Fds) (a : PS) : (pNames f a).2.1.length ≤ a.2.1.length := by
  unfold pNames
  split
  · exact Nat.le_trans (textM_le _) (textM_le _)
  · exact Nat.le_refl _
theorem pDig_le (f : Fds) (a : PS) : (pDig f a).2.1.length ≤ a.2.1.length := by
  unfold pDig
  split
  · exact takeM_le _ _
  · exact Nat.le_refl _
theorem pThing_le (f : Fds) (a : PS) : (pThing f a).2.1.length ≤ a.2.1.length := by
  unfold pThing
  split
  · exact Nat.le_trans (numberM_le _) (textM_le _)
  · exact Nat.le_refl _
theorem pTick_le (f : Fds) (a : PS) : (pTick f a).2.1.length ≤ a.2.1.length := by
  unfold pTick
  split
  · exact numberM_le _
  · exact Nat.le_refl _
theorem takeM_32 (s : List UInt8 × Bool) : (takeM s 32).1 = [] ∨ (takeM s 32).1.length = 32 := by
  unfold takeM
  split
  · exact Or.inl rfl
  · rename_i h; refine Or.inr ?_; simp; omega
theorem takeM_sub (s : List UInt8 × Bool) (n : Int) : (takeM s n).1.length ≤ s.1.length := by
  unfold takeM
  split
  · exact Nat.zero_le _
  · show (s.1.take n.toNat).length ≤ _; rw [List.length_take]; exact Nat.min_le_right _ _
theorem textM_sub (s : List UInt8 × Bool) : (textM s).1.length ≤ s.1.length := Nat.le_trans (takeM_sub _ _) (byteM_le s).1
theorem numberM_in (s : List UInt8 × Bool) : 0 ≤ (numberM s).1 ∧ (numberM s).1 ≤ 1099511627776 := by
  unfold numberM
  split
  · exact ⟨Int.le_refl 0, by show (0 : Int) ≤ 1099511627776; omega⟩
  · rename_i h; exact ⟨num8_pos _, by show num8 (takeM s 8).1 ≤ _; omega⟩
def pIn (a : PS) : Prop := slipIn a.1 ∧ a.2.1.length ≤ 1000000
theorem reach_le {n m : Nat} (h : n ≤ m) (hm : m ≤ 1000000) : n ≤ maxLen := by unfold maxLen; omega
theorem reach_in {n : Int} (h : 0 ≤ n ∧ n ≤ 1099511627776) : in64 n := by unfold in64; omega
theorem pNames_in {f : Fds} {a : PS} (h : pIn a) : pIn (pNames f a) := by
  obtain ⟨⟨h1, h2, h3, h4, h5, h6⟩, hl⟩ := h; have hle := pNames_le f a; refine ⟨?_, Nat.le_trans hle hl⟩; unfold pNames
  split
  · exact ⟨h1, reach_le (textM_sub a.2) hl, reach_le (textM_sub (textM a.2).2) (Nat.le_trans (textM_le a.2) hl), h4, h5, h6⟩
  · exact ⟨h1, h2, h3, h4, h5, h6⟩
theorem pDig_in {f : Fds} {a : PS} (h : pIn a) : pIn (pDig f a) := by
  obtain ⟨⟨h1, h2, h3, h4, h5, h6⟩, hl⟩ := h; have hle := pDig_le f a; refine ⟨?_, Nat.le_trans hle hl⟩; unfold pDig
  split
  · exact ⟨h1, h2, h3, h4, h5, h6⟩
  · exact ⟨h1, h2, h3, h4, h5, h6⟩
theorem pThing_in {f : Fds} {a : PS} (h : pIn a) : pIn (pThing f a) := by
  obtain ⟨⟨h1, h2, h3, h4, h5, h6⟩, hl⟩ := h; have hle := pThing_le f a; refine ⟨?_, Nat.le_trans hle hl⟩; unfold pThing
  split
  · exact ⟨h1, h2, h3, reach_le (textM_sub a.2) hl, reach_in (numberM_in _), h6⟩
  · exact ⟨h1, h2, h3, h4, h5, h6⟩
theorem pTick_in {f : Fds} {a : PS} (h : pIn a) : pIn (pTick f a) := by
  obtain ⟨⟨h1, h2, h3, h4, h5, h6⟩, hl⟩ := h; have hle := pTick_le f a; refine ⟨?_, Nat.le_trans hle hl⟩; unfold pTick
  split
  · exact ⟨h1, h2, h3, h4, h5, reach_in (numberM_in _)⟩
  · exact ⟨h1, h2, h3, h4, h5, h6⟩
theorem pAll_in (l : List UInt8) (hl : l.length ≤ 1000000) : slipIn (pAll l).1 := by
  have h := (byteM_le (l, false)).2
  have h0 : pIn (pKind l) := by
    refine ⟨⟨?_, ?_, ?_, ?_, ?_, ?_⟩, Nat.le_trans (byteM_le (l, false)).1 hl⟩
    · show in64 (byteM (l, false)).1; unfold in64; omega
    · exact reach_le (Nat.zero_le _) hl
    · exact reach_le (Nat.zero_le _) hl
    · exact reach_le (Nat.zero_le _) hl
    · exact reach_in (n := 0) ⟨Int.le_refl 0, by omega⟩
    · exact reach_in (n := 0) ⟨Int.le_refl 0, by omega⟩
  exact (pTick_in (pThing_in (pDig_in (pNames_in h0)))).1
def parseR (l : List UInt8) : Value := match parseM l with
  | some x => .tuple #[.agg x.cells.toArray, .bool true]
  | none => .tuple #[.agg Slp.zero.cells.toArray, .bool false]
theorem slip_parse (l : List UInt8) (w : World) (hl : l.length ≤ 1000000) :
    Calls Tryz.prog 178 #[.string (S l)] w fun e w' => e = .returned (parseR l) ∧ Keep [] w w' := by
  obtain ⟨R, hR⟩ : ∃ R, parseR l = R := ⟨_, rfl⟩
  rw [hR]; have HR := Lib.hid hR; have HL := Lib.hid hl; obtain ⟨OC, hOC⟩ : ∃ o, (pKind l).1.cells = o := ⟨_, rfl⟩
  obtain ⟨FC, hFC⟩ : ∃ o, (fdsOf (pKind l).1.kind).cells = o := ⟨_, rfl⟩
  have HO := Lib.hid (show (pKind l).1.cells = OC ∧ OC.length = 38 ∧ ∀ v ∈ OC, v.oneCell' = true from ⟨hOC, by rw [← hOC]; exact Slp.cells_length _, by rw [← hOC]; exact Slp.one _⟩); have HF := Lib.hid (show (fdsOf (pKind l).1.kind).cells = FC ∧ FC.length = 4 ∧ ∀ v ∈ FC, v.oneCell' = true from ⟨hFC, by rw [← hFC]; rfl, by rw [← hFC]; intro v hv; simp [Fds.cells] at hv; rcases hv with rfl | rfl | rfl | rfl <;> rfl⟩); have HOF := Lib.hid (fun w => slip_of (pKind l).1.kind w); rw [hFC] at HOF; have hpk : (byteM (l, false)).1 = (pKind l).1.kind ∧ (byteM (l, false)).2 = (pKind l).2 := ⟨rfl, rfl⟩
  have HBY := Lib.hid (fun bs w (h : Sc w bs (l, false)) => scan_byte bs (l, false) w h hl); rw [hpk.1, hpk.2] at HBY; have hoc : ({ Slp.zero with kind := (pKind l).1.kind } : Slp).cells = OC := hOC; obtain ⟨k0, hk0⟩ : ∃ k, (pKind l).1.kind = k := ⟨_, rfl⟩
  rw [hk0] at hoc HOF HBY; have HO2 := Lib.hid (And.intro hoc hk0); clear hR hOC hFC hpk hoc hk0; go_enter Tryz.func178, Tryz.ntmps178
  go_upto_region 1 with fail
  rw [eqS8]; obtain ⟨n, hn⟩ : ∃ n, w.heap.size = n := ⟨_, rfl⟩
  have k1 := (Keep.refl [] w).alloc (.cells Slp.zero.cells.toArray 27); have b1 := Blk.new w Slp.zero.cells 27; have z1 := alloc_size w (.cells Slp.zero.cells.toArray 27); rw [hn] at b1 z1; (try rw [hn]); generalize w.alloc (.cells Slp.zero.cells.toArray 27) = w1 at k1 b1 z1 ⊢; have HN := Lib.hid hn; clear hn
  go_upto_region 2 with fail
  have k2 := k1.alloc (.cells #[.string (S l), .bool false] 263); have b12 := b1.alloc (.cells #[.string (S l), .bool false] 263); have b2 := Blk.newA w1 #[.string (S l), .bool false] 263; have z2 := alloc_size w1 (.cells #[.string (S l), .bool false] 263); generalize w1.alloc (.cells #[.string (S l), .bool false] 263) = w2 at k2 b12 b2 z2 ⊢; rw [z1] at b2 z2; (try rw [z1]); have HB2 := Lib.hid (And.intro k2 (And.intro b12 (And.intro b2 z2))); have HBY1 := Lib.hid (HBY.out (n + 1) w2 b2); clear k1 b1 z1 k2 b12 b2 z2; go_wp2_with fail; refine HBY1.out.mono ?_; rintro e w3 ⟨rfl, s3, k3⟩; have HB3 := Lib.hid (And.intro s3 k3); clear s3 k3; have k4 := (Keep.refl [] w3).alloc (.cells OC.toArray 27); have b4 := Blk.new w3 OC 27
  go_upto_region 3 with (first | ((with_reducible refine gB 13 ?_); refine wpList_build_is rfl 27 _ rfl OC (by rw [← HO2.out.1]; kernel_rfl) ?_; simp only [sq]) | ((with_reducible refine gS 5 13 ?_); refine wpList_store_new rfl 27 (.tmp 5) (.tmp 13) rfl _ OC (by rfl) (by rfl) (by rw [HO.out.2.1]; kernel_rfl) (by rw [HO.out.2.1]; kernel_rfl) HO.out.2.2 ?_) | fail)
  obtain ⟨bx, hbx⟩ : ∃ m, w3.heap.size = m := ⟨_, rfl⟩
  rw [hbx] at b4; (try rw [hbx]); generalize w3.alloc (.cells OC.toArray 27) = w4 at k4 b4 ⊢; have HB4 := Lib.hid (And.intro k4 b4); have c4 : w4.cell? ⟨bx, 0, none⟩ = some (.int .i64 k0) := b4.get (by rw [← HO2.out.1]; rfl); have HX := Lib.hid hbx; clear hbx k4 b4; go_wp2_with fail; refine (HOF.out w4).mono ?_; rintro e w5 ⟨rfl, k5⟩; have HB5 := Lib.hid k5; clear k5 c4
  go_upto_region 4 with (first | ((with_reducible refine gS 6 18 ?_); refine wpList_store_new rfl 189 (.tmp 6) (.tmp 18) rfl _ FC (by rfl) (by rfl) (by rw [HF.out.2.1]; kernel_rfl) (by rw [HF.out.2.1]; kernel_rfl) HF.out.2.2 ?_) | fail)
  obtain ⟨f, hf⟩ : ∃ f, fdsOf (pKind l).1.kind = f := ⟨_, rfl⟩
  have HFF := Lib.hid hf; obtain ⟨a, ha⟩ : ∃ a, pKind l = a := ⟨_, rfl⟩
  have HA := Lib.hid ha
  have HP0 : Hid (Par w (w5.alloc (.cells FC.toArray 189)) n (n + 1) bx w5.heap.size f a) := by
    have z2 := HB2.out.2.2.2; have z3 := HB3.out.2.size; have z5 := HB5.out.size; have zx := HX.out; have zn := HN.out; have b4 := HB4.out.2; have lt4 := b4.lt; have k35 : Keep [] w3 (w5.alloc (.cells FC.toArray 189)) := (HB4.out.1.trans HB5.out).alloc _; rw [← HO.out.1, ha] at b4; refine ⟨((HB2.out.1.trans' HB3.out.2 (fun x hx hl => by simp at hx; omega)).trans k35), k35.blk (HB3.out.2.blk HB2.out.2.1 (by simp)) (by simp), ?_, (HB5.out.blk b4 (by simp)).alloc _, ?_, ?_, ?_⟩
    · have := HB3.out.1; rw [ha] at this; exact k35.blk this (by simp)
    · have := Blk.new w5 FC 189; rw [← HF.out.1, hf] at this; rw [← HF.out.1, hf]; exact this
    · omega
    · omega
  obtain ⟨bf, hbf⟩ : ∃ b, w5.heap.size = b := ⟨_, rfl⟩
  rw [hbf] at HP0 ⊢; generalize w5.alloc (.cells FC.toArray 189) = w6 at HP0 ⊢; have HLA := Lib.hid (show a.2.1.length ≤ 1000000 from by rw [← ha]; exact Nat.le_trans (takeM_le (l, false) 1 |> fun h => by show (byteM (l, false)).2.1.length ≤ _; exact (byteM_le (l, false)).1) hl); clear hf ha hbf HB2 HB3 HB4 HB5 HX HN HBY HBY1
  -- BRANCHES
  have c0 : w6.cell? ⟨bf, 0, none⟩ = some (.bool f.names) := HP0.out.fds.get rfl; obtain ⟨a1, hl⟩ : ∃ x, pNames f a = x := ⟨_, rfl⟩
  have Ha1 := Lib.hid hl; clear hl
  go_upto_region 4 with fail
  rename_i K1 hK1 K hK
  go_cut [21] (fun v wx => v = .bool f.names ∧ w6 = wx)
  case first =>
    go_wp2_with fail; go_meet; exact ⟨rfl, rfl⟩
  case rest =>
    obtain ⟨rfl, rfl⟩ := hcut; refine hK _ _ ?_; clear hK c0
    go_cut [] (fun wx => Par w wx n (n + 1) bx bf f a1)
    case first =>
      cases hfl : f.names with
      | false =>
        have E := Lib.hid (show a = a1 by have h := Ha1.out; unfold pNames at h; rwa [hfl, if_neg Bool.false_ne_true] at h); clear hfl; go_wp2_with fail; go_meet; exact E.out ▸ HP0.out
      | true =>
        have E := Lib.hid (show ({ a.1 with repo := (textM a.2).1, tag := (textM (textM a.2).2).1 }, (textM (textM a.2).2).2) = a1 by have h := Ha1.out; unfold pNames at h; rwa [hfl, if_pos rfl] at h); clear hfl; have HT := Lib.hid (scan_text (n + 1) a.2 w6 HP0.out.scn HLA.out); have HT2 := Lib.hid (fun w (h : Sc w (n + 1) (textM a.2).2) => scan_text (n + 1) (textM a.2).2 w h (Nat.le_trans (textM_le a.2) HLA.out)); obtain ⟨t1, h1⟩ : ∃ t, textM a.2 = t := ⟨_, rfl⟩
        rw [h1] at E HT HT2; obtain ⟨t2, h2⟩ : ∃ t, textM t1.2 = t := ⟨_, rfl⟩
        rw [h2] at E HT2; clear h1 h2; go_wp2_with fail; refine HT.out.mono ?_; rintro e w71 ⟨rfl, s71, k71⟩; have HP1 := Lib.hid (HP0.out.scan s71 k71); have HT3 := Lib.hid (HT2.out w71 s71); clear s71 k71 HT HT2; go_wp2_with fail; refine HT3.out.mono ?_; rintro e w72 ⟨rfl, s72, k72⟩; have HP2 := Lib.hid (HP1.out.scan s72 k72); clear s72 k72 HT3; have c1 : w72.cell? ⟨bx, 1, none⟩ = some (.string (S a.1.repo)) := HP2.out.slp.get rfl; have c2 : w72.cell? ⟨bx, 2, none⟩ = some (.string (S a.1.tag)) := HP2.out.slp.get rfl; have z1 := HP2.out.slp.frozen 1; have z2 := HP2.out.slp.frozen 2; have HP3 := Lib.hid ((HP2.out.set 1 (.string (S t1.1)) (Slp.set1 _ _)).set 2 (.string (S t2.1)) (Slp.set2 _ _)); go_wp2_with fail; go_meet; exact E.out ▸ HP3.out
    case rest =>
      have HP1 := Lib.hid hcut; have HLA1 := Lib.hid (show a1.2.1.length ≤ 1000000 from by rw [← Ha1.out]; exact Nat.le_trans (pNames_le f a) HLA.out); obtain ⟨w17, hw⟩ : ∃ w, w = wc := ⟨_, rfl⟩
      subst hw; clear hcut HP0; have c0 : w17.cell? ⟨bf, 1, none⟩ = some (.bool f.digest) := HP1.out.fds.get rfl; obtain ⟨a2, hl⟩ : ∃ x, pDig f a1 = x := ⟨_, rfl⟩
      have Ha2 := Lib.hid hl; clear hl; refine hK1 _ _ ?_; clear hK1
      go_upto_region 6 with fail
      rename_i K1 hK1 K hK
      go_cut [29] (fun v wx => v = .bool f.digest ∧ w17 = wx)
      case first =>
        go_wp2_with fail; go_meet; exact ⟨rfl, rfl⟩
      case rest =>
        obtain ⟨rfl, rfl⟩ := hcut; refine hK _ _ ?_; clear hK c0
        go_cut [] (fun wx => Par w wx n (n + 1) bx bf f a2)
        case first =>
          cases hfl : f.digest with
          | false =>
            have E := Lib.hid (show a1 = a2 by have h := Ha2.out; unfold pDig at h; rwa [hfl, if_neg Bool.false_ne_true] at h); clear hfl; go_wp2_with fail; go_meet; exact E.out ▸ HP1.out
          | true =>
            have E := Lib.hid (show ({ a1.1 with dig := digTo a1.1.dig (takeM a1.2 32).1 }, (takeM a1.2 32).2) = a2 by have h := Ha2.out; unfold pDig at h; rwa [hfl, if_pos rfl] at h); clear hfl; have HT := Lib.hid (scan_take (n + 1) a1.2 32 w17.drew HP1.out.drew.scn HLA1.out (by omega)); have HN2 := Lib.hid (takeM_32 a1.2); obtain ⟨t1, h1⟩ : ∃ t, takeM a1.2 32 = t := ⟨_, rfl⟩
            rw [h1] at E HN2; rw [show (takeM a1.2 ((32 : Nat) : Int)) = t1 from h1] at HT; clear h1; have HQ0 := Lib.hid HP1.out.drew; go_wp2_with fail
            go_region_with (first
              | (go_at_call 208
                 refine HT.out.mono ?_; rintro e w71 ⟨rfl, s71, k71⟩; have HP1 := Lib.hid (HQ0.out.scan s71 k71); clear s71 k71
                 have hcp := copy_str w71 bx 3 32 32 t1.1 3 (min t1.1.length 32) rfl (fun j hj => by
                   obtain ⟨v, h⟩ : ∃ v, (digC a1.1.dig)[j]? = some v := ⟨_, List.getElem?_eq_getElem (by rw [digC_length]; omega)⟩
                   rw [HP1.out.slp.get (Slp.atD _ h)]; rfl) (fun j _ => HP1.out.slp.frozen _))
              | fail)
            all_goals
              have HP3 : Hid (Par w (w71.setCells bx 3 (bytC (List.take (min t1.1.length 32) t1.1))) n (n + 1) bx bf f ({ a1.1 with dig := digTo a1.1.dig t1.1 }, t1.2)) := by
                rcases HN2.out with h0 | h0
                · rw [h0]; exact HP1.out
                · rw [h0, List.take_of_length_le (by omega)]; have e : digTo a1.1.dig t1.1 = ⟨t1.1, h0⟩ := dif_pos h0; rw [e]; exact HP1.out.setDig ⟨t1.1, h0⟩ (Slp.setD _ _)
              clear HP1 hcp; go_wp2_with fail; go_meet; exact E.out ▸ HP3.out
        case rest =>
          have HP2 := Lib.hid hcut; have HLA2 := Lib.hid (show a2.2.1.length ≤ 1000000 from by rw [← Ha2.out]; exact Nat.le_trans (pDig_le f a1) HLA1.out); obtain ⟨w18, hw⟩ : ∃ w, w = wc := ⟨_, rfl⟩
          subst hw; clear hcut HP1; have c0 : w18.cell? ⟨bf, 2, none⟩ = some (.bool f.thing) := HP2.out.fds.get rfl; obtain ⟨a3, hl⟩ : ∃ x, pThing f a2 = x := ⟨_, rfl⟩
          have Ha3 := Lib.hid hl; clear hl; refine hK1 _ _ ?_; clear hK1
          go_upto_region 8 with fail
          rename_i K1 hK1 K hK
          go_cut [36] (fun v wx => v = .bool f.thing ∧ w18 = wx)
          case first =>
            go_wp2_with fail; go_meet; exact ⟨rfl, rfl⟩
          case rest =>
            obtain ⟨rfl, rfl⟩ := hcut; refine hK _ _ ?_; clear hK c0
            go_cut [] (fun wx => Par w wx n (n + 1) bx bf f a3)
            case first =>
              cases hfl : f.thing with
              | false =>
                have E := Lib.hid (show a2 = a3 by have h := Ha3.out; unfold pThing at h; rwa [hfl, if_neg Bool.false_ne_true] at h); clear hfl; go_wp2_with fail; go_meet; exact E.out ▸ HP2.out
              | true =>
                have E := Lib.hid (show ({ a2.1 with typ := (textM a2.2).1, size := (numberM (textM a2.2).2).1 }, (numberM (textM a2.2).2).2) = a3 by have h := Ha3.out; unfold pThing at h; rwa [hfl, if_pos rfl] at h); clear hfl; have HT := Lib.hid (scan_text (n + 1) a2.2 w18 HP2.out.scn HLA2.out); have HT2 := Lib.hid (fun w (h : Sc w (n + 1) (textM a2.2).2) => scan_number (n + 1) (textM a2.2).2 w h (Nat.le_trans (textM_le a2.2) HLA2.out)); obtain ⟨t1, h1⟩ : ∃ t, textM a2.2 = t := ⟨_, rfl⟩
                rw [h1] at E HT HT2; obtain ⟨t2, h2⟩ : ∃ t, numberM t1.2 = t := ⟨_, rfl⟩
                rw [h2] at E HT2; clear h1 h2; go_wp2_with fail; refine HT.out.mono ?_; rintro e w71 ⟨rfl, s71, k71⟩; have HP1 := Lib.hid (HP2.out.scan s71 k71); have HT3 := Lib.hid (HT2.out w71 s71); clear s71 k71 HT HT2; go_wp2_with fail; refine HT3.out.mono ?_; rintro e w72 ⟨rfl, s72, k72⟩; have HP2 := Lib.hid (HP1.out.scan s72 k72); clear s72 k72 HT3; have c1 : w72.cell? ⟨bx, 35, none⟩ = some (.string (S a2.1.typ)) := HP2.out.slp.get (Slp.at35 _); have c2 : w72.cell? ⟨bx, 36, none⟩ = some (.int .i64 a2.1.size) := HP2.out.slp.get (Slp.at36 _); have z1 := HP2.out.slp.frozen 35; have z2 := HP2.out.slp.frozen 36; have HP3 := Lib.hid ((HP2.out.set 35 (.string (S t1.1)) (Slp.set35 _ _)).set 36 (.int .i64 t2.1) (Slp.set36 _ _)); go_wp2_with fail; go_meet; exact E.out ▸ HP3.out
            case rest =>
              have HP3 := Lib.hid hcut; have HLA3 := Lib.hid (show a3.2.1.length ≤ 1000000 from by rw [← Ha3.out]; exact Nat.le_trans (pThing_le f a2) HLA2.out); obtain ⟨w19, hw⟩ : ∃ w, w = wc := ⟨_, rfl⟩
              subst hw; clear hcut HP2; have c0 : w19.cell? ⟨bf, 3, none⟩ = some (.bool f.tick) := HP3.out.fds.get rfl; obtain ⟨a4, hl⟩ : ∃ x, pTick f a3 = x := ⟨_, rfl⟩
              have Ha4 := Lib.hid hl; clear hl; refine hK1 _ _ ?_; clear hK1
              go_upto_region 10 with fail
              rename_i K1 hK1 K hK
              go_cut [44] (fun v wx => v = .bool f.tick ∧ w19 = wx)
              case first =>
                go_wp2_with fail; go_meet; exact ⟨rfl, rfl⟩
              case rest =>
                obtain ⟨rfl, rfl⟩ := hcut; refine hK _ _ ?_; clear hK c0
                go_cut [] (fun wx => Par w wx n (n + 1) bx bf f a4)
                case first =>
                  cases hfl : f.tick with
                  | false =>
                    have E := Lib.hid (show a3 = a4 by have h := Ha4.out; unfold pTick at h; rwa [hfl, if_neg Bool.false_ne_true] at h); clear hfl; go_wp2_with fail; go_meet; exact E.out ▸ HP3.out
                  | true =>
                    have E := Lib.hid (show ({ a3.1 with tick := (numberM a3.2).1 }, (numberM a3.2).2) = a4 by have h := Ha4.out; unfold pTick at h; rwa [hfl, if_pos rfl] at h); clear hfl; have HT := Lib.hid (scan_number (n + 1) a3.2 w19 HP3.out.scn HLA3.out); obtain ⟨t1, h1⟩ : ∃ t, numberM a3.2 = t := ⟨_, rfl⟩
                    rw [h1] at E HT; clear h1; go_wp2_with fail; refine HT.out.mono ?_; rintro e w71 ⟨rfl, s71, k71⟩; have HP1 := Lib.hid (HP3.out.scan s71 k71); clear s71 k71 HT; have c1 : w71.cell? ⟨bx, 37, none⟩ = some (.int .i64 a3.1.tick) := HP1.out.slp.get (Slp.at37 _); have z1 := HP1.out.slp.frozen 37; have HP3 := Lib.hid (HP1.out.set 37 (.int .i64 t1.1) (Slp.set37 _ _)); go_wp2_with fail; go_meet; exact E.out ▸ HP3.out
                case rest =>
                  have HP4 := Lib.hid hcut; have HLA4 := Lib.hid (show a4.2.1.length ≤ 1000000 from by rw [← Ha4.out]; exact Nat.le_trans (pTick_le f a3) HLA3.out); obtain ⟨w20, hw⟩ : ∃ w, w = wc := ⟨_, rfl⟩
                  subst hw; clear hcut HP3; refine hK1 _ _ ?_; clear hK1
                  have HPA := Lib.hid (show pAll l = a4 by
                    have e : pAll l = pTick (fdsOf (pKind l).1.kind) (pThing (fdsOf (pKind l).1.kind) (pDig (fdsOf (pKind l).1.kind) (pNames (fdsOf (pKind l).1.kind) (pKind l)))) := rfl; rw [e, HFF.out, HA.out, Ha1.out, Ha2.out, Ha3.out, Ha4.out])
                  have HPR := Lib.hid (show R = match (if a4.2.2 = false ∧ a4.2.1 = [] ∧ goodS a4.1 = true then some a4.1 else none) with
                    | some x => .tuple #[.agg x.cells.toArray, .bool true]
                    | none => .tuple #[.agg Slp.zero.cells.toArray, .bool false] from by rw [← HR.out]; unfold parseR parseM; rw [HPA.out])
                  have HIN := Lib.hid (show slipIn a4.1 from by rw [← HPA.out]; exact pAll_in l HL.out); obtain ⟨x, rest, bad⟩ := a4; have b0 : w20.cell? ⟨n + 1, 0, none⟩ = some (.string (S rest)) := HP4.out.scn.get rfl; have b1 : w20.cell? ⟨n + 1, 1, none⟩ = some (.bool bad) := HP4.out.scn.get rfl; obtain ⟨ZC, hZC⟩ : ∃ z, Slp.zero.cells = z := ⟨_, rfl⟩
                  have HZC := Lib.hid (show Slp.zero.cells = ZC ∧ ZC.length = 38 ∧ ∀ v ∈ ZC, v.oneCell' = true from ⟨hZC, by rw [← hZC]; exact Slp.cells_length _, by rw [← hZC]; exact Slp.one _⟩); obtain ⟨XC, hXC⟩ : ∃ z, x.cells = z := ⟨_, rfl⟩
                  have HXC := Lib.hid (show x.cells = XC ∧ XC.length = 38 ∧ ∀ v ∈ XC, v.oneCell' = true from ⟨hXC, by rw [← hXC]; exact Slp.cells_length _, by rw [← hXC]; exact Slp.one _⟩); have HAF := Lib.hid (show ∀ wy, Keep [] w20 wy → World.there wy n 0 38 ∧ Blk wy bx 27 XC ∧ Keep [] w wy ∧ w.heap.size ≤ n from fun wy k => ⟨(k.blk HP4.out.res (by simp)).thr 0 38 (by rw [Slp.cells_length]; omega), hXC ▸ k.blk HP4.out.slp (by simp), HP4.out.keep.trans k, HP4.out.old.1⟩); clear hZC hXC HP4 HPA HA Ha1 Ha2 Ha3 Ha4 HR
                  have hbad : bad = true ∨ (bad = false ∧ rest ≠ []) ∨ (bad = false ∧ rest = []) := by
                    cases bad
                    · by_cases h : rest = []
                      · exact Or.inr (Or.inr ⟨rfl, h⟩)
                      · exact Or.inr (Or.inl ⟨rfl, h⟩)
                    · exact Or.inl rfl
                  rcases hbad with rfl | ⟨rfl, hre⟩ | ⟨rfl, rfl⟩
                  · have HV := Lib.hid (show R = .tuple #[.agg ZC.toArray, .bool false] from by rw [HPR.out, if_neg (by simp), ← HZC.out.1]); clear HPR
                    go_wp2_with (first | ((with_reducible refine gB 64 ?_); refine wpList_build_is rfl 27 _ rfl ZC (by rw [← HZC.out.1]; kernel_rfl) ?_; simp only [sq]) | ((with_reducible refine gS 2 64 ?_); refine wpList_store_mid rfl 27 (.tmp 2) (.tmp 64) rfl n 0 ZC.toArray (by rfl) (by rfl) (by simp only [List.size_toArray, HZC.out.2.1]; exact (HAF.out _ (Keep.refl [] _)).1) (by simp only [List.size_toArray, HZC.out.2.1]; kernel_rfl) (all_oneCell_toArray HZC.out.2.2) ?_) | fail); have hload := run_loadVar_mid (P := Tryz.prog) (w20.setCells n 0 ZC) n 0 27 ZC _ (World.rangeAt_setCells_same w20 n 0 ZC (by rw [HZC.out.2.1]; exact (HAF.out _ (Keep.refl [] _)).1)) Tryz.underlying27 rfl (by rw [HZC.out.2.1]; kernel_rfl); refine bodyPost_ret (v := .tuple #[.agg ZC.toArray, .bool false]) (by simp [Act.put, results, Tryz.results178, asAddr, Result.andThen, hload]) rfl ⟨by rw [HV.out], Keep.cellsTo _ (fun hh => by have := (HAF.out _ (Keep.refl [] _)).2.2.2; omega) _ _ _ (HAF.out _ (Keep.refl [] _)).2.2.1⟩
                  · have HV := Lib.hid (show R = .tuple #[.agg ZC.toArray, .bool false] from by rw [HPR.out, if_neg (by rintro ⟨_, h, _⟩; exact hre h), ← HZC.out.1]); have q0 : ((S rest).toList == ([] : List UInt8)) = false := by rw [S_toList]; simp [hre]
                    have q1 : (S rest).toList.isEmpty = false := by rw [S_toList]; simp [hre]
                    clear HPR hre; go_wp2_with (first | ((with_reducible refine gB 64 ?_); refine wpList_build_is rfl 27 _ rfl ZC (by rw [← HZC.out.1]; kernel_rfl) ?_; simp only [sq]) | ((with_reducible refine gS 2 64 ?_); refine wpList_store_mid rfl 27 (.tmp 2) (.tmp 64) rfl n 0 ZC.toArray (by rfl) (by rfl) (by simp only [List.size_toArray, HZC.out.2.1]; exact (HAF.out _ (Keep.refl [] _)).1) (by simp only [List.size_toArray, HZC.out.2.1]; kernel_rfl) (all_oneCell_toArray HZC.out.2.2) ?_) | fail); have hload := run_loadVar_mid (P := Tryz.prog) (w20.setCells n 0 ZC) n 0 27 ZC _ (World.rangeAt_setCells_same w20 n 0 ZC (by rw [HZC.out.2.1]; exact (HAF.out _ (Keep.refl [] _)).1)) Tryz.underlying27 rfl (by rw [HZC.out.2.1]; kernel_rfl); refine bodyPost_ret (v := .tuple #[.agg ZC.toArray, .bool false]) (by simp [Act.put, results, Tryz.results178, asAddr, Result.andThen, hload]) rfl ⟨by rw [HV.out], Keep.cellsTo _ (fun hh => by have := (HAF.out _ (Keep.refl [] _)).2.2.2; omega) _ _ _ (HAF.out _ (Keep.refl [] _)).2.2.1⟩
                  · have q0 : ((S ([] : List UInt8)).toList == ([] : List UInt8)) = true := by rw [S_toList]; rfl
                    have q1 : (S ([] : List UInt8)).toList.isEmpty = true := by rw [S_toList]; rfl
                    have HG := Lib.hid (fun w => slip_Good x w HIN.out); rw [HXC.out.1] at HG; have hg := Lib.hid HPR.out; clear HPR; rcases hgo : goodS x with _ | _
                    · have HV := Lib.hid (show R = .tuple #[.agg ZC.toArray, .bool false] from by rw [hg.out, if_neg (by rw [hgo]; simp), ← HZC.out.1]); rw [hgo] at HG; clear hg hgo
                      go_wp2_with (first
                        | (with_reducible (show wpList _ _ _ ((⟨some 60, .load _ _, _, _, _, _⟩ : Oper) :: _) _ _)
                           refine wpList_load_midG (by rfl) 27 (.tmp 5) rfl bx 0 (by rfl) XC _ ((HAF.out _ (Keep.refl [] _)).2.1.rng) Tryz.underlying27 rfl (by rw [HXC.out.2.1]; kernel_rfl) ?_)
                        | fail)
                      refine (HG.out _).mono ?_; rintro e w21 ⟨rfl, k21⟩; have K21 := Lib.hid k21; clear k21 b0 b1
                      go_wp2_with (first | ((with_reducible refine gB 64 ?_); refine wpList_build_is rfl 27 _ rfl ZC (by rw [← HZC.out.1]; kernel_rfl) ?_; simp only [sq]) | ((with_reducible refine gS 2 64 ?_); refine wpList_store_mid rfl 27 (.tmp 2) (.tmp 64) rfl n 0 ZC.toArray (by rfl) (by rfl) (by simp only [List.size_toArray, HZC.out.2.1]; exact (HAF.out _ K21.out).1) (by simp only [List.size_toArray, HZC.out.2.1]; kernel_rfl) (all_oneCell_toArray HZC.out.2.2) ?_) | fail); have hload := run_loadVar_mid (P := Tryz.prog) (w21.setCells n 0 ZC) n 0 27 ZC _ (World.rangeAt_setCells_same w21 n 0 ZC (by rw [HZC.out.2.1]; exact (HAF.out _ K21.out).1)) Tryz.underlying27 rfl (by rw [HZC.out.2.1]; kernel_rfl); refine bodyPost_ret (v := .tuple #[.agg ZC.toArray, .bool false]) (by simp [Act.put, results, Tryz.results178, asAddr, Result.andThen, hload]) rfl ⟨by rw [HV.out], Keep.cellsTo _ (fun hh => by have := (HAF.out _ K21.out).2.2.2; omega) _ _ _ (HAF.out _ K21.out).2.2.1⟩
                    · have HV := Lib.hid (show R = .tuple #[.agg XC.toArray, .bool true] from by rw [hg.out, if_pos ⟨rfl, rfl, hgo⟩, ← HXC.out.1]); rw [hgo] at HG; clear hg hgo
                      go_wp2_with (first
                        | (with_reducible (show wpList _ _ _ ((⟨some 60, .load _ _, _, _, _, _⟩ : Oper) :: _) _ _)
                           refine wpList_load_midG (by rfl) 27 (.tmp 5) rfl bx 0 (by rfl) XC _ ((HAF.out _ (Keep.refl [] _)).2.1.rng) Tryz.underlying27 rfl (by rw [HXC.out.2.1]; kernel_rfl) ?_)
                        | fail)
                      refine (HG.out _).mono ?_; rintro e w21 ⟨rfl, k21⟩; have K21 := Lib.hid k21; clear k21 b0 b1
                      go_wp2_with (first | ((with_reducible refine gL 65 5 ?_); refine gl bx 0 XC ((HAF.out _ K21.out).2.1.rng) (by rw [HXC.out.2.1]; kernel_rfl) ?_; try simp only [sq]) | ((with_reducible refine gS 2 65 ?_); refine wpList_store_mid rfl 27 (.tmp 2) (.tmp 65) rfl n 0 XC.toArray (by rfl) (by rfl) (by simp only [List.size_toArray, HXC.out.2.1]; exact (HAF.out _ K21.out).1) (by simp only [List.size_toArray, HXC.out.2.1]; kernel_rfl) (all_oneCell_toArray HXC.out.2.2) ?_) | fail); have hload := run_loadVar_mid (P := Tryz.prog) (w21.setCells n 0 XC) n 0 27 XC _ (World.rangeAt_setCells_same w21 n 0 XC (by rw [HXC.out.2.1]; exact (HAF.out _ K21.out).1)) Tryz.underlying27 rfl (by rw [HXC.out.2.1]; kernel_rfl); refine bodyPost_ret (v := .tuple #[.agg XC.toArray, .bool true]) (by simp [Act.put, results, Tryz.results178, asAddr, Result.andThen, hload]) rfl ⟨by rw [HV.out], Keep.cellsTo _ (fun hh => by have := (HAF.out _ K21.out).2.2.2; omega) _ _ _ (HAF.out _ K21.out).2.2.1⟩
end Go.Proofs.YtkghgaopcgcheaaGreatDoor
