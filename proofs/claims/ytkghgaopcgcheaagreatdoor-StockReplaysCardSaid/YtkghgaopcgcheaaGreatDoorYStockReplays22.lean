/- Parts of the proof of StockReplays, in order. No conditions but those that each theorem states. -/
import Derived.Test.YtkghgaopcgcheaaGreatDoorYStockReplays0
import Derived.Deep.RegionHeld3
import Derived.Deep.Cut
import Derived.Deep.DeepCutAuto
import Derived.Deep.LoopGhost
import Derived.Deep.AppendLies
import Derived.Deep.RegionLaw
import Derived.Lib.BufferWrite
import Derived.Lib.ItoaNum
import Derived.Lib.SlTrimSet
import Derived.Lib.SlBytesConst
import Derived.Test.YtkghgaopcgcheaaGreatDoorYStockReplays21
set_option maxRecDepth 100000
set_option maxHeartbeats 16000000
set_option linter.unusedSimpArgs false
set_option linter.unusedVariables false
namespace Go.Proofs.YtkghgaopcgcheaaGreatDoor
open Go.RowKit Go.Shelf
theorem dig_back (w : World) (d : Dig) : (convert 126 9 (.slice (some ⟨w.heap.size, 0, none⟩) 32 32)).run Tryz.prog (w.alloc (.cells (digC d).toArray 25)) = .ok (.string (S d.1)) (w.alloc (.cells (digC d).toArray 25)) := by
  have hb := Blk.newA w (digC d).toArray 25
  have := run_convert_bytes_back (P := Tryz.prog) (w.alloc (.cells (digC d).toArray 25)) 126 9 5 ⟨w.heap.size, 0, none⟩ 32 d.1 Tryz.underlying126 Tryz.underlying5 Tryz.underlying9 (fun j hj => by
    have ha : (⟨w.heap.size, 0, none⟩ : Addr).add j = ⟨w.heap.size, j, none⟩ := by unfold Addr.add; split <;> simp_all
    rw [ha]; exact hb.get (k := j) (by simp [digC, hj]))
  rwa [d.2] at this
theorem dig_sizeS (d : Dig) : (Tryz.prog.info? 25).map (·.size) = some (digC d).length := by rw [digC_length]; kernel_rfl
def zeroD : Dig := ⟨List.replicate 32 0, by simp⟩
def digO (l : List UInt8) : Option Dig := if h : l.length = 32 then some ⟨l, h⟩ else none
def digOut (o : Option Dig) : Ending := .returned (.tuple #[.agg (digC (o.getD zeroD)).toArray, .bool o.isSome])
theorem dig_one (d : Dig) : ∀ v ∈ digC d, v.oneCell' = true := by
  intro v hv; simp only [digC, List.mem_map] at hv; obtain ⟨b, _, rfl⟩ := hv; rfl
theorem dig_st (d : Dig) : (Tryz.prog.info? 25).map (·.size) = some (digC d).toArray.size ∧ (digC d).toArray.all (·.oneCell') = true := ⟨by rw [List.size_toArray]; exact dig_sizeS d, all_oneCell_toArray (dig_one d)⟩
theorem dig_load {w : World} {b : Nat} {d : Dig} (h : w.rangeAt b 0 (digC d)) : (loadVar 25 ⟨b, 0, none⟩).run Tryz.prog w = .ok (.agg (digC d).toArray) w :=
  run_loadVar_mid (P := Tryz.prog) w b 0 25 (digC d) _ h Tryz.underlying25 rfl (dig_sizeS d)
theorem digC_zero : digC zeroD = [.int .u8 0, .int .u8 0, .int .u8 0, .int .u8 0, .int .u8 0, .int .u8 0, .int .u8 0, .int .u8 0, .int .u8 0, .int .u8 0, .int .u8 0, .int .u8 0, .int .u8 0, .int .u8 0, .int .u8 0, .int .u8 0, .int .u8 0, .int .u8 0, .int .u8 0, .int .u8 0, .int .u8 0, .int .u8 0, .int .u8 0, .int .u8 0, .int .u8 0, .int .u8 0, .int .u8 0, .int .u8 0, .int .u8 0, .int .u8 0, .int .u8 0, .int .u8 0] := rfl
def fileM (l : List UInt8) : List UInt8 := [98, 108, 111, 98, 45] ++ hexS l
def pfxB : List UInt8 := [98, 108, 111, 98, 45]
def behindB (s : List UInt8) : Option Dig := if Lib.hasPrefix s pfxB then (unhexM (s.drop 5)).bind digO else none
theorem stamp_File (d : Dig) (w : World) :
    Calls Tryz.prog 144 #[.agg (digC d).toArray] w fun e w' => e = .returned (.string (S (fileM d.1))) ∧ Keep [] w w' := by
  have kA := (Keep.refl [] w).alloc (.cells (digC d).toArray 25); have hcv := dig_back w d; have hdl := digC_length d; have HH := Lib.hid (fun w' => hexa_Hex d.1 w' (by rw [d.2]; decide)); have hcat : (⟨#[98, 108, 111, 98, 45]⟩ : ByteArray) ++ S (hexS d.1) = S (fileM d.1) := S_append [98, 108, 111, 98, 45] _; have hhl : (hexS d.1).length = 64 := by rw [hexS_len, d.2]
  have s1 := S_size (hexS d.1); rw [hhl] at s1; generalize hexS d.1 = hx at *; generalize fileM d.1 = st at *; generalize hwA : w.alloc (.cells (digC d).toArray 25) = wA at kA hcv; have KA := Lib.hid kA; clear kA; go_enter Tryz.func144, Tryz.ntmps144; go_wp2_with fail; refine (HH.out _).mono ?_; rintro e w5 ⟨rfl, k5⟩; have K5 := Lib.hid (KA.out.trans k5); clear k5; go_wp2_with fail; go_ret; exact ⟨rfl, K5.out⟩
theorem stamp_behindB (s : List UInt8) (w : World) (hs : s.length ≤ 1048576) :
    Calls Tryz.prog 124 #[.string (S s), .string ⟨#[98, 108, 111, 98, 45]⟩] w fun e w' => e = digOut (behindB s) ∧ Keep [] w w' := by
  have hBO : behindB s = if Lib.hasPrefix s pfxB then (unhexM (s.drop 5)).bind digO else none := rfl
  have HBO := Lib.hid hBO; have kA := (Keep.refl [] w).alloc (.cells (digC zeroD).toArray 25); have bA := Blk.newA w (digC zeroD).toArray 25; have szA : w.heap.size < (w.alloc (.cells (digC zeroD).toArray 25)).heap.size := by simp
  have hcp : ∀ w', Calls Tryz.prog 170 #[.string (S s), .string ⟨#[98, 108, 111, 98, 45]⟩] w' fun e w1 => e = .returned (.tuple #[.string (S (Lib.trimPrefix s pfxB)), .bool (Lib.hasPrefix s pfxB)]) ∧ w1 = w' := fun w' => by
    have := Tryz.strings_CutPrefix (S s) ⟨#[98, 108, 111, 98, 45]⟩ w'; rw [S_list] at this; exact this
  clear hBO; rw [digC_zero] at kA bA szA; generalize hwA : w.alloc (.cells [.int .u8 0, .int .u8 0, .int .u8 0, .int .u8 0, .int .u8 0, .int .u8 0, .int .u8 0, .int .u8 0, .int .u8 0, .int .u8 0, .int .u8 0, .int .u8 0, .int .u8 0, .int .u8 0, .int .u8 0, .int .u8 0, .int .u8 0, .int .u8 0, .int .u8 0, .int .u8 0, .int .u8 0, .int .u8 0, .int .u8 0, .int .u8 0, .int .u8 0, .int .u8 0, .int .u8 0, .int .u8 0, .int .u8 0, .int .u8 0, .int .u8 0, .int .u8 0].toArray 25) = wA at kA bA szA; have bA : Blk wA w.heap.size 25 (digC zeroD) := bA; have KA := Lib.hid kA; have BA := Lib.hid bA; have SZ := Lib.hid szA; have HS0 := Lib.hid (dig_st zeroD); have HDS := Lib.hid (dig_sizeS zeroD); have HLZ := Lib.hid (fun w' b (h : w'.there b 0 32) => dig_load (World.rangeAt_setCells_same w' b 0 (digC zeroD) (by rw [digC_length]; exact h))); have KZ := Lib.hid (show Keep [] w (wA.setCells w.heap.size 0 (digC zeroD)) from Keep.setCells' _ (fun hh => absurd hh (by omega)) _ _ _ KA.out); clear kA bA szA; have hwA2 : w.alloc (.cells #[.int .u8 0, .int .u8 0, .int .u8 0, .int .u8 0, .int .u8 0, .int .u8 0, .int .u8 0, .int .u8 0, .int .u8 0, .int .u8 0, .int .u8 0, .int .u8 0, .int .u8 0, .int .u8 0, .int .u8 0, .int .u8 0, .int .u8 0, .int .u8 0, .int .u8 0, .int .u8 0, .int .u8 0, .int .u8 0, .int .u8 0, .int .u8 0, .int .u8 0, .int .u8 0, .int .u8 0, .int .u8 0, .int .u8 0, .int .u8 0, .int .u8 0, .int .u8 0] 25) = wA := hwA; clear hwA
  cases hp : Lib.hasPrefix s pfxB with
  | false =>
    have htp : Lib.trimPrefix s pfxB = s := by unfold Lib.trimPrefix; rw [hp]; rfl
    have HR := Lib.hid (show behindB s = none by rw [HBO.out, hp]; rfl); rw [htp, hp] at hcp; have HCP := Lib.hid hcp; clear hp htp hcp HBO; go_enter Tryz.func124, Tryz.ntmps124
    go_wp2_with (first | (go_at_call 170; refine (HCP.out _).mono ?_; rintro e w1 ⟨rfl, h1⟩; have h1 := h1.symm; subst h1) | ((with_reducible refine gM 4 ?_); refine wpList_load_mid rfl 25 (.tmp 4) rfl w.heap.size 0 (by rfl) (digC zeroD) _ BA.out.range' Tryz.underlying25 rfl HDS.out ?_; try simp only [sq]) | ((with_reducible refine gS 4 18 ?_); refine wpList_store_mid rfl 25 (.tmp 4) (.tmp 18) rfl w.heap.size 0 (digC zeroD).toArray (by rfl) (by first | rfl | kernel_rfl) (BA.out.there' 0 32 (by rw [digC_length]; exact Nat.le_refl _)) HS0.out.1 HS0.out.2 ?_; try simp only [Act.put]) | fail); have hload := HLZ.out wA w.heap.size (BA.out.there' 0 32 (by rw [digC_length]; exact Nat.le_refl _)); rw [HR.out]; refine bodyPost_ret (v := .tuple #[.agg (digC zeroD).toArray, .bool false]) (by simp [results, Tryz.results124, asAddr, Result.andThen, hload]) rfl ⟨rfl, KZ.out⟩
  | true =>
    have htp : Lib.trimPrefix s pfxB = s.drop 5 := by unfold Lib.trimPrefix; rw [hp]; rfl
    have HR0 := Lib.hid (show behindB s = (unhexM (s.drop 5)).bind digO by rw [HBO.out, hp]; rfl); rw [htp, hp] at hcp; have HCP := Lib.hid hcp; clear hp htp hcp HBO; have hdl : (s.drop 5).length ≤ 1048576 := by rw [List.length_drop]; omega
    generalize s.drop 5 = r at *; have HU0 := fun w' => hexa_Unhex r w' hdl
    cases hu : unhexM r with
    | none =>
      have HR := Lib.hid (show behindB s = none by rw [HR0.out, hu]; rfl); have HU := Lib.hid (fun w' => show Calls Tryz.prog 171 #[.string (S r)] w' fun e w1 => e = .returned (.tuple #[.string (S []), .int .i64 3]) ∧ Keep [] w' w1 by have := HU0 w'; rw [hu] at this; exact this); clear hu HU0 HR0; go_enter Tryz.func124, Tryz.ntmps124
      go_wp2_with (first | (go_at_call 170; refine (HCP.out _).mono ?_; rintro e w1 ⟨rfl, h1⟩; have h1 := h1.symm; subst h1) | fail); refine (HU.out _).mono ?_; rintro e w2 ⟨rfl, k2⟩; have K2 := Lib.hid (KA.out.trans k2); have BA2 := Lib.hid (k2.blk BA.out (by simp)); have KZ2 := Lib.hid (show Keep [] w (w2.setCells w.heap.size 0 (digC zeroD)) from Keep.setCells' _ (fun hh => absurd hh (by omega)) _ _ _ K2.out); clear k2 hwA2
      go_wp2_with (first | ((with_reducible refine gM 4 ?_); refine wpList_load_mid rfl 25 (.tmp 4) rfl w.heap.size 0 (by rfl) (digC zeroD) _ BA2.out.range' Tryz.underlying25 rfl HDS.out ?_; try simp only [sq]) | ((with_reducible refine gS 4 31 ?_); refine wpList_store_mid rfl 25 (.tmp 4) (.tmp 31) rfl w.heap.size 0 (digC zeroD).toArray (by rfl) (by first | rfl | kernel_rfl) (BA2.out.there' 0 32 (by rw [digC_length]; exact Nat.le_refl _)) HS0.out.1 HS0.out.2 ?_; try simp only [Act.put]) | fail); have hload := HLZ.out w2 w.heap.size (BA2.out.there' 0 32 (by rw [digC_length]; exact Nat.le_refl _)); rw [HR.out]; refine bodyPost_ret (v := .tuple #[.agg (digC zeroD).toArray, .bool false]) (by simp [results, Tryz.results124, asAddr, Result.andThen, hload]) rfl ⟨rfl, KZ2.out⟩
    | some o =>
      have HU := Lib.hid (fun w' => show Calls Tryz.prog 171 #[.string (S r)] w' fun e w1 => e = .returned (.tuple #[.string (S o), .int .i64 0]) ∧ Keep [] w' w1 by have := HU0 w'; rw [hu] at this; exact this); have sO := S_size o; by_cases hl : o.length = 32
      · obtain ⟨d, rfl⟩ : ∃ d : Dig, o = d.1 := ⟨⟨o, hl⟩, rfl⟩
        have HR := Lib.hid (show behindB s = some d by rw [HR0.out, hu]; show digO d.1 = _; unfold digO; rw [dif_pos d.2]); have sO : (S d.1).size = 32 := by rw [sO, d.2]
        clear hu HU0 HR0 hl; go_enter Tryz.func124, Tryz.ntmps124
        go_wp2_with (first | (go_at_call 170; refine (HCP.out _).mono ?_; rintro e w1 ⟨rfl, h1⟩; have h1 := h1.symm; subst h1) | fail); refine (HU.out _).mono ?_; rintro e w2 ⟨rfl, k2⟩; have K2 := Lib.hid (KA.out.trans k2); have BA2 := Lib.hid (k2.blk BA.out (by simp)); clear k2 hwA2
        have hrow : (List.take 0 (digC zeroD).toArray.toList ++ Lib.byteCells (S d.1).data.toList ++ List.drop (0 + (S d.1).size) (digC zeroD).toArray.toList).toArray = (digC d).toArray := by
          rw [sO, S_list, List.take_zero, List.nil_append, List.drop_of_length_le (by simp [digC_length]), List.append_nil]; rfl
        have hcpy := Lib.run_copy_row_string (P := Tryz.prog) w2 126 9 3 5 w.heap.size 0 32 32 (S d.1) (digC zeroD).toArray 25 Tryz.underlying126 (by kernel_rfl) BA2.out (by rw [sO]; exact Nat.le_refl _) (by rw [sO]; simp [digC_length]); rw [hrow] at hcpy; have hbrow : Blk (w2.setRow w.heap.size (digC d).toArray) w.heap.size 25 (digC d) := setRow_heap w2 w.heap.size _ _ _ _ BA2.out; have krow : Keep [] w (w2.setRow w.heap.size (digC d).toArray) := K2.out.trans' (show Keep [w.heap.size] w2 _ from ⟨rfl, rfl, rfl, by simp, fun k hk hn => setRow_other w2 w.heap.size k _ (fun h => hn (by simp [h]))⟩) (fun x hx hlt => by have h1 : x = w.heap.size := (by simpa using hx); omega); generalize hw3 : w2.setRow w.heap.size (digC d).toArray = w3 at *; have KZ2 := Lib.hid (show Keep [] w (w3.setCells w.heap.size 0 (digC d)) from Keep.setCells' _ (fun hh => absurd hh (by omega)) _ _ _ krow); have B3 := Lib.hid hbrow; have HSd := Lib.hid (dig_st d); have hload := Lib.hid (dig_load (World.rangeAt_setCells_same w3 w.heap.size 0 (digC d) (by rw [digC_length]; exact B3.out.there' 0 32 (by rw [digC_length]; exact Nat.le_refl _)))); have q1 := (int_eq (show (d.1.length : Int) = 32 by rw [d.2]; rfl)).2; clear hrow hbrow krow hw3
        go_wp2_with (first | ((with_reducible refine gM 4 ?_); refine wpList_load_mid rfl 25 (.tmp 4) rfl w.heap.size 0 (by rfl) (digC d) _ B3.out.range' Tryz.underlying25 rfl (dig_sizeS _) ?_; try simp only [sq]) | ((with_reducible refine gS 4 35 ?_); refine wpList_store_mid rfl 25 (.tmp 4) (.tmp 35) rfl w.heap.size 0 (digC d).toArray (by rfl) (by first | rfl | kernel_rfl) (B3.out.there' 0 _ (by simp)) HSd.out.1 HSd.out.2 ?_; try simp only [Act.put]) | fail); rw [HR.out]; refine bodyPost_ret (v := .tuple #[.agg (digC d).toArray, .bool true]) (by simp [results, Tryz.results124, asAddr, Result.andThen, hload.out]) rfl ⟨rfl, KZ2.out⟩
      · have HR := Lib.hid (show behindB s = none by rw [HR0.out, hu]; show digO o = _; unfold digO; rw [dif_neg hl]); have q1 := (int_ne (show (o.length : Int) ≠ 32 by omega)).2; clear hu HU0 HR0 hl; go_enter Tryz.func124, Tryz.ntmps124
        go_wp2_with (first | (go_at_call 170; refine (HCP.out _).mono ?_; rintro e w1 ⟨rfl, h1⟩; have h1 := h1.symm; subst h1) | fail); refine (HU.out _).mono ?_; rintro e w2 ⟨rfl, k2⟩; have K2 := Lib.hid (KA.out.trans k2); have BA2 := Lib.hid (k2.blk BA.out (by simp)); have KZ2 := Lib.hid (show Keep [] w (w2.setCells w.heap.size 0 (digC zeroD)) from Keep.setCells' _ (fun hh => absurd hh (by omega)) _ _ _ K2.out); clear k2 hwA2
        go_wp2_with (first | ((with_reducible refine gM 4 ?_); refine wpList_load_mid rfl 25 (.tmp 4) rfl w.heap.size 0 (by rfl) (digC zeroD) _ BA2.out.range' Tryz.underlying25 rfl HDS.out ?_; try simp only [sq]) | ((with_reducible refine gS 4 31 ?_); refine wpList_store_mid rfl 25 (.tmp 4) (.tmp 31) rfl w.heap.size 0 (digC zeroD).toArray (by rfl) (by first | rfl | kernel_rfl) (BA2.out.there' 0 32 (by rw [digC_length]; exact Nat.le_refl _)) HS0.out.1 HS0.out.2 ?_; try simp only [Act.put]) | fail); have hload := HLZ.out w2 w.heap.size (BA2.out.there' 0 32 (by rw [digC_length]; exact Nat.le_refl _)); rw [HR.out]; refine bodyPost_ret (v := .tuple #[.agg (digC zeroD).toArray, .bool false]) (by simp [results, Tryz.results124, asAddr, Result.andThen, hload]) rfl ⟨rfl, KZ2.out⟩
theorem stamp_Named (s : List UInt8) (w : World) (hs : s.length ≤ 1048576) :
    Calls Tryz.prog 71 #[.string (S s)] w fun e w' => e = digOut (behindB s) ∧ Keep [] w w' := by
  have H := Lib.hid (fun w => stamp_behindB s w hs); unfold digOut at H ⊢; have HC := Lib.hid (show (digC ((behindB s).getD zeroD)).length = 32 ∧ ∀ v ∈ digC ((behindB s).getD zeroD), v.oneCell' = true from ⟨digC_length _, digC_one _⟩); generalize (behindB s).isSome = q at H ⊢; generalize digC ((behindB s).getD zeroD) = C at H HC ⊢; have kA := (Keep.refl [] w).alloc (.cells (digC zeroD).toArray 25); have bA := Blk.new w (digC zeroD) 25; go_enter Tryz.func71, Tryz.ntmps71; go_wp2_with fail; change Calls _ _ _ (w.alloc (.cells (digC zeroD).toArray 25)) _; generalize w.alloc (.cells (digC zeroD).toArray 25) = wA at kA bA ⊢; have HB := Lib.hid (And.intro kA bA); clear kA bA; refine (H.out wA).mono ?_; rintro e w2 ⟨rfl, k2⟩; have HT := Lib.hid ((k2.blk HB.out.2 (by simp)).thr 0 32 (by simp [digC_length])); have HK := Lib.hid (HB.out.1.trans k2); clear k2 HB
  go_wp2_with (first
    | (with_reducible (show wpList _ _ _ ((⟨none, .store _ _ _, _, _, _, none⟩ : Oper) :: _) _ _)
       refine wpList_store_mid rfl 25 (.tmp 2) (.tmp 6) rfl w.heap.size 0 C.toArray (by rfl) (by rfl) (by simp only [List.size_toArray, HC.out.1]; exact HT.out) (by simp only [List.size_toArray, HC.out.1]; kernel_rfl) (all_oneCell_toArray HC.out.2) ?_)
    | fail)
  have hload := run_loadVar_mid (P := Tryz.prog) (w2.setCells w.heap.size 0 C) w.heap.size 0 25 C _ (World.rangeAt_setCells_same w2 w.heap.size 0 C (by rw [HC.out.1]; exact HT.out)) Tryz.underlying25 rfl (by rw [HC.out.1]; kernel_rfl); refine bodyPost_ret (v := .tuple #[.agg C.toArray, .bool q]) (by simp [Act.put, results, Tryz.results71, asAddr, Result.andThen, hload]) rfl ⟨rfl, ?_⟩; exact Keep.cellsTo _ (fun hh => absurd hh (Nat.lt_irrefl _)) _ _ _ HK.out
end Go.Proofs.YtkghgaopcgcheaaGreatDoor
namespace Go.Proofs.YtkghgaopcgcheaaGreatDoor
open Go.RowKit Go.Maps
def Ld (w : World) (r d : Nat) : Prop := Blk w r 120 [.pointer (some ⟨d, 0, none⟩)]
structure Pt (w : World) (p d : Nat) (name : List UInt8) (h : Nat) (s : ShaS) (over : Bool) : Prop where
  blk : Blk w p 171 [.pointer (some ⟨d, 0, none⟩), .string (Go.Proofs.YtkghgaopcgcheaaGreatDoor.S name), .pointer (some ⟨h, 0, none⟩), .bool over]
  sha : ShO w h s
  ne : p ≠ h
  ng : ¬ isG p ∧ ¬ isG h
theorem Pt.keep {T : List Nat} {w w' : World} {p d : Nat} {name : List UInt8} {h : Nat} {s : ShaS} {over : Bool} (k : Pt w p d name h s over) (kp : Keep T w w') (h1 : p ∉ T) (h2 : h ∉ T) (ht : ShaT w') : Pt w' p d name h s over :=
  ⟨kp.blk k.blk h1, k.sha.keep kp h2 ht, k.ne, k.ng⟩
theorem Pt.keep0 {w w' : World} {p d : Nat} {name : List UInt8} {h : Nat} {s : ShaS} {over : Bool} (k : Pt w p d name h s over) (kp : Keep [] w w') : Pt w' p d name h s over :=
  k.keep kp (by simp) (by simp) (k.sha.tab.keep0 kp)
theorem larder_Open (d : Nat) (w : World) : Calls Tryz.prog 42 #[.pointer (some ⟨d, 0, none⟩)] w fun e w' => e = .returned (.pointer (some ⟨w.heap.size, 0, none⟩)) ∧ Ld w' w.heap.size d ∧ Keep [] w w' := by
  have HB := Lib.hid (Blk.newA w #[.pointer (some ⟨d, 0, none⟩)] 120); have HK := Lib.hid ((Keep.refl [] w).alloc (.cells #[.pointer (some ⟨d, 0, none⟩)] 120)); go_enter Tryz.func42, Tryz.ntmps42; go_wp2_with fail; go_ret; exact ⟨rfl, HB.out, HK.out⟩
theorem pot_state {p d : Nat} {name : List UInt8} {h : Nat} {s : ShaS} (w : World) (k : Pt w p d name h s false) : Calls Tryz.prog 105 #[.pointer (some ⟨p, 0, none⟩)] w fun e w' => e = .returned (.int .i64 0) ∧ w = w' := by
  have c3 : w.cell? ⟨p, 3, none⟩ = some (.bool false) := k.blk.get rfl; clear k; go_enter Tryz.func105, Tryz.ntmps105; go_wp2_with fail; go_ret; exact ⟨rfl, rfl⟩
theorem pot_Done {p d : Nat} {name : List UInt8} {h : Nat} {s : ShaS} (w : World) (k : Pt w p d name h s false) : Calls Tryz.prog 160 #[.pointer (some ⟨p, 0, none⟩)] w fun e w' => e = .returned (.bool false) ∧ w = w' := by
  have c3 : w.cell? ⟨p, 3, none⟩ = some (.bool false) := k.blk.get rfl; clear k; go_enter Tryz.func160, Tryz.ntmps160; go_wp2_with fail; go_ret; exact ⟨rfl, rfl⟩
theorem pot_Size {p d : Nat} {name : List UInt8} {h : Nat} {s : ShaS} {over : Bool} (w : World) (k : Pt w p d name h s over) : Calls Tryz.prog 113 #[.pointer (some ⟨p, 0, none⟩)] w fun e w' => e = .returned (.int .i64 s.size) ∧ w = w' := by
  have c2 : w.cell? ⟨p, 2, none⟩ = some (.pointer (some ⟨h, 0, none⟩)) := k.blk.get rfl; have HL := Lib.hid (sha_Len h s w k.sha.sh); clear k; go_enter Tryz.func113, Tryz.ntmps113; go_wp2_with fail; refine HL.out.mono ?_; rintro e we ⟨rfl, rfl⟩; go_wp2_with fail; go_ret; exact ⟨rfl, rfl⟩
theorem pot_Sum {p d : Nat} {name : List UInt8} {h : Nat} {s : ShaS} {over : Bool} (w : World) (k : Pt w p d name h s over) (hz : 0 ≤ s.size) : Calls Tryz.prog 161 #[.pointer (some ⟨p, 0, none⟩)] w fun e w' => e = .returned (.agg (digC (shaSum s)).toArray) ∧ Keep [] w w' := by
  have c2 : w.cell? ⟨p, 2, none⟩ = some (.pointer (some ⟨h, 0, none⟩)) := k.blk.get rfl; have HK := Lib.hid k; have HL := Lib.hid (fun w' (k' : Keep [] w w') => sha_Sum h s w' (k.keep0 k').sha hz); obtain ⟨C, hC⟩ : ∃ C, digC (shaSum s) = C := ⟨_, rfl⟩
  rw [hC] at HL ⊢; have HC := Lib.hid (show C.length = 32 ∧ ∀ v ∈ C, v.oneCell' = true by rw [← hC]; exact ⟨digC_length _, digC_one _⟩); have kA := (Keep.refl [] w).alloc (.cells (digC zeroD).toArray 25); have bA := Blk.new w (digC zeroD) 25; have cA := (kA.blk k.blk (by simp)).get (k := 2) rfl; obtain ⟨n, hn⟩ : ∃ n, w.heap.size = n := ⟨_, rfl⟩
  rw [hn] at bA; clear hC k c2; go_enter Tryz.func161, Tryz.ntmps161
  go_upto_region 1 with fail
  change Code.wp _ _ _ _ (w.alloc (.cells (digC zeroD).toArray 25)); generalize w.alloc (.cells (digC zeroD).toArray 25) = w1 at kA bA cA ⊢; have HLA := Lib.hid (HL.out w1 kA); have HA := Lib.hid (And.intro kA bA); have HN := Lib.hid hn; clear kA bA hn HL; (try simp only [HN.out]); go_wp2_with fail; refine HLA.out.mono ?_; rintro e w2 ⟨rfl, k2⟩; have K2 := Lib.hid (And.intro k2 ((k2.blk HA.out.2 (by simp)).thr 0 32 (by rw [digC_length]; exact Nat.le_refl _))); clear k2
  go_wp2_with (first | ((with_reducible refine gS 2 10 ?_); refine wpList_store_mid rfl 25 (.tmp 2) (.tmp 10) rfl n 0 C.toArray (by rfl) (by rfl) (by simp only [List.size_toArray, HC.out.1]; exact K2.out.2) (by simp only [List.size_toArray, HC.out.1]; kernel_rfl) (all_oneCell_toArray HC.out.2) ?_) | fail); have hload := run_loadVar_mid (P := Tryz.prog) (w2.setCells n 0 C) n 0 25 C _ (World.rangeAt_setCells_same w2 n 0 C (by rw [HC.out.1]; exact K2.out.2)) Tryz.underlying25 rfl (by rw [HC.out.1]; kernel_rfl); exact bodyPost_ret (v := .agg C.toArray) (by simp [Act.put, results, Tryz.results161, asAddr, Result.andThen, hload]) rfl ⟨rfl, Keep.cellsTo n (fun hh => by have := HN.out; omega) _ _ _ (HA.out.1.trans K2.out.1)⟩
theorem Pt.grow {A B : List Nat} {w w' : World} {p d : Nat} {name : List UInt8} {h : Nat} {s : ShaS} {over : Bool} (k : Pt w p d name h s over) (g : Grow A w B w') (hG : GP A w) (h1 : p ∉ A) (h2 : h ∉ A) : Pt w' p d name h s over ∧ p ∉ B ∧ h ∉ B :=
  ⟨k.keep g.1 h1 h2 (hG.grow g).1.2.1, fun hm => by rcases g.2 p hm with e | e; exact h1 e; have := k.blk.lt; omega, fun hm => by rcases g.2 h hm with e | e; exact h2 e; have := k.sha.sh.1.lt; omega⟩
theorem pot_Drop {S0 : List Nat} {p d : Nat} {name : List UInt8} {h : Nat} {s : ShaS} (K K' : Dsk) (w : World) (k : Pt w p d name h s false) (hp : Pk S0 w d K) (hG : GP S0 w) (h1 : p ∉ S0) (h2 : h ∉ S0) (hc : deleteD name K = some K') :
    Calls Tryz.prog 54 #[.pointer (some ⟨p, 0, none⟩)] w fun e w' => e = .returned (.tuple #[]) ∧ ∃ S', Pk S' w' d K' ∧ Grow (p :: S0) w (p :: S') w' ∧ p ∉ S' := by
  have HST := Lib.hid (pot_state w k); obtain ⟨w1, hw1⟩ : ∃ z, w.setCell ⟨p, 3, none⟩ (.bool true) = z := ⟨_, rfl⟩
  have f3 := k.blk.frozen 3; have c3 := k.blk.get (k := 3) rfl; have b1 := k.blk.set 3 (.bool true); have k1 : Keep [p] w w1 := by rw [← hw1]; exact (Keep.refl _ _).setCell _ _ (by simp)
  rw [hw1] at b1; have c0 := b1.get (k := 0) rfl; have c1 := b1.get (k := 1) rfl; have HDE := Lib.hid (fun w' (k : Keep [] w1 w') => plank_Delete d K K' name w' ((hp.keep k1 (by simp; intro x hx; rintro rfl; exact h1 hx)).keep0 k) hc); have HW := Lib.hid hw1; have K1 := Lib.hid k1; have HP := Lib.hid hp; have HPS := Lib.hid (And.intro h1 b1.lt); clear k hp hG h2 hc b1 k1 hw1; go_enter Tryz.func54, Tryz.ntmps54; go_wp2_with fail; refine HST.out.mono ?_; rintro e we ⟨rfl, rfl⟩
  go_upto_region 2 with fail
  (try rw [HW.out]); clear c3 f3 HST; have KD := Lib.hid ((Keep.refl [] w1).drew)
  have HG := Lib.hid (fun S' wc (hg' : Grow S0 w1 S' wc) => show Grow (p :: S0) w (p :: S') wc from (show Grow (p :: S0) w (p :: S0) w1 from ⟨K1.out.mono (by simp), fun _ h => .inl h⟩).trans ⟨hg'.1.mono (fun x hx _ => List.mem_cons_of_mem _ hx), fun x hx => by
    rcases List.mem_cons.1 hx with rfl | hx
    · exact .inl List.mem_cons_self
    · exact (hg'.2 x hx).imp (List.mem_cons_of_mem _) id⟩)
  go_region_with (first | (go_at_call 86; refine (HDE.out _ KD.out).mono ?_; rintro e w2 ⟨rfl, S2, p2, g2⟩; have HF := Lib.hid (show Pk S2 w2 d K' ∧ Grow (p :: S0) w (p :: S2) w2 ∧ p ∉ S2 from ⟨p2, HG.out S2 w2 (Grow.pre KD.out g2), fun hm => by rcases (Grow.pre KD.out g2).2 p hm with e | e; exact HPS.out.1 e; have := HPS.out.2; omega⟩); clear p2 g2) | fail)
  all_goals
    go_wp2_with fail; go_end0; exact ⟨rfl, _, HF.out⟩
theorem Grow.uncut {S S' : List Nat} {w w' : World} (h : Grow (cutS S w) w S' w') : Grow S w S' w' :=
  ⟨h.1.mono (fun x hx _ => (mem_cutS.1 hx).1), fun x hx => (h.2 x hx).imp (fun k => (mem_cutS.1 k).1) id⟩
theorem Grow.wid {A B : List Nat} {w w' : World} (x : Nat) (g : Grow A w B w') : Grow (x :: A) w (x :: B) w' :=
  ⟨g.1.mono (fun y hy _ => List.mem_cons_of_mem _ hy), fun y hy => by
    rcases List.mem_cons.1 hy with rfl | hy
    · exact .inl List.mem_cons_self
    · exact (g.2 y hy).imp (List.mem_cons_of_mem _) id⟩
theorem Grow.own {A : List Nat} {w w' : World} {x : Nat} (k : Keep [x] w w') : Grow (x :: A) w (x :: A) w' := ⟨k.mono (by simp), fun _ h => .inl h⟩
theorem Grow.out' {A B : List Nat} {w w' : World} {x : Nat} (g : Grow A w B w') (hx : x ∉ A) (hl : x < w.heap.size) : x ∉ B := fun hm => by
  rcases g.2 x hm with e | e
  · exact hx e
  · omega
theorem larder_Delete {S0 : List Nat} (r d : Nat) (dg : Dig) (K K' : Dsk) (w : World) (hl : Ld w r d) (hp : Pk S0 w d K) (hr : r ∉ S0) (hc : deleteD (fileM dg.1) K = some K') :
    Calls Tryz.prog 91 #[.pointer (some ⟨r, 0, none⟩), .agg (digC dg).toArray] w fun e w' => e = .returned (.int .i64 0) ∧ ∃ S', Pk S' w' d K' ∧ Grow S0 w S' w' := by
  have HG := Lib.hid (fun S' w' (g : Grow (cutS S0 w) w S' w') => g.uncut); have hpc := hp.cut; have HT := Lib.hid (show ∀ x ∈ cutS S0 w, x ∈ S0 ∧ x < w.heap.size from fun x hx => mem_cutS.1 hx); generalize cutS S0 w = T at hpc HT HG; have k1 := (Keep.refl [] w).alloc (.cells (digC dg).toArray 25); have b1 := Blk.new w (digC dg) 25; have hl1 := k1.blk hl (by simp); have HFI := Lib.hid (fun w' => stamp_File dg w'); have hdl := digC_length dg; obtain ⟨n, hn⟩ : ∃ n, w.heap.size = n := ⟨_, rfl⟩
  rw [hn] at b1; generalize digC dg = DC at *; generalize fileM dg.1 = FN at *; have HDL := Lib.hid hdl; go_enter Tryz.func91, Tryz.ntmps91
  go_upto_region 1 with fail
  (try simp only [hn]); generalize w.alloc (.cells DC.toArray 25) = w1 at k1 b1 hl1 ⊢; have HC := Lib.hid (show ∀ w', Keep T w1 w' → w'.cell? ⟨r, 0, none⟩ = some (.pointer (some ⟨d, 0, none⟩)) from fun w' k => (k.blk hl1 (fun hm => hr (HT.out r hm).1)).get rfl); have HR := Lib.hid (show ∀ w', Keep T w1 w' → w'.rangeAt n 0 DC from fun w' k => (k.blk b1 (fun hm => by have := (HT.out n hm).2; omega)).rng); have HDE := Lib.hid (fun w' (k : Keep [] w1 w') => plank_Delete d K K' FN w' ((hpc.keep0 k1).keep0 k) hc); have HG := Lib.hid (fun S' w' (g : Grow T w1 S' w') => HG.out S' w' (Grow.pre k1 g)); clear hp hr hc hpc k1 b1 hl hl1 hdl hn
  go_upto_region 3 with fail
  refine wp_region_held_drew (S := fun w' => Keep T w1 w') (by kernel_rfl) ((Keep.refl _ _).drew) (fun hHeld => ?_); refine gW 0 ?_; (try simp only [sq]); refine gW 1 ?_; (try simp only [sq]); refine gW 2 ?_; (try simp only [sq]); refine gV 3 (v := ?_) ?_ ?_; rotate_left
  · (intro w' hSw; have c0 := HC.out w' hSw; go_simp) <;> (with_reducible rfl)
  (try simp only [sq]); refine gZ 4 n 0 (DC) (fun w' hSw => HR.out w' hSw) (by rw [HDL.out]; kernel_rfl) ?_; (try simp only [sq]); refine gR 5 rfl (fun K hK => ?_); go_simp; refine (HFI.out _).mono ?_; rintro e wq ⟨rfl, kq⟩; have hKq := hHeld.trans (kq.mono (by simp)); have KQ := Lib.hid (((Keep.refl [] w1).drew).trans kq); clear kq; (try go_simp); refine hK.out _ _ (hKq) (fun hHeld => ?_); clear hK K; (try simp only [sq]); refine gR 6 rfl (fun K hK => ?_); go_simp; refine (HDE.out _ KQ.out).mono ?_; rintro e w3 ⟨rfl, S3, p3, g3⟩; have hK3 := hKq.trans g3.1; have HF := Lib.hid (And.intro p3 (Grow.pre KQ.out g3)); clear p3 g3; (try go_simp); refine hK.out _ _ (hK3) (fun hHeld => ?_); clear hK K; (try simp only [sq]); refine gW 7 ?_; (try simp only [sq]); refine wpAnyH_done (by kernel_rfl) ?_ _; go_wp2_with fail; go_ret; exact ⟨rfl, _, HF.out.1, (HG.out _ _ HF.out.2)⟩
theorem pot_Add {S0 : List Nat} {p d : Nat} {name : List UInt8} {h : Nat} {s : ShaS} (l : List UInt8) (K K' : Dsk) (w : World) (k : Pt w p d name h s false) (hp : Pk S0 w d K) (hG : GP S0 w) (h1 : p ∉ S0) (h2 : h ∉ S0) (hz : 0 ≤ s.size) (hs : s.size + l.length ≤ 1048576)
    (hl0 : l ≠ []) (hc : appendD name l K = some K') :
    Calls Tryz.prog 53 #[.pointer (some ⟨p, 0, none⟩), .string (S l)] w fun e w' => e = .returned (.int .i64 0) ∧ ∃ S', Pk S' w' d K' ∧ Pt w' p d name h (shaWrite s l) false ∧ Grow (h :: S0) w (h :: S') w' ∧ p ∉ S' ∧ h ∉ S' := by
  have HST := Lib.hid (pot_state w k); have c0 := k.blk.get (k := 0) rfl; have c1 := k.blk.get (k := 1) rfl; have c2 := k.blk.get (k := 2) rfl; have HLN := Lib.hid (sha_Len h s w k.sha.sh); have hsz := S_size l; have q1 : (S l).toList.isEmpty = false := by rw [S_toList]; cases l with | nil => exact absurd rfl hl0 | cons a r => rfl
  have wk := IntWalk.i64_in (1048576 - s.size) (by omega); have f1 : decide (1048576 - s.size < (l.length : Nat)) = false := decide_eq_false (by omega); have HAP := Lib.hid (fun w' (k : Keep [] w w') => plank_Append d K K' name l w' (hp.keep0 k) hc); have HWR := Lib.hid (fun w' (hs' : ShO w' h s) => sha_Write h s l w' hs' (show l.length ≤ 9223372036854775807 by omega) hz (by omega)); have HGR := Lib.hid (fun S' w' (g : Grow S0 w S' w') => show (Pt w' p d name h s false ∧ p ∉ S' ∧ h ∉ S') ∧ GP S' w' from ⟨k.grow g hG h1 h2, hG.grow g⟩); have HPT := Lib.hid k; clear k hp hG h1 h2 hc hl0; go_enter Tryz.func53, Tryz.ntmps53; go_wp2_with fail; refine HST.out.mono ?_; rintro e we ⟨rfl, rfl⟩; go_wp2_with fail; refine HLN.out.mono ?_; rintro e we ⟨rfl, rfl⟩; clear HST HLN
  go_upto_region 8 with fail
  have KD := Lib.hid ((Keep.refl [] w).drew)
  go_cut [6] (fun y wx => y = .int .i64 0 ∧ ∃ S', Pk S' wx d K' ∧ Grow S0 w S' wx)
  case first =>
    go_region_with (first | (go_at_call 107; refine (HAP.out _ KD.out).mono ?_; rintro e w2 ⟨rfl, S2, p2, g2⟩; have HF := Lib.hid (show Pk S2 w2 d K' ∧ Grow S0 w S2 w2 from And.intro p2 (Grow.pre KD.out g2)); clear p2 g2) | fail)
    all_goals
      go_wp2_with fail; go_meet; exact ⟨rfl, _, HF.out⟩
  case rest =>
  obtain ⟨rfl, S2, hp2, hg2⟩ := hcut; have HA := Lib.hid (HGR.out S2 wc hg2); have HP2 := Lib.hid (And.intro hp2 hg2); clear hp2 hg2 c0 c1 c2; have c2 := HA.out.1.1.blk.get (k := 2) rfl; go_wp2_with fail; refine (HWR.out _ HA.out.1.1.sha).mono ?_; rintro e w3 ⟨rfl, o3, k3⟩
  have HF := Lib.hid (show Pk S2 w3 d K' ∧ Pt w3 p d name h (shaWrite s l) false ∧ Grow (h :: S0) w (h :: S2) w3 from
    ⟨HP2.out.1.keep k3 (fun x hx => by simp; rintro rfl; exact HA.out.1.2.2 hx), ⟨k3.blk HA.out.1.1.blk (by simp; exact HPT.out.ne), o3, HPT.out.ne, HPT.out.ng⟩, (HP2.out.2.wid h).trans (Grow.own k3)⟩)
  clear o3 k3; go_wp2_with fail; go_ret; exact ⟨rfl, S2, HF.out.1, HF.out.2.1, HF.out.2.2, HA.out.1.2⟩
theorem pot_Add_none {p d : Nat} {name : List UInt8} {h : Nat} {s : ShaS} (w : World) (k : Pt w p d name h s false) (hz : 0 ≤ s.size) (hs : s.size ≤ 1048576) :
    Calls Tryz.prog 53 #[.pointer (some ⟨p, 0, none⟩), .string (S [])] w fun e w' => e = .returned (.int .i64 0) ∧ Keep [] w w' := by
  have HST := Lib.hid (pot_state w k); have c2 := k.blk.get (k := 2) rfl; have HLN := Lib.hid (sha_Len h s w k.sha.sh); have hsz := S_size []; have q1 : (S []).toList.isEmpty = true := by rw [S_toList]; rfl
  have wk := IntWalk.i64_in (1048576 - s.size) (by omega); have f1 : decide (1048576 - s.size < 0) = false := decide_eq_false (by omega); clear k; go_enter Tryz.func53, Tryz.ntmps53; go_wp2_with fail; refine HST.out.mono ?_; rintro e we ⟨rfl, rfl⟩; go_wp2_with fail; refine HLN.out.mono ?_; rintro e we ⟨rfl, rfl⟩; go_wp2_with fail; go_ret; exact ⟨rfl, Keep.refl _ _⟩
theorem pot_Commit {S0 : List Nat} {p d : Nat} {name : List UInt8} {h : Nat} {s : ShaS} (K Km K' : Dsk) (dg : Dig) (w : World) (k : Pt w p d name h s false) (hp : Pk S0 w d K) (hG : GP S0 w) (h1 : p ∉ S0) (h2 : h ∉ S0) (hz : 0 ≤ s.size) (hd : shaSum s = dg) (hy : syncD name K = some Km) (hc : renameD name (fileM dg.1) Km = some K') :
    Calls Tryz.prog 112 #[.pointer (some ⟨p, 0, none⟩), .agg (digC dg).toArray] w fun e w' => e = .returned (.int .i64 0) ∧ ∃ S', Pk S' w' d K' ∧ Pt w' p d name h s true ∧ Grow (p :: S0) w (p :: S') w' ∧ p ∉ S' ∧ h ∉ S' := by
  have HG := Lib.hid (fun S' w' (g : Grow (cutS S0 w) w S' w') => g.uncut); have hpc := hp.cut; have HT := Lib.hid (show ∀ x ∈ cutS S0 w, x ∈ S0 ∧ x < w.heap.size from fun x hx => mem_cutS.1 hx); generalize cutS S0 w = T at hpc HT HG; have k1 := (Keep.refl [] w).alloc (.cells (digC dg).toArray 25); have b1 := Blk.new w (digC dg) 25; have kt1 := k.keep0 k1; have HFI := Lib.hid (fun w' => stamp_File dg w'); have HSM := Lib.hid (fun w' (k' : Keep [] w w') => pot_Sum w' (k.keep0 k') hz); rw [hd] at HSM; have hq := fun w => eqDig dg dg w
  rw [decide_eq_true rfl] at hq; have hdl := digC_length dg; obtain ⟨n, hn⟩ : ∃ n, w.heap.size = n := ⟨_, rfl⟩
  rw [hn] at b1; have HRN := Lib.hid (fun (S0 : List Nat) w' (p : Pk S0 w' d Km) => plank_Rename d Km K' name (fileM dg.1) w' p hc); have hlt := And.intro k.blk.lt k.sha.sh.1.lt; have HGR := Lib.hid (fun S' w' (g : Grow S0 w S' w') => show (Pt w' p d name h s false ∧ p ∉ S' ∧ h ∉ S') ∧ GP S' w' from ⟨k.grow g hG h1 h2, hG.grow g⟩); have HPT := Lib.hid k; generalize digC dg = DC at *; generalize fileM dg.1 = FN at *; have HDL := Lib.hid hdl; go_enter Tryz.func112, Tryz.ntmps112
  go_upto_region 1 with fail
  (try simp only [hn]); generalize w.alloc (.cells DC.toArray 25) = w1 at k1 b1 kt1 ⊢; have HST := Lib.hid (pot_state w1 kt1); have HR := Lib.hid (show ∀ w', Keep T w1 w' → w'.rangeAt n 0 DC from fun w' k => (k.blk b1 (fun hm => by have := (HT.out n hm).2; omega)).rng); have HNT := Lib.hid (show n ∉ T ∧ n < w1.heap.size ∧ Blk w1 n 25 DC from ⟨fun hm => by have := (HT.out n hm).2; omega, b1.lt, b1⟩); have HSY := Lib.hid (fun w' (k : Keep [] w1 w') => plank_Sync d K Km name w' ((hpc.keep0 k1).keep0 k) hy); have K1 := Lib.hid k1; have HPC := Lib.hid kt1; have HNN := Lib.hid hn; clear k hp hG h1 h2 hd hy hc hpc k1 b1 kt1 hn hlt hdl; go_wp2_with fail; refine HST.out.mono ?_; rintro e we ⟨rfl, rfl⟩
  go_upto_region 4 with fail
  refine wp_region_held_drew (S := fun w' => Keep [] w1 w') (by kernel_rfl) ((Keep.refl _ _).drew) (fun hHeld => ?_); refine gW 0 ?_; (try simp only [sq]); refine gZ 2 n 0 (DC) (fun w' hSw => HR.out w' (hSw.mono (by simp))) (by rw [HDL.out]; kernel_rfl) ?_; (try simp only [sq]); refine gR 1 rfl (fun K hK => ?_); go_simp; refine (HSM.out _ ((K1.out).trans hHeld)).mono ?_; rintro e wq ⟨rfl, kq⟩; have hKq := hHeld.trans kq; clear kq; (try go_simp); refine hK.out _ _ (hKq) (fun hHeld => ?_); clear hK K; (try simp only [sq]); refine gW 3 ?_; (try simp only [sq]); refine wpAnyH_done (by kernel_rfl) ?_ _; have KQ := Lib.hid hKq; clear hq
  go_upto_region 6 with fail
  have c0 := (KQ.out.blk HPC.out.blk (by simp)).get (k := 0) rfl; have c1 := (KQ.out.blk HPC.out.blk (by simp)).get (k := 1) rfl; have KD := Lib.hid (KQ.out.drew); clear hKq hHeld HST
  go_cut [6] (fun y wx => y = .int .i64 0 ∧ ∃ S', Pk S' wx d Km ∧ Grow T w1 S' wx)
  case first =>
    go_region_with (first | (go_at_call 136; refine (HSY.out _ KD.out).mono ?_; rintro e w2 ⟨rfl, S2, p2, g2⟩; have HF := Lib.hid (show Pk S2 w2 d Km ∧ Grow T w1 S2 w2 from And.intro p2 (Grow.pre KD.out g2)); clear p2 g2) | fail)
    all_goals
      go_wp2_with fail; go_meet; exact ⟨rfl, _, HF.out⟩
  case rest =>
  obtain ⟨rfl, S2, hp2, hg2⟩ := hcut; have HP2 := Lib.hid (show Pk S2 wc d Km ∧ Grow T w S2 wc from And.intro hp2 (Grow.pre K1.out hg2)); have HA := Lib.hid (HGR.out S2 wc (HG.out S2 wc HP2.out.2))
  have HC2 := Lib.hid (show ∀ w', Keep S2 wc w' → w'.cell? ⟨p, 0, none⟩ = some (.pointer (some ⟨d, 0, none⟩)) ∧ w'.cell? ⟨p, 1, none⟩ = some (.string (S name)) ∧ w'.rangeAt n 0 DC from fun w' k =>
    ⟨(k.blk HA.out.1.1.blk HA.out.1.2.1).get rfl, (k.blk HA.out.1.1.blk HA.out.1.2.1).get rfl, (k.blk (hg2.1.blk HNT.out.2.2 HNT.out.1) (hg2.out' HNT.out.1 HNT.out.2.1)).rng⟩)
  clear hp2 hg2 c0 c1 KD HSY
  go_upto_region 9 with fail
  refine wp_region_held_drew (S := fun w' => Keep S2 wc w') (by kernel_rfl) ((Keep.refl _ _).drew) (fun hHeld => ?_); refine gW 0 ?_; (try simp only [sq]); refine gW 1 ?_; (try simp only [sq]); refine gW 2 ?_; (try simp only [sq]); refine gV 3 (v := ?_) ?_ ?_; rotate_left
  · (intro w' hSw; obtain ⟨c0, c1, _⟩ := HC2.out w' hSw; go_simp) <;> (with_reducible rfl)
  (try simp only [sq]); refine gW 4 ?_; (try simp only [sq]); refine gW 5 ?_; (try simp only [sq]); refine gW 6 ?_; (try simp only [sq]); refine gV 7 (v := ?_) ?_ ?_; rotate_left
  · (intro w' hSw; obtain ⟨c0, c1, _⟩ := HC2.out w' hSw; go_simp) <;> (with_reducible rfl)
  (try simp only [sq]); refine gZ 8 n 0 (DC) (fun w' hSw => (HC2.out w' hSw).2.2) (by rw [HDL.out]; kernel_rfl) ?_; (try simp only [sq]); refine gR 9 rfl (fun K hK => ?_); go_simp; refine (HFI.out _).mono ?_; rintro e wq ⟨rfl, kq⟩; have hKq := hHeld.trans (kq.mono (by simp)); have KQ2 := Lib.hid (((Keep.refl [] wc).drew).trans kq); clear kq; (try go_simp); refine hK.out _ _ (hKq) (fun hHeld => ?_); clear hK K; (try simp only [sq]); refine gR 10 rfl (fun K hK => ?_); go_simp; refine (HRN.out _ _ (HP2.out.1.keep0 KQ2.out)).mono ?_; rintro e w3 ⟨rfl, S3, p3, g3⟩; have hK3 := hKq.trans g3.1; have HF := Lib.hid (And.intro p3 (HP2.out.2.trans (Grow.pre KQ2.out g3))); clear p3 g3; (try go_simp); refine hK.out _ _ (hK3) (fun hHeld => ?_); clear hK K; (try simp only [sq]); refine gW 11 ?_; (try simp only [sq]); refine wpAnyH_done (by kernel_rfl) ?_ _; have HA3 := Lib.hid (HGR.out S3 w3 (HG.out S3 w3 HF.out.2)); have f3 := HA3.out.1.1.blk.frozen 3; have c3 := HA3.out.1.1.blk.get (k := 3) rfl; have HB3 := Lib.hid (HA3.out.1.1.blk.set 3 (.bool true)); have HK3 := Lib.hid (show Keep [p] w3 (w3.setCell ⟨p, 3, none⟩ (.bool true)) from (Keep.refl _ _).setCell _ _ (by simp)); clear hKq hK3; go_wp2_with fail; go_ret
  exact ⟨rfl, S3, HF.out.1.keep HK3.out (fun x hx => by simp; rintro rfl; exact HA3.out.1.2.1 hx),
    ⟨HB3.out, HA3.out.1.1.sha.keep HK3.out (by simp; exact Ne.symm HPT.out.ne) (HA3.out.2.1.keep HK3.out (by simp; exact HPT.out.ng.1)).2.1, HPT.out.ne, HPT.out.ng⟩,
    ((HG.out S3 w3 HF.out.2).wid p).trans (Grow.own HK3.out), HA3.out.1.2⟩
def tmpN : List UInt8 := [116, 101, 109, 112, 45, 49]
theorem larder_Start {S0 : List Nat} (r d : Nat) (K K' : Dsk) (w : World) (hl : Ld w r d) (hp : Pk S0 w d K) (hG : GP S0 w) (hr : r ∉ S0) (hoff : K.off = false) (hsz : sizeD tmpN K < 0) (hc : createD tmpN K = some K') :
    Calls Tryz.prog 52 #[.pointer (some ⟨r, 0, none⟩)] w fun e w' => ∃ p h S', e = .returned (.tuple #[.pointer (some ⟨p, 0, none⟩), .int .i64 0]) ∧ Pk S' w' d K' ∧ Pt w' p d tmpN h shaNew false ∧ Grow S0 w S' w' ∧ p ∉ S' ∧ h ∉ S' ∧ w.heap.size ≤ p ∧ w.heap.size ≤ h := by
  have c0 := hl.get (k := 0) rfl; have HC := Lib.hid (fun w' (k : Keep [] w w') => (k.blk hl (by simp)).get (k := 0) rfl); have HDC := Lib.hid (fun w' (k : Keep [] w w') => hexa_Dec 1 w' ⟨by decide, by decide⟩ (hG.1.2.2.keep0 k)); have hi : Lib.itoa 1 = [49] := by kernel_rfl
  have hcat : (⟨#[116, 101, 109, 112, 45]⟩ : ByteArray) ++ S [49] = S tmpN := S_append [116, 101, 109, 112, 45] [49]; rw [hi] at HDC; have HSZ := Lib.hid (fun w' (k : Keep [] w w') => pk_Size d K tmpN w' (hp.keep0 k) hoff (by decide)); obtain ⟨z, hz⟩ : ∃ z, sizeD tmpN K = z := ⟨_, rfl⟩
  rw [hz] at HSZ hsz; have f1 : decide (0 ≤ z) = false := decide_eq_false (by omega); have HCR := Lib.hid (fun w' (k : Keep [] w w') => plank_Create d K K' tmpN w' (hp.keep0 k) hc); have HGG := Lib.hid (And.intro hG (And.intro hl hr)); have hs1 := S_size [49]; have hs2 := S_size tmpN; obtain ⟨tn, htn⟩ : ∃ t, tmpN = t := ⟨_, rfl⟩
  rw [htn] at hcat HSZ HCR hs2 ⊢; obtain ⟨o1, ho1⟩ : ∃ t, S [49] = t := ⟨_, rfl⟩
  rw [ho1] at hcat HDC hs1; clear hp hc hi hz hsz htn ho1 hG hl hr hoff; go_enter Tryz.func52, Tryz.ntmps52; go_wp2_with fail
  go_loopg [4] 0 (fun g v wr => v = .int .i64 1 ∧ g = 0 ∧ Hid (Keep [] w wr))
  case atStart => exact ⟨rfl, rfl, Lib.hid (Keep.refl _ _)⟩
  case round =>
    obtain ⟨rfl, rfl, HK⟩ := hrel; have KD := Lib.hid (HK.out.drew); have c0 := HC.out wr HK.out
    go_upto_region 4 with fail
    go_cut [17] (fun y wx => y = .bool false ∧ Hid (Keep [] w wx))
    case first =>
      go_region_with (first | (go_at_call 102; refine (HDC.out _ KD.out).mono ?_; rintro e w2 ⟨rfl, k2⟩; have K2 := Lib.hid (KD.out.trans k2); have c2 := HC.out w2 K2.out; clear k2) | (go_at_call 84; refine (HSZ.out _ K2.out).mono ?_; rintro e w3 ⟨rfl, k3⟩; have K3 := Lib.hid (K2.out.trans k3); clear k3) | fail)
      all_goals
        go_wp2_with fail; go_meet; exact ⟨rfl, Lib.hid K3.out⟩
    case rest =>
    obtain ⟨rfl, KX⟩ := hcut; clear c0 KD HK; have c0 := HC.out wc KX.out; go_wp2_with fail; refine (HDC.out _ KX.out).mono ?_; rintro e w2 ⟨rfl, k2⟩; have K2 := Lib.hid (KX.out.trans k2); clear k2 c0; have c0 := HC.out w2 K2.out; go_wp2_with fail; refine (HCR.out _ K2.out).mono ?_; rintro e w3 ⟨rfl, S3, p3, g3⟩; have HP3 := Lib.hid (show Pk S3 w3 d K' ∧ Grow S0 w S3 w3 from And.intro p3 (Grow.pre K2.out g3)); have HL3 := Lib.hid (show Ld w3 r d ∧ GP S3 w3 from ⟨HP3.out.2.1.blk HGG.out.2.1 HGG.out.2.2, HGG.out.1.grow HP3.out.2⟩); clear p3 g3 c0; have c0 := HL3.out.1.get (k := 0) rfl
    go_upto_region 10 with fail
    have KD := Lib.hid ((Keep.refl [] w3).drew); have HNW := Lib.hid (sha_New w3.drew (HL3.out.2.1.2.1.keep0 KD.out)); have HCC := Lib.hid (show Pk (cutS S3 w3) w3 d K' ∧ Grow S0 w (cutS S3 w3) w3 ∧ ∀ x ∈ cutS S3 w3, x < w3.heap.size from ⟨HP3.out.1.cut, HP3.out.2.cut, fun x hx => (mem_cutS.1 hx).2⟩); have HZ := Lib.hid (show w.heap.size ≤ w3.heap.size from HP3.out.2.1.size); have HFR := Lib.hid (fun b (hb : w3.heap.size ≤ b) => HL3.out.2.1.fresh hb); clear HP3; generalize cutS S3 w3 = T at HCC
    go_region_with (first | (go_at_call 104; refine HNW.out.mono ?_; rintro e w4 ⟨rfl, s4, k4, z4⟩; have HS4 := Lib.hid (show Sh w4 w3.heap.size shaNew ∧ Keep [] w3 w4 ∧ w4.heap.size = w3.heap.size + 1 from ⟨s4, KD.out.trans k4, z4⟩); clear s4 k4 z4; have c4 := (HS4.out.2.1.blk HL3.out.1 (by simp)).get (k := 0) rfl) | fail)
    all_goals
      go_wp2_with fail; go_ret2; have k5 : Keep [] w4 (w4.alloc (.cells #[.pointer (some ⟨d, 0, none⟩), .string (S tn), .pointer (some ⟨w3.heap.size, 0, none⟩), .bool false] 171)) := (Keep.refl _ _).alloc _; have kz := HS4.out.2.1.trans k5; have hz4 := HS4.out.2.2; refine ⟨w4.heap.size, w3.heap.size, T, rfl, HCC.out.1.keep0 kz, ⟨Blk.newA w4 _ _, ⟨HS4.out.1.keep k5 (by simp), (HL3.out.2.1.2.1.keep0 kz), ?_, by decide⟩, by omega, HFR.out _ (by omega), HFR.out _ (Nat.le_refl _)⟩, HCC.out.2.1.then kz, fun hm => ?_, fun hm => ?_, ?_, ?_⟩
      · have := HFR.out w3.heap.size (Nat.le_refl _); unfold isG at this; exact ⟨fun h => this (.inr (.inl h)), fun h => this (.inr (.inr (.inl h)))⟩
      · have := HCC.out.2.2 _ hm; omega
      · have := HCC.out.2.2 _ hm; omega
      · have := HZ.out; omega
      · exact HZ.out
end Go.Proofs.YtkghgaopcgcheaaGreatDoor
