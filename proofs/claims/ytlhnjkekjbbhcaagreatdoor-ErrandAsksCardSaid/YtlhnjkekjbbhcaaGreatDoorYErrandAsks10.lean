/- Parts of the proof of ErrandAsks, in order. No conditions but those that each theorem states. -/
import Derived.Test.YtlhnjkekjbbhcaaGreatDoorYErrandAsks0
import Derived.Lib.BufferWrite
import Derived.Test.YtlhnjkekjbbhcaaGreatDoorYErrandAsks9
set_option linter.unusedSimpArgs false
set_option linter.unusedVariables false
namespace Go.Proofs.YtlhnjkekjbbhcaaGreatDoor
open Go.RowKit Go.Shelf
def zeroD : Dig := ⟨List.replicate 32 0, by simp⟩
def pfxD : List UInt8 := [115, 104, 97, 50, 53, 54, 58]
def digO (l : List UInt8) : Option Dig := if h : l.length = 32 then some ⟨l, h⟩ else none
def behindO (s : List UInt8) : Option Dig := if Lib.hasPrefix s pfxD then (unhexM (s.drop 7)).bind digO else none
def digOut (o : Option Dig) : Ending := .returned (.tuple #[.agg (digC (o.getD zeroD)).toArray, .bool o.isSome])
theorem dig_one (d : Dig) : ∀ v ∈ digC d, v.oneCell' = true := by
  intro v hv; simp only [digC, List.mem_map] at hv; obtain ⟨b, _, rfl⟩ := hv; rfl
theorem dig_st (d : Dig) : (Tryz.prog.info? 23).map (·.size) = some (digC d).toArray.size ∧ (digC d).toArray.all (·.oneCell') = true := ⟨by rw [List.size_toArray]; exact dig_size d, all_oneCell_toArray (dig_one d)⟩
theorem dig_load {w : World} {b : Nat} {d : Dig} (h : w.rangeAt b 0 (digC d)) : (loadVar 23 ⟨b, 0, none⟩).run Tryz.prog w = .ok (.agg (digC d).toArray) w :=
  run_loadVar_mid (P := Tryz.prog) w b 0 23 (digC d) _ h Tryz.underlying23 rfl (dig_size d)
theorem digC_zero : digC zeroD = [.int .u8 0, .int .u8 0, .int .u8 0, .int .u8 0, .int .u8 0, .int .u8 0, .int .u8 0, .int .u8 0, .int .u8 0, .int .u8 0, .int .u8 0, .int .u8 0, .int .u8 0, .int .u8 0, .int .u8 0, .int .u8 0, .int .u8 0, .int .u8 0, .int .u8 0, .int .u8 0, .int .u8 0, .int .u8 0, .int .u8 0, .int .u8 0, .int .u8 0, .int .u8 0, .int .u8 0, .int .u8 0, .int .u8 0, .int .u8 0, .int .u8 0, .int .u8 0] := rfl
set_option maxRecDepth 100000 in
set_option maxHeartbeats 2000000 in
theorem stamp_behind (s : List UInt8) (w : World) (hs : s.length ≤ 1048576) :
    Calls Tryz.prog 170 #[.string (S s), .string ⟨#[115, 104, 97, 50, 53, 54, 58]⟩] w fun e w' => e = digOut (behindO s) ∧ Keep [] w w' := by
  have hBO : behindO s = if Lib.hasPrefix s pfxD then (unhexM (s.drop 7)).bind digO else none := rfl
  have HBO := Lib.hid hBO; have kA := (Keep.refl [] w).alloc (.cells (digC zeroD).toArray 23); have bA := Blk.newA w (digC zeroD).toArray 23; have szA : w.heap.size < (w.alloc (.cells (digC zeroD).toArray 23)).heap.size := by simp
  have hcp : ∀ w', Calls Tryz.prog 74 #[.string (S s), .string ⟨#[115, 104, 97, 50, 53, 54, 58]⟩] w' fun e w1 => e = .returned (.tuple #[.string (S (Lib.trimPrefix s pfxD)), .bool (Lib.hasPrefix s pfxD)]) ∧ w1 = w' := fun w' => by
    have := Tryz.strings_CutPrefix (S s) ⟨#[115, 104, 97, 50, 53, 54, 58]⟩ w'; rw [S_list] at this; exact this
  clear hBO; rw [digC_zero] at kA bA szA; generalize hwA : w.alloc (.cells [.int .u8 0, .int .u8 0, .int .u8 0, .int .u8 0, .int .u8 0, .int .u8 0, .int .u8 0, .int .u8 0, .int .u8 0, .int .u8 0, .int .u8 0, .int .u8 0, .int .u8 0, .int .u8 0, .int .u8 0, .int .u8 0, .int .u8 0, .int .u8 0, .int .u8 0, .int .u8 0, .int .u8 0, .int .u8 0, .int .u8 0, .int .u8 0, .int .u8 0, .int .u8 0, .int .u8 0, .int .u8 0, .int .u8 0, .int .u8 0, .int .u8 0, .int .u8 0].toArray 23) = wA at kA bA szA; have bA : Blk wA w.heap.size 23 (digC zeroD) := bA; have KA := Lib.hid kA; have BA := Lib.hid bA; have SZ := Lib.hid szA; have HS0 := Lib.hid (dig_st zeroD); have HDS := Lib.hid (dig_size zeroD); have HLZ := Lib.hid (fun w' b (h : w'.there b 0 32) => dig_load (World.rangeAt_setCells_same w' b 0 (digC zeroD) (by rw [digC_length]; exact h))); have KZ := Lib.hid (show Keep [] w (wA.setCells w.heap.size 0 (digC zeroD)) from Keep.setCells' _ (fun hh => absurd hh (by omega)) _ _ _ KA.out); clear kA bA szA; have hwA2 : w.alloc (.cells #[.int .u8 0, .int .u8 0, .int .u8 0, .int .u8 0, .int .u8 0, .int .u8 0, .int .u8 0, .int .u8 0, .int .u8 0, .int .u8 0, .int .u8 0, .int .u8 0, .int .u8 0, .int .u8 0, .int .u8 0, .int .u8 0, .int .u8 0, .int .u8 0, .int .u8 0, .int .u8 0, .int .u8 0, .int .u8 0, .int .u8 0, .int .u8 0, .int .u8 0, .int .u8 0, .int .u8 0, .int .u8 0, .int .u8 0, .int .u8 0, .int .u8 0, .int .u8 0] 23) = wA := hwA; clear hwA
  cases hp : Lib.hasPrefix s pfxD with
  | false =>
    have htp : Lib.trimPrefix s pfxD = s := by unfold Lib.trimPrefix; rw [hp]; rfl
    have HR := Lib.hid (show behindO s = none by rw [HBO.out, hp]; rfl); rw [htp, hp] at hcp; have HCP := Lib.hid hcp; clear hp htp hcp HBO; go_enter Tryz.func170, Tryz.ntmps170
    go_wp2_with (first | (go_at_call 74; refine (HCP.out _).mono ?_; rintro e w1 ⟨rfl, h1⟩; have h1 := h1.symm; subst h1) | ((with_reducible refine gM 4 ?_); refine wpList_load_mid rfl 23 (.tmp 4) rfl w.heap.size 0 (by rfl) (digC zeroD) _ BA.out.range' Tryz.underlying23 rfl HDS.out ?_; try simp only [Act.put, sqA, sqB, sqC]) | ((with_reducible refine gS 4 18 ?_); refine wpList_store_mid rfl 23 (.tmp 4) (.tmp 18) rfl w.heap.size 0 (digC zeroD).toArray (by rfl) (by first | rfl | kernel_rfl) (BA.out.there' 0 32 (by rw [digC_length]; exact Nat.le_refl _)) HS0.out.1 HS0.out.2 ?_; try simp only [Act.put]) | fail); have hload := HLZ.out wA w.heap.size (BA.out.there' 0 32 (by rw [digC_length]; exact Nat.le_refl _)); rw [HR.out]; refine bodyPost_ret (v := .tuple #[.agg (digC zeroD).toArray, .bool false]) (by simp [results, Tryz.results170, asAddr, Result.andThen, hload]) rfl ⟨rfl, KZ.out⟩
  | true =>
    have htp : Lib.trimPrefix s pfxD = s.drop 7 := by unfold Lib.trimPrefix; rw [hp]; rfl
    have HR0 := Lib.hid (show behindO s = (unhexM (s.drop 7)).bind digO by rw [HBO.out, hp]; rfl); rw [htp, hp] at hcp; have HCP := Lib.hid hcp; clear hp htp hcp HBO; have hdl : (s.drop 7).length ≤ 1048576 := by rw [List.length_drop]; omega
    generalize s.drop 7 = r at *; have HU0 := fun w' => hexa_Unhex r w' hdl
    cases hu : unhexM r with
    | none =>
      have HR := Lib.hid (show behindO s = none by rw [HR0.out, hu]; rfl); have HU := Lib.hid (fun w' => show Calls Tryz.prog 206 #[.string (S r)] w' fun e w1 => e = .returned (.tuple #[.string (S []), .int .i64 3]) ∧ Keep [] w' w1 by have := HU0 w'; rw [hu] at this; exact this); clear hu HU0 HR0; go_enter Tryz.func170, Tryz.ntmps170
      go_wp2_with (first | (go_at_call 74; refine (HCP.out _).mono ?_; rintro e w1 ⟨rfl, h1⟩; have h1 := h1.symm; subst h1) | fail); refine (HU.out _).mono ?_; rintro e w2 ⟨rfl, k2⟩; have K2 := Lib.hid (KA.out.trans k2); have BA2 := Lib.hid (k2.blk BA.out (by simp)); have KZ2 := Lib.hid (show Keep [] w (w2.setCells w.heap.size 0 (digC zeroD)) from Keep.setCells' _ (fun hh => absurd hh (by omega)) _ _ _ K2.out); clear k2 hwA2
      go_wp2_with (first | ((with_reducible refine gM 4 ?_); refine wpList_load_mid rfl 23 (.tmp 4) rfl w.heap.size 0 (by rfl) (digC zeroD) _ BA2.out.range' Tryz.underlying23 rfl HDS.out ?_; try simp only [Act.put, sqA, sqB, sqC]) | ((with_reducible refine gS 4 31 ?_); refine wpList_store_mid rfl 23 (.tmp 4) (.tmp 31) rfl w.heap.size 0 (digC zeroD).toArray (by rfl) (by first | rfl | kernel_rfl) (BA2.out.there' 0 32 (by rw [digC_length]; exact Nat.le_refl _)) HS0.out.1 HS0.out.2 ?_; try simp only [Act.put]) | fail); have hload := HLZ.out w2 w.heap.size (BA2.out.there' 0 32 (by rw [digC_length]; exact Nat.le_refl _)); rw [HR.out]; refine bodyPost_ret (v := .tuple #[.agg (digC zeroD).toArray, .bool false]) (by simp [results, Tryz.results170, asAddr, Result.andThen, hload]) rfl ⟨rfl, KZ2.out⟩
    | some o =>
      have HU := Lib.hid (fun w' => show Calls Tryz.prog 206 #[.string (S r)] w' fun e w1 => e = .returned (.tuple #[.string (S o), .int .i64 0]) ∧ Keep [] w' w1 by have := HU0 w'; rw [hu] at this; exact this); have sO := S_size o; by_cases hl : o.length = 32
      · obtain ⟨d, rfl⟩ : ∃ d : Dig, o = d.1 := ⟨⟨o, hl⟩, rfl⟩
        have HR := Lib.hid (show behindO s = some d by rw [HR0.out, hu]; show digO d.1 = _; unfold digO; rw [dif_pos d.2]); have sO : (S d.1).size = 32 := by rw [sO, d.2]
        clear hu HU0 HR0 hl; go_enter Tryz.func170, Tryz.ntmps170
        go_wp2_with (first | (go_at_call 74; refine (HCP.out _).mono ?_; rintro e w1 ⟨rfl, h1⟩; have h1 := h1.symm; subst h1) | fail); refine (HU.out _).mono ?_; rintro e w2 ⟨rfl, k2⟩; have K2 := Lib.hid (KA.out.trans k2); have BA2 := Lib.hid (k2.blk BA.out (by simp)); clear k2 hwA2
        have hrow : (List.take 0 (digC zeroD).toArray.toList ++ Lib.byteCells (S d.1).data.toList ++ List.drop (0 + (S d.1).size) (digC zeroD).toArray.toList).toArray = (digC d).toArray := by
          rw [sO, S_list, List.take_zero, List.nil_append, List.drop_of_length_le (by simp [digC_length]), List.append_nil]; rfl
        have hcpy := Lib.run_copy_row_string (P := Tryz.prog) w2 143 9 3 5 w.heap.size 0 32 32 (S d.1) (digC zeroD).toArray 23 Tryz.underlying143 (by kernel_rfl) BA2.out (by rw [sO]; exact Nat.le_refl _) (by rw [sO]; simp [digC_length]); rw [hrow] at hcpy; have hbrow : Blk (w2.setRow w.heap.size (digC d).toArray) w.heap.size 23 (digC d) := setRow_heap w2 w.heap.size _ _ _ _ BA2.out; have krow : Keep [] w (w2.setRow w.heap.size (digC d).toArray) := K2.out.trans' (show Keep [w.heap.size] w2 _ from ⟨rfl, rfl, rfl, by simp, fun k hk hn => setRow_other w2 w.heap.size k _ (fun h => hn (by simp [h]))⟩) (fun x hx hlt => by have h1 : x = w.heap.size := (by simpa using hx); omega); generalize hw3 : w2.setRow w.heap.size (digC d).toArray = w3 at *; have KZ2 := Lib.hid (show Keep [] w (w3.setCells w.heap.size 0 (digC d)) from Keep.setCells' _ (fun hh => absurd hh (by omega)) _ _ _ krow); have B3 := Lib.hid hbrow; have HSd := Lib.hid (dig_st d); have hload := Lib.hid (dig_load (World.rangeAt_setCells_same w3 w.heap.size 0 (digC d) (by rw [digC_length]; exact B3.out.there' 0 32 (by rw [digC_length]; exact Nat.le_refl _)))); have q1 := (int_eq (show (d.1.length : Int) = 32 by rw [d.2]; rfl)).2; clear hrow hbrow krow hw3
        go_wp2_with (first | ((with_reducible refine gM 4 ?_); refine wpList_load_mid rfl 23 (.tmp 4) rfl w.heap.size 0 (by rfl) (digC d) _ B3.out.range' Tryz.underlying23 rfl (dig_size _) ?_; try simp only [Act.put, sqA, sqB, sqC]) | ((with_reducible refine gS 4 35 ?_); refine wpList_store_mid rfl 23 (.tmp 4) (.tmp 35) rfl w.heap.size 0 (digC d).toArray (by rfl) (by first | rfl | kernel_rfl) (B3.out.there' 0 _ (by simp)) HSd.out.1 HSd.out.2 ?_; try simp only [Act.put]) | fail); rw [HR.out]; refine bodyPost_ret (v := .tuple #[.agg (digC d).toArray, .bool true]) (by simp [results, Tryz.results170, asAddr, Result.andThen, hload.out]) rfl ⟨rfl, KZ2.out⟩
      · have HR := Lib.hid (show behindO s = none by rw [HR0.out, hu]; show digO o = _; unfold digO; rw [dif_neg hl]); have q1 := (int_ne (show (o.length : Int) ≠ 32 by omega)).2; clear hu HU0 HR0 hl; go_enter Tryz.func170, Tryz.ntmps170
        go_wp2_with (first | (go_at_call 74; refine (HCP.out _).mono ?_; rintro e w1 ⟨rfl, h1⟩; have h1 := h1.symm; subst h1) | fail); refine (HU.out _).mono ?_; rintro e w2 ⟨rfl, k2⟩; have K2 := Lib.hid (KA.out.trans k2); have BA2 := Lib.hid (k2.blk BA.out (by simp)); have KZ2 := Lib.hid (show Keep [] w (w2.setCells w.heap.size 0 (digC zeroD)) from Keep.setCells' _ (fun hh => absurd hh (by omega)) _ _ _ K2.out); clear k2 hwA2
        go_wp2_with (first | ((with_reducible refine gM 4 ?_); refine wpList_load_mid rfl 23 (.tmp 4) rfl w.heap.size 0 (by rfl) (digC zeroD) _ BA2.out.range' Tryz.underlying23 rfl HDS.out ?_; try simp only [Act.put, sqA, sqB, sqC]) | ((with_reducible refine gS 4 31 ?_); refine wpList_store_mid rfl 23 (.tmp 4) (.tmp 31) rfl w.heap.size 0 (digC zeroD).toArray (by rfl) (by first | rfl | kernel_rfl) (BA2.out.there' 0 32 (by rw [digC_length]; exact Nat.le_refl _)) HS0.out.1 HS0.out.2 ?_; try simp only [Act.put]) | fail); have hload := HLZ.out w2 w.heap.size (BA2.out.there' 0 32 (by rw [digC_length]; exact Nat.le_refl _)); rw [HR.out]; refine bodyPost_ret (v := .tuple #[.agg (digC zeroD).toArray, .bool false]) (by simp [results, Tryz.results170, asAddr, Result.andThen, hload]) rfl ⟨rfl, KZ2.out⟩
theorem pfx_take {s : List UInt8} : Lib.hasPrefix s pfxD = true ↔ s.take 7 = pfxD := by
  unfold Lib.hasPrefix; rw [List.isPrefixOf_iff_prefix, List.prefix_iff_eq_take]; exact eq_comm
theorem digO_dig (d : Dig) : digO d.1 = some d := by unfold digO; rw [dif_pos d.2]
structure Ky where
  kind : Int
  repo : List UInt8
  tag : List UInt8
  dig : Dig
  blob : Bool
deriving DecidableEq
def Ky.cells (k : Ky) : List Value := [.int .i64 k.kind, .string (S k.repo), .string (S k.tag)] ++ digC k.dig ++ [.bool k.blob]
structure Rt where
  kind : Int
  repo : List UInt8
  tag : List UInt8
  dig : Dig
deriving DecidableEq
def Rt.cells (r : Rt) : List Value := [.int .i64 r.kind, .string (S r.repo), .string (S r.tag)] ++ digC r.dig
structure Tk where
  repo : List UInt8
  tag : List UInt8
  found : Bool
  dig : Dig
  typ : List UInt8
  size : Int
  at_ : Int
deriving DecidableEq
def Tk.cells (t : Tk) : List Value := [.string (S t.repo), .string (S t.tag), .bool t.found] ++ digC t.dig ++ [.string (S t.typ), .int .i64 t.size, .int .i64 t.at_]
structure Rs where
  status : Int
  dig : Dig
  typ : List UInt8
  size : Int
  at_ : Int
deriving DecidableEq
def Rs.cells (r : Rs) : List Value := [.int .i64 r.status] ++ digC r.dig ++ [.string (S r.typ), .int .i64 r.size, .int .i64 r.at_]
theorem Ky.len (k : Ky) : k.cells.length = 36 := by simp [Ky.cells, digC_length]
theorem Rt.len (k : Rt) : k.cells.length = 35 := by simp [Rt.cells, digC_length]
theorem Tk.len (k : Tk) : k.cells.length = 38 := by simp [Tk.cells, digC_length]
theorem Rs.len (k : Rs) : k.cells.length = 36 := by simp [Rs.cells, digC_length]
theorem Ky.at_dig (k : Ky) : ∀ j v, (digC k.dig)[j]? = some v → k.cells[3 + j]? = some v := fun j v hv => by
  have hj : j < 32 := by have := (List.getElem?_eq_some_iff.1 hv).1; rwa [digC_length] at this
  unfold Ky.cells; rw [List.getElem?_append_left (by simp [digC_length]; omega), List.getElem?_append_right (by simp)]; simpa using hv
theorem Ky.at_blob (k : Ky) : k.cells[35]? = some (.bool k.blob) := by
  unfold Ky.cells; rw [List.getElem?_append_right (by simp [digC_length])]; simp [digC_length]
theorem Rt.at_dig (k : Rt) : ∀ j v, (digC k.dig)[j]? = some v → k.cells[3 + j]? = some v := fun j v hv => by
  unfold Rt.cells; rw [List.getElem?_append_right (by simp)]; simpa using hv
theorem Tk.at_dig (k : Tk) : ∀ j v, (digC k.dig)[j]? = some v → k.cells[3 + j]? = some v := fun j v hv => by
  have hj : j < 32 := by have := (List.getElem?_eq_some_iff.1 hv).1; rwa [digC_length] at this
  unfold Tk.cells; rw [List.getElem?_append_left (by simp [digC_length]; omega), List.getElem?_append_right (by simp)]; simpa using hv
theorem Tk.at_typ (k : Tk) : k.cells[35]? = some (.string (S k.typ)) := by
  unfold Tk.cells; rw [List.getElem?_append_right (by simp [digC_length])]; simp [digC_length]
theorem Tk.at_size (k : Tk) : k.cells[36]? = some (.int .i64 k.size) := by
  unfold Tk.cells; rw [List.getElem?_append_right (by simp [digC_length])]; simp [digC_length]
theorem Ky.one (k : Ky) : ∀ v ∈ k.cells, v.oneCell' = true := by
  intro v hv; simp only [Ky.cells, List.mem_append, List.mem_cons, List.not_mem_nil, or_false] at hv; rcases hv with ((rfl | rfl | rfl) | h) | rfl
  · rfl
  · rfl
  · rfl
  · exact dig_one _ v h
  · rfl
theorem Rt.one (k : Rt) : ∀ v ∈ k.cells, v.oneCell' = true := by
  intro v hv; simp only [Rt.cells, List.mem_append, List.mem_cons, List.not_mem_nil, or_false] at hv; rcases hv with (rfl | rfl | rfl) | h
  · rfl
  · rfl
  · rfl
  · exact dig_one _ v h
theorem Rs.one (k : Rs) : ∀ v ∈ k.cells, v.oneCell' = true := by
  intro v hv; simp only [Rs.cells, List.mem_append, List.mem_cons, List.not_mem_nil, or_false] at hv; rcases hv with (rfl | h) | (rfl | rfl | rfl)
  · rfl
  · exact dig_one _ v h
  · rfl
  · rfl
  · rfl
theorem ky_size (k : Ky) : (Tryz.prog.info? 25).map (·.size) = some k.cells.length := by rw [k.len]; kernel_rfl
theorem rt_size (k : Rt) : (Tryz.prog.info? 77).map (·.size) = some k.cells.length := by rw [k.len]; kernel_rfl
theorem tk_size (k : Tk) : (Tryz.prog.info? 27).map (·.size) = some k.cells.length := by rw [k.len]; kernel_rfl
theorem rs_size (k : Rs) : (Tryz.prog.info? 39).map (·.size) = some k.cells.length := by rw [k.len]; kernel_rfl
theorem rt_load {w : World} {b : Nat} {d : Rt} (h : w.rangeAt b 0 d.cells) : (loadVar 77 ⟨b, 0, none⟩).run Tryz.prog w = .ok (.agg d.cells.toArray) w :=
  run_loadVar_mid (P := Tryz.prog) w b 0 77 d.cells _ h Tryz.underlying77 rfl (rt_size d)
theorem rs_load {w : World} {b : Nat} {d : Rs} (h : w.rangeAt b 0 d.cells) : (loadVar 39 ⟨b, 0, none⟩).run Tryz.prog w = .ok (.agg d.cells.toArray) w :=
  run_loadVar_mid (P := Tryz.prog) w b 0 39 d.cells _ h Tryz.underlying39 rfl (rs_size d)
set_option maxRecDepth 100000 in
theorem eqDg (a b : Dig) (w : World) : (Op.equalIn 10000 23 (.agg (digC a).toArray) (.agg (digC b).toArray)).run Tryz.prog w = .ok (decide (a = b)) w := by
  obtain ⟨r, hr, hi⟩ := run_equal_deep w (m := 2) (by omega) (k := 23) (of_decide_eq_true (by kernel_rfl)) (by kernel_rfl) (dig_key a) (dig_key b); have hr' : (Op.equalIn 10000 23 (.agg (digC a).toArray) (.agg (digC b).toArray)).run Tryz.prog w = .ok r w := hr; refine hr'.trans ?_; congr 1; rw [Bool.eq_iff_iff, hi, decide_eq_true_eq]; constructor
  · intro h; exact Subtype.ext (by injection h)
  · rintro rfl; rfl
theorem int_litsK (D : Nat) (n : Int) (hn : -9223372036854775808 ≤ n ∧ n ≤ 9223372036854775807) : Tryz.prog.keyLits (D + 1) 3 [.int .i64 n] = some [.int .i64 n] := by
  unfold Program.keyLits; rw [Tryz.underlying3]
  have : (Lit.int .i64 n).wf = true := by
    simp [Lit.wf, IntKind.min, IntKind.max, IntKind.signed, IntKind.bits]; omega
  simp [this]
theorem str_litsK (D : Nat) (l : List UInt8) (hl : l.length ≤ maxLen) : Tryz.prog.keyLits (D + 1) 9 [.string (S l)] = some [.string l] := by
  unfold Program.keyLits; rw [Tryz.underlying9]; have h1 := S_size l; have h2 : (S l).data.toList = l := rfl; simp [h1, h2, hl]
def goodRt (r : Rt) : Prop := r.repo.length ≤ maxLen ∧ r.tag.length ≤ maxLen ∧ -9223372036854775808 ≤ r.kind ∧ r.kind ≤ 9223372036854775807
def goodRs (r : Rs) : Prop := r.typ.length ≤ maxLen ∧ (-9223372036854775808 ≤ r.status ∧ r.status ≤ 9223372036854775807) ∧ (-9223372036854775808 ≤ r.size ∧ r.size ≤ 9223372036854775807) ∧ (-9223372036854775808 ≤ r.at_ ∧ r.at_ ≤ 9223372036854775807)
def rtLits (r : Rt) : List Lit := [.int .i64 r.kind, .string r.repo, .string r.tag] ++ (r.dig.1.map fun b => .int .u8 (b.toNat : Nat))
def rsLits (r : Rs) : List Lit := [.int .i64 r.status] ++ (r.dig.1.map fun b => .int .u8 (b.toNat : Nat)) ++ [.string r.typ, .int .i64 r.size, .int .i64 r.at_]
theorem digL_inj {a b : Dig} (h : (a.1.map fun b => Lit.int .u8 (b.toNat : Nat)) = b.1.map fun b => Lit.int .u8 (b.toNat : Nat)) : a = b :=
  Subtype.ext (map_inj (fun x y hxy => by simp at hxy; exact UInt8.toNat_inj.1 (by omega)) _ _ h)
theorem rtLits_inj {a b : Rt} (h : rtLits a = rtLits b) : a = b := by
  unfold rtLits at h; obtain ⟨h1, h2⟩ := List.append_inj h rfl; simp at h1; have e := digL_inj h2; cases a; cases b; simp at *; exact ⟨h1.1, h1.2.1, h1.2.2, e⟩
theorem rsLits_inj {a b : Rs} (h : rsLits a = rsLits b) : a = b := by
  unfold rsLits at h; rw [List.append_assoc, List.append_assoc] at h; obtain ⟨h1, h2⟩ := List.append_inj h rfl; obtain ⟨h3, h4⟩ := List.append_inj h2 (by simp [a.dig.2, b.dig.2]); have e := digL_inj h3; simp at h1 h4; cases a; cases b; simp at *; exact ⟨h1, e, h4.1, h4.2.1, h4.2.2⟩
set_option maxRecDepth 100000 in
theorem rt_lits (D : Nat) (r : Rt) (hr : goodRt r) : Tryz.prog.keyLits (D + 3) 77 r.cells = some (rtLits r) := by
  have hc : Tryz.prog.cellsOf 77 = 35 := by kernel_rfl
  have h1 : Tryz.prog.cellsOf 5 = 1 := by kernel_rfl
  have hd : Tryz.prog.cellsOf 23 = 32 := by kernel_rfl
  have hs : Tryz.prog.cellsOf 9 = 1 := by kernel_rfl
  have hi : Tryz.prog.cellsOf 3 = 1 := by kernel_rfl
  have hl := digC_length r.dig
  have p0 : Tryz.prog.keyLits (D + 2) 3 ((r.cells.drop 0).take 1) = some [.int .i64 r.kind] := by
    have e : (r.cells.drop 0).take 1 = [.int .i64 r.kind] := rfl; rw [e]; exact int_litsK _ _ hr.2.2
  have p1 : Tryz.prog.keyLits (D + 2) 9 ((r.cells.drop 1).take 1) = some [.string r.repo] := by
    have e : (r.cells.drop 1).take 1 = [.string (S r.repo)] := rfl; rw [e]; exact str_litsK _ _ hr.1
  have p2 : Tryz.prog.keyLits (D + 2) 9 ((r.cells.drop 2).take 1) = some [.string r.tag] := by
    have e : (r.cells.drop 2).take 1 = [.string (S r.tag)] := rfl; rw [e]; exact str_litsK _ _ hr.2.1
  have p3 : Tryz.prog.keyLits (D + 2) 23 ((r.cells.drop 3).take 32) = some (r.dig.1.map fun b => .int .u8 (b.toNat : Nat)) := by
    have e : (r.cells.drop 3).take 32 = r.dig.1.map fun b => Value.int .u8 (b.toNat : Nat) := by
      show (digC r.dig).take 32 = _; rw [List.take_of_length_le (by rw [hl]; exact Nat.le_refl _)]; rfl
    rw [e]; exact keyLits_bytes Tryz.underlying23 Tryz.underlying5 h1 hd D r.dig.1 r.dig.2
  unfold Program.keyLits; rw [Tryz.underlying77]; simp only; rw [if_pos ⟨by rw [hc]; exact r.len, by kernel_rfl⟩]; simp only [List.mapM_cons, List.mapM_nil, hd, hs, hi, p0, p1, p2, p3]; simp [rtLits]
set_option maxRecDepth 100000 in
theorem rs_lits (D : Nat) (r : Rs) (hr : goodRs r) : Tryz.prog.keyLits (D + 3) 39 r.cells = some (rsLits r) := by
  have hc : Tryz.prog.cellsOf 39 = 36 := by kernel_rfl
  have h1 : Tryz.prog.cellsOf 5 = 1 := by kernel_rfl
  have hd : Tryz.prog.cellsOf 23 = 32 := by kernel_rfl
  have hs : Tryz.prog.cellsOf 9 = 1 := by kernel_rfl
  have hi : Tryz.prog.cellsOf 3 = 1 := by kernel_rfl
  have hl := digC_length r.dig
  have p0 : Tryz.prog.keyLits (D + 2) 3 ((r.cells.drop 0).take 1) = some [.int .i64 r.status] := by
    have e : (r.cells.drop 0).take 1 = [.int .i64 r.status] := rfl; rw [e]; exact int_litsK _ _ hr.2.1
  have p1 : Tryz.prog.keyLits (D + 2) 23 ((r.cells.drop 1).take 32) = some (r.dig.1.map fun b => .int .u8 (b.toNat : Nat)) := by
    have e : (r.cells.drop 1).take 32 = r.dig.1.map fun b => Value.int .u8 (b.toNat : Nat) := by
      show (digC r.dig ++ _).take 32 = _; rw [List.take_left' hl]; rfl
    rw [e]; exact keyLits_bytes Tryz.underlying23 Tryz.underlying5 h1 hd D r.dig.1 r.dig.2
  have ed : r.cells.drop 33 = [.string (S r.typ), .int .i64 r.size, .int .i64 r.at_] := by
    show (digC r.dig ++ _).drop 32 = _; rw [List.drop_left' hl]
  have p2 : Tryz.prog.keyLits (D + 2) 9 ((r.cells.drop 33).take 1) = some [.string r.typ] := by
    rw [ed]; exact str_litsK _ _ hr.1
  have p3 : Tryz.prog.keyLits (D + 2) 3 ((r.cells.drop 34).take 1) = some [.int .i64 r.size] := by
    have e : (r.cells.drop 34).take 1 = [.int .i64 r.size] := by rw [show 34 = 33 + 1 from rfl, ← List.drop_drop, ed]; rfl
    rw [e]; exact int_litsK _ _ hr.2.2.1
  have p4 : Tryz.prog.keyLits (D + 2) 3 ((r.cells.drop 35).take 1) = some [.int .i64 r.at_] := by
    have e : (r.cells.drop 35).take 1 = [.int .i64 r.at_] := by rw [show 35 = 33 + 2 from rfl, ← List.drop_drop, ed]; rfl
    rw [e]; exact int_litsK _ _ hr.2.2.2
  unfold Program.keyLits; rw [Tryz.underlying39]; simp only; rw [if_pos ⟨by rw [hc]; exact r.len, by kernel_rfl⟩]; simp only [List.mapM_cons, List.mapM_nil, hd, hs, hi, p0, p1, p2, p3, p4]; rfl
set_option maxRecDepth 100000 in
theorem eqRt (a b : Rt) (ha : goodRt a) (hb : goodRt b) (w : World) : (Op.equalIn 10000 77 (.agg a.cells.toArray) (.agg b.cells.toArray)).run Tryz.prog w = .ok (decide (a = b)) w := by
  have hc : Tryz.prog.cellsOf 77 = 35 := by kernel_rfl
  have hf : ∀ j : Rt, Value.formed Tryz.prog 77 (.agg j.cells.toArray) = true := fun j => by
    unfold Value.formed; rw [Tryz.underlying77]; simp [hc, Rt.len]
  obtain ⟨r, hr, hi⟩ := run_equalIn_deep (P := Tryz.prog) 9997 3 77 (of_decide_eq_true (by kernel_rfl)) w 3 3 (.agg a.cells.toArray) (.agg b.cells.toArray) (rtLits a) (rtLits b) (hf a) (hf b) (rt_lits 0 a ha) (rt_lits 0 b hb); refine (show (Op.equalIn 10000 77 (.agg a.cells.toArray) (.agg b.cells.toArray)).run Tryz.prog w = .ok r w from hr).trans ?_; congr 1; rw [Bool.eq_iff_iff, hi, decide_eq_true_eq]; exact ⟨rtLits_inj, fun e => by rw [e]⟩
set_option maxRecDepth 100000 in
theorem eqRs (a b : Rs) (ha : goodRs a) (hb : goodRs b) (w : World) : (Op.equalIn 10000 39 (.agg a.cells.toArray) (.agg b.cells.toArray)).run Tryz.prog w = .ok (decide (a = b)) w := by
  have hc : Tryz.prog.cellsOf 39 = 36 := by kernel_rfl
  have hf : ∀ j : Rs, Value.formed Tryz.prog 39 (.agg j.cells.toArray) = true := fun j => by
    unfold Value.formed; rw [Tryz.underlying39]; simp [hc, Rs.len]
  obtain ⟨r, hr, hi⟩ := run_equalIn_deep (P := Tryz.prog) 9997 3 39 (of_decide_eq_true (by kernel_rfl)) w 3 3 (.agg a.cells.toArray) (.agg b.cells.toArray) (rsLits a) (rsLits b) (hf a) (hf b) (rs_lits 0 a ha) (rs_lits 0 b hb); refine (show (Op.equalIn 10000 39 (.agg a.cells.toArray) (.agg b.cells.toArray)).run Tryz.prog w = .ok r w from hr).trans ?_; congr 1; rw [Bool.eq_iff_iff, hi, decide_eq_true_eq]; exact ⟨rsLits_inj, fun e => by rw [e]⟩
end Go.Proofs.YtlhnjkekjbbhcaaGreatDoor
