/- Parts of the proof of ErrandGets, in order. No conditions but those that each theorem states. -/
import Derived.Test.YtlhnjkekjbbhcaaGreatDoorYErrandGets0
import Derived.Maps.OwnOps
import Derived.Maps.OwnSet
import Derived.DeepKeys4
import Derived.Deep.MidRow
import Derived.Deep.WholeRow
import Derived.Deep.RegionHeld3
import Derived.Deep.Cut
import Derived.Deep.CutRange
import Derived.Deep.DeepCutAuto
import Derived.Deep.LoopGhost
import Derived.Lib.BufferWrite
import Derived.Test.YtlhnjkekjbbhcaaGreatDoorYErrandGets14
import Derived.Test.YtlhnjkekjbbhcaaGreatDoorYErrandGets20
set_option linter.unusedSimpArgs false
set_option linter.unusedVariables false
namespace Go.Proofs.YtlhnjkekjbbhcaaGreatDoor
open Go.RowKit Go.Maps
abbrev Dig := { l : List UInt8 // l.length = 32 }
instance : Inhabited Dig := ⟨⟨List.replicate 32 0, by simp⟩⟩
def digC (d : Dig) : List Value := d.1.map fun b => .int .u8 (b.toNat : Nat)
theorem digC_length (d : Dig) : (digC d).length = 32 := by simp [digC, d.2]
theorem map_inj {α β : Type} {f : α → β} (hf : ∀ x y, f x = f y → x = y) : ∀ (a b : List α), a.map f = b.map f → a = b
  | [], [], _ => rfl
  | [], y :: s, h => by simp at h
  | x :: r, [], h => by simp at h
  | x :: r, y :: s, h => by
    simp only [List.map_cons, List.cons.injEq] at h; rw [hf x y h.1, map_inj hf r s h.2]
theorem flatten_one {α β : Type} (f : α → β) : ∀ l : List α, (l.map fun x => [f x]).flatten = l.map f
  | [] => rfl
  | x :: r => by simp [flatten_one f r]
theorem range_map {α : Type} (l : List UInt8) (f : UInt8 → α) : (List.range l.length).map (fun i => f (l.getD i 0)) = l.map f := by
  apply List.ext_getElem?; intro j; by_cases h : j < l.length
  · simp [h, List.getD]
  · simp [h]
theorem mapM_some {α β : Type} (f : α → Option β) (h : α → β) : ∀ (l : List α), (∀ x ∈ l, f x = some (h x)) → l.mapM f = some (l.map h)
  | [], _ => rfl
  | x :: r, hx => by
    rw [List.mapM_cons, hx x (by simp), mapM_some f h r (fun y hy => hx y (by simp [hy]))]; rfl
theorem keyLits_bytes {P : Program} {t e : TypeId} {n : Nat} (ht : P.underlying t = some (.array n e)) (he : P.underlying e = some (.int .u8)) (hce : P.cellsOf e = 1) (hct : P.cellsOf t = n) (D : Nat) (l : List UInt8) (hl : l.length = n) :
    P.keyLits (D + 2) t (l.map fun b => .int .u8 (b.toNat : Nat)) = some (l.map fun b => .int .u8 (b.toNat : Nat)) := by
  have h1 : ∀ i ∈ List.range n, P.keyLits (D + 1) e (((l.map fun b => Value.int .u8 (b.toNat : Nat)).drop (i * P.cellsOf e)).take (P.cellsOf e)) = some [Lit.int .u8 ((l.getD i 0).toNat : Nat)] := fun i hi => by
    have hlt : i < l.length := by rw [hl]; exact List.mem_range.1 hi
    rw [hce, Nat.mul_one]
    have e1 : ((l.map fun b => Value.int .u8 (b.toNat : Nat)).drop i).take 1 = [Value.int .u8 ((l.getD i 0).toNat : Nat)] := by
      rw [← List.map_drop, ← List.map_take, List.drop_eq_getElem_cons hlt]; have e2 : l.getD i 0 = l[i] := by simp [List.getD, hlt]
      rw [e2]; rfl
    rw [e1]; unfold Program.keyLits; rw [he]; generalize l.getD i 0 = c; have := u8_nat c; have hw : (Lit.int .u8 (c.toNat : Nat)).wf = true := by simp [Lit.wf, IntKind.min, IntKind.max, IntKind.signed, IntKind.bits]; omega
    simp [hw]
  unfold Program.keyLits; rw [ht]; simp only; rw [if_pos (by rw [hct]; simp [hl]), mapM_some _ _ _ h1]; simp only [Option.map_some]; rw [flatten_one (fun i => Lit.int .u8 ((l.getD i 0).toNat : Nat)), ← hl]; exact congrArg some (range_map l (fun b => Lit.int .u8 (b.toNat : Nat)))
theorem keyBytes_bytes (l : List UInt8) : keyBytes (l.map fun b => Lit.int .u8 (b.toNat : Nat)) = l := by
  induction l with
  | nil => rfl
  | cons b r ih =>
    unfold keyBytes at *; simp only [List.map_cons, List.flatMap_cons, ih]; have := u8_nat b
    have e : Lit.keyBytes (.int .u8 (b.toNat : Nat)) = [b] := by
      have e1 : (((b.toNat : Nat) : Int) % 2 ^ IntKind.u8.bits).toNat = b.toNat := by
        simp only [IntKind.bits]; omega
      simp only [Lit.keyBytes, e1]; show [UInt8.ofNat (b.toNat % 256)].reverse = [b]; rw [Nat.mod_eq_of_lt this]; simp
    rw [e]; rfl
theorem dig_key (d : Dig) : keyOf Tryz.prog 23 (.agg (digC d).toArray) = some (.string d.1) := by
  have hk : Tryz.prog.keyType 23 = true := by kernel_rfl
  have hc : Tryz.prog.cellsOf 23 = 32 := by kernel_rfl
  have h1 : Tryz.prog.cellsOf 5 = 1 := by kernel_rfl
  have hf : Value.formed Tryz.prog 23 (.agg (digC d).toArray) = true := by
    unfold Value.formed; rw [Tryz.underlying23]; simp [hc, digC_length]
  unfold keyOf; rw [Tryz.underlying23]; simp only [hk, hf, Bool.and_self, if_true]; have hs : Tryz.prog.types.size + 1 = (Tryz.prog.types.size - 1) + 2 := by kernel_rfl
  rw [hs]; have := keyLits_bytes Tryz.underlying23 Tryz.underlying5 h1 hc (Tryz.prog.types.size - 1) d.1 d.2; have e : (Value.agg (digC d).toArray).cells.toList = d.1.map fun b => Value.int .u8 (b.toNat : Nat) := by simp [Value.cells, digC]
  rw [e, this]; simp [keyBytes_bytes]
theorem wpList_store_new {P : Program} {ops : Array Oper} {rest : List Oper} {op : Oper} {a : Act} {w : World} {Q : Exit → Act → World → Prop} (hgd : op.guard = none) (ty : TypeId) (x y : Operand) (ho : op.op = .store ty x y)
    (Z : Array Value) (cells : List Value) (hx : a.eval x = .pointer (some ⟨w.heap.size, 0, none⟩)) (hy : a.eval y = .agg cells.toArray) (hi : (P.info? ty).map (·.size) = some cells.length) (hz : Z.size = cells.length)
    (h1 : ∀ v ∈ cells, v.oneCell' = true) (h : wpList P ops Q rest (a.put op.dst undef) (w.alloc (.cells cells.toArray ty))) : wpList P ops Q (op :: rest) a (w.alloc (.cells Z ty)) :=
  wpList_plain hgd fun _ hK => by
    unfold Oper.wp execOp; simp only [ho, hx, hy, Instr.storeAt, Instr.sureAddr, Sem.run_bind, Sem.run_pure, Result.andThen_ok, run_storeVar_new (P := P) w ty Z cells.toArray (by simpa using hi) (by simpa using hz) (all_oneCell_toArray h1)]; exact hK _ _ h
end Go.Proofs.YtlhnjkekjbbhcaaGreatDoor
namespace Go.Proofs.YtlhnjkekjbbhcaaGreatDoor
open Go.RowKit Go.Shelf
theorem Blk.there' {w : World} {b : Nat} {T : TypeId} {xs : List Value} (h : Blk w b T xs) (o n : Nat) (hl : o + n ≤ xs.length) : w.there b o n := fun j hj =>
  ⟨by rw [h.cell, List.getElem?_eq_getElem (by omega)]; rfl, h.frozen _⟩
theorem Blk.range' {w : World} {b : Nat} {T : TypeId} {xs : List Value} (h : Blk w b T xs) : w.rangeAt b 0 xs := fun j v hv => by rw [Nat.zero_add]; exact h.get hv
theorem Keep.setCells' {S : List Nat} {a : World} (b : Nat) (hb : b < a.heap.size → b ∈ S) : ∀ (vs : List Value) (o : Nat) (w : World), Keep S a w → Keep S a (w.setCells b o vs)
  | [], _, _, h => h
  | v :: r, o, w, h => by
    rw [World.setCells]; exact Keep.setCells' b hb r (o + 1) _ (h.setCell _ _ hb)
def stampM (l : List UInt8) : List UInt8 := [115, 104, 97, 50, 53, 54, 58] ++ hexS l
theorem stampM_len (d : Dig) : (stampM d.1).length = 71 := by unfold stampM; rw [List.length_append, hexS_len, d.2]; rfl
theorem dig_back (w : World) (d : Dig) : (convert 143 9 (.slice (some ⟨w.heap.size, 0, none⟩) 32 32)).run Tryz.prog (w.alloc (.cells (digC d).toArray 23)) = .ok (.string (S d.1)) (w.alloc (.cells (digC d).toArray 23)) := by
  have hb := Blk.newA w (digC d).toArray 23
  have := run_convert_bytes_back (P := Tryz.prog) (w.alloc (.cells (digC d).toArray 23)) 143 9 5 ⟨w.heap.size, 0, none⟩ 32 d.1 Tryz.underlying143 Tryz.underlying5 Tryz.underlying9 (fun j hj => by
    have ha : (⟨w.heap.size, 0, none⟩ : Addr).add j = ⟨w.heap.size, j, none⟩ := by unfold Addr.add; split <;> simp_all
    rw [ha]; exact hb.get (k := j) (by simp [digC, hj]))
  rwa [d.2] at this
set_option maxRecDepth 100000 in
set_option maxHeartbeats 2000000 in
theorem stamp_Print (d : Dig) (w : World) :
    Calls Tryz.prog 83 #[.agg (digC d).toArray] w fun e w' => e = .returned (.string (S (stampM d.1))) ∧ Keep [] w w' := by
  have kA := (Keep.refl [] w).alloc (.cells (digC d).toArray 23); have hcv := dig_back w d; have hdl := digC_length d; have HH := Lib.hid (fun w' => hexa_Hex d.1 w' (by rw [d.2]; decide)); have hcat : (⟨#[115, 104, 97, 50, 53, 54, 58]⟩ : ByteArray) ++ S (hexS d.1) = S (stampM d.1) := S_append [115, 104, 97, 50, 53, 54, 58] _; have hhl : (hexS d.1).length = 64 := by rw [hexS_len, d.2]
  have s1 := S_size (hexS d.1); rw [hhl] at s1; generalize hexS d.1 = hx at *; generalize stampM d.1 = st at *; generalize hwA : w.alloc (.cells (digC d).toArray 23) = wA at kA hcv; have KA := Lib.hid kA; clear kA; go_enter Tryz.func83, Tryz.ntmps83; go_wp2_with fail; refine (HH.out _).mono ?_; rintro e w5 ⟨rfl, k5⟩; have K5 := Lib.hid (KA.out.trans k5); clear k5; go_wp2_with fail; go_ret; exact ⟨rfl, K5.out⟩
theorem dig_size (d : Dig) : (Tryz.prog.info? 23).map (·.size) = some (digC d).length := by rw [digC_length]; kernel_rfl
def zeroD : Dig := ⟨List.replicate 32 0, by simp⟩
def pfxD : List UInt8 := [115, 104, 97, 50, 53, 54, 58]
def digO (l : List UInt8) : Option Dig := if h : l.length = 32 then some ⟨l, h⟩ else none
def behindO (s : List UInt8) : Option Dig := if Lib.hasPrefix s pfxD then (unhexM (s.drop 7)).bind digO else none
def digOut (o : Option Dig) : Ending := .returned (.tuple #[.agg (digC (o.getD zeroD)).toArray, .bool o.isSome])
theorem dig_one (d : Dig) : ∀ v ∈ digC d, v.oneCell' = true := by
  intro v hv; simp only [digC, List.mem_map] at hv; obtain ⟨b, _, rfl⟩ := hv; rfl
theorem dig_st (d : Dig) : (Tryz.prog.info? 23).map (·.size) = some (digC d).toArray.size ∧ (digC d).toArray.all (·.oneCell') = true := ⟨by rw [List.size_toArray]; exact dig_size d, all_oneCell_toArray (dig_one d)⟩
theorem dig_load {w : World} {b : Nat} {d : Dig} (h : w.rangeAt b 0 (digC d)) : (loadVar 23 ⟨b, 0, none⟩).run Tryz.prog w = .ok (.agg (digC d).toArray) w :=
  run_loadVar_mid (P := Tryz.prog) w b 0 23 (digC d) _ h Tryz.underlying23 rfl (dig_size d)
theorem digC_zero : digC zeroD = [.int .u8 0, .int .u8 0, .int .u8 0, .int .u8 0, .int .u8 0, .int .u8 0, .int .u8 0, .int .u8 0, .int .u8 0, .int .u8 0, .int .u8 0, .int .u8 0, .int .u8 0, .int .u8 0, .int .u8 0, .int .u8 0, .int .u8 0, .int .u8 0, .int .u8 0, .int .u8 0, .int .u8 0, .int .u8 0, .int .u8 0, .int .u8 0, .int .u8 0, .int .u8 0, .int .u8 0, .int .u8 0, .int .u8 0, .int .u8 0, .int .u8 0, .int .u8 0] := rfl
set_option maxRecDepth 100000 in
set_option maxHeartbeats 2000000 in
theorem stamp_behind (s : List UInt8) (w : World) (hs : s.length ≤ 1048576) :
    Calls Tryz.prog 170 #[.string (S s), .string ⟨#[115, 104, 97, 50, 53, 54, 58]⟩] w fun e w' => e = digOut (behindO s) ∧ Keep [] w w' := by
  have hBO : behindO s = if Lib.hasPrefix s pfxD then (unhexM (s.drop 7)).bind digO else none := rfl
  have HBO := Lib.hid hBO; have kA := (Keep.refl [] w).alloc (.cells (digC zeroD).toArray 23); have bA := Blk.newA w (digC zeroD).toArray 23; have szA : w.heap.size < (w.alloc (.cells (digC zeroD).toArray 23)).heap.size := by simp
  have hcp : ∀ w', Calls Tryz.prog 74 #[.string (S s), .string ⟨#[115, 104, 97, 50, 53, 54, 58]⟩] w' fun e w1 => e = .returned (.tuple #[.string (S (Lib.trimPrefix s pfxD)), .bool (Lib.hasPrefix s pfxD)]) ∧ w1 = w' := fun w' => by
    have := Tryz.strings_CutPrefix (S s) ⟨#[115, 104, 97, 50, 53, 54, 58]⟩ w'; rw [S_list] at this; exact this
  clear hBO; rw [digC_zero] at kA bA szA; generalize hwA : w.alloc (.cells [.int .u8 0, .int .u8 0, .int .u8 0, .int .u8 0, .int .u8 0, .int .u8 0, .int .u8 0, .int .u8 0, .int .u8 0, .int .u8 0, .int .u8 0, .int .u8 0, .int .u8 0, .int .u8 0, .int .u8 0, .int .u8 0, .int .u8 0, .int .u8 0, .int .u8 0, .int .u8 0, .int .u8 0, .int .u8 0, .int .u8 0, .int .u8 0, .int .u8 0, .int .u8 0, .int .u8 0, .int .u8 0, .int .u8 0, .int .u8 0, .int .u8 0, .int .u8 0].toArray 23) = wA at kA bA szA; have bA : Blk wA w.heap.size 23 (digC zeroD) := bA; have KA := Lib.hid kA; have BA := Lib.hid bA; have SZ := Lib.hid szA; have HS0 := Lib.hid (dig_st zeroD); have HDS := Lib.hid (dig_size zeroD); have HLZ := Lib.hid (fun w' b (h : w'.there b 0 32) => dig_load (World.rangeAt_setCells_same w' b 0 (digC zeroD) (by rw [digC_length]; exact h))); have KZ := Lib.hid (show Keep [] w (wA.setCells w.heap.size 0 (digC zeroD)) from Keep.setCells' _ (fun hh => absurd hh (by omega)) _ _ _ KA.out); clear kA bA szA; have hwA2 : w.alloc (.cells #[.int .u8 0, .int .u8 0, .int .u8 0, .int .u8 0, .int .u8 0, .int .u8 0, .int .u8 0, .int .u8 0, .int .u8 0, .int .u8 0, .int .u8 0, .int .u8 0, .int .u8 0, .int .u8 0, .int .u8 0, .int .u8 0, .int .u8 0, .int .u8 0, .int .u8 0, .int .u8 0, .int .u8 0, .int .u8 0, .int .u8 0, .int .u8 0, .int .u8 0, .int .u8 0, .int .u8 0, .int .u8 0, .int .u8 0, .int .u8 0, .int .u8 0, .int .u8 0] 23) = wA := hwA; clear hwA
  cases hp : Lib.hasPrefix s pfxD with
  | false =>
    have htp : Lib.trimPrefix s pfxD = s := by unfold Lib.trimPrefix; rw [hp]; rfl
    have HR := Lib.hid (show behindO s = none by rw [HBO.out, hp]; rfl); rw [htp, hp] at hcp; have HCP := Lib.hid hcp; clear hp htp hcp HBO; go_enter Tryz.func170, Tryz.ntmps170
    go_wp2_with (first | (go_at_call 74; refine (HCP.out _).mono ?_; rintro e w1 ⟨rfl, h1⟩; have h1 := h1.symm; subst h1) | ((with_reducible refine gM 4 ?_); refine wpList_load_mid rfl 23 (.tmp 4) rfl w.heap.size 0 (by rfl) (digC zeroD) _ BA.out.range' Tryz.underlying23 rfl HDS.out ?_; try simp only [Act.put, sqA, sqB, sqC]) | ((with_reducible refine gS 4 18 ?_); refine wpList_store_mid rfl 23 (.tmp 4) (.tmp 18) rfl w.heap.size 0 (digC zeroD).toArray (by rfl) (by first | rfl | kernel_rfl) (BA.out.there' 0 32 (by rw [digC_length]; exact Nat.le_refl _)) HS0.out.1 HS0.out.2 ?_; try simp only [Act.put]) | fail); have hload := HLZ.out wA w.heap.size (BA.out.there' 0 32 (by rw [digC_length]; exact Nat.le_refl _)); rw [HR.out]; refine bodyPost_ret (v := .tuple #[.agg (digC zeroD).toArray, .bool false]) (by simp [results, Tryz.results170, asAddr, Result.andThen, hload]) rfl ⟨rfl, KZ.out⟩
  | true =>
    have htp : Lib.trimPrefix s pfxD = s.drop 7 := by unfold Lib.trimPrefix; rw [hp]; rfl
    have HR0 := Lib.hid (show behindO s = (unhexM (s.drop 7)).bind digO by rw [HBO.out, hp]; rfl); rw [htp, hp] at hcp; have HCP := Lib.hid hcp; clear hp htp hcp HBO; have hdl : (s.drop 7).length ≤ 1048576 := by rw [List.length_drop]; omega
    generalize s.drop 7 = r at *; have HU0 := fun w' => hexa_Unhex r w' hdl
    cases hu : unhexM r with
    | none =>
      have HR := Lib.hid (show behindO s = none by rw [HR0.out, hu]; rfl); have HU := Lib.hid (fun w' => show Calls Tryz.prog 206 #[.string (S r)] w' fun e w1 => e = .returned (.tuple #[.string (S []), .int .i64 3]) ∧ Keep [] w' w1 by have := HU0 w'; rw [hu] at this; exact this); clear hu HU0 HR0; go_enter Tryz.func170, Tryz.ntmps170
      go_wp2_with (first | (go_at_call 74; refine (HCP.out _).mono ?_; rintro e w1 ⟨rfl, h1⟩; have h1 := h1.symm; subst h1) | fail); refine (HU.out _).mono ?_; rintro e w2 ⟨rfl, k2⟩; have K2 := Lib.hid (KA.out.trans k2); have BA2 := Lib.hid (k2.blk BA.out (by simp)); have KZ2 := Lib.hid (show Keep [] w (w2.setCells w.heap.size 0 (digC zeroD)) from Keep.setCells' _ (fun hh => absurd hh (by omega)) _ _ _ K2.out); clear k2 hwA2
      go_wp2_with (first | ((with_reducible refine gM 4 ?_); refine wpList_load_mid rfl 23 (.tmp 4) rfl w.heap.size 0 (by rfl) (digC zeroD) _ BA2.out.range' Tryz.underlying23 rfl HDS.out ?_; try simp only [Act.put, sqA, sqB, sqC]) | ((with_reducible refine gS 4 31 ?_); refine wpList_store_mid rfl 23 (.tmp 4) (.tmp 31) rfl w.heap.size 0 (digC zeroD).toArray (by rfl) (by first | rfl | kernel_rfl) (BA2.out.there' 0 32 (by rw [digC_length]; exact Nat.le_refl _)) HS0.out.1 HS0.out.2 ?_; try simp only [Act.put]) | fail); have hload := HLZ.out w2 w.heap.size (BA2.out.there' 0 32 (by rw [digC_length]; exact Nat.le_refl _)); rw [HR.out]; refine bodyPost_ret (v := .tuple #[.agg (digC zeroD).toArray, .bool false]) (by simp [results, Tryz.results170, asAddr, Result.andThen, hload]) rfl ⟨rfl, KZ2.out⟩
    | some o =>
      have HU := Lib.hid (fun w' => show Calls Tryz.prog 206 #[.string (S r)] w' fun e w1 => e = .returned (.tuple #[.string (S o), .int .i64 0]) ∧ Keep [] w' w1 by have := HU0 w'; rw [hu] at this; exact this); have sO := S_size o; by_cases hl : o.length = 32
      · obtain ⟨d, rfl⟩ : ∃ d : Dig, o = d.1 := ⟨⟨o, hl⟩, rfl⟩
        have HR := Lib.hid (show behindO s = some d by rw [HR0.out, hu]; show digO d.1 = _; unfold digO; rw [dif_pos d.2]); have sO : (S d.1).size = 32 := by rw [sO, d.2]
        clear hu HU0 HR0 hl; go_enter Tryz.func170, Tryz.ntmps170
        go_wp2_with (first | (go_at_call 74; refine (HCP.out _).mono ?_; rintro e w1 ⟨rfl, h1⟩; have h1 := h1.symm; subst h1) | fail); refine (HU.out _).mono ?_; rintro e w2 ⟨rfl, k2⟩; have K2 := Lib.hid (KA.out.trans k2); have BA2 := Lib.hid (k2.blk BA.out (by simp)); clear k2 hwA2
        have hrow : (List.take 0 (digC zeroD).toArray.toList ++ Lib.byteCells (S d.1).data.toList ++ List.drop (0 + (S d.1).size) (digC zeroD).toArray.toList).toArray = (digC d).toArray := by
          rw [sO, S_list, List.take_zero, List.nil_append, List.drop_of_length_le (by simp [digC_length]), List.append_nil]; rfl
        have hcpy := Lib.run_copy_row_string (P := Tryz.prog) w2 143 9 3 5 w.heap.size 0 32 32 (S d.1) (digC zeroD).toArray 23 Tryz.underlying143 (by kernel_rfl) BA2.out (by rw [sO]; exact Nat.le_refl _) (by rw [sO]; simp [digC_length]); rw [hrow] at hcpy; have hbrow : Blk (w2.setRow w.heap.size (digC d).toArray) w.heap.size 23 (digC d) := setRow_heap w2 w.heap.size _ _ _ _ BA2.out; have krow : Keep [] w (w2.setRow w.heap.size (digC d).toArray) := K2.out.trans' (show Keep [w.heap.size] w2 _ from ⟨rfl, rfl, rfl, by simp, fun k hk hn => setRow_other w2 w.heap.size k _ (fun h => hn (by simp [h]))⟩) (fun x hx hlt => by have h1 : x = w.heap.size := (by simpa using hx); omega); generalize hw3 : w2.setRow w.heap.size (digC d).toArray = w3 at *; have KZ2 := Lib.hid (show Keep [] w (w3.setCells w.heap.size 0 (digC d)) from Keep.setCells' _ (fun hh => absurd hh (by omega)) _ _ _ krow); have B3 := Lib.hid hbrow; have HSd := Lib.hid (dig_st d); have hload := Lib.hid (dig_load (World.rangeAt_setCells_same w3 w.heap.size 0 (digC d) (by rw [digC_length]; exact B3.out.there' 0 32 (by rw [digC_length]; exact Nat.le_refl _)))); have q1 := (int_eq (show (d.1.length : Int) = 32 by rw [d.2]; rfl)).2; clear hrow hbrow krow hw3
        go_wp2_with (first | ((with_reducible refine gM 4 ?_); refine wpList_load_mid rfl 23 (.tmp 4) rfl w.heap.size 0 (by rfl) (digC d) _ B3.out.range' Tryz.underlying23 rfl (dig_size _) ?_; try simp only [Act.put, sqA, sqB, sqC]) | ((with_reducible refine gS 4 35 ?_); refine wpList_store_mid rfl 23 (.tmp 4) (.tmp 35) rfl w.heap.size 0 (digC d).toArray (by rfl) (by first | rfl | kernel_rfl) (B3.out.there' 0 _ (by simp)) HSd.out.1 HSd.out.2 ?_; try simp only [Act.put]) | fail); rw [HR.out]; refine bodyPost_ret (v := .tuple #[.agg (digC d).toArray, .bool true]) (by simp [results, Tryz.results170, asAddr, Result.andThen, hload.out]) rfl ⟨rfl, KZ2.out⟩
      · have HR := Lib.hid (show behindO s = none by rw [HR0.out, hu]; show digO o = _; unfold digO; rw [dif_neg hl]); have q1 := (int_ne (show (o.length : Int) ≠ 32 by omega)).2; clear hu HU0 HR0 hl; go_enter Tryz.func170, Tryz.ntmps170
        go_wp2_with (first | (go_at_call 74; refine (HCP.out _).mono ?_; rintro e w1 ⟨rfl, h1⟩; have h1 := h1.symm; subst h1) | fail); refine (HU.out _).mono ?_; rintro e w2 ⟨rfl, k2⟩; have K2 := Lib.hid (KA.out.trans k2); have BA2 := Lib.hid (k2.blk BA.out (by simp)); have KZ2 := Lib.hid (show Keep [] w (w2.setCells w.heap.size 0 (digC zeroD)) from Keep.setCells' _ (fun hh => absurd hh (by omega)) _ _ _ K2.out); clear k2 hwA2
        go_wp2_with (first | ((with_reducible refine gM 4 ?_); refine wpList_load_mid rfl 23 (.tmp 4) rfl w.heap.size 0 (by rfl) (digC zeroD) _ BA2.out.range' Tryz.underlying23 rfl HDS.out ?_; try simp only [Act.put, sqA, sqB, sqC]) | ((with_reducible refine gS 4 31 ?_); refine wpList_store_mid rfl 23 (.tmp 4) (.tmp 31) rfl w.heap.size 0 (digC zeroD).toArray (by rfl) (by first | rfl | kernel_rfl) (BA2.out.there' 0 32 (by rw [digC_length]; exact Nat.le_refl _)) HS0.out.1 HS0.out.2 ?_; try simp only [Act.put]) | fail); have hload := HLZ.out w2 w.heap.size (BA2.out.there' 0 32 (by rw [digC_length]; exact Nat.le_refl _)); rw [HR.out]; refine bodyPost_ret (v := .tuple #[.agg (digC zeroD).toArray, .bool false]) (by simp [results, Tryz.results170, asAddr, Result.andThen, hload]) rfl ⟨rfl, KZ2.out⟩
end Go.Proofs.YtlhnjkekjbbhcaaGreatDoor
