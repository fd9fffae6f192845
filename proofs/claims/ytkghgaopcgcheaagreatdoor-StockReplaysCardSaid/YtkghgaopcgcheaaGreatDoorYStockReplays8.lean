/- Parts of the proof of StockReplays, in order. No conditions but those that each theorem states. -/
import Derived.Test.YtkghgaopcgcheaaGreatDoorYStockReplays0
import Derived.Test.YtkghgaopcgcheaaGreatDoorYStockReplays7
set_option maxRecDepth 100000
set_option maxHeartbeats 16000000
set_option linter.unusedSimpArgs false
set_option linter.unusedVariables false
namespace Go.Proofs.YtkghgaopcgcheaaGreatDoor
open Go.RowKit
theorem sha_New (w : World) (h : ShaT w) : Calls Tryz.prog 104 #[] w fun e w' => e = .returned (.pointer (some ⟨w.heap.size, 0, none⟩)) ∧ Sh w' w.heap.size shaNew ∧ Keep [] w w' ∧ w'.heap.size = w.heap.size + 1 := by
  have c0 := Lib.TabIs.cell h.1 (g := 0) (by kernel_rfl) 0 (by decide); have c1 := Lib.TabIs.cell h.1 (g := 0) (by kernel_rfl) 1 (by decide); have c2 := Lib.TabIs.cell h.1 (g := 0) (by kernel_rfl) 2 (by decide); have c3 := Lib.TabIs.cell h.1 (g := 0) (by kernel_rfl) 3 (by decide); have c4 := Lib.TabIs.cell h.1 (g := 0) (by kernel_rfl) 4 (by decide); have c5 := Lib.TabIs.cell h.1 (g := 0) (by kernel_rfl) 5 (by decide); have c6 := Lib.TabIs.cell h.1 (g := 0) (by kernel_rfl) 6 (by decide); have c7 := Lib.TabIs.cell h.1 (g := 0) (by kernel_rfl) 7 (by decide); have HN := Lib.hid (show Sh (w.alloc (.cells shaNew.cells.toArray 229)) w.heap.size shaNew ∧ Keep [] w (w.alloc (.cells shaNew.cells.toArray 229)) ∧ (w.alloc (.cells shaNew.cells.toArray 229)).heap.size = w.heap.size + 1 from ⟨⟨Blk.new w _ _, shaNew_ok⟩, (Keep.refl [] w).alloc _, by simp⟩); clear h; go_enter Tryz.func104, Tryz.ntmps104; go_wp2_with fail; generalize hZ : Array.setIfInBounds _ 7 _ = Z; have e : Z = shaNew.cells.toArray := by rw [← hZ]; kernel_rfl
  clear hZ; subst e; go_ret; exact ⟨rfl, HN.out⟩
theorem sha_Len (b : Nat) (h : ShaS) (w : World) (k : Sh w b h) : Calls Tryz.prog 106 #[.pointer (some ⟨b, 0, none⟩)] w fun e w' => e = .returned (.int .i64 h.size) ∧ w = w' := by
  have c := k.size; go_enter Tryz.func106, Tryz.ntmps106; go_wp2_with fail; go_ret; exact ⟨rfl, rfl⟩
theorem sha_Copy (b : Nat) (h : ShaS) (w : World) (k : Sh w b h) : Calls Tryz.prog 210 #[.pointer (some ⟨b, 0, none⟩)] w fun e w' => e = .returned (.pointer (some ⟨w.heap.size, 0, none⟩)) ∧ Sh w' w.heap.size h ∧ Keep [] w w' ∧ w'.heap.size = w.heap.size + 1 := by
  have hlen := ShaS.cells_length k.2; have hrg : w.rangeAt b 0 h.cells := fun j v hv => by rw [Nat.zero_add]; exact k.1.get hv
  have hone := h.one; have HN := Lib.hid (show Sh (w.alloc (.cells h.cells.toArray 229)) w.heap.size h ∧ Keep [] w (w.alloc (.cells h.cells.toArray 229)) ∧ (w.alloc (.cells h.cells.toArray 229)).heap.size = w.heap.size + 1 from ⟨⟨Blk.new w _ _, k.2⟩, (Keep.refl [] w).alloc _, by simp⟩); generalize h.cells = hc at hlen hrg hone HN; have HL := Lib.hid hlen; have HR := Lib.hid hrg; have HO := Lib.hid hone; clear hlen hrg hone k; go_enter Tryz.func210, Tryz.ntmps210
  go_wp2_with (first
    | (with_reducible (show wpList _ _ _ ((⟨_, .load _ _, _, _, _, none⟩ : Oper) :: _) _ _)
       refine wpList_load_mid rfl 229 (.tmp 7) rfl b 0 (by rfl) hc _ HR.out Tryz.underlying229 rfl (by rw [HL.out]; kernel_rfl) ?_; simp only [sq])
    | (with_reducible (show wpList _ _ _ ((⟨none, .store _ _ _, _, _, _, none⟩ : Oper) :: _) _ _)
       refine wpList_store_new rfl 229 (.tmp 3) (.tmp 8) rfl _ hc (by rfl) (by rfl) (by rw [HL.out]; kernel_rfl) (by rw [HL.out]; kernel_rfl) HO.out ?_)
    | fail)
  trace_state
  go_ret; exact ⟨rfl, HN.out⟩
def shaPart (r : List UInt8) (k j : Nat) : Int := ((r.drop (4 * k)).take j).foldl (fun a c => bits .or .u32 (w32 (a * 256)) (c.toNat : Nat)) 0
def shaFirst (r : List UInt8) (k : Nat) : List Int := (List.range k).map fun i => shaPart r i 4
theorem shaFirst_length (r : List UInt8) (k : Nat) : (shaFirst r k).length = k := by simp [shaFirst]
theorem shaPart_succ {r : List UInt8} {k j : Nat} {c : UInt8} (h : r[4 * k + j]? = some c) : shaPart r k (j + 1) = bits .or .u32 (w32 (shaPart r k j * 256)) (c.toNat : Nat) := by
  unfold shaPart; have e : (r.drop (4 * k))[j]? = some c := by rw [List.getElem?_drop]; exact h
  rw [take_snoc e, List.foldl_append]; rfl
theorem shaFirst_succ (r : List UInt8) (k : Nat) : shaFirst r (k + 1) = shaFirst r k ++ [shaPart r k 4] := by simp [shaFirst, List.range_succ]
def shaRow (r : List UInt8) (k j : Nat) : List Int := (shaFirst r k ++ List.replicate (64 - k) 0).set k (shaPart r k j)
theorem shaRow_zero (r : List UInt8) (k : Nat) (h : k < 64) : shaRow r k 0 = shaFirst r k ++ List.replicate (64 - k) 0 := by
  unfold shaRow; refine list_set_self _ _ _ ?_; rw [List.getElem?_append_right (by rw [shaFirst_length]; omega), shaFirst_length, Nat.sub_self, List.getElem?_replicate, if_pos (by omega)]; rfl
theorem shaRow_next (r : List UInt8) (k : Nat) (h : k < 64) : shaRow r k 4 = shaFirst r (k + 1) ++ List.replicate (64 - (k + 1)) 0 := by
  unfold shaRow; rw [List.set_append_right _ _ (by rw [shaFirst_length]; omega), shaFirst_length, Nat.sub_self, show 64 - k = (64 - (k + 1)) + 1 by omega, List.replicate_succ, sqC, shaFirst_succ, List.append_assoc]; rfl
theorem shaRow_get (r : List UInt8) (k j : Nat) (h : k < 64) : (shaRow r k j)[k]? = some (shaPart r k j) := by
  unfold shaRow; rw [List.getElem?_set_self]; simp [shaFirst_length]; omega
theorem shaRow_set (r : List UInt8) (k i j : Nat) : (shaRow r k i).set k (shaPart r k j) = shaRow r k j := by
  unfold shaRow; rw [List.set_set]
theorem w32_mod (x : Int) : w32 x = x % 4294967296 := by simp [IntKind.wrap, IntKind.signed, IntKind.bits]
def sig0 (x : Int) : Int := xr (xr (rotR x 7) (rotR x 18)) (x / 8)
def sig1 (x : Int) : Int := xr (xr (rotR x 17) (rotR x 19)) (x / 1024)
def shaMore (W : List Int) (t : Nat) : Int := w32 (w32 (w32 (sig1 (W.getD (t - 2) 0) + W.getD (t - 7) 0) + sig0 (W.getD (t - 15) 0)) + W.getD (t - 16) 0)
def shaSpr (r : List UInt8) : Nat → List Int
  | 0 => shaFirst r 16
  | n + 1 => shaSpr r n ++ [shaMore (shaSpr r n) (16 + n)]
theorem shaSpr_length (r : List UInt8) : ∀ n, (shaSpr r n).length = 16 + n
  | 0 => by simp [shaSpr, shaFirst_length]
  | n + 1 => by simp [shaSpr, shaSpr_length r n]; omega
theorem Blk.thr {w : World} {b : Nat} {T : TypeId} {xs : List Value} (h : Blk w b T xs) (o n : Nat) (hl : o + n ≤ xs.length) : w.there b o n := fun j hj =>
  ⟨by rw [h.cell, List.getElem?_eq_getElem (by omega)]; rfl, h.frozen _⟩
theorem Blk.rng {w : World} {b : Nat} {T : TypeId} {xs : List Value} (h : Blk w b T xs) : w.rangeAt b 0 xs := fun j v hv => by rw [Nat.zero_add]; exact h.get hv
theorem Keep.cellsTo {S : List Nat} {a : World} (b : Nat) (hb : b < a.heap.size → b ∈ S) : ∀ (vs : List Value) (o : Nat) (w : World), Keep S a w → Keep S a (w.setCells b o vs)
  | [], _, _, h => h
  | v :: r, o, w, h => by
    rw [World.setCells]; exact Keep.cellsTo b hb r (o + 1) _ (h.setCell _ _ hb)
theorem slice64 (w : World) (b o : Nat) (l h : Int) (l' h' : Nat) (el : l = (l' : Nat)) (eh : h = (h' : Nat)) (h1 : l' ≤ h') (h2 : h' ≤ 64) (h3 : l' < 64) :
    (Instr.sliceAt 227 (.pointer (some ⟨b, o, none⟩)) (some (.int .i64 l)) (some (.int .i64 h)) none).run Tryz.prog w = .ok (.slice (some ⟨b, o + l', none⟩) (h' - l') (64 - l')) w := by
  subst el eh; have hal : Tryz.prog.arrayLen 227 = 64 := by kernel_rfl
  have hu : Tryz.prog.underlying 227 = some (.array (Tryz.prog.arrayLen 227) (Tryz.prog.elem 227)) := by kernel_rfl
  rw [run_sliceAt_array_lh (P := Tryz.prog) w 227 ⟨b, o, none⟩ hu .i64 .i64 _ _ (by omega) (by omega) (by rw [hal]; omega)]; have hz : (sizeOf (Tryz.prog.elem 227)).run Tryz.prog w = .ok 1 w := by kernel_rfl
  rw [hz, hal]; simp only [Result.andThen_ok, slicedAt, Int.toNat_natCast, Nat.mul_one]; rw [if_neg (by omega), Addr.add_mid]
theorem sha_spread (b : Nat) (h : ShaS) (w : World) (hs : Sh w b h) : Calls Tryz.prog 224 #[.pointer (some ⟨b, 8, none⟩)] w fun e w' => e = .returned (.agg (u32C (shaSpr h.rest 48)).toArray) ∧ Keep [] w w' := by
  have hl64 := hs.2.2.1; have hkA := (Keep.refl [] w).alloc (.cells (u32C (List.replicate 64 0)).toArray 220); have hbA := Blk.new w (u32C (List.replicate 64 0)) 220; have HB := Lib.hid (And.intro hbA hkA); have HS := Lib.hid hs; clear hbA hkA hs; obtain ⟨C, hC⟩ : ∃ C, u32C (shaSpr h.rest 48) = C := ⟨_, rfl⟩
  rw [hC]; have HC := Lib.hid hC; clear hC; go_enter Tryz.func224, Tryz.ntmps224; go_wp2_with fail
  go_loopg [11] 16 (fun g i wr => ∃ k : Nat, i = .int .i64 (k : Nat) ∧ k ≤ 16 ∧ g = 16 - k ∧ Hid (Blk wr w.heap.size 220 (u32C (shaFirst h.rest k ++ List.replicate (64 - k) 0))) ∧ Hid (Keep [] w wr))
  case atStart => exact ⟨0, rfl, by omega, rfl, Lib.hid HB.out.1, Lib.hid HB.out.2⟩
  case round =>
    obtain ⟨k, rfl, hk, hg, HL, HK⟩ := hrel; by_cases hlt : k < 16
    · have f1 : decide ((k : Int) < 16) = true := decide_eq_true (by omega); have wm := IntWalk.i64_in (4 * (k : Int)) (by omega); have wa := IntWalk.i64_in (4 * (k : Int) + 4) (by omega); have wk := IntWalk.i64_in ((k : Int) + 1) (by omega); have hsl := slice64 wr b 8 (4 * (k : Int)) (4 * (k : Int) + 4) (4 * k) (4 * k + 4) (by omega) (by omega) (by omega) (by omega) (by omega); rw [Nat.add_sub_cancel_left] at hsl; have hrow := HL.out; rw [← shaRow_zero h.rest k (by omega)] at hrow; have HROW := Lib.hid hrow; clear hrow HL; go_wp2_with fail
      go_loopg [23] 4 (fun g i wr => ∃ j : Nat, i = .int .i64 (j : Nat) ∧ j ≤ 4 ∧ g = 4 - j ∧ Hid (Blk wr w.heap.size 220 (u32C (shaRow h.rest k j))) ∧ Hid (Keep [] w wr))
      case atStart => exact ⟨0, rfl, by omega, rfl, HROW, HK⟩
      case round =>
        clear HROW HK hsl f1; obtain ⟨j, rfl, hj, hgj, HL, HK⟩ := hrel; by_cases hlj : j < 4
        · have f1 : decide ((j : Int) < 4) = true := decide_eq_true (by omega); obtain ⟨c, hc⟩ : ∃ c, h.rest[4 * k + j]? = some c := ⟨_, List.getElem?_eq_getElem (by omega)⟩
          have c8 := u8_nat c; have hwr : IntKind.u32.wrap ((c.toNat : Nat) : Int) = (c.toNat : Nat) := by simp [IntKind.wrap, IntKind.signed, IntKind.bits]; omega
          have hcb := HK.out.load (HS.out.byte hc); rw [← Nat.add_assoc] at hcb; have hcl := HL.out.get (u32C_get (shaRow_get h.rest k j (by omega))); have hfr := HL.out.frozen k; have wj := IntWalk.i64_in ((j : Int) + 1) (by omega); have hst := HL.out.set k (.int .u32 (shaPart h.rest k (j + 1))); rw [u32C_set, shaRow_set] at hst; have hnx := shaPart_succ hc; rw [hnx] at hst; have k0 : (0 : Int) ≤ (k : Int) := by omega
          have k1 : (k : Int) < 64 := by omega
          have HST := Lib.hid hst; clear hst hnx hc; go_wp2_with fail
          go_roundg (4 - (j + 1))
          case measure => omega
          case rel => exact ⟨j + 1, rfl, by omega, rfl, HST, Lib.hid (HK.out.setCell _ _ (by simp))⟩
        · obtain rfl : j = 4 := by omega
          have HR := Lib.hid (show Blk wr w.heap.size 220 (u32C (shaFirst h.rest (k + 1) ++ List.replicate (64 - (k + 1)) 0)) by rw [← shaRow_next h.rest k (by omega)]; exact HL.out); clear HL; go_wp2_with fail
          go_roundg (16 - (k + 1))
          case measure => omega
          case rel => exact ⟨k + 1, rfl, by omega, rfl, HR, HK⟩
    · obtain rfl : k = 16 := by omega
      go_wp2_with fail
      go_loopg [6] 48 (fun g i wr => ∃ n : Nat, i = .int .i64 ((16 + n : Nat) : Nat) ∧ n ≤ 48 ∧ g = 48 - n ∧ Hid (Blk wr w.heap.size 220 (u32C (shaSpr h.rest n ++ List.replicate (48 - n) 0))) ∧ Hid (Keep [] w wr))
      case atStart => exact ⟨0, rfl, by omega, rfl, HL, HK⟩
      case round =>
        clear HL HK hlt hk hg; obtain ⟨n, rfl, hn, hgn, HL, HK⟩ := hrel; obtain ⟨t, ht⟩ : ∃ t, 16 + n = t := ⟨_, rfl⟩
        rw [ht]; by_cases hlj : n < 48
        · have f1 : decide ((t : Int) < 64) = true := decide_eq_true (by omega); obtain ⟨m15, e15⟩ : ∃ m, t = m + 15 := ⟨t - 15, by omega⟩
          obtain ⟨m2, e2⟩ : ∃ m, t = m + 2 := ⟨t - 2, by omega⟩
          obtain ⟨m7, e7⟩ : ∃ m, t = m + 7 := ⟨t - 7, by omega⟩
          obtain ⟨m16, e16⟩ : ∃ m, t = m + 16 := ⟨t - 16, by omega⟩
          have w15 : IntKind.i64.wrap ((t : Int) - 15) = (m15 : Nat) := by rw [IntWalk.i64_in _ (by omega)]; omega
          have w2 : IntKind.i64.wrap ((t : Int) - 2) = (m2 : Nat) := by rw [IntWalk.i64_in _ (by omega)]; omega
          have w7 : IntKind.i64.wrap ((t : Int) - 7) = (m7 : Nat) := by rw [IntWalk.i64_in _ (by omega)]; omega
          have w16 : IntKind.i64.wrap ((t : Int) - 16) = (m16 : Nat) := by rw [IntWalk.i64_in _ (by omega)]; omega
          have wk : IntKind.i64.wrap ((t : Int) + 1) = ((t + 1 : Nat) : Int) := by rw [IntWalk.i64_in _ (by omega)]; rfl
          have a0 : (0 : Int) ≤ (m15 : Int) := by omega
          have a1 : (m15 : Int) < 64 := by omega
          have a2 : (0 : Int) ≤ (m2 : Int) := by omega
          have a3 : (m2 : Int) < 64 := by omega
          have a4 : (0 : Int) ≤ (m7 : Int) := by omega
          have a5 : (m7 : Int) < 64 := by omega
          have a6 : (0 : Int) ≤ (m16 : Int) := by omega
          have a7 : (m16 : Int) < 64 := by omega
          have a8 : (0 : Int) ≤ (t : Int) := by omega
          have a9 : (t : Int) < 64 := by omega
          have hln := shaSpr_length h.rest n
          have hget : ∀ m, m < 16 + n → wr.cell? ⟨w.heap.size, m, none⟩ = some (.int .u32 ((shaSpr h.rest n).getD m 0)) := fun m hm => by
            refine HL.out.get (u32C_get ?_); rw [List.getElem?_append_left (by omega), List.getD_eq_getElem?_getD, List.getElem?_eq_getElem (by omega)]; rfl
          have c15 := hget m15 (by omega); have c2 := hget m2 (by omega); have c7 := hget m7 (by omega); have c16 := hget m16 (by omega)
          have ct : wr.cell? ⟨w.heap.size, t, none⟩ = some (.int .u32 0) := by
            refine HL.out.get (u32C_get ?_); rw [List.getElem?_append_right (by omega), hln, List.getElem?_replicate, if_pos (by omega)]
          have hfr := HL.out.frozen t
          have hst : ∀ y, y = shaMore (shaSpr h.rest n) (16 + n) → Blk (wr.setCell ⟨w.heap.size, t, none⟩ (.int .u32 y)) w.heap.size 220 (u32C (shaSpr h.rest (n + 1) ++ List.replicate (48 - (n + 1)) 0)) := fun y hy => by
            have := HL.out.set t (.int .u32 y); rw [u32C_set, List.set_append_right _ _ (by omega), hln, show t - (16 + n) = 0 by omega, show 48 - n = (48 - (n + 1)) + 1 by omega, List.replicate_succ, sqC] at this; rw [hy] at this ⊢; rw [shaSpr, List.append_assoc]; exact this
          have hmore : shaMore (shaSpr h.rest n) (16 + n) = w32 (w32 (w32 (sig1 ((shaSpr h.rest n).getD m2 0) + (shaSpr h.rest n).getD m7 0) + sig0 ((shaSpr h.rest n).getD m15 0)) + (shaSpr h.rest n).getD m16 0) := by
            unfold shaMore; rw [ht, show t - 2 = m2 by omega, show t - 7 = m7 by omega, show t - 15 = m15 by omega, show t - 16 = m16 by omega]
          rw [hmore] at hst; generalize (shaSpr h.rest n).getD m15 0 = x15 at c15 hst hmore; generalize (shaSpr h.rest n).getD m2 0 = x2 at c2 hst hmore; generalize (shaSpr h.rest n).getD m7 0 = x7 at c7 hst hmore; generalize (shaSpr h.rest n).getD m16 0 = x16 at c16 hst hmore; have HST := Lib.hid hst; have HR := Lib.hid (fun (x : Int) (n : Nat) (h0 : 0 < n) (h1 : n < 32) (w : World) => sha_right x n w h0 h1); have HT := Lib.hid ht; clear hst hmore hget ht hln e15 e2 e7 e16; go_wp2_with fail; go_quiet (fail); go_wp2_with fail; refine (HR.out x15 7 (by decide) (by decide) _).mono ?_; rintro e w1 ⟨rfl, rfl⟩; go_wp2_with fail; refine (HR.out x15 18 (by decide) (by decide) _).mono ?_; rintro e w1 ⟨rfl, rfl⟩; go_wp2_with fail; refine (HR.out x2 17 (by decide) (by decide) _).mono ?_; rintro e w1 ⟨rfl, rfl⟩; go_wp2_with fail; refine (HR.out x2 19 (by decide) (by decide) _).mono ?_; rintro e w1 ⟨rfl, rfl⟩; go_wp2_with fail; have HSET := Lib.hid (HST.out _ rfl); have HKS := Lib.hid (HK.out.setCell ⟨w.heap.size, t, none⟩ (.int .u32 (w32 (w32 (w32 (sig1 x2 + x7) + sig0 x15) + x16))) (by simp)); unfold sig0 sig1 at HSET HKS
          have hy : w32 (w32 (w32 (xr (xr (rotR x2 17) (rotR x2 19)) (x2 / 1024) + x7) + xr (xr (rotR x15 7) (rotR x15 18)) (x15 / 8)) + x16) = (xr (xr (rotR x2 17) (rotR x2 19)) (x2 / 1024) + x7 + xr (xr (rotR x15 7) (rotR x15 18)) (x15 / 8) + x16) % 4294967296 := by
            rw [w32_mod, w32_mod, w32_mod]; omega
          rw [hy] at HSET HKS; clear hy HST
          go_region
          go_wp2_with fail
          go_roundg (48 - (n + 1))
          case measure => omega
          case rel => exact ⟨n + 1, by rw [← HT.out]; rfl, by omega, rfl, Lib.hid (show Blk _ _ _ _ from HSET.out), Lib.hid (HKS.out.drewN (nq + 1))⟩
        · obtain rfl : n = 48 := by omega
          have hb := HL.out; rw [Nat.sub_self, List.replicate_zero, List.append_nil] at hb; have hC := HC.out; have hlen : C.length = 64 := by rw [← hC, u32C_length, shaSpr_length]
          have hone : ∀ v ∈ C, v.oneCell' = true := by rw [← hC]; exact u32C_one _
          rw [hC] at hb; have hi : (Tryz.prog.info? 220).map (·.size) = some C.length := by rw [hlen]; kernel_rfl
          have HR := Lib.hid hb.rng; have HT := Lib.hid (hb.thr 0 64 (by omega)); have HI := Lib.hid (And.intro hi (And.intro hlen hone)); obtain rfl : t = 64 := by omega
          clear hb hi hlen hone hC HL
          go_wp2_with (first
            | (with_reducible (show wpList _ _ _ ((⟨_, .load _ _, _, _, _, none⟩ : Oper) :: _) _ _)
               refine wpList_load_mid rfl 220 (.tmp 2) rfl w.heap.size 0 (by rfl) C _ HR.out Tryz.underlying220 rfl HI.out.1 ?_; simp only [sq])
            | (with_reducible (show wpList _ _ _ ((⟨none, .store _ _ _, _, _, _, none⟩ : Oper) :: _) _ _)
               refine wpList_store_mid rfl 220 (.tmp 2) (.tmp 81) rfl w.heap.size 0 C.toArray (by rfl) (by rfl) (by simp only [List.size_toArray, HI.out.2.1]; exact HT.out) (by simp only [List.size_toArray]; exact HI.out.1) (all_oneCell_toArray HI.out.2.2) ?_)
            | fail)
          have hload := run_loadVar_mid (P := Tryz.prog) (wr.setCells w.heap.size 0 C) w.heap.size 0 220 C _ (World.rangeAt_setCells_same wr w.heap.size 0 C (by rw [HI.out.2.1]; exact HT.out)) Tryz.underlying220 rfl HI.out.1; refine bodyPost_ret (v := .agg C.toArray) (by simp [Act.put, results, Tryz.results224, asAddr, hload]) rfl ⟨rfl, ?_⟩; exact Keep.cellsTo _ (fun hh => absurd hh (Nat.lt_irrefl _)) _ _ _ HK.out
structure Slp where
  kind : Int
  repo : List UInt8
  tag : List UInt8
  dig : Dig
  typ : List UInt8
  size : Int
  tick : Int
  deriving DecidableEq
def Slp.cells (x : Slp) : List Value := [.int .i64 x.kind, .string (S x.repo), .string (S x.tag)] ++ (digC x.dig ++ [.string (S x.typ), .int .i64 x.size, .int .i64 x.tick])
theorem Slp.cells_length (x : Slp) : x.cells.length = 38 := by simp [Slp.cells, digC_length]
theorem Slp.one (x : Slp) : ∀ v ∈ x.cells, v.oneCell' = true := by
  intro v hv; simp only [Slp.cells, List.mem_append, List.mem_cons, List.mem_nil_iff, or_false] at hv; rcases hv with (rfl | rfl | rfl) | hv | rfl | rfl | rfl
  · rfl
  · rfl
  · rfl
  · exact digC_one _ _ hv
  · rfl
  · rfl
  · rfl
def dig00 : Dig := ⟨List.replicate 32 0, by simp⟩
def Slp.zero : Slp := ⟨0, [], [], dig00, [], 0, 0⟩
theorem eqS8 (t : TypeId) : Obj.cells #[Value.int IntKind.i64 0, Value.string { data := #[] }, Value.string { data := #[] }, Value.int IntKind.u8 0, Value.int IntKind.u8 0, Value.int IntKind.u8 0, Value.int IntKind.u8 0, Value.int IntKind.u8 0, Value.int IntKind.u8 0, Value.int IntKind.u8 0, Value.int IntKind.u8 0, Value.int IntKind.u8 0, Value.int IntKind.u8 0, Value.int IntKind.u8 0, Value.int IntKind.u8 0, Value.int IntKind.u8 0, Value.int IntKind.u8 0, Value.int IntKind.u8 0, Value.int IntKind.u8 0, Value.int IntKind.u8 0, Value.int IntKind.u8 0, Value.int IntKind.u8 0, Value.int IntKind.u8 0, Value.int IntKind.u8 0, Value.int IntKind.u8 0, Value.int IntKind.u8 0, Value.int IntKind.u8 0, Value.int IntKind.u8 0, Value.int IntKind.u8 0, Value.int IntKind.u8 0, Value.int IntKind.u8 0, Value.int IntKind.u8 0, Value.int IntKind.u8 0, Value.int IntKind.u8 0, Value.int IntKind.u8 0, Value.string { data := #[] }, Value.int IntKind.i64 0, Value.int IntKind.i64 0] t = Obj.cells Slp.zero.cells.toArray t := rfl
structure Fds where
  names : Bool
  digest : Bool
  thing : Bool
  tick : Bool
def Fds.cells (f : Fds) : List Value := [.bool f.names, .bool f.digest, .bool f.thing, .bool f.tick]
theorem load_new (w : World) (ty : TypeId) (cells : List Value) (d : TypeDesc) (hu : Tryz.prog.underlying ty = some d) (hd : d.isRow = true) (hi : (Tryz.prog.info? ty).map (·.size) = some cells.length) :
    (loadVar ty ⟨w.heap.size, 0, none⟩).run Tryz.prog (w.alloc (.cells cells.toArray ty)) = .ok (.agg cells.toArray) (w.alloc (.cells cells.toArray ty)) :=
  run_loadVar_mid (P := Tryz.prog) _ w.heap.size 0 ty cells d (Blk.rng (Blk.new w cells ty)) hu hd hi
theorem load_fds (w : World) (f : Fds) : (loadVar 189 ⟨w.heap.size, 0, none⟩).run Tryz.prog (w.alloc (.cells f.cells.toArray 189)) = .ok (.agg f.cells.toArray) (w.alloc (.cells f.cells.toArray 189)) :=
  load_new w _ f.cells _ Tryz.underlying189 rfl (by kernel_rfl)
theorem load_b4 (w : World) (f : Fds) : (loadVar 197 ⟨w.heap.size, 0, none⟩).run Tryz.prog (w.alloc (.cells f.cells.toArray 197)) = .ok (.agg f.cells.toArray) (w.alloc (.cells f.cells.toArray 197)) :=
  load_new w _ f.cells _ Tryz.underlying197 rfl (by kernel_rfl)
def fdsOf (k : Int) : Fds := if k = 1 then ⟨true, true, true, true⟩ else if k = 2 then ⟨true, false, false, true⟩ else if k = 3 then ⟨true, false, false, false⟩ else if k = 4 then ⟨false, true, true, false⟩ else if k = 5 ∨ k = 6 then ⟨false, true, false, false⟩ else ⟨false, false, false, false⟩
def isKind (k : Int) : Bool := decide (1 ≤ k ∧ k ≤ 6)
theorem slip_of (k : Int) (w : World) : Calls Tryz.prog 125 #[.int .i64 k] w fun e w' => e = .returned (.tuple #[.agg (fdsOf k).cells.toArray, .bool (isKind k)]) ∧ Keep [] w w' := by
  have hk : k = 1 ∨ k = 2 ∨ k = 3 ∨ k = 4 ∨ k = 5 ∨ k = 6 ∨ (k ≠ 1 ∧ k ≠ 2 ∧ k ≠ 3 ∧ k ≠ 4 ∧ k ≠ 5 ∧ k ≠ 6) := by omega
  rcases hk with rfl | rfl | rfl | rfl | rfl | rfl | ⟨h1, h2, h3, h4, h5, h6⟩
  · go_enter Tryz.func125, Tryz.ntmps125; go_wp2_with fail; have hload := load_fds w ⟨true, true, true, true⟩; simp only [Fds.cells] at hload; exact bodyPost_ret (v := .tuple #[.agg #[.bool true, .bool true, .bool true, .bool true], .bool true]) (by simp [Act.put, results, Tryz.results125, asAddr, Result.andThen, hload]) rfl ⟨rfl, (Keep.refl [] w).alloc _⟩
  · go_enter Tryz.func125, Tryz.ntmps125; go_wp2_with fail; have hload := load_fds w ⟨true, false, false, true⟩; simp only [Fds.cells] at hload; exact bodyPost_ret (v := .tuple #[.agg #[.bool true, .bool false, .bool false, .bool true], .bool true]) (by simp [Act.put, results, Tryz.results125, asAddr, Result.andThen, hload]) rfl ⟨rfl, (Keep.refl [] w).alloc _⟩
  · go_enter Tryz.func125, Tryz.ntmps125; go_wp2_with fail; have hload := load_fds w ⟨true, false, false, false⟩; simp only [Fds.cells] at hload; exact bodyPost_ret (v := .tuple #[.agg #[.bool true, .bool false, .bool false, .bool false], .bool true]) (by simp [Act.put, results, Tryz.results125, asAddr, Result.andThen, hload]) rfl ⟨rfl, (Keep.refl [] w).alloc _⟩
  · go_enter Tryz.func125, Tryz.ntmps125; go_wp2_with fail; have hload := load_fds w ⟨false, true, true, false⟩; simp only [Fds.cells] at hload; exact bodyPost_ret (v := .tuple #[.agg #[.bool false, .bool true, .bool true, .bool false], .bool true]) (by simp [Act.put, results, Tryz.results125, asAddr, Result.andThen, hload]) rfl ⟨rfl, (Keep.refl [] w).alloc _⟩
  · go_enter Tryz.func125, Tryz.ntmps125; go_wp2_with fail; have hload := load_fds w ⟨false, true, false, false⟩; simp only [Fds.cells] at hload; exact bodyPost_ret (v := .tuple #[.agg #[.bool false, .bool true, .bool false, .bool false], .bool true]) (by simp [Act.put, results, Tryz.results125, asAddr, Result.andThen, hload]) rfl ⟨rfl, (Keep.refl [] w).alloc _⟩
  · go_enter Tryz.func125, Tryz.ntmps125; go_wp2_with fail; have hload := load_fds w ⟨false, true, false, false⟩; simp only [Fds.cells] at hload; exact bodyPost_ret (v := .tuple #[.agg #[.bool false, .bool true, .bool false, .bool false], .bool true]) (by simp [Act.put, results, Tryz.results125, asAddr, Result.andThen, hload]) rfl ⟨rfl, (Keep.refl [] w).alloc _⟩
  · have e1 : fdsOf k = ⟨false, false, false, false⟩ := by simp [fdsOf, h1, h2, h3, h4, h5, h6]
    have e2 : isKind k = false := by simp [isKind]; omega
    rw [e1, e2]; have f1 : (k == 1) = false := by simp [h1]
    have f2 : (k == 2) = false := by simp [h2]
    have f3 : (k == 3) = false := by simp [h3]
    have f4 : (k == 4) = false := by simp [h4]
    have f5 : (k == 5) = false := by simp [h5]
    have f6 : (k == 6) = false := by simp [h6]
    clear e1 e2 h1 h2 h3 h4 h5 h6; go_enter Tryz.func125, Tryz.ntmps125; go_wp2_with fail; have hload := load_fds w ⟨false, false, false, false⟩; simp only [Fds.cells] at hload; exact bodyPost_ret (v := .tuple #[.agg #[.bool false, .bool false, .bool false, .bool false], .bool false]) (by simp [Act.put, results, Tryz.results125, asAddr, Result.andThen, hload]) rfl ⟨rfl, (Keep.refl [] w).alloc _⟩
theorem slip_within (n a b : Int) (w : World) : Calls Tryz.prog 127 #[.int .i64 n, .int .i64 a, .int .i64 b] w fun e w' => e = .returned (.bool (decide (a ≤ n ∧ n ≤ b))) ∧ w = w' := by
  by_cases h1 : a ≤ n
  · have f1 : decide (a ≤ n) = true := decide_eq_true h1; have e1 : decide (a ≤ n ∧ n ≤ b) = decide (n ≤ b) := by simp [h1]
    rw [e1]; go_enter Tryz.func127, Tryz.ntmps127; go_wp2_with fail; go_ret; exact ⟨rfl, rfl⟩
  · have f1 : decide (a ≤ n) = false := decide_eq_false h1; have e1 : decide (a ≤ n ∧ n ≤ b) = false := by simp [h1]
    rw [e1]; clear e1; go_enter Tryz.func127, Tryz.ntmps127; go_wp2_with fail; go_ret; exact ⟨rfl, rfl⟩
theorem ref08_has (k : Int) (w : World) (h0 : 1 ≤ k) (h1 : k ≤ 6) : Calls Tryz.prog 133 #[.int .i64 k] w fun e w' => e = .returned (.agg (fdsOf k).cells.toArray) ∧ Keep [] w w' := by
  have hk : k = 1 ∨ k = 2 ∨ k = 3 ∨ k = 4 ∨ k = 5 ∨ k = 6 := by omega
  rcases hk with rfl | rfl | rfl | rfl | rfl | rfl
  · go_enter Tryz.func133, Tryz.ntmps133; go_wp2_with fail; have hload := load_b4 w ⟨true, true, true, true⟩; simp only [Fds.cells] at hload; exact bodyPost_ret (v := .agg #[.bool true, .bool true, .bool true, .bool true]) (by simp [Act.put, results, Tryz.results133, asAddr, Result.andThen, hload]) rfl ⟨rfl, (Keep.refl [] w).alloc _⟩
  · go_enter Tryz.func133, Tryz.ntmps133; go_wp2_with fail; have hload := load_b4 w ⟨true, false, false, true⟩; simp only [Fds.cells] at hload; exact bodyPost_ret (v := .agg #[.bool true, .bool false, .bool false, .bool true]) (by simp [Act.put, results, Tryz.results133, asAddr, Result.andThen, hload]) rfl ⟨rfl, (Keep.refl [] w).alloc _⟩
  · go_enter Tryz.func133, Tryz.ntmps133; go_wp2_with fail; have hload := load_b4 w ⟨true, false, false, false⟩; simp only [Fds.cells] at hload; exact bodyPost_ret (v := .agg #[.bool true, .bool false, .bool false, .bool false]) (by simp [Act.put, results, Tryz.results133, asAddr, Result.andThen, hload]) rfl ⟨rfl, (Keep.refl [] w).alloc _⟩
  · go_enter Tryz.func133, Tryz.ntmps133; go_wp2_with fail; have hload := load_b4 w ⟨false, true, true, false⟩; simp only [Fds.cells] at hload; exact bodyPost_ret (v := .agg #[.bool false, .bool true, .bool true, .bool false]) (by simp [Act.put, results, Tryz.results133, asAddr, Result.andThen, hload]) rfl ⟨rfl, (Keep.refl [] w).alloc _⟩
  · go_enter Tryz.func133, Tryz.ntmps133; go_wp2_with fail; have hload := load_b4 w ⟨false, true, false, false⟩; simp only [Fds.cells] at hload; exact bodyPost_ret (v := .agg #[.bool false, .bool true, .bool false, .bool false]) (by simp [Act.put, results, Tryz.results133, asAddr, Result.andThen, hload]) rfl ⟨rfl, (Keep.refl [] w).alloc _⟩
  · go_enter Tryz.func133, Tryz.ntmps133; go_wp2_with fail; have hload := load_b4 w ⟨false, true, false, false⟩; simp only [Fds.cells] at hload; exact bodyPost_ret (v := .agg #[.bool false, .bool true, .bool false, .bool false]) (by simp [Act.put, results, Tryz.results133, asAddr, Result.andThen, hload]) rfl ⟨rfl, (Keep.refl [] w).alloc _⟩
def onlyS (x : Slp) (f : Fds) : Slp := ⟨x.kind, if f.names then x.repo else [], if f.names then x.tag else [], if f.digest then x.dig else dig00, if f.thing then x.typ else [], if f.thing then x.size else 0, if f.tick then x.tick else 0⟩
def goodS (x : Slp) : Bool := isKind x.kind && decide (x = onlyS x (fdsOf x.kind)) && (!(fdsOf x.kind).names || (decide (1 ≤ x.repo.length ∧ x.repo.length ≤ 128) && decide (1 ≤ x.tag.length ∧ x.tag.length ≤ 128))) && decide (x.typ.length ≤ 100) && decide (0 ≤ x.size ∧ x.size ≤ 1048576) && decide (0 ≤ x.tick ∧ x.tick ≤ 1099511627776)
structure Tik where
  repo : List UInt8
  tag : List UInt8
  found : Bool
  dig : Dig
  typ : List UInt8
  size : Int
  tick : Int
deriving DecidableEq
def Tik.cells (x : Tik) : List Value := [.string (S x.repo), .string (S x.tag), .bool x.found] ++ (digC x.dig ++ [.string (S x.typ), .int .i64 x.size, .int .i64 x.tick])
theorem Tik.cells_length (x : Tik) : x.cells.length = 38 := by simp [Tik.cells, digC_length]
theorem Tik.one (x : Tik) : ∀ v ∈ x.cells, v.oneCell' = true := by
  intro v hv; simp only [Tik.cells, List.cons_append, List.nil_append, List.mem_cons, List.mem_append, List.not_mem_nil, or_false] at hv; rcases hv with rfl | rfl | rfl | hv | rfl | rfl | rfl
  · rfl
  · rfl
  · rfl
  · exact digC_one _ v hv
  · rfl
  · rfl
  · rfl
def Tik.zero : Tik := ⟨[], [], false, dig00, [], 0, 0⟩
theorem eqT8 (t : TypeId) : Obj.cells #[Value.string { data := #[] }, Value.string { data := #[] }, Value.bool false, Value.int IntKind.u8 0, Value.int IntKind.u8 0, Value.int IntKind.u8 0, Value.int IntKind.u8 0, Value.int IntKind.u8 0, Value.int IntKind.u8 0, Value.int IntKind.u8 0, Value.int IntKind.u8 0, Value.int IntKind.u8 0, Value.int IntKind.u8 0, Value.int IntKind.u8 0, Value.int IntKind.u8 0, Value.int IntKind.u8 0, Value.int IntKind.u8 0, Value.int IntKind.u8 0, Value.int IntKind.u8 0, Value.int IntKind.u8 0, Value.int IntKind.u8 0, Value.int IntKind.u8 0, Value.int IntKind.u8 0, Value.int IntKind.u8 0, Value.int IntKind.u8 0, Value.int IntKind.u8 0, Value.int IntKind.u8 0, Value.int IntKind.u8 0, Value.int IntKind.u8 0, Value.int IntKind.u8 0, Value.int IntKind.u8 0, Value.int IntKind.u8 0, Value.int IntKind.u8 0, Value.int IntKind.u8 0, Value.int IntKind.u8 0, Value.string { data := #[] }, Value.int IntKind.i64 0, Value.int IntKind.i64 0] t = Obj.cells Tik.zero.cells.toArray t := rfl
def aheadT (a b : Tik) : Bool := bytesBefore a.repo b.repo || (a.repo == b.repo && bytesBefore a.tag b.tag)
def sameT (a b : Tik) : Bool := a.repo == b.repo && a.tag == b.tag
theorem sameT_iff {a b : Tik} : sameT a b = true ↔ a.repo = b.repo ∧ a.tag = b.tag := by simp [sameT]
theorem ahead_irrefl {a b : Tik} (h : sameT a b = true) : aheadT a b = false := by
  obtain ⟨h1, h2⟩ := sameT_iff.1 h; simp [aheadT, h1, h2, WideAt.bytes_irrefl]
theorem ahead_trans {a b c : Tik} (h : aheadT a b = true) (k : aheadT b c = true) : aheadT a c = true := by
  simp only [aheadT, Bool.or_eq_true, Bool.and_eq_true, beq_iff_eq] at h k ⊢; rcases h with h | ⟨h1, h2⟩ <;> rcases k with k | ⟨k1, k2⟩
  · exact Or.inl (WideShapes.bytes_trans _ _ _ h k)
  · exact Or.inl (k1 ▸ h)
  · exact Or.inl (h1 ▸ k)
  · exact Or.inr ⟨h1.trans k1, WideShapes.bytes_trans _ _ _ h2 k2⟩
theorem ahead_asymm {a b : Tik} (h : aheadT a b = true) : aheadT b a = false := by
  cases hb : aheadT b a with
  | false => rfl
  | true =>
    have := ahead_trans h hb; rw [ahead_irrefl (sameT_iff.2 ⟨rfl, rfl⟩)] at this; cases this
theorem ahead_total {a b : Tik} (h : sameT a b = false) : aheadT a b = true ∨ aheadT b a = true := by
  simp only [sameT, Bool.and_eq_false_iff, beq_eq_false_iff_ne] at h; simp only [aheadT, Bool.or_eq_true, Bool.and_eq_true, beq_iff_eq]; by_cases e : a.repo = b.repo
  · rcases WideAt.bytes_total a.tag b.tag (h.resolve_left (fun k => k e)) with k | k
    · exact Or.inl (Or.inr ⟨e, k⟩)
    · exact Or.inr (Or.inr ⟨e.symm, k⟩)
  · rcases WideAt.bytes_total _ _ e with k | k
    · exact Or.inl (Or.inl k)
    · exact Or.inr (Or.inl k)
theorem ahead_not_same {a b : Tik} (h : aheadT a b = true) : sameT a b = false := by
  cases hs : sameT a b with
  | false => rfl
  | true => rw [ahead_irrefl hs] at h; cases h
theorem same_symm {a b : Tik} (h : sameT a b = true) : sameT b a = true := by
  rw [sameT_iff] at h ⊢; exact ⟨h.1.symm, h.2.symm⟩
theorem ahead_same {a b c : Tik} (h : aheadT a b = true) (k : sameT b c = true) : aheadT a c = true := by
  obtain ⟨k1, k2⟩ := sameT_iff.1 k; unfold aheadT at h ⊢; rw [← k1, ← k2]; exact h
theorem same_ahead {a b c : Tik} (k : sameT a b = true) (h : aheadT b c = true) : aheadT a c = true := by
  obtain ⟨k1, k2⟩ := sameT_iff.1 k; unfold aheadT at h ⊢; rw [k1, k2]; exact h
def AscT (L : List Tik) : Prop := L.Pairwise fun a b => aheadT a b = true
def dropT (r t : List UInt8) (L : List Tik) : List Tik := L.filter fun y => !(y.repo == r && y.tag == t)
theorem dropT_x (x : Tik) (L : List Tik) : dropT x.repo x.tag L = L.filter fun y => !sameT y x := rfl
def insT (x : Tik) : List Tik → List Tik
  | [] => [x]
  | y :: r => if aheadT x y then x :: y :: r else y :: insT x r
def oldT : List Tik → Option Tik
  | [] => none
  | y :: r => match oldT r with
    | none => some y
    | some z => if z.tick < y.tick then some z else some y
def putT (most : Nat) (L : List Tik) (x : Tik) : List Tik :=
  insT x (if most ≤ (dropT x.repo x.tag L).length then
    (match oldT (dropT x.repo x.tag L) with
      | none => dropT x.repo x.tag L
      | some z => dropT z.repo z.tag (dropT x.repo x.tag L)) else dropT x.repo x.tag L)
def getT (r t : List UInt8) (L : List Tik) : Option Tik := L.find? fun y => y.repo == r && y.tag == t
theorem insT_front (x : Tik) (l : List Tik) (h : ∀ y ∈ l, aheadT x y = true) : insT x l = x :: l := by
  cases l with
  | nil => rfl
  | cons y r =>
    unfold insT; rw [if_pos (h y List.mem_cons_self)]
theorem insT_mem (x y : Tik) (l : List Tik) : y ∈ insT x l ↔ y = x ∨ y ∈ l := by
  induction l with
  | nil => simp [insT]
  | cons z r ih =>
    unfold insT
    split
    · simp
    · simp only [List.mem_cons, ih]; constructor
      · rintro (h | h | h)
        · exact .inr (.inl h)
        · exact .inl h
        · exact .inr (.inr h)
      · rintro (h | h | h)
        · exact .inr (.inl h)
        · exact .inl h
        · exact .inr (.inr h)
theorem insT_length (x : Tik) (l : List Tik) : (insT x l).length = l.length + 1 := by
  induction l with
  | nil => rfl
  | cons z r ih =>
    unfold insT
    split
    · rfl
    · simp [ih]
theorem AscT.filter {L : List Tik} (h : AscT L) (p : Tik → Bool) : AscT (L.filter p) := List.Pairwise.filter p h
theorem AscT.ins {L : List Tik} (h : AscT L) {x : Tik} (hn : ∀ y ∈ L, sameT y x = false) : AscT (insT x L) := by
  induction L with
  | nil => exact List.pairwise_singleton _ _
  | cons y r ih =>
    obtain ⟨h1, h2⟩ := List.pairwise_cons.1 h; unfold insT
    split
    · rename_i hx
      exact List.pairwise_cons.2 ⟨fun z hz => by
        rcases List.mem_cons.1 hz with rfl | hz
        · exact hx
        · exact ahead_trans hx (h1 z hz), h⟩
    · rename_i hx; refine List.pairwise_cons.2 ⟨fun z hz => ?_, ih h2 (fun z hz => hn z (List.mem_cons_of_mem _ hz))⟩; rcases (insT_mem _ _ _).1 hz with rfl | hz
      · rcases ahead_total (hn y List.mem_cons_self) with e | e
        · exact e
        · exact absurd e hx
      · exact h1 z hz
theorem ins_filter {L : List Tik} (h : AscT L) {x : Tik} (p : Tik → Bool) (hp : p x = true) : (insT x L).filter p = insT x (L.filter p) := by
  induction L with
  | nil => simp [insT, hp]
  | cons y r ih =>
    obtain ⟨h1, h2⟩ := List.pairwise_cons.1 h; by_cases hx : aheadT x y = true
    · have e : insT x (y :: r) = x :: y :: r := by unfold insT; rw [if_pos hx]
      rw [e, List.filter_cons_of_pos hp, insT_front]; intro z hz; rcases List.mem_cons.1 (List.mem_filter.1 hz).1 with rfl | hz
      · exact hx
      · exact ahead_trans hx (h1 z hz)
    · have e : ∀ l, insT x (y :: l) = y :: insT x l := fun l => by
        rw [insT]; rw [if_neg hx]
      rw [e]; by_cases hy : p y = true
      · rw [List.filter_cons_of_pos hy, List.filter_cons_of_pos hy, e, ih h2]
      · rw [List.filter_cons_of_neg hy, List.filter_cons_of_neg hy, ih h2]
def posT (x : Tik) (L : List Tik) : Nat := L.countP fun y => aheadT y x
theorem posT_le (x : Tik) (L : List Tik) : posT x L ≤ L.length := List.countP_le_length
theorem posT_cons (x y : Tik) (r : List Tik) : posT x (y :: r) = posT x r + if aheadT y x then 1 else 0 := by
  unfold posT; rw [List.countP_cons]
theorem posT_zero {x y : Tik} {r : List Tik} (h : AscT (y :: r)) (hy : aheadT y x = false) : posT x (y :: r) = 0 := by
  refine List.countP_eq_zero.2 fun z hz => ?_
  rcases List.mem_cons.1 hz with rfl | hz
  · simp [hy]
  · intro hzx; rw [ahead_trans ((List.pairwise_cons.1 h).1 z hz) hzx] at hy; cases hy
theorem pos_same {L : List Tik} (h : AscT L) {x y : Tik} (hy : y ∈ L) (hs : sameT y x = true) : L[posT x L]? = some y := by
  induction L with
  | nil => cases hy
  | cons z r ih =>
    obtain ⟨h1, h2⟩ := List.pairwise_cons.1 h; rcases List.mem_cons.1 hy with rfl | hy
    · rw [posT_zero h (ahead_irrefl hs)]; rfl
    · have hz := ahead_same (h1 y hy) hs; rw [posT_cons, if_pos hz]; exact ih h2 hy
theorem pos_ins {L : List Tik} (h : AscT L) {x : Tik} (hn : ∀ y ∈ L, sameT y x = false) : L.take (posT x L) ++ x :: L.drop (posT x L) = insT x L := by
  induction L with
  | nil => rfl
  | cons y r ih =>
    obtain ⟨h1, h2⟩ := List.pairwise_cons.1 h; by_cases hy : aheadT y x = true
    · rw [posT_cons, if_pos hy]; unfold insT; rw [if_neg (by rw [ahead_asymm hy]; simp), ← ih h2 (fun z hz => hn z (List.mem_cons_of_mem _ hz))]; rfl
    · have hx : aheadT x y = true := (ahead_total (hn y List.mem_cons_self)).resolve_left hy; rw [posT_zero h (by simpa using hy)]; unfold insT; rw [if_pos hx]; rfl
theorem not_same_of {L : List Tik} (h : AscT L) {x : Tik} (hp : ∀ y, L[posT x L]? = some y → sameT y x = false) : ∀ y ∈ L, sameT y x = false := by
  intro y hy
  cases hs : sameT y x with
  | false => rfl
  | true => rw [← hs, hp y (pos_same h hy hs)]
theorem drop_none {L : List Tik} {x : Tik} (hn : ∀ y ∈ L, sameT y x = false) : dropT x.repo x.tag L = L := by
  rw [dropT_x]; exact List.filter_eq_self.2 fun y hy => by rw [hn y hy]; rfl
theorem dropT_at {L : List Tik} (h : AscT L) {x y : Tik} {k : Nat} (hk : L[k]? = some y) (hs : sameT y x = true) : L.eraseIdx k = dropT x.repo x.tag L := by
  rw [dropT_x]
  induction L generalizing k with
  | nil => cases hk
  | cons z r ih =>
    obtain ⟨h1, h2⟩ := List.pairwise_cons.1 h
    cases k with
    | zero =>
      obtain rfl : z = y := by simpa using hk
      rw [List.filter_cons_of_neg (by rw [hs]; simp)]; refine (List.filter_eq_self.2 fun u hu => ?_).symm; have := ahead_not_same (same_ahead (same_symm hs) (h1 u hu))
      cases hux : sameT u x with
      | false => rfl
      | true => rw [same_symm hux] at this; cases this
    | succ k =>
      have hk' : r[k]? = some y := by simpa using hk
      have hm := List.mem_of_getElem? hk'; rw [List.filter_cons_of_pos (by rw [ahead_not_same (ahead_same (h1 y hm) hs)]; rfl), ← ih h2 hk']; rfl
theorem set_at {L : List Tik} (h : AscT L) {x y : Tik} {k : Nat} (hk : L[k]? = some y) (hs : sameT y x = true) : L.set k x = insT x (dropT x.repo x.tag L) := by
  rw [dropT_x]
  induction L generalizing k with
  | nil => cases hk
  | cons z r ih =>
    obtain ⟨h1, h2⟩ := List.pairwise_cons.1 h
    cases k with
    | zero =>
      obtain rfl : z = y := by simpa using hk
      rw [List.filter_cons_of_neg (by rw [hs]; simp)]; have hu : ∀ u ∈ r, aheadT x u = true := fun u hu => same_ahead (same_symm hs) (h1 u hu)
      have e : r.filter (fun y => !sameT y x) = r := List.filter_eq_self.2 fun u hm => by
        cases hux : sameT u x with
        | false => rfl
        | true =>
          have := ahead_not_same (hu u hm); rw [same_symm hux] at this; cases this
      rw [e, insT_front x r hu]; rfl
    | succ k =>
      have hk' : r[k]? = some y := by simpa using hk
      have hz := ahead_same (h1 y (List.mem_of_getElem? hk')) hs; rw [List.filter_cons_of_pos (by rw [ahead_not_same hz]; rfl), insT, if_neg (by rw [ahead_asymm hz]; simp), ← ih h2 hk']; rfl
theorem get_at {L : List Tik} (h : AscT L) {x y : Tik} (hk : L[posT x L]? = some y) (hs : sameT y x = true) : getT x.repo x.tag L = some y := by
  unfold getT; show L.find? (fun y => sameT y x) = _
  cases hf : L.find? (fun y => sameT y x) with
  | none => exact absurd hs (by have := List.find?_eq_none.1 hf y (List.mem_of_getElem? hk); simpa using this)
  | some z =>
    have h2 := pos_same h (List.mem_of_find?_eq_some hf) (by have := List.find?_some hf; simpa using this); rw [hk] at h2; exact h2.symm
theorem getT_none {L : List Tik} {x : Tik} (hn : ∀ y ∈ L, sameT y x = false) : getT x.repo x.tag L = none := by
  unfold getT
  exact List.find?_eq_none.2 fun y hy => by
    have := hn y hy; unfold sameT at this; simp [this]
def stepO (x : Tik) (i : Nat) (o : Option (Nat × Tik)) (y : Tik) : Option (Nat × Tik) :=
  if sameT y x then o else match o with
    | none => some (i, y)
    | some (k, z) => if y.tick < z.tick then some (i, y) else some (k, z)
def oldG (x : Tik) : Nat → Option (Nat × Tik) → List Tik → Option (Nat × Tik)
  | _, o, [] => o
  | i, o, y :: r => oldG x (i + 1) (stepO x i o y) r
def minT (o : Option Tik) (p : Option Tik) : Option Tik := match o, p with
  | none, p => p
  | some z, none => some z
  | some z, some y => if y.tick < z.tick then some y else some z
theorem oldT_cons (y : Tik) (r : List Tik) : oldT (y :: r) = minT (some y) (oldT r) := by
  rw [oldT]; cases oldT r <;> rfl
theorem minT_assoc (o : Option Tik) (y : Tik) (p : Option Tik) : minT (minT o (some y)) p = minT o (minT (some y) p) := by
  cases o with
  | none => cases p <;> rfl
  | some z =>
    cases p with
    | none =>
      simp only [minT]; by_cases h1 : y.tick < z.tick <;> simp [h1]
    | some u =>
      simp only [minT]; by_cases h1 : y.tick < z.tick <;> by_cases h2 : u.tick < y.tick <;> by_cases h3 : u.tick < z.tick <;> simp [h1, h2, h3, minT] <;> omega
theorem oldG_min (x : Tik) (M : List Tik) (i : Nat) (o : Option (Nat × Tik)) : (oldG x i o M).map (·.2) = minT (o.map (·.2)) (oldT (M.filter fun y => !sameT y x)) := by
  induction M generalizing i o with
  | nil => cases o <;> rfl
  | cons y r ih =>
    rw [oldG, ih]
    cases hs : sameT y x with
    | true =>
      rw [List.filter_cons_of_neg (by rw [hs]; simp)]; unfold stepO; rw [if_pos hs]
    | false =>
      rw [List.filter_cons_of_pos (by rw [hs]; rfl), oldT_cons, ← minT_assoc]; congr 1; unfold stepO; rw [if_neg (by rw [hs]; simp)]
      cases o with
      | none => rfl
      | some p =>
        simp only [minT, Option.map_some]; by_cases h1 : y.tick < p.2.tick <;> simp [h1]
theorem oldG_at (x : Tik) (M : List Tik) (i : Nat) (o : Option (Nat × Tik)) (N : List Tik) (hM : N.drop i = M) (ho : ∀ k z, o = some (k, z) → N[k]? = some z ∧ sameT z x = false) :
    ∀ k z, oldG x i o M = some (k, z) → N[k]? = some z ∧ sameT z x = false := by
  induction M generalizing i o with
  | nil => exact ho
  | cons y r ih =>
    have hy : N[i]? = some y := by
      have := congrArg (·[0]?) hM; simpa using this
    refine ih (i + 1) (stepO x i o y) ?_ ?_
    · rw [← List.drop_drop, hM]; rfl
    · intro k z he; unfold stepO at he
      split at he
      · exact ho k z he
      · rename_i hs; have hs' : sameT y x = false := by simpa using hs
        cases o with
        | none =>
          simp at he; obtain ⟨rfl, rfl⟩ := he; exact ⟨hy, hs'⟩
        | some p =>
          simp only at he
          split at he
          · simp at he; obtain ⟨rfl, rfl⟩ := he; exact ⟨hy, hs'⟩
          · exact ho k z he
theorem ins_drop {L : List Tik} {x : Tik} (h : AscT L) (hn : ∀ y ∈ L, sameT y x = false) : (insT x L).filter (fun y => !sameT y x) = L := by
  have hA := h.ins hn; have hm : x ∈ insT x L := (insT_mem _ _ _).2 (.inl rfl)
  induction L with
  | nil => simp [insT, sameT]
  | cons y r ih =>
    obtain ⟨h1, h2⟩ := List.pairwise_cons.1 h; have hr : r.filter (fun y => !sameT y x) = r := List.filter_eq_self.2 fun u hu => by rw [hn u (List.mem_cons_of_mem _ hu)]; rfl
    have hy := hn y List.mem_cons_self; unfold insT
    split
    · rw [List.filter_cons_of_neg (by simp [sameT]), List.filter_cons_of_pos (by rw [hy]; rfl), hr]
    · rw [List.filter_cons_of_pos (by rw [hy]; rfl), ih h2 (fun z hz => hn z (List.mem_cons_of_mem _ hz)) ((show AscT r from h2).ins (fun z hz => hn z (List.mem_cons_of_mem _ hz))) ((insT_mem _ _ _).2 (.inl rfl))]
theorem oldT_mem {L : List Tik} {z : Tik} (h : oldT L = some z) : z ∈ L := by
  induction L generalizing z with
  | nil => cases h
  | cons y r ih =>
    rw [oldT] at h
    split at h
    · simp at h; simp [h]
    · rename_i u hu
      split at h
      · simp at h; subst h; exact List.mem_cons_of_mem _ (ih hu)
      · simp at h; simp [h]
theorem oldT_none {L : List Tik} (h : oldT L = none) : L = [] := by
  cases L with
  | nil => rfl
  | cons y r =>
    rw [oldT_cons] at h; cases hr : oldT r <;> rw [hr] at h <;> simp only [minT] at h
    · cases h
    · split at h <;> cases h
theorem put_full {L : List Tik} {x : Tik} (h : AscT L) (hn : ∀ y ∈ L, sameT y x = false) (hL : L ≠ []) :
    ∃ k z, oldG x 0 none (insT x L) = some (k, z) ∧ (insT x L)[k]? = some z ∧ oldT L = some z ∧ (insT x L).eraseIdx k = insT x (dropT z.repo z.tag L) := by
  have hm := oldG_min x (insT x L) 0 none; rw [ins_drop h hn] at hm
  cases ho : oldT L with
  | none => exact absurd (oldT_none ho) hL
  | some z =>
    rw [ho] at hm
    cases hg : oldG x 0 none (insT x L) with
    | none => rw [hg] at hm; cases hm
    | some p =>
      obtain ⟨k, z'⟩ := p; rw [hg] at hm; have e : z' = z := by simpa [minT] using hm
      subst e; obtain ⟨h1, h2⟩ := oldG_at x (insT x L) 0 none (insT x L) rfl (fun _ _ h => by cases h) k z' hg; refine ⟨k, z', rfl, h1, rfl, ?_⟩; rw [dropT_at (h.ins hn) h1 (x := z') (by simp [sameT]), dropT_x, dropT_x, ins_filter h]
      cases hs : sameT x z' with
      | false => rfl
      | true => rw [same_symm hs] at h2; cases h2
theorem put_there {most : Nat} {L : List Tik} {x y : Tik} (h : AscT L) (hl : L.length ≤ most) (hk : L[posT x L]? = some y) (hs : sameT y x = true) : putT most L x = L.set (posT x L) x := by
  have hlt : posT x L < L.length := (List.getElem?_eq_some_iff.1 hk).1; have hd := dropT_at h hk hs
  have hlen : (dropT x.repo x.tag L).length + 1 = L.length := by
    rw [← hd, List.length_eraseIdx_of_lt hlt]; omega
  unfold putT; rw [if_neg (by omega), set_at h hk hs]
theorem put_new {most : Nat} {L : List Tik} {x : Tik} (h : AscT L) (hl : L.length < most) (hn : ∀ y ∈ L, sameT y x = false) : putT most L x = insT x L := by
  unfold putT; rw [drop_none hn, if_neg (by omega)]
theorem put_over {most : Nat} {L : List Tik} {x : Tik} (h : AscT L) (hl : L.length = most) (h0 : 0 < most) (hn : ∀ y ∈ L, sameT y x = false) :
    ∃ k z, oldG x 0 none (insT x L) = some (k, z) ∧ (insT x L)[k]? = some z ∧ putT most L x = (insT x L).eraseIdx k := by
  obtain ⟨k, z, h1, h2, h3, h4⟩ := put_full h hn (fun e => by subst e; simp at hl; omega); refine ⟨k, z, h1, h2, ?_⟩; rw [h4]; unfold putT; rw [drop_none hn, if_pos (by omega), h3]
theorem drop_asc {L : List Tik} (h : AscT L) (r t : List UInt8) : AscT (dropT r t L) := h.filter _
theorem drop_len (r t : List UInt8) (L : List Tik) : (dropT r t L).length ≤ L.length := List.length_filter_le _ _
theorem put_asc {most : Nat} {L : List Tik} (h : AscT L) (x : Tik) : AscT (putT most L x) := by
  have h1 : ∀ y ∈ dropT x.repo x.tag L, sameT y x = false := fun y hy => by
    have := (List.mem_filter.1 hy).2
    cases hs : sameT y x with
    | false => rfl
    | true => unfold sameT at hs; rw [hs] at this; cases this
  unfold putT; refine AscT.ins ?_ ?_
  · split
    · split
      · exact drop_asc h _ _
      · exact drop_asc (drop_asc h _ _) _ _
    · exact drop_asc h _ _
  · intro y hy
    split at hy
    · split at hy
      · exact h1 y hy
      · exact h1 y (List.mem_filter.1 hy).1
    · exact h1 y hy
theorem drop_lt {L : List Tik} {z : Tik} (h : z ∈ L) : (dropT z.repo z.tag L).length < L.length := by
  refine Nat.lt_of_le_of_ne (drop_len _ _ _) fun e => ?_
  have := List.length_filter_eq_length_iff.1 e z h; simp at this
theorem put_len {most : Nat} {L : List Tik} (hl : L.length ≤ most) (h0 : 0 < most) (x : Tik) : (putT most L x).length ≤ most := by
  have hd := drop_len x.repo x.tag L; unfold putT; rw [insT_length]
  split
  · split
    · rename_i ho; rw [oldT_none ho]; simp; omega
    · rename_i z ho; have := drop_lt (oldT_mem ho); omega
  · omega
end Go.Proofs.YtkghgaopcgcheaaGreatDoor
