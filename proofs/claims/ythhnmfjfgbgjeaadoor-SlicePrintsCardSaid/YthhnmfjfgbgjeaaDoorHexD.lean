/- Layer 1: numbers in decimal are written. No conditions but on the numbers' table. -/
import Derived.Test.YthhnmfjfgbgjeaaDoorSl4
import Derived.Lib.LaidTab
import Derived.Lib.ItoaNum
import Derived.Lib.ItoaLen
import Derived.Sort.Grow
namespace Go.Proofs.YthhnmfjfgbgjeaaDoor
open Go.RowKit Go.Shelf

/-- the library's table of powers of ten is as it was laid -/
def P10 (w : World) : Prop := Lib.TabIs Tryd.prog w "internal/strconv.uint64pow10" .u64 Lib.pow10Tab
theorem P10.keep {w w' : World} {S : List Nat} (h : P10 w) (k : Keep S w w') (hn : ∀ g, Tryd.prog.globalNamed "internal/strconv.uint64pow10" = some g → g ∉ S) : P10 w' := by
  unfold P10 Lib.TabIs World.var? at *
  cases hg : Tryd.prog.globalNamed "internal/strconv.uint64pow10" with
  | none => simp [hg] at h
  | some g =>
    try rw [hg] at h
    simp only [Option.bind_some] at h ⊢
    cases ho : w.heap[g]? with
    | none => rw [ho] at h; simp at h
    | some o =>
      rw [k.heap ho (hn g hg)]
      rw [ho] at h
      exact h
theorem P10.keep0 {w w' : World} (h : P10 w) (k : Keep [] w w') : P10 w' := h.keep k (by simp)
theorem laid_at {P : Program} {W : World} {name : String} {k : IntKind} {zs : List Int} {g : Nat} {t e : TypeId} {n : Nat}
    (hg : P.globalNamed name = some g) (hty : (P.globals[g]?).map (·.type) = some t) (ht : P.underlying t = some (.array n e)) (he : P.underlying e = some (.int k)) (hce : P.cellsOf e = 1) (hct : P.cellsOf t = n) :
    ∀ {laid : List (String × DataW Unit)} {ps : List MemPlace}, (name, Lib.tabData k zs) ∈ laid → DataW.LaidVars P W laid ps → Lib.TabIs P W name k zs
  | [], ps, hm, _ => by simp at hm
  | x :: r, ps, hm, h => by
    obtain ⟨g', t', cs, fuel, p, q, hg', ht', hvar, hd, hr, _⟩ := h
    rcases List.mem_cons.1 hm with e | hm
    · subst e
      obtain rfl := Option.some.inj (hg.symm.trans hg')
      obtain rfl := Option.some.inj (hty.symm.trans ht')
      unfold Lib.TabIs
      rw [hvar, ← Lib.cells_of_tab ht he hce hct hd]
    · exact laid_at hg hty ht he hce hct hm hr
theorem P10.laid {W : World} {laid : List (String × DataW Unit)} (h : laidMet Tryd.prog laid W) (hm : ("internal/strconv.uint64pow10", Lib.tabData .u64 Lib.pow10Tab) ∈ laid := by first | (repeat (first | exact List.Mem.head _ | exact List.Mem.tail _ (List.Mem.head _) | exact List.Mem.tail _ (List.Mem.tail _ (List.Mem.head _)))) | simp) : P10 W := by
  obtain ⟨ps, h, _⟩ := h
  exact laid_at (g := 1) (t := 131) (e := 121) (n := 20) (by kernel_rfl) rfl (by kernel_rfl) (by kernel_rfl) (by kernel_rfl) (by kernel_rfl) hm h
theorem keep_grow (w : World) (k : Nat) (os : Array Obj) : Keep [] w (Sort.grow (w.drewN k) os) :=
  ⟨rfl, rfl, rfl, by simp [Sort.grow, World.drewN], fun i hi _ => by
    show (w.heap ++ os)[i]? = w.heap[i]?
    rw [Array.getElem?_append_left hi]⟩
theorem hexa_Dec (n : Int) (w : World) (hn : in64 n) (hp : P10 w) :
    Calls Tryd.prog 32 #[.int .i64 n] w fun e w' => e = .returned (.string (S (Lib.itoa n))) ∧ Keep [] w w' := by
  have hI := Lib.hid (fun w' (k : Keep [] w w') => Tryd.strconv_Itoa n hn.1 hn.2 w' (hp.keep0 k))
  go_enter Tryd.func32, Tryd.ntmps32
  go_wp2_with fail
  refine (hI.out _ (Keep.refl _ _)).mono ?_
  rintro e w1 ⟨rfl, k, os, rfl⟩
  have hk := keep_grow w k os
  generalize Sort.grow (w.drewN k) os = w1 at hk
  go_wp2_with fail
  go_ret
  exact ⟨rfl, hk⟩
theorem itoa_len (n : Int) (h : in64 n) : (Lib.itoa n).length ≤ 21 := Lib.itoa_length_le n h.1 h.2
/-- 'bytes ' -/
def saidB : List UInt8 := [98, 121, 116, 101, 115, 32]
def prnOk (a b n : Int) : Bool := decide (0 ≤ a) && decide (a ≤ b) && decide (b < n) && decide (n ≤ 4611686018427387904)
/-- a part as it is written -/
def prnS (a b n : Int) : List UInt8 := if prnOk a b n then saidB ++ Lib.itoa a ++ [45] ++ Lib.itoa b ++ [47] ++ Lib.itoa n else []
def prnE (a b n : Int) : Int := if prnOk a b n then 0 else 1
def unmetS (n : Int) : List UInt8 := [98, 121, 116, 101, 115, 32, 42, 47] ++ Lib.itoa (max n 0)

set_option maxHeartbeats 1000000 in
theorem slice_Unmet (n : Int) (w : World) (hn : in64 n) (hp : P10 w) : Calls Tryd.prog 24 #[.int .i64 n] w fun e w' => e = .returned (.string (S (unmetS n))) ∧ Keep [] w w' := by
  have hD := hexa_Dec (max n 0) w (by unfold in64 at *; omega) hp
  have hl := itoa_len (max n 0) (by unfold in64 at *; omega)
  have hU : unmetS n = [98, 121, 116, 101, 115, 32, 42, 47] ++ Lib.itoa (max n 0) := rfl
  generalize unmetS n = u at hU ⊢
  generalize Lib.itoa (max n 0) = l at *
  have hsz := S_size l
  have hap : (⟨#[98, 121, 116, 101, 115, 32, 42, 47]⟩ : ByteArray) ++ S l = S u := by rw [hU]; exact S_append [98, 121, 116, 101, 115, 32, 42, 47] l
  have HD := Lib.hid hD
  clear hD hU
  go_enter Tryd.func24, Tryd.ntmps24
  go_wp2_with fail
  refine HD.out.mono ?_
  rintro e w1 ⟨rfl, hk⟩
  go_wp2_with fail
  go_ret
  exact ⟨rfl, hk⟩

set_option maxRecDepth 100000 in
set_option maxHeartbeats 1000000 in
theorem slice_Print (a b n : Int) (w : World) (ha : in64 a) (hb : in64 b) (hn : in64 n) (hp : P10 w) : Calls Tryd.prog 20 #[.int .i64 a, .int .i64 b, .int .i64 n] w fun e w' => e = .returned (.tuple #[.string (S (prnS a b n)), .int .i64 (prnE a b n)]) ∧ Keep [] w w' := by
  have hE : prnE a b n = if prnOk a b n then 0 else 1 := rfl
  have hS : prnS a b n = if prnOk a b n then saidB ++ Lib.itoa a ++ [45] ++ Lib.itoa b ++ [47] ++ Lib.itoa n else [] := rfl
  have hO : prnOk a b n = (decide (0 ≤ a) && decide (a ≤ b) && decide (b < n) && decide (n ≤ 4611686018427387904)) := rfl
  generalize prnE a b n = pe at hE ⊢
  generalize prnS a b n = ps at hS ⊢
  generalize prnOk a b n = po at hE hS hO
  by_cases h1 : a < 0
  · have hp0 : po = false := by rw [hO]; simp; omega
    have HX := Lib.hid (And.intro (hE.trans (by rw [hp0]; try rfl)) (hS.trans (by rw [hp0]; try rfl)))
    clear hE hS hO hp0
    go_enter Tryd.func20, Tryd.ntmps20
    go_wp2_with fail
    go_ret2
    exact ⟨by rw [HX.out.1, HX.out.2]; rfl, Keep.refl _ _⟩
  · have h1' : decide (a < 0) = false := by simp; omega
    by_cases h2 : a > b
    · have hp0 : po = false := by rw [hO]; simp; omega
      have HX := Lib.hid (And.intro (hE.trans (by rw [hp0]; try rfl)) (hS.trans (by rw [hp0]; try rfl)))
      have h2' : decide (a > b) = true := by simp; omega
      clear hE hS hO hp0 h1 h2
      go_enter Tryd.func20, Tryd.ntmps20
      go_wp2_with fail
      go_ret2
      exact ⟨by rw [HX.out.1, HX.out.2]; rfl, Keep.refl _ _⟩
    · have h2' : decide (a > b) = false := by simp; omega
      by_cases h3 : b ≥ n
      · have hp0 : po = false := by rw [hO]; simp; omega
        have HX := Lib.hid (And.intro (hE.trans (by rw [hp0]; try rfl)) (hS.trans (by rw [hp0]; try rfl)))
        have h3' : decide (b ≥ n) = true := by simp; omega
        clear hE hS hO hp0 h1 h2 h3
        go_enter Tryd.func20, Tryd.ntmps20
        go_wp2_with fail
        go_ret2
        exact ⟨by rw [HX.out.1, HX.out.2]; rfl, Keep.refl _ _⟩
      · have h3' : decide (b ≥ n) = false := by simp; omega
        by_cases h4 : n > 4611686018427387904
        · have hp0 : po = false := by rw [hO]; simp; omega
          have HX := Lib.hid (And.intro (hE.trans (by rw [hp0]; try rfl)) (hS.trans (by rw [hp0]; try rfl)))
          have h4' : decide (n > 4611686018427387904) = true := by simp; omega
          clear hE hS hO hp0 h1 h2 h3 h4
          go_enter Tryd.func20, Tryd.ntmps20
          go_wp2_with fail
          go_ret2
          exact ⟨by rw [HX.out.1, HX.out.2]; rfl, Keep.refl _ _⟩
        · have h4' : decide (n > 4611686018427387904) = false := by simp; omega
          have hp1 : po = true := by rw [hO]; simp; omega
          rw [hp1, if_pos rfl] at hE hS
          have hDa := Lib.hid (fun w' (k : Keep [] w w') => hexa_Dec a w' ha (hp.keep0 k))
          have hDb := Lib.hid (fun w' (k : Keep [] w w') => hexa_Dec b w' hb (hp.keep0 k))
          have hDn := Lib.hid (fun w' (k : Keep [] w w') => hexa_Dec n w' hn (hp.keep0 k))
          have la := itoa_len a ha
          have lb := itoa_len b hb
          have ln := itoa_len n hn
          generalize Lib.itoa a = ia at *
          generalize Lib.itoa b = ib at *
          generalize Lib.itoa n = ic at *
          have q1 : (⟨#[98, 121, 116, 101, 115, 32]⟩ : ByteArray) ++ S ia = S (saidB ++ ia) := S_append saidB ia
          have q2 : S (saidB ++ ia) ++ (⟨#[45]⟩ : ByteArray) = S (saidB ++ ia ++ [45]) := S_append _ [45]
          have q3 : S (saidB ++ ia ++ [45]) ++ S ib = S (saidB ++ ia ++ [45] ++ ib) := S_append _ _
          have q4 : S (saidB ++ ia ++ [45] ++ ib) ++ (⟨#[47]⟩ : ByteArray) = S (saidB ++ ia ++ [45] ++ ib ++ [47]) := S_append _ [47]
          have q5 : S (saidB ++ ia ++ [45] ++ ib ++ [47]) ++ S ic = S (saidB ++ ia ++ [45] ++ ib ++ [47] ++ ic) := S_append _ _
          rw [hE, hS]
          have t1 : (saidB ++ ia).length = 6 + ia.length := by simp [saidB]; omega
          have t2 : (saidB ++ ia ++ [45]).length = 7 + ia.length := by simp [saidB]; omega
          have t3 : (saidB ++ ia ++ [45] ++ ib).length = 7 + ia.length + ib.length := by simp [saidB]; omega
          have t4 : (saidB ++ ia ++ [45] ++ ib ++ [47]).length = 8 + ia.length + ib.length := by simp [saidB]; omega
          generalize saidB ++ ia ++ [45] ++ ib ++ [47] ++ ic = x5 at q5 ⊢
          generalize saidB ++ ia ++ [45] ++ ib ++ [47] = x4 at q4 q5 t4
          generalize saidB ++ ia ++ [45] ++ ib = x3 at q3 q4 t3
          generalize saidB ++ ia ++ [45] = x2 at q2 q3 t2
          generalize saidB ++ ia = x1 at q1 q2 t1
          have s1 := S_size ia
          have s2 := S_size ib
          have s3 := S_size ic
          have s4 := S_size x1
          have s5 := S_size x2
          have s6 := S_size x3
          have s7 := S_size x4
          clear hE hS hO hp1 h1 h2 h3 h4
          go_enter Tryd.func20, Tryd.ntmps20
          go_wp2_with fail
          refine (hDa.out _ (Keep.refl _ _)).mono ?_
          rintro e w1 ⟨rfl, k1⟩
          go_wp2_with fail
          refine (hDb.out _ k1).mono ?_
          rintro e w2 ⟨rfl, k2⟩
          have k12 := k1.trans k2
          clear k1 k2
          go_wp2_with fail
          refine (hDn.out _ k12).mono ?_
          rintro e w3 ⟨rfl, k3⟩
          go_wp2_with fail
          go_ret2
          exact ⟨rfl, k12.trans k3⟩
end Go.Proofs.YthhnmfjfgbgjeaaDoor
