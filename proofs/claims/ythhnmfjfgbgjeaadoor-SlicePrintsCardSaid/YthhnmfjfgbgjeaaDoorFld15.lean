/- Layer 10: Split. No conditions but on lengths. -/
import Derived.Test.YthhnmfjfgbgjeaaDoorFld14
namespace Go.Proofs.YthhnmfjfgbgjeaaDoor
open Go.RowKit Go.Shelf

theorem results_tmp4 {fn : Func} {t u v x : Tmp} (h : fn.results = #[.tmp t, .tmp u, .tmp v, .tmp x]) (tmps : Array Value) (P : Program) (w : World) :
    (results fn tmps).run P w = .ok (.tuple #[tmps.getD t undef, tmps.getD u undef, tmps.getD v undef, tmps.getD x undef]) w := by
  simp [results, h]
def SplitOut (w : World) (r : Rd) (e : Ending) (w' : World) : Prop := ∃ v, e = .returned (.tuple #[.string (S r.st), v, .int .i64 r.n, .int .i64 r.e]) ∧ Own Fld.cells 2 w.heap.size 32 w' v r.F ∧ Keep [] w w'
set_option maxRecDepth 100000 in
set_option maxHeartbeats 1000000 in
theorem field_Split (s : List UInt8) (w : World) (hm : ML w) (hs : s.length ≤ 1048576) :
    Calls Tryd.prog 26 #[.string (S s)] w (SplitOut w (splitM s)) := by
  have HR := Lib.hid (fun w1 (h : Hd w w1 w.heap.size [] [] 0) => head_read w hm s w.heap.size w1 h hs)
  have hH : Hd w (w.alloc (.cells #[.string ⟨#[]⟩, .slice none 0 0, .int .i64 0] 75)) w.heap.size [] [] 0 :=
    ⟨.slice none 0 0, Blk.newA w #[.string ⟨#[]⟩, .slice none 0 0, .int .i64 0] _, Own.nil _ _ _ _ _, by simp [Value.ownBlock], Nat.le_refl _, (Keep.refl _ _).alloc _⟩
  have HH := Lib.hid hH
  have hsp : splitM s = if (readM s).e ≠ 0 then ⟨[], [], 0, (readM s).e⟩ else readM s := rfl
  generalize readM s = r at HR hsp
  clear hH
  by_cases he : r.e = 0
  · rw [if_neg (by simpa using he)] at hsp
    have HS := Lib.hid hsp
    have HE := Lib.hid he
    rw [he] at HR
    clear hsp he
    go_enter Tryd.func26, Tryd.ntmps26
    go_wp2_with fail
    refine (HR.out _ HH.out).mono ?_
    rintro e w1 ⟨rfl, hd1⟩
    obtain ⟨fv, h1, h2, h3, h4, h5⟩ := hd1
    have c0 := h1.get (k := 0) rfl
    have c1 := h1.get (k := 1) rfl
    have c2 := h1.get (k := 2) rfl
    have H2 := Lib.hid h2
    have H5 := Lib.hid h5
    clear h1 h2 h3 h4 h5
    go_wp2_with fail
    go_quiet (fail)
    go_wp2_with fail
    refine bodyPost_ret (results_tmp4 rfl _ _ _) rfl ?_
    rw [HS.out]
    exact ⟨fv, by rw [HE.out]; rfl, H2.out.of_heap rfl, H5.out.drewN _⟩
  · rw [if_pos he] at hsp
    have HS := Lib.hid hsp
    have hq1 : (r.e == 0) = false := by simpa using he
    clear hsp he
    go_enter Tryd.func26, Tryd.ntmps26
    go_wp2_with fail
    refine (HR.out _ HH.out).mono ?_
    rintro e w1 ⟨rfl, hd1⟩
    have H1 := Lib.hid hd1
    clear hd1
    go_wp2_with fail
    refine bodyPost_ret (results_tmp4 rfl _ _ _) rfl ?_
    rw [HS.out]
    exact ⟨_, rfl, Own.nil _ _ _ _ _, H1.out.choose_spec.2.2.2.2⟩
end Go.Proofs.YthhnmfjfgbgjeaaDoor
