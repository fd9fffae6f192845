/- Layer 21: the document's rack: Touch. No conditions. -/
import Derived.Test.YtbfnpoknamajnaaRkE
namespace Go.Proofs.Ytbfnpoknamajnaa
open Go.RowKit Go.Maps

theorem step_buildJar2 {ops : Array Oper} {o : Oper} {a : Act} {w : World} {K : Act → World → Prop} {Q : Exit → Act → World → Prop} {X : Prop} (hg : o.guard = none) (t : TypeId) (x : Operand) (ho : o.op = .buildSlice t 1 #[(0, x)])
    {is : TypeInfo} (Hs : Hid (Try.prog.info? 46 = some is ∧ is.zero = some (.agg jar0.cells.toArray) ∧ is.size = 35 ∧ is.bytes = 64)) (hu : Try.prog.underlying t = some (.slice 46)) (j : Jar) (cs : List Value) (hcs : cs = j.cells) (hx : a.eval x = .agg cs.toArray)
    (h : ∀ B w2, w.heap.size = B → Own Jar.cells 35 0 46 w2 (.slice (some ⟨B, 0, none⟩) 1 1) [j] → Keep [] w w2 → B < w2.heap.size → K (a.put o.dst (.slice (some ⟨B, 0, none⟩) 1 1)) w2) : if Region.wanted o (yielded ops a.tmps) = true then Oper.wp Try.prog o a w K Q else X :=
  step_buildJar hg t x ho Hs hu j cs hcs hx (h _ _ rfl (by rw [hcs]; exact own_one w j) ((Keep.refl _ _).alloc _) (by simp))
theorem put_done2 {w wq w3 : World} {u B l c : Nat} {v v3 : Value} {M L : List Jar} {budget : Int} (hk : Keep [] w wq) (hb : Blk wq u 74 [v, .int .i64 budget]) (hu : u < w.heap.size) (hB : w.heap.size ≤ B)
    (hown : Own Jar.cells 35 0 46 w3 v3 M) (hg : wq.grownBy w3 (Value.slice (some ⟨B, 0, none⟩) l c).ownBlock) (hat : v3.ownBlock = (Value.slice (some ⟨B, 0, none⟩) l c).ownBlock ∨ v3.ownBlock = some wq.heap.size) (hM : M = L) :
    Done w (w3.setCell ⟨u, 0, none⟩ v3) u v L budget := by
  subst hM
  have hs := hk.size
  have hn : ∀ g, v3.ownBlock = some g → w.heap.size ≤ g := fun g hg' => by
    rcases hat with e | e
    · rw [e] at hg'; simp [Value.ownBlock] at hg'; omega
    · rw [e] at hg'; simp at hg'; omega
  have hb3 : Blk w3 u 74 _ := (hg.block u (by have := hb.lt; exact this) (fun e => by simp [Value.ownBlock] at e; omega)).trans hb
  have hk3 : Keep [] w w3 := hk.grown hg (fun g hg' hlt => by simp [Value.ownBlock] at hg'; omega)
  have hks : Keep [u] w3 (w3.setCell ⟨u, 0, none⟩ v3) := (Keep.refl _ _).setCell _ _ (by simp)
  refine ⟨v3, ⟨hb3.set 0 _, hown.keep hks (fun g hg' => by simp; have := hn g hg'; omega), fun e => by have := hn u e; omega⟩, ?_, fun g hg' => .inr (hn g hg')⟩
  exact (hk3.mono (by simp)).setCell _ _ (fun _ => by simp)
theorem posL_or (L : List Jar) (d : Dig) : (posL L d = -1 ∧ findL L d = none) ∨ ∃ k x, posL L d = (k : Nat) ∧ L[k]? = some x ∧ x.dig = d ∧ findL L d = some x := by
  unfold posL findL
  induction L with
  | nil => exact .inl ⟨rfl, rfl⟩
  | cons y r ih =>
    by_cases hy : y.dig = d
    · exact .inr ⟨0, y, by simp [List.findIdx?_cons, hy], rfl, hy, by simp [hy]⟩
    · rcases ih with ⟨h1, h2⟩ | ⟨k, x, h1, h2, h3, h4⟩
      · left
        constructor
        · cases hf : r.findIdx? (fun x => decide (x.dig = d)) with
          | none => simp [List.findIdx?_cons, hy, hf]
          | some i => rw [hf] at h1; simp at h1
        · simp [hy]; simpa using h2
      · right
        refine ⟨k + 1, x, ?_, h2, h3, ?_⟩
        · cases hf : r.findIdx? (fun x => decide (x.dig = d)) with
          | none => rw [hf] at h1; simp at h1
          | some i => rw [hf] at h1; simp at h1; simp [List.findIdx?_cons, hy, hf, h1]
        · simp [hy]; simpa using h4
set_option maxRecDepth 100000 in
set_option maxHeartbeats 2000000 in
theorem ref_Touch21 (u : Nat) (v : Value) (L : List Jar) (budget : Int) (d : Dig) (w : World) (h : Dk w u v L budget) (hL : L.length ≤ 64) (k : Nat) (x : Jar) (hk : posL L d = (k : Nat)) (hx : L[k]? = some x) :
    Calls Try.prog 36 #[.pointer (some ⟨u, 0, none⟩), .agg (digC d).toArray] w fun e w' => e = .returned (.int .i64 0) ∧ Done w w' u v (x :: (L.take k ++ L.drop (k + 1))) budget := by
  have hkl : k < L.length := (List.getElem?_eq_some_iff.1 hx).1
  have hb := Blk.newA w (digC d).toArray 44
  have hkA := (Keep.refl [] w).alloc (.cells (digC d).toArray 44)
  generalize hwA : w.alloc (.cells (digC d).toArray 44) = wA at hb hkA
  obtain ⟨g', cap, hv, hle, hcm, _⟩ := own_at h.own hx
  subst hv
  have HDB := Lib.hid (hb.rangeAt)
  have HP1 := Lib.hid (ref_Place u _ L budget d wA (h.keep0 hkA))
  rw [hk] at HP1
  have HD0 := Lib.hid (fun w' (k : Keep [] w w') => h.keep0 k)
  have HK := Lib.hid hkA
  have HDL := Lib.hid (digC_length d)
  have HU := Lib.hid h.blk.lt
  have HJL := Lib.hid (show (Try.prog.info? 46).map (·.size) = some x.cells.length by rw [Jar.cells_length]; exact jar_size)
  have HX1 := Lib.hid x.one
  have HXL := Lib.hid (Jar.cells_length x)
  have HR := Lib.hid (fun w' (hk : Keep [] w w') => by
    obtain ⟨g2, cap2, hv2, _, _, hr⟩ := own_at (h.keep0 hk).own hx
    cases hv2
    exact hr)
  have h0 : ¬ (k : Int) < 0 := by omega
  have h1 : (k : Int) < (L.length : Int) := by omega
  obtain ⟨is, Hs⟩ := jarinfo'
  obtain ⟨xc, hxc⟩ : ∃ xc, xc = x.cells := ⟨_, rfl⟩
  have HCS := Lib.hid hxc
  rw [← hxc] at HJL HX1 HXL HR
  generalize digC d = dc at *
  have HHX := Lib.hid hx
  clear hb hkA h hxc hx hk hle hcm
  go_enter Try.func36, Try.ntmps36
  go_wp2_with (first
    | (refine wpList_load_mid rfl 44 (.tmp 3) rfl w.heap.size 0 (by rfl) dc _ HDB.out Try.underlying44 rfl (by rw [HDL.out]; exact dig_size) ?_)
    | fail)
  refine HP1.out.mono ?_
  rintro e w2 ⟨rfl, k2⟩
  have K2 := Lib.hid (HK.out.trans k2)
  have c0 := (HD0.out w2 K2.out).blk.get (k := 0) rfl
  have hr2 := HR.out w2 K2.out
  have hBX := Blk.newA w2 xc.toArray 46
  have hk3 := K2.out.alloc (.cells xc.toArray 46)
  clear k2
  go_wp2_with (first
    | (refine wpList_load_mid rfl 46 (.tmp 17) rfl g' (k * 35) (by simp [Act.eval, Addr.add]) xc _ hr2 Try.underlying46 rfl HJL.out ?_)
    | (refine wpList_store_new rfl 46 (.tmp 6) (.tmp 18) rfl _ xc (by rfl) (by rfl) HJL.out (by rw [HXL.out]; rfl) HX1.out ?_)
    | fail)
  try simp only [Act.put, List.setIfInBounds_toArray, List.set_cons_succ, List.set_cons_zero]
  generalize hw3 : w2.alloc (.cells xc.toArray 46) = w3 at hBX hk3
  try rw [hw3]
  clear hw3 c0
  have HBX := Lib.hid (fun w' (k : Keep [] w3 w') => (k.blk hBX (by simp)).rangeAt)
  have HK3 := Lib.hid hk3
  have HD := Lib.hid (fun w' (k : Keep [] w3 w') => HD0.out w' (hk3.trans k))
  have HN3 := Lib.hid hk3.size
  have HW := Lib.hid (fun w' (kk : Keep [] w3 w') => ref_without u _ L budget k w' (HD0.out w' (hk3.trans kk)) hkl hL)
  have hlen : (L.take k ++ L.drop (k + 1)).length ≤ 64 := by simp; omega
  obtain ⟨M, hM⟩ : ∃ M, M = L.take k ++ L.drop (k + 1) := ⟨_, rfl⟩
  rw [← hM] at HW hlen
  have HMM := Lib.hid hM
  clear hM
  have j0 := Keep.refl [] w3
  clear hBX hk3 hr2
  try go_wp2_with fail
  go_cut [] (fun wx => Done w wx u (.slice (some ⟨g', 0, none⟩) L.length cap) (x :: M) budget)
  case first =>
    refine wp_region_any (by kernel_rfl) ?_
    change wpAny _ _ _ _ _ _ _ (World.drew _)
    refine wpAny_take (i := 0) (v := ?_) rfl (by kernel_rfl) (by kernel_rfl) (by kernel_rfl) (fun _ _ _ h => h) (Or.inl ⟨by rfl, ?_⟩) ?_
    rotate_left
    · (intro w; go_simp) <;> (with_reducible rfl)
    try simp only [Act.put, List.setIfInBounds_toArray, List.set_cons_zero, List.set_cons_succ]
    refine wpAny_take (i := 3) (v := ?_) rfl (by kernel_rfl) (by kernel_rfl) (by kernel_rfl) (fun _ _ _ h => h) (Or.inl ⟨by rfl, ?_⟩) ?_
    rotate_left
    · (intro w; go_simp) <;> (with_reducible rfl)
    try simp only [Act.put, List.setIfInBounds_toArray, List.set_cons_zero, List.set_cons_succ]
    refine wpAny_take (i := 4) (v := ?_) rfl (by kernel_rfl) (by kernel_rfl) (by kernel_rfl) (fun _ _ _ h => h) (Or.inl ⟨by rfl, ?_⟩) ?_
    rotate_left
    · (intro w; go_simp) <;> (with_reducible rfl)
    try simp only [Act.put, List.setIfInBounds_toArray, List.set_cons_zero, List.set_cons_succ]
    refine wpAny_ready (rs := [1, 5]) (by kernel_rfl) (by simp) ?_
    refine AllReady.cons (o := _) rfl (fun K hK0 => ?_) ?_
    · have hK := Lib.hid hK0
      clear hK0
      refine step_load_mid rfl 46 (.tmp 6) rfl w2.heap.size 0 (by rfl) xc _ (HBX.out _ (by repeat (first | assumption | (with_reducible apply Keep.drew)))) Try.underlying46 rfl HJL.out ?_
      refine hK.out _ _ ?_
      clear hK K
      try simp only [Act.put, List.setIfInBounds_toArray, List.set_cons_zero, List.set_cons_succ]
      refine wpAny_ready (rs := [2, 5]) (by kernel_rfl) (by simp) ?_
      refine AllReady.cons (o := _) rfl (fun K hK0 => ?_) ?_
      · have hK := Lib.hid hK0
        clear hK0
        refine step_buildJar2 rfl 72 (.tmp 20) rfl Hs Try.underlying72 x xc HCS.out (by rfl) ?_
        intro B wB hBe hoB hkB hszB
        have hBn : w.heap.size ≤ B := by rw [← hBe]; exact Nat.le_trans HN3.out (Keep.size (w := w3) (by repeat (first | assumption | (with_reducible apply Keep.drew))))
        have kB : Keep [] w3 wB := Keep.trans (by repeat (first | assumption | (with_reducible apply Keep.drew))) hkB
        have hoW := Lib.hid hoB
        have hkB' := hkB
        clear hBe
        refine hK.out _ _ ?_
        clear hK K
        try simp only [Act.put, List.setIfInBounds_toArray, List.set_cons_zero, List.set_cons_succ]
        refine wpAny_ready (rs := [5]) (by kernel_rfl) (by simp) ?_
        refine AllReady.cons (o := _) rfl (fun K hK0 => ?_) ?_
        · have hK := Lib.hid hK0
          clear hK0
          go_simp
          refine (HW.out _ (by repeat (first | assumption | (with_reducible apply Keep.drew)))).mono ?_
          rintro e wE ⟨vE, rfl, hoE, hvE, hkE⟩
          have kE : Keep [] w3 wE := Keep.trans (by repeat (first | assumption | (with_reducible apply Keep.drew))) hkE
          try (have hoX := Lib.hid (hoB.keep0 hkE))
          try go_wp2_with fail
          refine hK.out _ _ ?_
          clear hK K
          try simp only [Act.put, List.setIfInBounds_toArray, List.set_cons_zero, List.set_cons_succ]
          refine wpAny_ready (rs := [6]) (by kernel_rfl) (by simp) ?_
          refine AllReady.cons (o := _) rfl (fun K hK0 => ?_) ?_
          · have hK := Lib.hid hK0
            clear hK0
            refine step_appendM rfl (.tmp 21) (.tmp 24) 72 rfl is _ 64 Try.underlying72 Hs (by rfl) (by decide) Jar.cells_length Jar.one (v := .slice (some ⟨B, 0, none⟩) 1 1) (vx := vE) (L := [x]) (by rfl) (by first | exact hoX.out | exact hoW.out) (by rfl) (by first | exact own_src hoE | exact own_src (hoE.keep0 hkB')) (by simp [maxLen]; omega) (by simp; omega) ?_
            intro v4 w4 hown4 hg4 hat4
            have hb4 : Blk w4 u 74 _ := (hg4.block u ((HD.out _ (by first | exact kE | exact kB)).blk.lt) (fun e => by have := HU.out; simp [Value.ownBlock] at e; omega)).trans (HD.out _ (by first | exact kE | exact kB)).blk
            have d0 := hb4.get (k := 0) rfl
            have df := hb4.frozen
            obtain ⟨a4, cap4, rfl, _⟩ := hown4.shape
            refine hK.out _ _ ?_
            clear hK K
            try simp only [Act.put, List.setIfInBounds_toArray, List.set_cons_zero, List.set_cons_succ]
            refine wpAny_ready (rs := [7]) (by kernel_rfl) (by simp) ?_
            refine AllReady.cons (o := _) rfl (fun K hK0 => ?_) ?_
            · have hK := Lib.hid hK0
              clear hK0
              go_simp
              refine hK.out _ _ ?_
              clear hK K
              try simp only [Act.put, List.setIfInBounds_toArray, List.set_cons_zero, List.set_cons_succ]
              refine wpAny_ready (rs := [8]) (by kernel_rfl) (by simp) ?_
              refine AllReady.cons (o := _) rfl (fun K hK0 => ?_) ?_
              · have hK := Lib.hid hK0
                clear hK0
                go_simp
                refine hK.out _ _ ?_
                clear hK K
                try simp only [Act.put, List.setIfInBounds_toArray, List.set_cons_zero, List.set_cons_succ]
                refine wpAny_ready (rs := [9]) (by kernel_rfl) (by simp) ?_
                refine AllReady.cons (o := _) rfl (fun K hK0 => ?_) ?_
                · have hK := Lib.hid hK0
                  clear hK0
                  go_simp
                  refine hK.out _ _ ?_
                  clear hK K
                  try simp only [Act.put, List.setIfInBounds_toArray, List.set_cons_zero, List.set_cons_succ]
                  refine wpAny_done (by kernel_rfl) ?_ _
                  go_wp2_with fail
                  go_meet
                  exact put_done2 (HK3.out.trans (by first | exact kE | exact kB)) (HD.out _ (by first | exact kE | exact kB)).blk HU.out hBn hown4 hg4 hat4 rfl
                exact AllReady.nil
              exact AllReady.nil
            exact AllReady.nil
          exact AllReady.nil
        exact AllReady.nil
      refine AllReady.cons (o := _) rfl (fun K hK0 => ?_) ?_
      · have hK := Lib.hid hK0
        clear hK0
        go_simp
        refine (HW.out _ (by repeat (first | assumption | (with_reducible apply Keep.drew)))).mono ?_
        rintro e wE ⟨vE, rfl, hoE, hvE, hkE⟩
        have kE : Keep [] w3 wE := Keep.trans (by repeat (first | assumption | (with_reducible apply Keep.drew))) hkE
        try (have hoX := Lib.hid (hoB.keep0 hkE))
        try go_wp2_with fail
        refine hK.out _ _ ?_
        clear hK K
        try simp only [Act.put, List.setIfInBounds_toArray, List.set_cons_zero, List.set_cons_succ]
        refine wpAny_ready (rs := [2]) (by kernel_rfl) (by simp) ?_
        refine AllReady.cons (o := _) rfl (fun K hK0 => ?_) ?_
        · have hK := Lib.hid hK0
          clear hK0
          refine step_buildJar2 rfl 72 (.tmp 20) rfl Hs Try.underlying72 x xc HCS.out (by rfl) ?_
          intro B wB hBe hoB hkB hszB
          have hBn : w.heap.size ≤ B := by rw [← hBe]; exact Nat.le_trans HN3.out (Keep.size (w := w3) (by repeat (first | assumption | (with_reducible apply Keep.drew))))
          have kB : Keep [] w3 wB := Keep.trans (by repeat (first | assumption | (with_reducible apply Keep.drew))) hkB
          have hoW := Lib.hid hoB
          have hkB' := hkB
          clear hBe
          refine hK.out _ _ ?_
          clear hK K
          try simp only [Act.put, List.setIfInBounds_toArray, List.set_cons_zero, List.set_cons_succ]
          refine wpAny_ready (rs := [6]) (by kernel_rfl) (by simp) ?_
          refine AllReady.cons (o := _) rfl (fun K hK0 => ?_) ?_
          · have hK := Lib.hid hK0
            clear hK0
            refine step_appendM rfl (.tmp 21) (.tmp 24) 72 rfl is _ 64 Try.underlying72 Hs (by rfl) (by decide) Jar.cells_length Jar.one (v := .slice (some ⟨B, 0, none⟩) 1 1) (vx := vE) (L := [x]) (by rfl) (by first | exact hoX.out | exact hoW.out) (by rfl) (by first | exact own_src hoE | exact own_src (hoE.keep0 hkB')) (by simp [maxLen]; omega) (by simp; omega) ?_
            intro v4 w4 hown4 hg4 hat4
            have hb4 : Blk w4 u 74 _ := (hg4.block u ((HD.out _ (by first | exact kE | exact kB)).blk.lt) (fun e => by have := HU.out; simp [Value.ownBlock] at e; omega)).trans (HD.out _ (by first | exact kE | exact kB)).blk
            have d0 := hb4.get (k := 0) rfl
            have df := hb4.frozen
            obtain ⟨a4, cap4, rfl, _⟩ := hown4.shape
            refine hK.out _ _ ?_
            clear hK K
            try simp only [Act.put, List.setIfInBounds_toArray, List.set_cons_zero, List.set_cons_succ]
            refine wpAny_ready (rs := [7]) (by kernel_rfl) (by simp) ?_
            refine AllReady.cons (o := _) rfl (fun K hK0 => ?_) ?_
            · have hK := Lib.hid hK0
              clear hK0
              go_simp
              refine hK.out _ _ ?_
              clear hK K
              try simp only [Act.put, List.setIfInBounds_toArray, List.set_cons_zero, List.set_cons_succ]
              refine wpAny_ready (rs := [8]) (by kernel_rfl) (by simp) ?_
              refine AllReady.cons (o := _) rfl (fun K hK0 => ?_) ?_
              · have hK := Lib.hid hK0
                clear hK0
                go_simp
                refine hK.out _ _ ?_
                clear hK K
                try simp only [Act.put, List.setIfInBounds_toArray, List.set_cons_zero, List.set_cons_succ]
                refine wpAny_ready (rs := [9]) (by kernel_rfl) (by simp) ?_
                refine AllReady.cons (o := _) rfl (fun K hK0 => ?_) ?_
                · have hK := Lib.hid hK0
                  clear hK0
                  go_simp
                  refine hK.out _ _ ?_
                  clear hK K
                  try simp only [Act.put, List.setIfInBounds_toArray, List.set_cons_zero, List.set_cons_succ]
                  refine wpAny_done (by kernel_rfl) ?_ _
                  go_wp2_with fail
                  go_meet
                  exact put_done2 (HK3.out.trans (by first | exact kE | exact kB)) (HD.out _ (by first | exact kE | exact kB)).blk HU.out hBn hown4 hg4 hat4 rfl
                exact AllReady.nil
              exact AllReady.nil
            exact AllReady.nil
          exact AllReady.nil
        exact AllReady.nil
      exact AllReady.nil
    refine AllReady.cons (o := _) rfl (fun K hK0 => ?_) ?_
    · have hK := Lib.hid hK0
      clear hK0
      go_simp
      refine (HW.out _ (by repeat (first | assumption | (with_reducible apply Keep.drew)))).mono ?_
      rintro e wE ⟨vE, rfl, hoE, hvE, hkE⟩
      have kE : Keep [] w3 wE := Keep.trans (by repeat (first | assumption | (with_reducible apply Keep.drew))) hkE
      try (have hoX := Lib.hid (hoB.keep0 hkE))
      try go_wp2_with fail
      refine hK.out _ _ ?_
      clear hK K
      try simp only [Act.put, List.setIfInBounds_toArray, List.set_cons_zero, List.set_cons_succ]
      refine wpAny_ready (rs := [1]) (by kernel_rfl) (by simp) ?_
      refine AllReady.cons (o := _) rfl (fun K hK0 => ?_) ?_
      · have hK := Lib.hid hK0
        clear hK0
        refine step_load_mid rfl 46 (.tmp 6) rfl w2.heap.size 0 (by rfl) xc _ (HBX.out _ (by repeat (first | assumption | (with_reducible apply Keep.drew)))) Try.underlying46 rfl HJL.out ?_
        refine hK.out _ _ ?_
        clear hK K
        try simp only [Act.put, List.setIfInBounds_toArray, List.set_cons_zero, List.set_cons_succ]
        refine wpAny_ready (rs := [2]) (by kernel_rfl) (by simp) ?_
        refine AllReady.cons (o := _) rfl (fun K hK0 => ?_) ?_
        · have hK := Lib.hid hK0
          clear hK0
          refine step_buildJar2 rfl 72 (.tmp 20) rfl Hs Try.underlying72 x xc HCS.out (by rfl) ?_
          intro B wB hBe hoB hkB hszB
          have hBn : w.heap.size ≤ B := by rw [← hBe]; exact Nat.le_trans HN3.out (Keep.size (w := w3) (by repeat (first | assumption | (with_reducible apply Keep.drew))))
          have kB : Keep [] w3 wB := Keep.trans (by repeat (first | assumption | (with_reducible apply Keep.drew))) hkB
          have hoW := Lib.hid hoB
          have hkB' := hkB
          clear hBe
          refine hK.out _ _ ?_
          clear hK K
          try simp only [Act.put, List.setIfInBounds_toArray, List.set_cons_zero, List.set_cons_succ]
          refine wpAny_ready (rs := [6]) (by kernel_rfl) (by simp) ?_
          refine AllReady.cons (o := _) rfl (fun K hK0 => ?_) ?_
          · have hK := Lib.hid hK0
            clear hK0
            refine step_appendM rfl (.tmp 21) (.tmp 24) 72 rfl is _ 64 Try.underlying72 Hs (by rfl) (by decide) Jar.cells_length Jar.one (v := .slice (some ⟨B, 0, none⟩) 1 1) (vx := vE) (L := [x]) (by rfl) (by first | exact hoX.out | exact hoW.out) (by rfl) (by first | exact own_src hoE | exact own_src (hoE.keep0 hkB')) (by simp [maxLen]; omega) (by simp; omega) ?_
            intro v4 w4 hown4 hg4 hat4
            have hb4 : Blk w4 u 74 _ := (hg4.block u ((HD.out _ (by first | exact kE | exact kB)).blk.lt) (fun e => by have := HU.out; simp [Value.ownBlock] at e; omega)).trans (HD.out _ (by first | exact kE | exact kB)).blk
            have d0 := hb4.get (k := 0) rfl
            have df := hb4.frozen
            obtain ⟨a4, cap4, rfl, _⟩ := hown4.shape
            refine hK.out _ _ ?_
            clear hK K
            try simp only [Act.put, List.setIfInBounds_toArray, List.set_cons_zero, List.set_cons_succ]
            refine wpAny_ready (rs := [7]) (by kernel_rfl) (by simp) ?_
            refine AllReady.cons (o := _) rfl (fun K hK0 => ?_) ?_
            · have hK := Lib.hid hK0
              clear hK0
              go_simp
              refine hK.out _ _ ?_
              clear hK K
              try simp only [Act.put, List.setIfInBounds_toArray, List.set_cons_zero, List.set_cons_succ]
              refine wpAny_ready (rs := [8]) (by kernel_rfl) (by simp) ?_
              refine AllReady.cons (o := _) rfl (fun K hK0 => ?_) ?_
              · have hK := Lib.hid hK0
                clear hK0
                go_simp
                refine hK.out _ _ ?_
                clear hK K
                try simp only [Act.put, List.setIfInBounds_toArray, List.set_cons_zero, List.set_cons_succ]
                refine wpAny_ready (rs := [9]) (by kernel_rfl) (by simp) ?_
                refine AllReady.cons (o := _) rfl (fun K hK0 => ?_) ?_
                · have hK := Lib.hid hK0
                  clear hK0
                  go_simp
                  refine hK.out _ _ ?_
                  clear hK K
                  try simp only [Act.put, List.setIfInBounds_toArray, List.set_cons_zero, List.set_cons_succ]
                  refine wpAny_done (by kernel_rfl) ?_ _
                  go_wp2_with fail
                  go_meet
                  exact put_done2 (HK3.out.trans (by first | exact kE | exact kB)) (HD.out _ (by first | exact kE | exact kB)).blk HU.out hBn hown4 hg4 hat4 rfl
                exact AllReady.nil
              exact AllReady.nil
            exact AllReady.nil
          exact AllReady.nil
        exact AllReady.nil
      exact AllReady.nil
    exact AllReady.nil
  case rest =>
    have HC := Lib.hid hcut
    clear hcut
    go_wp2_with fail
    go_ret
    exact ⟨rfl, by rw [← HMM.out]; exact HC.out⟩
end Go.Proofs.Ytbfnpoknamajnaa
