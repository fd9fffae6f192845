/- Layer 21: the rack and the document's rack side by side. No conditions. -/
import Derived.Test.YtbfnpoknamajnaaRkZ
namespace Go.Proofs.Ytbfnpoknamajnaa
open Go.RowKit Go.Maps

/-- both racks; Z: the call's own variables -/
structure St (w0 : World) (Z : List Nat) (w : World) (b u : Nat) (v : Value) (budget : Int) (L M : List Jar) : Prop where
  rk : Rkx w0 (u :: (v.ownBlock.toList ++ Z)) w b budget L
  dk : Dk w u v M budget
  hu : w0.heap.size ≤ u
  hv : ∀ g, v.ownBlock = some g → w0.heap.size ≤ g
  hz : ∀ z ∈ Z, z ≠ u ∧ v.ownBlock ≠ some z
theorem Own.stay {X : List Nat} {w w' : World} {v : Value} {L : List Jar} (h : Own Jar.cells 35 0 46 w v L) (s : Stay X w w') (hX : ∀ g, v.ownBlock = some g → g ∈ X) : Own Jar.cells 35 0 46 w' v L := by
  refine ⟨h.1, ?_⟩
  rcases h.2 with hn | ⟨g, cap, cur, hv, hb, hg, rest⟩
  · exact .inl hn
  · exact .inr ⟨g, cap, cur, hv, hb, by rw [s.2 g (hX g (by rw [hv]; rfl)) (lt_of_block hg)]; exact hg, rest⟩
section
variable {w0 : World} {Z : List Nat} {w w' : World} {b u : Nat} {v : Value} {budget : Int} {L L' M M' : List Jar}
/-- behind a call of the rack -/
theorem St.rack (h : St w0 Z w b u v budget L M) (h1 : Rkx w0 (u :: (v.ownBlock.toList ++ Z)) w' b budget L') (s : Stay (u :: (v.ownBlock.toList ++ Z)) w w') : St w0 Z w' b u v budget L' M :=
  ⟨h1, ⟨s.blk h.dk.blk (by simp), Own.stay h.dk.own s (fun g hg => by simp [hg]), h.dk.ne⟩, h.hu, h.hv, h.hz⟩
theorem St.zstay (h : St w0 Z w b u v budget L M) (s : Stay (u :: (v.ownBlock.toList ++ Z)) w w') : Stay Z w w' := s.mono (fun y hy => by simp [hy])
theorem St.keep0 (h : St w0 Z w b u v budget L M) (k : Keep [] w w') : St w0 Z w' b u v budget L M := ⟨h.rk.keep0 k, h.dk.keep0 k, h.hu, h.hv, h.hz⟩
theorem Rkx.fresh {X : List Nat} {g : Nat} (h : Rkx w0 X w b budget L) (k : Keep [u] w w') (hu : u ∈ X) (hu0 : w0.heap.size ≤ u) (hg : w.heap.size ≤ g) (hg' : g < w'.heap.size) : Rkx w0 (g :: X) w' b budget L := by
  have h' := h.other k (fun x hx => by simp at hx; subst hx; exact ⟨hu, hu0⟩)
  obtain ⟨S, h1, h2⟩ := h.rk
  obtain ⟨S', t1, t2, t3⟩ := (h1.keep k (fun x hx hm => by simp at hm; exact (h2 x hx).2.2 (hm ▸ hu))).trim
  exact ⟨h'.below, lt_cons h'.lt hg', S', t1, fun x hx => ⟨(h2 x (t2 x hx)).1, t3 x hx, by
    simp only [List.mem_cons, not_or]
    exact ⟨by have := (h2 x (t2 x hx)).2.1; omega, (h2 x (t2 x hx)).2.2⟩⟩⟩
/-- behind a call of the document's rack -/
theorem St.doc (h : St w0 Z w b u v budget L M) (hd : Done w w' u v M' budget) : (∃ v', St w0 Z w' b u v' budget L M') ∧ Stay Z w w' := by
  obtain ⟨v', h1, k, hv'⟩ := hd
  have hzw : Stay Z w w' := ⟨k.size, fun x hx hl => k.block x hl (by simp; exact (h.hz x hx).1)⟩
  refine ⟨⟨v', ?_⟩, hzw⟩
  have hr := h.rk.other k (fun x hx => by simp at hx; subst hx; exact ⟨by simp, h.hu⟩)
  cases hb : v'.ownBlock with
  | none => exact ⟨hr.mono (fun y hy => by rw [hb] at hy; simp at hy ⊢; rcases hy with h | h <;> simp [h]), h1, h.hu, fun g hg => (by rw [hb] at hg; cases hg), fun z hz => ⟨(h.hz z hz).1, by rw [hb]; simp⟩⟩
  | some g =>
    rcases hv' g hb with e | e
    · exact ⟨hr.mono (fun y hy => by rw [e] at hy; exact hy), h1, h.hu, fun g hg => h.hv g (e ▸ hg), fun z hz => ⟨(h.hz z hz).1, by rw [e]; exact (h.hz z hz).2⟩⟩
    · have hgl : g < w'.heap.size := (h1.own.lt g hb).2
      have hf := h.rk.fresh k (by simp) h.hu e hgl
      refine ⟨hf.mono (fun y hy => by rw [hb] at hy; simp at hy ⊢; rcases hy with h | h | h <;> simp [h]), h1, h.hu, fun g' hg' => ?_, fun z hz => ⟨(h.hz z hz).1, ?_⟩⟩
      · rw [hb] at hg'
        injection hg' with hg'
        subst hg'
        exact Nat.le_trans h.rk.below.size e
      · rw [hb]
        intro e'
        injection e' with e'
        have := h.rk.lt z (by simp [hz])
        omega
/-- a local variable more -/
theorem St.local (h : St w0 Z w b u v budget L M) (o : Obj) : St w0 (w.heap.size :: Z) (w.alloc o) b u v budget L M := by
  have k := (Keep.refl [] w).alloc o
  refine ⟨(h.rk.local o).mono (fun y hy => by simp at hy ⊢; rcases hy with h | h | h | h <;> simp [h]), h.dk.keep0 k, h.hu, h.hv, fun z hz => ?_⟩
  rcases List.mem_cons.1 hz with rfl | hz
  · have hu := h.dk.blk.lt
    exact ⟨by omega, fun e => by have := (h.dk.own.lt _ e).2; omega⟩
  · exact h.hz z hz
theorem St.setCell (h : St w0 Z w b u v budget L M) (a : Addr) (x : Value) (ha : a.block ∈ Z) (h0 : w0.heap.size ≤ a.block) : St w0 Z (w.setCell a x) b u v budget L M := by
  have k : Keep [a.block] w (w.setCell a x) := (Keep.refl _ _).setCell _ _ (by simp)
  exact ⟨h.rk.setCell a x (by simp [ha]) h0, h.dk.keep k (by simp; exact fun e => (h.hz _ ha).1 e.symm) (fun g hg => by simp; rintro rfl; exact (h.hz _ ha).2 hg), h.hu, h.hv, h.hz⟩
theorem St.mono {Y : List Nat} (h : St w0 Z w b u v budget L M) (hs : ∀ y ∈ Y, y ∈ Z) : St w0 Y w b u v budget L M :=
  ⟨h.rk.mono (fun y hy => by simp at hy ⊢; rcases hy with h | h | h <;> simp [h, hs]), h.dk, h.hu, h.hv, fun z hz => h.hz z (hs z hz)⟩
end
end Go.Proofs.Ytbfnpoknamajnaa
