/-
  Rows of images; what the laws are handed: a slice of Puts.
-/
import Derived.Test.YtjlcbabnkhdgpaaGreatDoorTwI
namespace Go.Proofs.YtjlcbabnkhdgpaaGreatDoor
set_option linter.unusedSimpArgs false
set_option linter.unusedVariables false
open Go.RowKit Go.Maps

section
variable {w w' : World} {n0 ga g m : Nat} {v kv u : Value} {a : ArM} {d : DevM} {T : TypeId} {sz n : Nat} {xs : List Value}
/-- What is written into a row of another kind leaves a device. -/
theorem DevAt.far (h : DevAt n0 w g m v kv d) (ho : w.ownsRow n0 T sz u n xs) (hg : w.grownBy w' u.ownBlock) (h1 : T ≠ 74) (h2 : T ≠ 100) (h3 : T ≠ 3) : DevAt n0 w' g m v kv d := by
  have hm : some m ≠ u.ownBlock := by
    obtain ⟨es, c, hm⟩ := h.map_
    intro e
    obtain ⟨_, hh⟩ := ho
    rcases hh with ⟨hv', _⟩ | ⟨g', cap, cur, hv', hg', hh, _⟩
    · subst hv'; simp [Value.ownBlock] at e
    · subst hv'; simp [Value.ownBlock] at e; subst e; rw [hm] at hh; cases hh
  unfold DevAt at *
  obtain ⟨q1, q2, q3, q4, q5, q6, q7⟩ := h
  exact ⟨q1, q2.grown hg (q2.notOwn ho h1.symm), q3.kept hg hm, own_own q4 ho h2.symm hg, own_own q5 ho h3.symm hg, q6, Nat.le_trans q7 hg.size⟩
theorem Tw.far (h : Tw n0 w ga g m a d) (ho : w.ownsRow n0 T sz u n xs) (hg : w.grownBy w' u.ownBlock) (h0 : T ≠ 77) (h1 : T ≠ 74) (h2 : T ≠ 100) (h3 : T ≠ 3) : Tw n0 w' ga g m a d := by
  obtain ⟨q1, ⟨⟨v, kv, hD⟩, q2⟩, q3, q4, q5⟩ := h
  refine ⟨?_, ⟨⟨v, kv, hD.far ho hg h1 h2 h3⟩, q2⟩, q3, ?_, q5⟩
  · unfold Ar at *
    exact q1.grown hg (q1.notOwn ho h0.symm)
  · intro i hi
    have := q4 i hi
    refine hg.cell this (fun e => ?_)
    have := ho.lt _ e.symm
    dsimp only at this
    omega
theorem below_far {n1 : Nat} {w0 : World} (h : Below n1 w0 w) (ho : w.ownsRow n0 T sz u n xs) (hg : w.grownBy w' u.ownBlock) (hn : n1 ≤ n0) (hs : n1 ≤ w.heap.size) : Below n1 w0 w' :=
  h.grown hg hs (fun k e => Nat.le_trans hn (ho.lt k e).1)
/-- A row of another kind, behind a device's command. -/
theorem ownsRow_kept (ho : w.ownsRow n0 T sz u n xs) (hK : Kept n0 g m w w') (hg : ∃ cs, Blk w g 74 cs) (hm : ∃ es c, w.heap[m]? = some (.map es c)) (h1 : T ≠ 74) (h2 : T ≠ 100) : w'.ownsRow n0 T sz u n xs := by
  obtain ⟨hx, hh⟩ := ho
  refine ⟨hx, ?_⟩
  rcases hh with hh | ⟨g', cap, cur, hv', hg', hh, q⟩
  · exact Or.inl hh
  · refine Or.inr ⟨g', cap, cur, hv', hg', ?_, q⟩
    refine hK.at_ hh ?_ ?_ (fun cs fz e => by injection e with _ e _; exact h2 e)
    · intro e
      subst e
      obtain ⟨cs, hb⟩ := hg
      unfold Blk at hb
      rw [hb] at hh
      injection hh with hh
      injection hh with _ hh _
      exact h1 hh.symm
    · intro e
      subst e
      obtain ⟨es, c, hb⟩ := hm
      rw [hb] at hh
      cases hh
end

def imgCells (l : List Img) : List Value := l.flatMap fun x => [.int .i64 x.1, .string (bs x.2)]
theorem imgCells_wait (l : List Img) : imgCells l = waitCells l := rfl
theorem imgCells_snoc (l : List Img) (x : Img) : imgCells (l ++ [x]) = imgCells l ++ [.int .i64 x.1, .string (bs x.2)] := by simp [imgCells]
theorem info_img : ∃ i z, Tryz.prog.info? 132 = some i ∧ i.zero = some z ∧ i.size = 2 ∧ i.bytes = 24 ∧ z.cells.size = 2 := by
  have h : (Tryz.prog.info? 132).bind (fun i => i.zero.map fun z => (i.size, i.bytes, z.cells.size)) = some (2, 24, 2) := by kernel_rfl
  cases hi : Tryz.prog.info? 132 with
  | none => rw [hi] at h; simp at h
  | some i =>
    rw [hi] at h
    cases hz : i.zero with
    | none => simp [hz] at h
    | some z =>
      simp [hz] at h
      exact ⟨i, z, rfl, hz, h.1, h.2.1, h.2.2⟩
/-- images = append(images, x). -/
theorem imgs_append (base : Nat) (v : Value) (l : List Img) (p : Int) (s : List UInt8) (gb : Nat) (w : World) (ho : w.ownsRow base 132 2 v l.length (imgCells l)) (hb : Blk w gb 132 #[.int .i64 p, .string (bs s)]) (hl : l.length ≤ 1000000) (hw : base ≤ w.heap.size) :
    ∃ v' w', (Builtin.append_ #[130, 130] 130 #[v, .slice (some ⟨gb, 0, none⟩) 1 1]).run Tryz.prog w = .ok v' w' ∧ w'.ownsRow base 132 2 v' (l ++ [(p, s)]).length (imgCells (l ++ [(p, s)])) ∧ w.grownBy w' v.ownBlock := by
  obtain ⟨i, z, hi, hz, hsz, hby, hzs⟩ := info_img
  obtain ⟨v', w', hr, q1, q2, _⟩ := run_append_own (P := Tryz.prog) w base 130 130 132 i z 2 24 Tryz.underlying130 hi hz hsz hby hzs (by decide) v l.length _ ho ⟨gb, 0, none⟩ 1 1 [.int .i64 p, .string (bs s)] rfl
    (fun j u hu => World.news_of_block hb j u (by simpa using hu)) (entTwo _ _) (by unfold maxLen; omega) (by omega) hw
  refine ⟨v', w', hr, ?_, q2⟩
  rw [imgCells_snoc, List.length_append]
  exact q1
/-- A row of images, for a Write. -/
theorem imgs_at {w : World} {n0 g m : Nat} {v : Value} {l : List Img} (ho : w.ownsRow n0 132 2 v l.length (imgCells l)) (hg : ∃ cs, Blk w g 74 cs) (hm : ∃ es c, w.heap[m]? = some (.map es c)) :
    ∃ A cap, v = .slice A l.length cap ∧ ImgsAt w g m A l ∧ l.length ≤ cap := by
  have ho' := ho
  obtain ⟨hx, hh⟩ := ho
  rcases hh with ⟨hv, hn⟩ | ⟨gb, cap, cur, hv, _, hb, hle, _⟩
  · have : l = [] := List.eq_nil_of_length_eq_zero hn
    subst this
    exact ⟨none, 0, hv, ImgsAt.nil, Nat.le_refl _⟩
  · refine ⟨some ⟨gb, 0, none⟩, cap, hv, fun k hk => ⟨gb, 0, rfl, ⟨?_, ?_, _, _, _, hb, by decide⟩, ?_, ?_⟩, hle⟩
    · intro e
      subst e
      obtain ⟨cs, hb'⟩ := hg
      unfold Blk at hb'
      rw [hb'] at hb
      injection hb with hb
      injection hb with _ hb _
      exact absurd hb (by decide)
    · intro e
      subst e
      obtain ⟨es, c, hb'⟩ := hm
      rw [hb'] at hb
      cases hb
    · have := ho'.cells (g := gb) (by rw [hv]; rfl) _ _ (waitCells_at l k hk).1
      have e : (⟨gb, 0, none⟩ : Addr).add (k * 2) = ⟨gb, k * 2, none⟩ := by unfold Addr.add; split <;> simp_all
      rw [e] at this
      simpa using this
    · have := ho'.cells (g := gb) (by rw [hv]; rfl) _ _ (waitCells_at l k hk).2
      have e : (⟨gb, 0, none⟩ : Addr).add (k * 2 + 1) = ⟨gb, k * 2 + 1, none⟩ := by unfold Addr.add; split <;> simp_all
      rw [e] at this
      simpa using this

/-- A slice that is handed in: it reads as Puts, all in blocks below n0. -/
def PutsAt (w : World) (n0 : Nat) (A : Option Addr) (l : List (Int × List UInt8)) : Prop :=
  ∀ k (hk : k < l.length), ∃ b o, A = some ⟨b, o, none⟩ ∧ b < n0 ∧ w.cell? ⟨b, o + k * 2, none⟩ = some (.int .i64 l[k].1) ∧ w.cell? ⟨b, o + k * 2 + 1, none⟩ = some (.string (bs l[k].2))
theorem PutsAt.below {w w' : World} {n0 : Nat} {A : Option Addr} {l : List (Int × List UInt8)} (h : PutsAt w n0 A l) (hb : Below n0 w w') : PutsAt w' n0 A l := fun k hk => by
  obtain ⟨b, o, e, hlt, h1, h2⟩ := h k hk
  exact ⟨b, o, e, hlt, (hb.cell (p := ⟨b, o + k * 2, none⟩) hlt).trans h1, (hb.cell (p := ⟨b, o + k * 2 + 1, none⟩) hlt).trans h2⟩
/-- Numbers that are handed in. -/
def IntsIn (w : World) (n0 : Nat) (A : Option Addr) (ks : List Int) : Prop :=
  ∀ k (hk : k < ks.length), ∃ b o, A = some ⟨b, o, none⟩ ∧ b < n0 ∧ w.cell? ⟨b, o + k, none⟩ = some (.int .i64 ks[k])
theorem IntsIn.below {w w' : World} {n0 : Nat} {A : Option Addr} {ks : List Int} (h : IntsIn w n0 A ks) (hb : Below n0 w w') : IntsIn w' n0 A ks := fun k hk => by
  obtain ⟨b, o, e, hlt, h1⟩ := h k hk
  exact ⟨b, o, e, hlt, (hb.cell (p := ⟨b, o + k, none⟩) hlt).trans h1⟩
/-- keep[:min(len(keep), 9)]. -/
theorem IntsIn.take {w : World} {n0 : Nat} {A : Option Addr} {ks : List Int} (h : IntsIn w n0 A ks) (n cap : Nat) (hn : n ≤ ks.length) (hc : A = none → cap = 0 ∧ ks = []) : IntsAt w (.slice A n cap) (ks.take n) := by
  refine ⟨A, cap, by rw [List.length_take, Nat.min_eq_left hn], fun e => ⟨(hc e).1, by rw [(hc e).2]; simp⟩, fun ad e j u hu => ?_⟩
  subst e
  rw [List.getElem?_map] at hu
  have hj : j < n ∧ j < ks.length := by
    cases hk : (ks.take n)[j]? with
    | none => rw [hk] at hu; cases hu
    | some x =>
      have := (List.getElem?_eq_some_iff.1 hk).1
      rw [List.length_take] at this
      omega
  obtain ⟨b, o, e, hlt, h1⟩ := h j hj.2
  injection e with e
  subst e
  have ha : (⟨b, o, none⟩ : Addr).add j = ⟨b, o + j, none⟩ := by unfold Addr.add; split <;> simp_all
  rw [ha, h1]
  rw [List.getElem?_take, if_pos hj.1, List.getElem?_eq_getElem hj.2] at hu
  exact hu
end Go.Proofs.YtjlcbabnkhdgpaaGreatDoor
