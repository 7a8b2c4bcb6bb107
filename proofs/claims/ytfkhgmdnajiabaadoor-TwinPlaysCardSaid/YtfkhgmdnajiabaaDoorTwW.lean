/-
  Walks: the document's pages: Written.
-/
import Derived.Test.YtfkhgmdnajiabaaDoorTwV
namespace Go.Proofs.YtfkhgmdnajiabaaDoor
set_option linter.unusedSimpArgs false
set_option linter.unusedVariables false
open Go.RowKit Go.Maps

/-- A slice that reads as these strings. -/
def StrsAt (w : World) (v : Value) (l : List (List UInt8)) : Prop := ∃ A cap, v = .slice A l.length cap ∧ (A = none → cap = 0 ∧ l = []) ∧ ∀ ad, A = some ad → ∀ (j : Nat) (u : Value), (strCells l)[j]? = some u → w.cell? (ad.add j) = some u
theorem StrsAt.of_own {base : Nat} {v : Value} {l : List (List UInt8)} {w : World} (ho : Strs base w v l) : StrsAt w v l := by
  have ho' := ho
  obtain ⟨hx, hh⟩ := ho
  rcases hh with ⟨hv, hn⟩ | ⟨gb, cap, cur, hv, _, _, _, _⟩
  · have : l = [] := List.eq_nil_of_length_eq_zero hn
    subst this
    exact ⟨none, 0, hv, fun _ => ⟨rfl, rfl⟩, fun ad h => by cases h⟩
  · exact ⟨some ⟨gb, 0, none⟩, cap, hv, (fun h => by cases h), fun ad h j u hu => by cases h; exact ho'.cells (g := gb) (by rw [hv]; rfl) j u hu⟩
theorem StrsAt.below {w w' : World} {v : Value} {l : List (List UInt8)} (h : StrsAt w v l) (hb : Below w.heap.size w w') : StrsAt w' v l := by
  obtain ⟨A, cap, rfl, h1, h2⟩ := h
  exact ⟨A, cap, rfl, h1, fun ad e j u hu => up_cell hb (h2 ad e j u hu)⟩
theorem strsAll_append (base : Nat) (v s : Value) (l ks : List (List UInt8)) (w : World) (ho : Strs base w v l) (hs : StrsAt w s ks) (hl : l.length ≤ 1000000) (hk : ks.length ≤ 1000000) (hw : base ≤ w.heap.size) :
    ∃ v' w', (Builtin.append_ #[56, 56] 56 #[v, s]).run Tryd.prog w = .ok v' w' ∧ Strs base w' v' (l ++ ks) ∧ w.grownBy w' v.ownBlock ∧ (v'.ownBlock = v.ownBlock ∨ v'.ownBlock = some w.heap.size) := by
  obtain ⟨A, cap, rfl, h1, h2⟩ := hs
  cases A with
  | none =>
    obtain ⟨rfl, rfl⟩ := h1 rfl
    obtain ⟨i, z, hi, hz, hsz, hby, hzs⟩ := info_str
    have hr := run_append_owned_none (P := Tryd.prog) (w := w) base 56 56 9 i 1 Tryd.underlying56 hi v _ _ ho
    exact ⟨v, w, hr, by simpa using ho, ⟨rfl, rfl, rfl, Nat.le_refl _, fun _ _ _ => rfl⟩, Or.inl rfl⟩
  | some ad => exact strs_append base v l ks ad cap w ho (h2 ad rfl) hl hk hw
section
variable {w w' : World} {n0 : Nat} {u v : Value} {xs ys ks : List (List UInt8)} {s : List UInt8} {gb : Nat}
theorem Two.nil (hn : n0 ≤ w.heap.size) : Two n0 w (.slice none 0 0) (.slice none 0 0) [] [] := ⟨World.ownsRow_nil _ _ _ _, World.ownsRow_nil _ _ _ _, Or.inl rfl, hn⟩
theorem Two.start (h : Two n0 w u v xs ys) : Two n0 (w.alloc (.cells #[] 9)) (.slice (some ⟨w.heap.size, 0, none⟩) 0 0) v [] ys := by
  have hb : Below w.heap.size w (w.alloc (.cells #[] 9)) := (Below.refl _ _).alloc (Nat.le_refl _) _
  have h' := h.up hb
  refine ⟨World.ownsRow_made w #[] 0 h.at0 (by unfold maxLen; omega) (by simp), h'.two, Or.inr (fun e => h.swap.fresh e.symm), h'.at0⟩
theorem Two.appendAll {x : Value} (h : Two n0 w u v xs ys) (hs : StrsAt w x ks) (hl : xs.length ≤ 1000000) (hk : ks.length ≤ 1000000) :
    ∃ u' w', (Builtin.append_ #[56, 56] 56 #[u, x]).run Tryd.prog w = .ok u' w' ∧ Two n0 w' u' v (xs ++ ks) ys ∧ w.grownBy w' u.ownBlock := by
  obtain ⟨u', w', hr, q1, q2, q3⟩ := strsAll_append n0 u x xs ks w h.one hs hl hk h.at0
  refine ⟨u', w', hr, ⟨q1, h.two.kept q2 ?_, ?_, Nat.le_trans h.at0 q2.size⟩, q2⟩
  · have := h.swap.apart; exact this
  · rcases q3 with q3 | q3
    · rw [q3]; exact h.apart
    · right
      rw [q3]
      intro e
      have := (h.two.lt _ e.symm).2
      omega
theorem Strs.at8 (h : Strs n0 w u xs) (hl : 0 < xs.length) : ∃ b c, u = .slice (some ⟨b, 0, none⟩) xs.length c := by
  rcases h.2 with ⟨h1, h2⟩ | ⟨g, cap, cur, h1, _⟩
  · omega
  · exact ⟨_, _, h1⟩
theorem Two.store {b n c : Nat} (h : Two n0 w (.slice (some ⟨b, 0, none⟩) n c) v xs ys) (j : Nat) (s : List UInt8) : Two n0 (w.setCell ⟨b, j, none⟩ (.string (bs s))) (.slice (some ⟨b, 0, none⟩) n c) v (xs.set j s) ys := by
  have hn : n = xs.length := by
    obtain ⟨A, c', e⟩ := h.one.slice
    injection e
  subst hn
  obtain ⟨q1, q2⟩ := h.one.stored j (.string (bs s))
  have hv : Strs n0 (w.setCell ⟨b, j, none⟩ (.string (bs s))) v ys := h.two.kept q2 h.swap.apart
  refine ⟨?_, hv, h.apart, by simpa [World.setCell] using h.at0⟩
  unfold Strs
  rw [List.length_set, show strCells (xs.set j s) = (strCells xs).set j (.string (bs s)) from List.map_set]
  exact q1
theorem Two.cell {b n c : Nat} (h : Two n0 w (.slice (some ⟨b, 0, none⟩) n c) v xs ys) (j : Nat) (hj : j < xs.length) : w.cell? ⟨b, j, none⟩ = some (.string (bs xs[j])) ∧ w.frozen? ⟨b, j, none⟩ = false := by
  have hn : n = xs.length := by
    obtain ⟨A, c', e⟩ := h.one.slice
    injection e
  subst hn
  refine ⟨?_, h.one.frozenAt j⟩
  rw [h.one.cellAt j (by omega)]
  simp [strCells, hj]
end
/-- Pages with others in their place. -/
def putL (xs : List (List UInt8)) (l : List Img) : List (List UInt8) := l.foldl (fun xs x => xs.set x.1.toNat x.2) xs
theorem putL_length (xs : List (List UInt8)) (l : List Img) : (putL xs l).length = xs.length := by
  unfold putL
  induction l generalizing xs with
  | nil => rfl
  | cons x l ih => rw [List.foldl_cons, ih, List.length_set]
theorem putL_snoc (xs : List (List UInt8)) (l : List Img) (x : Img) : putL xs (l ++ [x]) = (putL xs l).set x.1.toNat x.2 := by
  unfold putL
  rw [List.foldl_append]; rfl
theorem putL_at (xs : List (List UInt8)) (l : List Img) (hl : ∀ x ∈ l, 0 ≤ x.1) (p : Nat) (hp : p < xs.length) : (putL xs l).getD p [] = nowL (fun q => xs.getD q.toNat []) l p := by
  induction l using snoc_ind with
  | h0 => simp [putL, nowL, lastAt]
  | h1 l x ih =>
    have h0 := hl x (by simp)
    have ih := ih (fun y hy => hl y (by simp [hy]))
    rw [putL_snoc]
    unfold nowL at ih ⊢
    rw [lastAt_snoc]
    by_cases h : x.1 = (p : Int)
    · rw [if_pos h, show x.1.toNat = p by omega]
      simp [List.getD, putL_length, hp]
    · rw [if_neg h, ← ih]
      have hne : x.1.toNat ≠ p := by omega
      simp [List.getD, List.getElem?_set_ne hne]
theorem written9_results (tmps : Array Value) (rb : Nat) (W : World) {v0 v1 : Value} (h2 : tmps.getD 6 undef = .pointer (some ⟨rb, 0, none⟩)) (h : Blk W rb 58 #[v0, v1]) :
    (results Tryd.f23 tmps).run Tryd.prog W = .ok (.agg #[v0, v1]) W := by
  have c0 := h.cell 0
  have c1 := h.cell 1
  have h2' : tmps[6]?.getD undef = .pointer (some ⟨rb, 0, none⟩) := by simpa using h2
  simp [results, Tryd.results23, go_sem, c0, c1, h2']
end Go.Proofs.YtfkhgmdnajiabaaDoor
