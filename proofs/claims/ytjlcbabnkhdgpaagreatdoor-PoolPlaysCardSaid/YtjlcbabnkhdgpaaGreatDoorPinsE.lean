/-
  What the acts of layer 10's laws read as.
-/
import Derived.Test.YtjlcbabnkhdgpaaGreatDoorPinsA
import Derived.Test.YtjlcbabnkhdgpaaGreatDoorPinsC
import Derived.Test.YtjlcbabnkhdgpaaGreatDoorCards
import Derived.Test.YtjlcbabnkhdgpaaGreatDoorTie
import Derived.Test.YtjlcbabnkhdgpaaGreatDoorTwK
import Derived.WalkKit
import Derived.ProofKit
import Derived.OpenShut
import Derived.SizedLaws
import Derived.Deep.Strs
import Derived.Deep.Slices
import Derived.Deep.Fields
import Derived.Deep.DeepHandedRow
import Derived.Lib.LaidTab
import Derived.ChangeSlices
namespace Go.Proofs.YtjlcbabnkhdgpaaGreatDoor
section
set_option linter.unusedSimpArgs false
set_option linter.unusedVariables false
open Go.RowKit Go.Maps

/-- A slice that reads as these strings. -/
def StrsAt (w : World) (v : Value) (l : List (List UInt8)) : Prop := ∃ A cap, v = .slice A l.length cap ∧ (A = none → cap = 0 ∧ l = []) ∧ ∀ ad, A = some ad → ∀ (j : Nat) (u : Value), (strCells l)[j]? = some u → w.cell? (ad.add j) = some u
theorem StrsAt.of_own {base : Nat} {v : Value} {l : List (List UInt8)} {w : World} (ho : Strs base w v l) : StrsAt w v l := by
  have ho' := ho
  obtain ⟨hx, hh⟩ := ho
  rcases hh with ⟨hv, hn⟩ | ⟨gb, cap, cur, hv, _, _, _, _⟩
  · have : l = [] := List.eq_nil_of_length_eq_zero hn
    subst this
    exact ⟨none, 0, hv, fun _ => ⟨rfl, rfl⟩, fun ad h => by cases h⟩
  · exact ⟨some ⟨gb, 0, none⟩, cap, hv, (fun h => by cases h), fun ad h j u hu => by cases h; exact ho'.cells (g := gb) (by rw [hv]; rfl) j u hu⟩
theorem StrsAt.below {w w' : World} {v : Value} {l : List (List UInt8)} (h : StrsAt w v l) (hb : Below w.heap.size w w') : StrsAt w' v l := by
  obtain ⟨A, cap, rfl, h1, h2⟩ := h
  exact ⟨A, cap, rfl, h1, fun ad e j u hu => up_cell hb (h2 ad e j u hu)⟩
theorem strsAll_append (base : Nat) (v s : Value) (l ks : List (List UInt8)) (w : World) (ho : Strs base w v l) (hs : StrsAt w s ks) (hl : l.length ≤ 1000000) (hk : ks.length ≤ 1000000) (hw : base ≤ w.heap.size) :
    ∃ v' w', (Builtin.append_ #[47, 47] 47 #[v, s]).run Tryz.prog w = .ok v' w' ∧ Strs base w' v' (l ++ ks) ∧ w.grownBy w' v.ownBlock ∧ (v'.ownBlock = v.ownBlock ∨ v'.ownBlock = some w.heap.size) := by
  obtain ⟨A, cap, rfl, h1, h2⟩ := hs
  cases A with
  | none =>
    obtain ⟨rfl, rfl⟩ := h1 rfl
    obtain ⟨i, z, hi, hz, hsz, hby, hzs⟩ := info_str
    have hr := run_append_owned_none (P := Tryz.prog) (w := w) base 47 47 9 i 1 Tryz.underlying47 hi v _ _ ho
    exact ⟨v, w, hr, by simpa using ho, ⟨rfl, rfl, rfl, Nat.le_refl _, fun _ _ _ => rfl⟩, Or.inl rfl⟩
  | some ad => exact strs_append base v l ks ad cap w ho (h2 ad rfl) hl hk hw
section
variable {w w' : World} {n0 : Nat} {u v : Value} {xs ys ks : List (List UInt8)} {s : List UInt8} {gb : Nat}
theorem Two.nil (hn : n0 ≤ w.heap.size) : Two n0 w (.slice none 0 0) (.slice none 0 0) [] [] := ⟨World.ownsRow_nil _ _ _ _, World.ownsRow_nil _ _ _ _, Or.inl rfl, hn⟩
theorem Two.start (h : Two n0 w u v xs ys) : Two n0 (w.alloc (.cells #[] 9)) (.slice (some ⟨w.heap.size, 0, none⟩) 0 0) v [] ys := by
  have hb : Below w.heap.size w (w.alloc (.cells #[] 9)) := (Below.refl _ _).alloc (Nat.le_refl _) _
  have h' := h.up hb
  refine ⟨World.ownsRow_made w #[] 0 h.at0 (by unfold maxLen; omega) (by simp), h'.two, Or.inr (fun e => h.swap.fresh e.symm), h'.at0⟩
theorem Two.appendAll {x : Value} (h : Two n0 w u v xs ys) (hs : StrsAt w x ks) (hl : xs.length ≤ 1000000) (hk : ks.length ≤ 1000000) :
    ∃ u' w', (Builtin.append_ #[47, 47] 47 #[u, x]).run Tryz.prog w = .ok u' w' ∧ Two n0 w' u' v (xs ++ ks) ys ∧ w.grownBy w' u.ownBlock := by
  obtain ⟨u', w', hr, q1, q2, q3⟩ := strsAll_append n0 u x xs ks w h.one hs hl hk h.at0
  refine ⟨u', w', hr, ⟨q1, h.two.kept q2 ?_, ?_, Nat.le_trans h.at0 q2.size⟩, q2⟩
  · have := h.swap.apart; exact this
  · rcases q3 with q3 | q3
    · rw [q3]; exact h.apart
    · right
      rw [q3]
      intro e
      have := (h.two.lt _ e.symm).2
      omega
theorem Strs.at8 (h : Strs n0 w u xs) (hl : 0 < xs.length) : ∃ b c, u = .slice (some ⟨b, 0, none⟩) xs.length c := by
  rcases h.2 with ⟨h1, h2⟩ | ⟨g, cap, cur, h1, _⟩
  · omega
  · exact ⟨_, _, h1⟩
theorem Two.store {b n c : Nat} (h : Two n0 w (.slice (some ⟨b, 0, none⟩) n c) v xs ys) (j : Nat) (s : List UInt8) : Two n0 (w.setCell ⟨b, j, none⟩ (.string (bs s))) (.slice (some ⟨b, 0, none⟩) n c) v (xs.set j s) ys := by
  have hn : n = xs.length := by
    obtain ⟨A, c', e⟩ := h.one.slice
    injection e
  subst hn
  obtain ⟨q1, q2⟩ := h.one.stored j (.string (bs s))
  have hv : Strs n0 (w.setCell ⟨b, j, none⟩ (.string (bs s))) v ys := h.two.kept q2 h.swap.apart
  refine ⟨?_, hv, h.apart, by simpa [World.setCell] using h.at0⟩
  unfold Strs
  rw [List.length_set, show strCells (xs.set j s) = (strCells xs).set j (.string (bs s)) from List.map_set]
  exact q1
theorem Two.cell {b n c : Nat} (h : Two n0 w (.slice (some ⟨b, 0, none⟩) n c) v xs ys) (j : Nat) (hj : j < xs.length) : w.cell? ⟨b, j, none⟩ = some (.string (bs xs[j])) ∧ w.frozen? ⟨b, j, none⟩ = false := by
  have hn : n = xs.length := by
    obtain ⟨A, c', e⟩ := h.one.slice
    injection e
  subst hn
  refine ⟨?_, h.one.frozenAt j⟩
  rw [h.one.cellAt j (by omega)]
  simp [strCells, hj]
end
/-- Pages with others in their place. -/
def putL (xs : List (List UInt8)) (l : List Img) : List (List UInt8) := l.foldl (fun xs x => xs.set x.1.toNat x.2) xs
theorem putL_length (xs : List (List UInt8)) (l : List Img) : (putL xs l).length = xs.length := by
  unfold putL
  induction l generalizing xs with
  | nil => rfl
  | cons x l ih => rw [List.foldl_cons, ih, List.length_set]
theorem putL_snoc (xs : List (List UInt8)) (l : List Img) (x : Img) : putL xs (l ++ [x]) = (putL xs l).set x.1.toNat x.2 := by
  unfold putL
  rw [List.foldl_append]; rfl
theorem putL_at (xs : List (List UInt8)) (l : List Img) (hl : ∀ x ∈ l, 0 ≤ x.1) (p : Nat) (hp : p < xs.length) : (putL xs l).getD p [] = nowL (fun q => xs.getD q.toNat []) l p := by
  induction l using snoc_ind with
  | h0 => simp [putL, nowL, lastAt]
  | h1 l x ih =>
    have h0 := hl x (by simp)
    have ih := ih (fun y hy => hl y (by simp [hy]))
    rw [putL_snoc]
    unfold nowL at ih ⊢
    rw [lastAt_snoc]
    by_cases h : x.1 = (p : Int)
    · rw [if_pos h, show x.1.toNat = p by omega]
      simp [List.getD, putL_length, hp]
    · rw [if_neg h, ← ih]
      have hne : x.1.toNat ≠ p := by omega
      simp [List.getD, List.getElem?_set_ne hne]
end
end Go.Proofs.YtjlcbabnkhdgpaaGreatDoor
namespace Go.Proofs.YtjlcbabnkhdgpaaGreatDoor
section
set_option linter.unusedSimpArgs false
set_option linter.unusedVariables false

theorem fd_cleanF (ns : List Int) (hs : List Hl) (k : Int) : fd (cleanF hs ns) k = (fd hs k).map (fun y => (y.1, { y.2 with dirty := y.2.dirty && !decide (k ∈ ns) })) := by
  induction ns using snoc_ind generalizing k with
  | h0 => unfold cleanF; rw [List.foldl_nil]; cases fd hs k <;> simp
  | h1 ns n ih =>
    rw [cleanF_snoc, fd_setF]
    by_cases e : k = n
    · subst e
      rw [if_pos rfl, ih k]
      cases hy : fd hs k with
      | none => rfl
      | some y => simp [frOf, ih k, hy]
    · rw [if_neg e, ih k]
      cases hy : fd hs k with
      | none => rfl
      | some y => simp [e]
theorem fd_uniq {hs : List Hl} (hr : Rise (psOf hs)) {x : Hl} (hx : x ∈ hs) : fd hs x.1 = some x.2 := by
  obtain ⟨w, hw⟩ := Option.isSome_iff_exists.1 (fd_some_of hx)
  have hmem := fd_mem hw
  obtain ⟨i, hi, hxi⟩ := List.mem_iff_getElem.1 hx
  obtain ⟨j, hj, hxj⟩ := List.mem_iff_getElem.1 hmem
  have hij : i = j := by
    rcases Nat.lt_trichotomy i j with h1 | h1 | h1
    · have := Rise.lt hr h1 (by rw [psOf_length]; exact hj)
      rw [psOf_at hi, psOf_at hj, hxi, hxj] at this
      simp at this
    · exact h1
    · have := Rise.lt hr h1 (by rw [psOf_length]; exact hi)
      rw [psOf_at hi, psOf_at hj, hxi, hxj] at this
      simp at this
  subst hij
  have : x = (x.1, w) := hxi.symm.trans hxj
  rw [hw, this]
theorem mem_dirtyOf {hs : List Hl} (hr : Rise (psOf hs)) (k : Int) : k ∈ dirtyOf hs ↔ ∃ y, fd hs k = some y ∧ y.2.dirty = true := by
  unfold dirtyOf
  rw [List.mem_map]
  constructor
  · rintro ⟨x, hx, rfl⟩
    obtain ⟨h1, h2⟩ := List.mem_filter.1 hx
    exact ⟨x.2, fd_uniq hr h1, h2⟩
  · rintro ⟨y, hy, hd⟩
    exact ⟨(k, y), List.mem_filter.2 ⟨fd_mem hy, hd⟩, rfl⟩
theorem lastAt_imgs (hs : List Hl) (ns : List Int) (p : Int) : lastAt (imgsOf hs ns) p = if p ∈ ns then some (frOf hs p).bytes else none := by
  unfold imgsOf
  induction ns with
  | nil => rfl
  | cons n ns ih =>
    rw [List.map_cons, lastAt_cons, ih]
    by_cases h : p ∈ ns
    · simp [h]
    · by_cases e : n = p
      · subst e; simp [h]
      · simp [h, e, Ne.symm e]
theorem frOf_fd {hs : List Hl} {k : Int} {y : Nat × FrM} (h : fd hs k = some y) : frOf hs k = y.2 := by unfold frOf; rw [h]
/-- What the pages on the device are behind a write of some. -/
def wrD (hs : List Hl) (ns : List Int) (disk : Int → List UInt8) : Int → List UInt8 := fun p => if p ∈ ns then (frOf hs p).bytes else disk p
/-- A sound pool of whole pages, the device's power on. -/
structure Ps (most : Int) (hs : List Hl) (us : List Int) (d : DevM) (disk : Int → List UInt8) : Prop where
  gd : Gd most 8 hs us
  wh : ∀ k y, fd hs k = some y → wholeB y.2.bytes = true
  off : d.off = false
  fuse : d.fuse = 0
  size : d.size = 40
  dsk : ∀ k, 0 ≤ k → k < 8 → pgv arm8 d k = disk k ∧ wholeB (disk k) = true ∧ (disk k).length = 512
  cln : ∀ k y, fd hs k = some y → y.2.dirty = false → y.2.bytes = disk k
section
variable {most : Int} {hs : List Hl} {us : List Int} {d : DevM} {disk : Int → List UInt8} {n : Int}
theorem Ps.start (h : 0 ≤ most) : Ps most [] [] (newM 40) (fun _ => zer) :=
  ⟨Gd.nil h, (fun k y hy => by cases hy), rfl, rfl, rfl, fun k _ _ => ⟨by rw [newM_page]; unfold zer; rfl, zer_whole, zer_len⟩, (fun k y hy => by cases hy)⟩
theorem Ps.len (h : Ps most hs us d disk) {k : Int} {y : Nat × FrM} (hy : fd hs k = some y) : y.2.bytes.length = 512 := h.gd.small _ (fd_mem hy)
theorem Ps.held (h : Ps most hs us d disk) {k : Int} (hk : k ∈ us) : ∃ y, fd hs k = some y := Option.isSome_iff_exists.1 ((h.gd.keys k).1 hk)
theorem Ps.read (h : Ps most hs us d disk) (h0 : 0 ≤ n) (h8 : n < 8) : treadM arm8 d n = (disk n, 0) := by
  rw [tread_on h.off h0 h8, (h.dsk n h0 h8).1]
theorem Ps.write (h : Ps most hs us d disk) (ns : List Int) (hn : ∀ k ∈ ns, k ∈ us) :
    ∃ d', twriteM arm8 d (imgsOf hs ns) = (0, d') ∧ Ps most (cleanF hs ns) us d' (wrD hs ns disk) ∧ d'.cmds ≤ d.cmds + 7 * ns.length := by
  have hfit : arm8.fits d.size := by rw [h.size]; exact arm8_fits
  have hgood : ∀ x ∈ imgsOf hs ns, goodB arm8 x = true := by
    intro x hx
    obtain ⟨k, hk, rfl⟩ := List.mem_map.1 hx
    obtain ⟨y, hy⟩ := h.held (hn k hk)
    have hr := h.gd.rng k (hn k hk)
    rw [goodB_iff]
    simp only [frOf_fd hy]
    exact ⟨⟨⟨hr.1, hr.2⟩, h.len hy⟩, h.wh k y hy⟩
  obtain ⟨e0, hR⟩ := write_calm_all hfit hgood h.off h.fuse
  have hcm := twriteM_cmds (a := arm8) (by decide) d (imgsOf hs ns)
  rw [show (imgsOf hs ns).length = ns.length by unfold imgsOf; rw [List.length_map]] at hcm
  refine ⟨(twriteM arm8 d (imgsOf hs ns)).2, Prod.ext e0 rfl, ⟨h.gd.clean ns hn, ?_, hR.off, hR.fuse h.fuse, hR.size.trans h.size, ?_, ?_⟩, hcm⟩
  · intro k y hy
    rw [fd_cleanF] at hy
    obtain ⟨y0, h0, rfl⟩ := Option.map_eq_some_iff.1 hy
    exact h.wh k y0 h0
  · intro k h0 h8
    rw [hR.page k h0 h8, lastAt_imgs]
    unfold wrD
    by_cases hk : k ∈ ns
    · obtain ⟨y, hy⟩ := h.held (hn k hk)
      rw [if_pos hk, if_pos hk, frOf_fd hy]
      exact ⟨rfl, h.wh k y hy, h.len hy⟩
    · rw [if_neg hk, if_neg hk]
      exact h.dsk k h0 h8
  · intro k y hy hd
    rw [fd_cleanF] at hy
    obtain ⟨y0, h0, rfl⟩ := Option.map_eq_some_iff.1 hy
    unfold wrD
    by_cases hk : k ∈ ns
    · rw [if_pos hk, frOf_fd h0]
    · rw [if_neg hk]
      refine h.cln k y0 h0 ?_
      simpa [hk] using hd
theorem Ps.drop (h : Ps most hs us d disk) (n : Int) : Ps most (delF hs n) (dropL us n) d disk := by
  have hf : ∀ k y, fd (delF hs n) k = some y → fd hs k = some y := by
    intro k y hy
    rw [fd_delF h.gd.rise] at hy
    split at hy
    · cases hy
    · exact hy
  exact ⟨h.gd.del n, fun k y hy => h.wh k y (hf k y hy), h.off, h.fuse, h.size, h.dsk, fun k y hy => h.cln k y (hf k y hy)⟩
theorem Ps.set (h : Ps most hs us d disk) (n : Int) {f : FrM} (h1 : f.bytes.length = 512) (h2 : wholeB f.bytes = true) (h3 : f.dirty = false → f.bytes = disk n) : Ps most (setF hs n f) us d disk := by
  refine ⟨h.gd.set n h1, fun k y hy => ?_, h.off, h.fuse, h.size, h.dsk, fun k y hy hd => ?_⟩
  · rw [fd_setF] at hy
    split at hy
    · obtain ⟨y0, h0, rfl⟩ := Option.map_eq_some_iff.1 hy
      exact h2
    · exact h.wh k y hy
  · rw [fd_setF] at hy
    split at hy
    · rename_i e
      obtain ⟨y0, h0, rfl⟩ := Option.map_eq_some_iff.1 hy
      rw [e]; exact h3 hd
    · exact h.cln k y hy hd
theorem Ps.use (h : Ps most hs us d disk) (hn : n ∈ us) : Ps most hs (useL us n) d disk := ⟨h.gd.use hn, h.wh, h.off, h.fuse, h.size, h.dsk, h.cln⟩
theorem Ps.ins (h : Ps most hs us d disk) (hn : fd hs n = none) (hl : (hs.length : Int) < most) (h0 : 0 ≤ n) (h8 : n < 8) (x q : Nat) : Ps most (insF hs n (x, ⟨disk n, q, false⟩)) (useL us n) d disk := by
  obtain ⟨_, hw, hlen⟩ := h.dsk n h0 h8
  refine ⟨h.gd.ins hn hl h0 h8 hlen, fun k y hy => ?_, h.off, h.fuse, h.size, h.dsk, fun k y hy hd => ?_⟩
  · rw [fd_insF hn] at hy
    split at hy
    · injection hy with hy; subst hy; exact hw
    · exact h.wh k y hy
  · rw [fd_insF hn] at hy
    split at hy
    · rename_i e
      injection hy with hy; subst hy; rw [e]
    · exact h.cln k y hy hd
end
/-- What a flush that leaves the device alone does. -/
def onD {σ : Type} (ls : σ → Int → Int × σ) : σ → DevM → Int → Int × σ × DevM := fun s d n => ((ls s n).1, (ls s n).2, d)
theorem onD_cmds {σ : Type} (ls : σ → Int → Int × σ) : ∀ s d n, (onD ls s d n).2.2.cmds ≤ d.cmds + 100000000 := fun _ _ _ => Nat.le_add_right _ _
theorem okS_onD : okS = onD (fun (_ : Unit) _ => ((0 : Int), ())) := rfl
/-- A pool's rows, the flush's own, the pages. -/
structure Sm (σ : Type) where
  hs : List Hl
  us : List Int
  s : σ
  disk : Int → List UInt8
section
variable {σ : Type} (ls : σ → Int → Int × σ)
def wrS (q : Sm σ) (ns : List Int) : Int × Sm σ :=
  if ns = [] then (0, q) else if (ls q.s (topOf q.hs ns : Nat)).1 ≠ 0 then ((ls q.s (topOf q.hs ns : Nat)).1, { q with s := (ls q.s (topOf q.hs ns : Nat)).2 })
  else (0, ⟨cleanF q.hs ns, q.us, (ls q.s (topOf q.hs ns : Nat)).2, wrD q.hs ns q.disk⟩)
def outT (r : Int × Sm σ) (n : Int) : Int × Sm σ := if r.1 ≠ 0 then r else (0, { r.2 with hs := delF r.2.hs n, us := dropL r.2.us n })
def outS (q : Sm σ) (n : Int) : Int × Sm σ := outT (if (frOf q.hs n).dirty = true then wrS ls q [n] else (0, q)) n
def spaceS (most : Int) (q : Sm σ) : Int × Sm σ :=
  if (q.hs.length : Int) < most then (0, q) else match q.us.find? (fun k => (frOf q.hs k).pins == 0) with | none => (10, q) | some k => outS ls q k
def newS (r : Int × Sm σ) (n : Int) (x : Nat) : (List UInt8 × Int) × Sm σ :=
  if r.1 ≠ 0 then (([], r.1), r.2) else ((r.2.disk n, 0), { r.2 with hs := insF r.2.hs n (x, ⟨r.2.disk n, 1, false⟩), us := useL r.2.us n })
def pinS (most : Int) (q : Sm σ) (n : Int) (x : Nat) : (List UInt8 × Int) × Sm σ :=
  match fd q.hs n with
  | some y => ((y.2.bytes, 0), { q with hs := setF q.hs n (upF y.2), us := useL q.us n })
  | none => newS (spaceS ls most q) n x
def evictS (q : Sm σ) (n : Int) : Int × Sm σ := match fd q.hs n with | none => (11, q) | some y => if 0 < y.2.pins then (10, q) else outS ls q n
variable {ls} {most : Int} {q : Sm σ} {d : DevM} {n : Int}
/-- The rows of a step with the device: those of the same step over the pages, in a sound state. -/
def Step (most : Int) (d : DevM) (c : Nat) (r : Int × Sm σ) (r' : Int × List Hl × List Int × σ × DevM) : Prop :=
  r'.1 = r.1 ∧ r'.2.1 = r.2.hs ∧ r'.2.2.1 = r.2.us ∧ r'.2.2.2.1 = r.2.s ∧ Ps most r.2.hs r.2.us r'.2.2.2.2 r.2.disk ∧ r'.2.2.2.2.cmds ≤ d.cmds + c
theorem step_write (h : Ps most q.hs q.us d q.disk) (ns : List Int) (hn : ∀ k ∈ ns, k ∈ q.us) (hl : ns.length ≤ 10) :
    Step most d 70 (wrS ls q ns) ((writeP (onD ls) arm8 q.hs q.s d ns).1, (writeP (onD ls) arm8 q.hs q.s d ns).2.1, q.us, (writeP (onD ls) arm8 q.hs q.s d ns).2.2.1, (writeP (onD ls) arm8 q.hs q.s d ns).2.2.2) := by
  obtain ⟨d', e, hP, hc⟩ := h.write ns hn
  unfold Step wrS writeP
  by_cases h0 : ns = []
  · rw [if_pos h0, if_pos h0]
    exact ⟨rfl, rfl, rfl, rfl, h, by simp only; omega⟩
  · rw [if_neg h0, if_neg h0]
    unfold writeQ onD
    dsimp only
    by_cases h1 : (ls q.s (topOf q.hs ns : Nat)).1 = 0
    · rw [if_neg (by simpa using h1), if_neg (by simpa using h1), e]
      unfold writeR
      rw [if_neg (by simp)]
      exact ⟨rfl, rfl, rfl, rfl, hP, by simp only; omega⟩
    · rw [if_pos h1, if_pos h1]
      exact ⟨rfl, rfl, rfl, rfl, h, by simp only; omega⟩
theorem step_out (h : Ps most q.hs q.us d q.disk) (hn : n ∈ q.us) : Step most d 70 (outS ls q n) (outP (onD ls) arm8 q.hs q.us q.s d n) := by
  have key : ∀ (r : Int × Sm σ) (r' : Int × List Hl × σ × DevM), Step most d 70 r (r'.1, r'.2.1, q.us, r'.2.2.1, r'.2.2.2) → Step most d 70 (outT r n) (outR n q.us r') := by
    rintro r r' ⟨e1, e2, e3, e4, hP, hc⟩
    dsimp only at e1 e2 e3 e4 hP hc
    unfold outT outR
    by_cases h1 : r.1 = 0
    · rw [if_neg (by simpa using h1), if_neg (by rw [e1]; simpa using h1)]
      refine ⟨rfl, by simp only [e2], by simp only [e3], e4, hP.drop n, hc⟩
    · rw [if_pos h1, if_pos (by rw [e1]; exact h1)]
      exact ⟨e1, e2, e3, e4, hP, hc⟩
  unfold outS outP
  apply key
  split
  · exact step_write h [n] (fun k hk => by rw [List.mem_singleton.1 hk]; exact hn) (by simp)
  · exact ⟨rfl, rfl, rfl, rfl, h, by simp only; omega⟩
theorem step_space (h : Ps most q.hs q.us d q.disk) : Step most d 70 (spaceS ls most q) (spaceP (onD ls) arm8 most q.hs q.us q.s d) := by
  unfold spaceS spaceP
  split
  · exact ⟨rfl, rfl, rfl, rfl, h, by simp only; omega⟩
  · cases hf : q.us.find? (fun k => (frOf q.hs k).pins == 0) with
    | none => exact ⟨rfl, rfl, rfl, rfl, h, by simp only; omega⟩
    | some k => exact step_out h (List.mem_of_find?_eq_some hf)
theorem step_evict (h : Ps most q.hs q.us d q.disk) : Step most d 70 (evictS ls q n) (evictP (onD ls) arm8 q.hs q.us q.s d n) := by
  unfold evictS evictP
  cases hy : fd q.hs n with
  | none => exact ⟨rfl, rfl, rfl, rfl, h, by simp only; omega⟩
  | some y =>
    dsimp only
    split
    · exact ⟨rfl, rfl, rfl, rfl, h, by simp only; omega⟩
    · exact step_out h ((h.gd.keys n).2 (by rw [hy]; rfl))
theorem step_flush (h : Ps most q.hs q.us d q.disk) (hm : most ≤ 8) : Step most d 70 (wrS ls q (dirtyOf q.hs)) (flushP (onD ls) arm8 q.hs q.us q.s d) := by
  refine step_write h (dirtyOf q.hs) (fun k hk => (h.gd.keys k).2 (dirty_held k hk)) ?_
  have := h.gd.len
  unfold dirtyOf
  rw [List.length_map]
  exact Nat.le_trans (List.length_filter_le _ _) (by omega)
/-- Space: a frame is free, or the answer says why not. -/
theorem spaceS_room (h : Ps most q.hs q.us d q.disk) (hm : 1 ≤ most) (h0 : (spaceS ls most q).1 = 0) : ((spaceS ls most q).2.hs.length : Int) < most := by
  unfold spaceS at h0 ⊢
  split at h0
  · rename_i hl
    rw [if_pos hl]; exact hl
  · rename_i hl
    rw [if_neg hl]
    cases hf : q.us.find? (fun k => (frOf q.hs k).pins == 0) with
    | none => rw [hf] at h0; cases h0
    | some k =>
      rw [hf] at h0
      dsimp only at h0 ⊢
      have hk := (h.gd.keys k).1 (List.mem_of_find?_eq_some hf)
      have hlen := h.gd.len
      have key : ∀ r : Int × Sm σ, r.2.hs.length = q.hs.length → Rise (psOf r.2.hs) → (fd r.2.hs k).isSome = true → (outT r k).1 = 0 → ((outT r k).2.hs.length : Int) < most := by
        intro r e1 e2 e3 e4
        unfold outT at e4 ⊢
        by_cases e5 : r.1 = 0
        · rw [if_neg (by simpa using e5)]
          have := delF_length e2 e3
          show ((delF r.2.hs k).length : Int) < most
          omega
        · rw [if_pos e5] at e4; exact absurd e4 e5
      unfold outS at h0 ⊢
      refine key _ ?_ ?_ ?_ h0
      · split
        · unfold wrS; split
          · rfl
          · split
            · rfl
            · exact cleanF_length _ _
        · rfl
      · split
        · unfold wrS; split
          · exact h.gd.rise
          · split
            · exact h.gd.rise
            · exact rise_cleanF h.gd.rise _
        · exact h.gd.rise
      · split
        · unfold wrS; split
          · exact hk
          · split
            · exact hk
            · show (fd (cleanF q.hs [k]) k).isSome = true
              rw [cleanF_some]; exact hk
        · exact hk
theorem spaceS_none (h : Ps most q.hs q.us d q.disk) (hy : fd q.hs n = none) (hst : ∀ s d n, (onD ls s d n).2.2.cmds ≤ d.cmds + 100000000) : fd (spaceS ls most q).2.hs n = none := by
  have h1 := (spaceP_all (a := arm8) (hs := q.hs) (us := q.us) (s := q.s) (d := d) (by decide) hst most).2.2.1 n hy
  rw [(step_space (ls := ls) h).2.1] at h1
  exact h1
/-- Pin, of a page that isn't held. -/
theorem step_new (h : Ps most q.hs q.us d q.disk) (hm : 1 ≤ most) (h0 : 0 ≤ n) (h8 : n < 8) (hy : fd q.hs n = none) (x : Nat) :
    (pinQ arm8 (spaceP (onD ls) arm8 most q.hs q.us q.s d) n x).1 = (pinS ls most q n x).1 ∧
    Step most d 70 (0, (pinS ls most q n x).2) (0, (pinQ arm8 (spaceP (onD ls) arm8 most q.hs q.us q.s d) n x).2) := by
  have hS := step_space (ls := ls) h
  have hnone := spaceS_none (ls := ls) h hy (onD_cmds ls)
  have hroom := spaceS_room (ls := ls) h hm
  rw [show pinS ls most q n x = newS (spaceS ls most q) n x by unfold pinS; rw [hy]]
  generalize spaceP (onD ls) arm8 most q.hs q.us q.s d = r' at *
  generalize spaceS ls most q = r at *
  obtain ⟨e1, e2, e3, e4, hP, hc⟩ := hS
  unfold newS pinQ
  by_cases h1 : r.1 = 0
  · rw [if_neg (by rw [e1]; simpa using h1), hP.read h0 h8, if_neg (by simp), (hP.dsk n h0 h8).2.1, if_neg (by simp), if_neg (by simpa using h1)]
    have hI := hP.ins hnone (hroom h1) h0 h8 x 1
    exact ⟨rfl, rfl, by simp only [e2], by simp only [e3], e4, hI, hc⟩
  · rw [if_pos (by rw [e1]; exact h1), if_pos h1]
    exact ⟨by rw [e1], rfl, e2, e3, e4, hP, hc⟩
theorem ps_have (h : Ps most q.hs q.us d q.disk) {y : Nat × FrM} (hy : fd q.hs n = some y) (x : Nat) : Ps most (pinS ls most q n x).2.hs (pinS ls most q n x).2.us d (pinS ls most q n x).2.disk := by
  unfold pinS
  rw [hy]
  exact (h.set n (f := upF y.2) (h.len hy) (h.wh n y hy) (h.cln n y hy)).use ((h.gd.keys n).2 (by rw [hy]; rfl))
end
end
end Go.Proofs.YtjlcbabnkhdgpaaGreatDoor
namespace Go.Proofs.YtjlcbabnkhdgpaaGreatDoor
section
set_option linter.unusedSimpArgs false
set_option linter.unusedVariables false

section
variable {σ : Type} {ls : σ → Int → Int × σ} {most : Int} {q : Sm σ} {d : DevM} {n : Int}
def cont (q : Sm σ) (k : Int) : List UInt8 := match fd q.hs k with | some y => y.2.bytes | none => q.disk k
theorem cont_some {k : Int} {y : Nat × FrM} (h : fd q.hs k = some y) : cont q k = y.2.bytes := by unfold cont; rw [h]
theorem cont_none {k : Int} (h : fd q.hs k = none) : cont q k = q.disk k := by unfold cont; rw [h]
/-- None is pinned. -/
def Idle (q : Sm σ) : Prop := ∀ k y, fd q.hs k = some y → y.2.pins = 0
def Fine (ls : σ → Int → Int × σ) : Prop := ∀ s n, (ls s n).1 = 0
theorem wrS_fd (ls : σ → Int → Int × σ) (q : Sm σ) (ns : List Int) : ∃ b : Int → Bool, (∀ k, fd (wrS ls q ns).2.hs k = (fd q.hs k).map (fun y => (y.1, { y.2 with dirty := y.2.dirty && b k }))) ∧ ((wrS ls q ns).1 = 0 → ∀ k ∈ ns, b k = false) := by
  have hid : ∀ k, fd q.hs k = (fd q.hs k).map (fun y => (y.1, { y.2 with dirty := y.2.dirty && true })) := fun k => by cases fd q.hs k <;> simp
  unfold wrS
  split
  · rename_i h
    subst h
    exact ⟨fun _ => true, hid, fun _ k hk => by cases hk⟩
  · split
    · rename_i h
      exact ⟨fun _ => true, hid, fun e => absurd e h⟩
    · exact ⟨fun k => !decide (k ∈ ns), fun k => fd_cleanF ns q.hs k, fun _ k hk => by simp [hk]⟩
theorem wrS_fine (hF : Fine ls) (q : Sm σ) (ns : List Int) : (wrS ls q ns).1 = 0 := by
  unfold wrS
  split
  · rfl
  · rw [if_neg (by rw [hF]; simp)]
theorem wrS_cont (h : Ps most q.hs q.us d q.disk) (ns : List Int) (hn : ∀ k ∈ ns, k ∈ q.us) (k : Int) : cont (wrS ls q ns).2 k = cont q k := by
  obtain ⟨b, hb, _⟩ := wrS_fd ls q ns
  cases hy : fd q.hs k with
  | some y =>
    have := hb k
    rw [hy] at this
    rw [cont_some this, cont_some hy]
  | none =>
    have := hb k
    rw [hy] at this
    rw [cont_none this, cont_none hy]
    have hk : k ∉ ns := fun e => by
      obtain ⟨y, h2⟩ := h.held (hn k e)
      rw [hy] at h2; cases h2
    unfold wrS
    split
    · rfl
    · split
      · rfl
      · show wrD q.hs ns q.disk k = q.disk k
        unfold wrD; rw [if_neg hk]
/-- What goes ahead of a page's end: its write, if it is dirty. -/
def preS (ls : σ → Int → Int × σ) (q : Sm σ) (n : Int) : Int × Sm σ := if (frOf q.hs n).dirty = true then wrS ls q [n] else (0, q)
theorem outS_pre (n : Int) : outS ls q n = outT (preS ls q n) n := rfl
theorem pre_all (h : Ps most q.hs q.us d q.disk) (hn : n ∈ q.us) :
    (∃ b : Int → Bool, (∀ k, fd (preS ls q n).2.hs k = (fd q.hs k).map (fun y => (y.1, { y.2 with dirty := y.2.dirty && b k }))) ∧ ((preS ls q n).1 = 0 → ∀ y, fd (preS ls q n).2.hs n = some y → y.2.dirty = false)) ∧
    (∀ k, cont (preS ls q n).2 k = cont q k) ∧ (∃ d', Ps most (preS ls q n).2.hs (preS ls q n).2.us d' (preS ls q n).2.disk) ∧ (preS ls q n).2.us = q.us := by
  have hid : ∀ k, fd q.hs k = (fd q.hs k).map (fun y => (y.1, { y.2 with dirty := y.2.dirty && true })) := fun k => by cases fd q.hs k <;> simp
  have hone : ∀ k ∈ [n], k ∈ q.us := fun k hk => by rw [List.mem_singleton.1 hk]; exact hn
  unfold preS
  split
  · obtain ⟨b, hb, hb2⟩ := wrS_fd ls q [n]
    refine ⟨⟨b, hb, fun e y hy => ?_⟩, wrS_cont h [n] hone, ⟨_, (step_write (ls := ls) h [n] hone (by simp)).2.2.2.2.1⟩, (step_write (ls := ls) h [n] hone (by simp)).2.2.1.symm⟩
    have := hb n
    rw [hy] at this
    obtain ⟨y0, _, rfl⟩ := Option.map_eq_some_iff.1 this.symm
    simp [hb2 e n (List.mem_singleton.2 rfl)]
  · rename_i hd
    refine ⟨⟨fun _ => true, hid, fun _ y hy => ?_⟩, fun _ => rfl, ⟨d, h⟩, rfl⟩
    rw [frOf_fd hy] at hd
    simpa using hd
theorem outS_cont (h : Ps most q.hs q.us d q.disk) (hn : n ∈ q.us) (k : Int) : cont (outS ls q n).2 k = cont q k := by
  obtain ⟨⟨b, hb, hcl⟩, hc, ⟨d', hP⟩, hu⟩ := pre_all (ls := ls) h hn
  rw [outS_pre]
  generalize preS ls q n = r at *
  rw [← hc k]
  unfold outT
  split
  · rfl
  · rename_i h0
    have h0 : r.1 = 0 := by simpa using h0
    have hf := fd_delF hP.gd.rise n k
    by_cases e : k = n
    · subst e
      rw [if_pos rfl] at hf
      obtain ⟨y, hy⟩ := hP.held (k := k) (by rw [hu]; exact hn)
      rw [cont_none (q := ⟨delF r.2.hs k, dropL r.2.us k, r.2.s, r.2.disk⟩) hf, cont_some hy]
      exact (hP.cln k y hy (hcl h0 y hy)).symm
    · rw [if_neg e] at hf
      show (match fd (delF r.2.hs n) k with | some y => y.2.bytes | none => r.2.disk k) = _
      rw [hf]; rfl
theorem outS_idle (h : Ps most q.hs q.us d q.disk) (hn : n ∈ q.us) (hI : Idle q) : Idle (outS ls q n).2 := by
  obtain ⟨⟨b, hb, _⟩, _, ⟨d', hP⟩, _⟩ := pre_all (ls := ls) h hn
  rw [outS_pre]
  generalize preS ls q n = r at *
  have h1 : Idle r.2 := by
    intro k y hy
    rw [hb k] at hy
    obtain ⟨y0, h0, rfl⟩ := Option.map_eq_some_iff.1 hy
    exact hI k y0 h0
  unfold outT
  split
  · exact h1
  · intro k y hy
    replace hy : fd (delF r.2.hs n) k = some y := hy
    rw [fd_delF hP.gd.rise] at hy
    split at hy
    · cases hy
    · exact h1 k y hy
theorem outS_fine (hF : Fine ls) (q : Sm σ) (n : Int) : (outS ls q n).1 = 0 := by
  have : (preS ls q n).1 = 0 := by
    unfold preS; split
    · exact wrS_fine hF q [n]
    · rfl
  rw [outS_pre]
  unfold outT
  rw [if_neg (by simpa using this)]
theorem spaceS_all (h : Ps most q.hs q.us d q.disk) : (∀ k, cont (spaceS ls most q).2 k = cont q k) ∧ (Idle q → Idle (spaceS ls most q).2) := by
  unfold spaceS
  split
  · exact ⟨fun _ => rfl, id⟩
  · cases hf : q.us.find? (fun k => (frOf q.hs k).pins == 0) with
    | none => exact ⟨fun _ => rfl, id⟩
    | some k => exact ⟨outS_cont h (List.mem_of_find?_eq_some hf), outS_idle h (List.mem_of_find?_eq_some hf)⟩
theorem spaceS_fine (hF : Fine ls) (h : Ps most q.hs q.us d q.disk) (hI : Idle q) (hm : 1 ≤ most) : (spaceS ls most q).1 = 0 := by
  unfold spaceS
  split
  · rfl
  · rename_i hl
    have hus : 0 < q.us.length := by rw [h.gd.same]; omega
    have hfind : ∃ k, q.us.find? (fun k => (frOf q.hs k).pins == 0) = some k := by
      rw [← Option.isSome_iff_exists, List.find?_isSome]
      refine ⟨q.us[0], List.getElem_mem hus, ?_⟩
      obtain ⟨y, hy⟩ := h.held (List.getElem_mem hus)
      rw [frOf_fd hy, hI _ y hy]; rfl
    obtain ⟨k, hk⟩ := hfind
    rw [hk]
    exact outS_fine hF q k
/-- Pin, where none is pinned and no log refuses. -/
theorem pin_idle (hF : Fine ls) (h : Ps most q.hs q.us d q.disk) (hI : Idle q) (hm : 1 ≤ most) (h0 : 0 ≤ n) (h8 : n < 8) (x : Nat) :
    (pinS ls most q n x).1 = (cont q n, 0) ∧ (∀ k, cont (pinS ls most q n x).2 k = cont q k) ∧ (∃ y, fd (pinS ls most q n x).2.hs n = some y ∧ y.2.pins = 1 ∧ y.2.bytes = cont q n) ∧ (∀ k y, k ≠ n → fd (pinS ls most q n x).2.hs k = some y → y.2.pins = 0) := by
  cases hy : fd q.hs n with
  | some y =>
    unfold pinS
    rw [hy]
    dsimp only
    have hp := hI n y hy
    refine ⟨by rw [cont_some hy], fun k => ?_, ⟨(y.1, upF y.2), by rw [fd_setF, if_pos rfl, hy]; rfl, by show y.2.pins + 1 = 1; omega, by rw [cont_some hy]; rfl⟩, fun k v hk hv => ?_⟩
    · unfold cont
      dsimp only
      rw [fd_setF]
      by_cases e : k = n
      · subst e
        rw [if_pos rfl, hy]; rfl
      · rw [if_neg e]
    · rw [fd_setF, if_neg hk] at hv
      exact hI k v hv
  | none =>
    have hS := spaceS_all (ls := ls) h
    have hs0 := spaceS_fine (ls := ls) hF h hI hm
    have hnone := spaceS_none (ls := ls) h hy (onD_cmds ls)
    rw [show pinS ls most q n x = newS (spaceS ls most q) n x by unfold pinS; rw [hy]]
    generalize spaceS ls most q = r at *
    have hcn : cont q n = r.2.disk n := by rw [← hS.1 n, cont_none hnone]
    unfold newS
    rw [if_neg (by simpa using hs0)]
    dsimp only
    refine ⟨by rw [hcn], fun k => ?_, ⟨_, by rw [fd_insF hnone, if_pos rfl], rfl, hcn.symm⟩, fun k v hk hv => ?_⟩
    · rw [← hS.1 k]
      show (match fd (insF r.2.hs n _) k with | some y => y.2.bytes | none => r.2.disk k) = _
      rw [fd_insF hnone]
      by_cases e : k = n
      · subst e
        rw [if_pos rfl, cont_none hnone]
      · rw [if_neg e]; rfl
    · rw [fd_insF hnone, if_neg hk] at hv
      exact hS.2 hI k v hv
/-- Put into a pinned page. -/
def putS (q : Sm σ) (n : Int) (s : List UInt8) : Int × Sm σ := ((pputM q.hs n s).1, { q with hs := (pputM q.hs n s).2 })
def unpinS (q : Sm σ) (n : Int) : Int × Sm σ := ((unpinM q.hs n).1, { q with hs := (unpinM q.hs n).2 })
theorem ps_unpin (h : Ps most q.hs q.us d q.disk) : Ps most (unpinS q n).2.hs (unpinS q n).2.us d (unpinS q n).2.disk := by
  unfold unpinS
  rcases unpinM_cases q.hs n with ⟨y, hy, _, e⟩ | ⟨_, e⟩
  · rw [e]; exact h.set n (f := unpinF y.2) (h.len hy) (h.wh n y hy) (h.cln n y hy)
  · rw [e]; exact h
theorem ps_put (h : Ps most q.hs q.us d q.disk) (s : List UInt8) : Ps most (putS q n s).2.hs (putS q n s).2.us d (putS q n s).2.disk := by
  unfold putS pputM
  cases hk : pinnedM q.hs n with
  | none => exact h
  | some y =>
    dsimp only
    split
    · rename_i hw
      obtain ⟨hf, _⟩ := pinnedM_fd hk
      refine h.set n (f := putF y.2 s) hw.1 hw.2 (fun hd => ?_)
      have hd : (y.2.dirty || !(y.2.bytes == s)) = false := hd
      simp only [Bool.or_eq_false_iff, Bool.not_eq_false', beq_iff_eq] at hd
      show s = q.disk n
      rw [← hd.2]
      exact h.cln n y hf hd.1
    · exact h
theorem put_pinned {y : Nat × FrM} (hy : fd q.hs n = some y) (hp : y.2.pins ≠ 0) {s : List UInt8} (hl : s.length = 512) (hw : wholeB s = true) :
    (putS q n s).1 = 0 ∧ (putS q n s).2.hs = setF q.hs n (putF y.2 s) := by
  have : pinnedM q.hs n = some y := by unfold pinnedM; rw [hy]; simp [Option.filter, hp]
  unfold putS pputM
  rw [this]
  dsimp only
  rw [if_pos ⟨hl, hw⟩]
  exact ⟨rfl, rfl⟩
theorem unpin_pinned {y : Nat × FrM} (hy : fd q.hs n = some y) (hp : y.2.pins ≠ 0) : (unpinS q n).1 = 0 ∧ (unpinS q n).2.hs = setF q.hs n (unpinF y.2) := by
  have : pinnedM q.hs n = some y := by unfold pinnedM; rw [hy]; simp [Option.filter, hp]
  unfold unpinS unpinM
  rw [this]
  exact ⟨rfl, rfl⟩
theorem cont_set (hs : List Hl) (us : List Int) (s : σ) (disk : Int → List UInt8) (n : Int) (f : FrM) (k : Int) {y : Nat × FrM} (hy : fd hs n = some y) : cont ⟨setF hs n f, us, s, disk⟩ k = if k = n then f.bytes else cont ⟨hs, us, s, disk⟩ k := by
  unfold cont
  dsimp only
  rw [fd_setF]
  by_cases e : k = n
  · subst e
    rw [if_pos rfl, if_pos rfl, hy]; rfl
  · rw [if_neg e, if_neg e]
/-- All that is dirty written: the device has what each page reads as. -/
theorem flush_fine (hF : Fine ls) (h : Ps most q.hs q.us d q.disk) (k : Int) : (wrS ls q (dirtyOf q.hs)).2.disk k = cont q k := by
  obtain ⟨b, hb, hb2⟩ := wrS_fd ls q (dirtyOf q.hs)
  have hmem : ∀ k ∈ dirtyOf q.hs, k ∈ q.us := fun k hk => (h.gd.keys k).2 (dirty_held k hk)
  rw [← wrS_cont (ls := ls) h _ hmem k]
  obtain ⟨d', e, hP, hc⟩ := h.write (dirtyOf q.hs) hmem
  have hw : ∀ k, (wrS ls q (dirtyOf q.hs)).2.disk k = wrD q.hs (dirtyOf q.hs) q.disk k := by
    intro k
    unfold wrS
    split
    · rename_i h0
      unfold wrD; rw [h0]; rfl
    · rw [if_neg (by rw [hF]; simp)]
  cases hy : fd (wrS ls q (dirtyOf q.hs)).2.hs k with
  | none => rw [cont_none hy]
  | some y =>
    rw [cont_some hy, hw]
    rw [hb k] at hy
    obtain ⟨y0, h0, rfl⟩ := Option.map_eq_some_iff.1 hy
    unfold wrD
    by_cases hd : y0.2.dirty = true
    · rw [if_pos ((mem_dirtyOf h.gd.rise k).2 ⟨y0, h0, hd⟩), frOf_fd h0]
    · rw [if_neg (fun hm => by
        obtain ⟨y1, h1, h2⟩ := (mem_dirtyOf h.gd.rise k).1 hm
        rw [h0] at h1
        injection h1 with h1
        subst h1
        exact hd h2)]
      exact (h.cln k y0 h0 (by simpa using hd)).symm
end
end
end Go.Proofs.YtjlcbabnkhdgpaaGreatDoor
namespace Go.Proofs.YtjlcbabnkhdgpaaGreatDoor
section
set_option linter.unusedSimpArgs false
set_option linter.unusedVariables false
open Go.RowKit Go.Maps

theorem Pb.clean {hs : List Hl} {N : Nat} (h : Pb hs N) (ns : List Int) : Pb (cleanF hs ns) N := by
  unfold cleanF
  induction ns generalizing hs with
  | nil => exact h
  | cons n ns ih =>
    rw [List.foldl_cons]
    refine ih ?_
    cases hy : Proofs.YtjlcbabnkhdgpaaGreatDoor.fd hs n with
    | some y => exact h.set n (by rw [frOf_fd hy]; exact h.fd hy)
    | none => rw [setF_none (fd_none.1 hy)]; exact h
section
variable {σ : Type} {ls : σ → Int → Int × σ} {SM : σ → Prop} {most : Int} {q : Sm σ} {n : Int} {N : Nat}
theorem Pb.wr (h : Pb q.hs N) (ns : List Int) : Pb (wrS ls q ns).2.hs N := by
  unfold wrS
  split
  · exact h
  · split
    · exact h
    · exact h.clean ns
theorem Pb.out (h : Pb q.hs N) (n : Int) : Pb (outS ls q n).2.hs N := by
  have h1 : Pb (preS ls q n).2.hs N := by
    unfold preS; split
    · exact h.wr [n]
    · exact h
  rw [outS_pre]
  unfold outT
  split
  · exact h1
  · exact h1.del n
theorem Pb.space (h : Pb q.hs N) : Pb (spaceS ls most q).2.hs N := by
  unfold spaceS
  split
  · exact h
  · cases hf : q.us.find? (fun k => (frOf q.hs k).pins == 0) with
    | none => exact h
    | some k => exact h.out k
theorem Pb.evict (h : Pb q.hs N) : Pb (evictS ls q n).2.hs N := by
  unfold evictS
  cases hy : Proofs.YtjlcbabnkhdgpaaGreatDoor.fd q.hs n with
  | none => exact h
  | some y =>
    dsimp only
    split
    · exact h
    · exact h.out n
theorem Pb.pinS (h : Pb q.hs N) (x : Nat) : Pb (pinS ls most q n x).2.hs (N + 1) := by
  unfold Proofs.YtjlcbabnkhdgpaaGreatDoor.pinS
  cases hy : Proofs.YtjlcbabnkhdgpaaGreatDoor.fd q.hs n with
  | some y => exact (h.mono (Nat.le_succ _)).set n (f := upF y.2) (Nat.succ_le_succ (h.fd hy))
  | none =>
    dsimp only
    unfold newS
    have h1 := (h.space (ls := ls) (most := most)).mono (Nat.le_succ _)
    split
    · exact h1
    · exact h1.ins n (Nat.succ_le_succ (Nat.zero_le _))
theorem Pb.putS (h : Pb q.hs N) (s : List UInt8) : Pb (putS q n s).2.hs N := by
  unfold Proofs.YtjlcbabnkhdgpaaGreatDoor.putS pputM
  cases hk : pinnedM q.hs n with
  | none => exact h
  | some y =>
    dsimp only
    split
    · exact h.set n (f := putF y.2 s) (h.fd (pinnedM_fd hk).1)
    · exact h
end
theorem pputM_blocks (hs : List Hl) (n : Int) (s : List UInt8) : (pputM hs n s).2.map (·.2.1) = hs.map (·.2.1) := by
  unfold pputM
  cases hk : pinnedM hs n with
  | none => rfl
  | some y =>
    dsimp only
    split
    · exact setF_blocks _ _ _
    · rfl
section
variable {n0 gp ga g m : Nat} {w w' : World} {most : Int} {ff : FuncId} {fi ca : Array Value} {hv uv : Value}
variable {σ : Type} {E : σ → World → Prop} {XF : World → Nat → Prop} {ls : σ → Int → Int × σ} {SM : σ → Prop} {q q' : Sm σ} {d d' : DevM} {n : Int} {N N' : Nat} {O O' : Nat → Prop}
/-- The whole state: pool, area, device, the flush's own; blocks aside. -/
def St (n0 : Nat) (w : World) (gp ga g m : Nat) (most : Int) (ff : FuncId) (fi ca : Array Value) (E : σ → World → Prop) (XF : World → Nat → Prop) (q : Sm σ) (N : Nat) (O : Nat → Prop) : Prop :=
  ∃ hv uv d, Sy n0 w gp ga g m arm8 most ff fi ca E XF hv uv q.hs q.us d q.s ∧ Ps most q.hs q.us d q.disk ∧ d.cmds ≤ 70 * N ∧ Pb q.hs N ∧ ∀ b, O b → b < w.heap.size ∧ ¬ TF w gp g m hv uv q.hs XF b ∧ b ≠ ga
/-- What a pool's act turns: nothing old, nothing that is aside. -/
def Acts (n0 : Nat) (O : Nat → Prop) (w w' : World) : Prop := Fr (fun b => n0 ≤ b ∧ ¬ O b) w w'
theorem Acts.below (h : Acts n0 O w w') (hn : n0 ≤ w.heap.size) : Below n0 w w' := Fr.below h hn (fun b e => e.1)
theorem Acts.aside (h : Acts n0 O w w') {b : Nat} (hb : O b) (hl : b < w.heap.size) : w'.heap[b]? = w.heap[b]? := Fr.block h b hl (fun e => e.2 hb)
theorem Acts.up (h : Below w.heap.size w w') : Acts n0 O w w' := Fr.up h
theorem St.size (h : St n0 w gp ga g m most ff fi ca E XF q N O) : n0 ≤ w.heap.size := by
  obtain ⟨hv, uv, d, hS, _⟩ := h
  exact hS.po.size
theorem St.next (hO : ∀ b, O b → b < w.heap.size ∧ ¬ TF w gp g m hv uv q.hs XF b ∧ b ≠ ga) (hP : SyP n0 w w' gp ga g m arm8 most ff fi ca E XF hv uv q.hs q'.hs q'.us d' q'.s) (hp : Ps most q'.hs q'.us d' q'.disk) (hc : d'.cmds ≤ 70 * N) (hb : Pb q'.hs N) :
    St n0 w' gp ga g m most ff fi ca E XF q' N O ∧ Acts n0 O w w' := by
  obtain ⟨hv', uv', hS, hF, hn, hx⟩ := hP
  refine ⟨⟨hv', uv', d', hS, hp, hc, hb, fun b e => ?_⟩, hF.mono (fun b _ e => ⟨e.1, fun ho => (hO b ho).2.1 e.2⟩)⟩
  obtain ⟨h1, h2, h3⟩ := hO b e
  exact ⟨Nat.lt_of_lt_of_le h1 hF.size, fun ht => h2 (TF_old hF hn hx b h1 ht), h3⟩
/-- What is aside turns, new blocks go aside. -/
theorem St.aside {F : Nat → Prop} (h : St n0 w gp ga g m most ff fi ca E XF q N O) (hK : FlOk n0 ga g m arm8 ff fi ca E XF (onD ls) SM) (hF : Fr F w w') (hFO : ∀ b, F b → O b ∧ n0 ≤ b ∧ ∃ cs T fz, w.heap[b]? = some (.cells cs T fz) ∧ T ≠ 3) (hFW : ∀ b, F b → ∀ cs fz, w'.heap[b]? ≠ some (.cells cs 100 fz))
    (hO' : ∀ b, O' b → O b ∨ (w.heap.size ≤ b ∧ b < w'.heap.size ∧ ∀ cs fz, w'.heap[b]? ≠ some (.cells cs 100 fz))) : St n0 w' gp ga g m most ff fi ca E XF q N O' := by
  obtain ⟨hv, uv, d, hS, hp, hc, hb, hO⟩ := h
  have hno : ∀ b, TF w gp g m hv uv q.hs XF b → ¬ F b := fun b ht hf => (hO b (hFO b hf).1).2.1 ht
  obtain ⟨q1, q2⟩ := hS.aside hK hF (fun b e => hno b (Or.inl e)) (fun b e => hno b (Or.inr (Or.inl e))) (fun b e => hno b (Or.inr (Or.inr e))) (fun e => (hO ga (hFO ga e).1).2.2 rfl) (fun b cs hB _ hf => by
    obtain ⟨_, _, cs', T, fz, hh, hT⟩ := hFO b hf
    unfold Blk at hB; rw [hh] at hB; injection hB with hB; injection hB with _ hB _; exact hT hB) (fun b e => (hFO b e).2.1)
  refine ⟨hv, uv, d, q1, hp, hc, hb, fun b e => ?_⟩
  rcases hO' b e with h1 | ⟨h1, h2, h3⟩
  · obtain ⟨a1, a2, a3⟩ := hO b h1
    refine ⟨Nat.lt_of_lt_of_le a1 hF.size, fun ht => a2 ?_, a3⟩
    rcases ht with ht | ht | ht
    · exact Or.inl ht
    · rcases ht with ht | ht | ⟨cs, fz, ht⟩
      · exact Or.inr (Or.inl (Or.inl ht))
      · exact Or.inr (Or.inl (Or.inr (Or.inl ht)))
      · by_cases hf : F b
        · exact absurd ht (hFW b hf cs fz)
        · exact Or.inr (Or.inl (Or.inr (Or.inr ⟨cs, fz, by rw [← hF.block b a1 hf]; exact ht⟩)))
    · exact Or.inr (Or.inr (q2 b ht))
  · refine ⟨h2, fun ht => ?_, fun e => ?_⟩
    · rcases ht with ht | ht | ht
      · have := hS.po.lt b ht; omega
      · rcases ht with ht | ht | ⟨cs, fz, ht⟩
        · have := hS.tw.glt; omega
        · have := hS.tw.mlt; omega
        · exact h3 cs fz ht
      · have := (hK.lt hS.env (q2 b ht)).2; omega
    · have := Blk.lt (hS.tw.ar); omega
theorem St.up (h : St n0 w gp ga g m most ff fi ca E XF q N O) (hK : FlOk n0 ga g m arm8 ff fi ca E XF (onD ls) SM) (hb : Below w.heap.size w w') : St n0 w' gp ga g m most ff fi ca E XF q N O :=
  h.aside hK (Fr.up (F := fun _ => False) hb) (fun _ e => e.elim) (fun _ e => e.elim) (fun b e => Or.inl e)
theorem St.mono (h : St n0 w gp ga g m most ff fi ca E XF q N O) (hN : N ≤ N') : St n0 w gp ga g m most ff fi ca E XF q N' O := by
  obtain ⟨hv, uv, d, hS, hp, hc, hb, hO⟩ := h
  exact ⟨hv, uv, d, hS, hp, by omega, hb.mono hN, hO⟩
theorem St.pin (h : St n0 w gp ga g m most ff fi ca E XF q N O) (hK : FlOk n0 ga g m arm8 ff fi ca E XF (onD ls) SM) (hsm : SM q.s) (hm : 1 ≤ most ∧ most ≤ 8) (hn : 0 ≤ n ∧ n < 8) (hN : N ≤ 1000) :
    Calls Tryz.prog 12 #[.pointer (some ⟨gp, 0, none⟩), .int .i64 n] w fun e w' => ∃ x, e = .returned (.tuple #[.string (bs (pinS ls most q n x).1.1), .int .i64 (pinS ls most q n x).1.2]) ∧ St n0 w' gp ga g m most ff fi ca E XF (pinS ls most q n x).2 (N + 1) O ∧ Acts n0 O w w' := by
  obtain ⟨hv, uv, d, hS, hp, hc, hb, hO⟩ := h
  have hl := hp.gd.len
  have hlu := hp.gd.same
  have hnp : ¬ NoPage arm8 n := by unfold NoPage; show ¬ (n < 0 ∨ 8 ≤ n); omega
  cases hy : fd q.hs n with
  | some y =>
    refine (pin_have w n y hS hK hnp hy (by have := hb.fd hy; omega) (by omega)).mono ?_
    rintro e w' ⟨rfl, hP⟩
    have hps := ps_have (ls := ls) hp hy 0
    have hpb := hb.pinS (ls := ls) (most := most) (n := n) 0
    have e1 : pinS ls most q n 0 = ((y.2.bytes, 0), ⟨setF q.hs n (upF y.2), useL q.us n, q.s, q.disk⟩) := by unfold pinS; rw [hy]
    rw [e1] at hps hpb
    refine ⟨0, ?_, ?_⟩
    · rw [e1]
    · rw [e1]; exact St.next hO hP hps (by omega) hpb
  | none =>
    refine (pin_new w n hS hK hsm hnp hy (by omega) (by omega) (fun k hk => (hp.gd.keys k).1 hk) hp.gd.small (by omega) (onD_cmds ls)).mono ?_
    rintro e w' ⟨x, rfl, hP⟩
    obtain ⟨e1, _, e2, e3, e4, hps, hcm⟩ := step_new (ls := ls) hp hm.1 hn.1 hn.2 hy x
    have hpb := hb.pinS (ls := ls) (most := most) (n := n) x
    refine ⟨x, by rw [e1], ?_⟩
    rw [e2, e3, e4] at hP
    dsimp only at hcm
    exact St.next hO hP hps (by omega) hpb
theorem St.pinBad (h : St n0 w gp ga g m most ff fi ca E XF q N O) (hn : n < 0 ∨ 8 ≤ n) :
    Calls Tryz.prog 12 #[.pointer (some ⟨gp, 0, none⟩), .int .i64 n] w fun e w' => e = .returned (.tuple #[.string (bs []), .int .i64 1]) ∧ w = w' := by
  obtain ⟨hv, uv, d, hS, _⟩ := h
  exact pin_bad w n hS hn
theorem St.unpin (h : St n0 w gp ga g m most ff fi ca E XF q N O) (hK : FlOk n0 ga g m arm8 ff fi ca E XF (onD ls) SM) (hN : N ≤ 1000) :
    Calls Tryz.prog 13 #[.pointer (some ⟨gp, 0, none⟩), .int .i64 n] w fun e w' => e = .returned (.int .i64 (unpinS q n).1) ∧ St n0 w' gp ga g m most ff fi ca E XF (unpinS q n).2 N O ∧ Acts n0 O w w' := by
  obtain ⟨hv, uv, d, hS, hp, hc, hb, hO⟩ := h
  refine (punpin_any w n N hS hK hb (by omega)).mono ?_
  rintro e w' ⟨rfl, hP⟩
  exact ⟨rfl, St.next (q' := (unpinS q n).2) hO hP (ps_unpin hp) hc (hb.unpin n)⟩
theorem St.put (h : St n0 w gp ga g m most ff fi ca E XF q N O) (hK : FlOk n0 ga g m arm8 ff fi ca E XF (onD ls) SM) (s : List UInt8) (hs : s.length ≤ 140737488355328) :
    Calls Tryz.prog 19 #[.pointer (some ⟨gp, 0, none⟩), .int .i64 n, .string (bs s)] w fun e w' => e = .returned (.int .i64 (putS q n s).1) ∧ St n0 w' gp ga g m most ff fi ca E XF (putS q n s).2 N O ∧ Acts n0 O w w' := by
  obtain ⟨hv, uv, d, hS, hp, hc, hb, hO⟩ := h
  refine (pput_any w n s hS.po hS.tw.turns hs).mono ?_
  rintro e w' ⟨rfl, hP, hF⟩
  exact ⟨rfl, St.next (q' := (putS q n s).2) hO (SyP.same hS hK hP hF (pputM_blocks q.hs n s)) (ps_put hp s) hc (hb.putS s)⟩
theorem St.evict (h : St n0 w gp ga g m most ff fi ca E XF q N O) (hK : FlOk n0 ga g m arm8 ff fi ca E XF (onD ls) SM) (hsm : SM q.s) (hN : N ≤ 1000) :
    Calls Tryz.prog 16 #[.pointer (some ⟨gp, 0, none⟩), .int .i64 n] w fun e w' => e = .returned (.int .i64 (evictS ls q n).1) ∧ St n0 w' gp ga g m most ff fi ca E XF (evictS ls q n).2 (N + 1) O ∧ Acts n0 O w w' := by
  obtain ⟨hv, uv, d, hS, hp, hc, hb, hO⟩ := h
  obtain ⟨e1, e2, e3, e4, hps, hcm⟩ := step_evict (ls := ls) (n := n) hp
  have hpb := (hb.evict (ls := ls) (n := n)).mono (Nat.le_succ N)
  refine (evict_any w n hS hK hsm hp.gd.small (by omega) (onD_cmds ls)).mono ?_
  rintro e w' ⟨rfl, hP⟩
  rw [e1, e2, e3, e4] at *
  exact ⟨rfl, St.next hO hP hps (by omega) hpb⟩
theorem St.flush (h : St n0 w gp ga g m most ff fi ca E XF q N O) (hK : FlOk n0 ga g m arm8 ff fi ca E XF (onD ls) SM) (hsm : SM q.s) (hm : most ≤ 8) (hN : N ≤ 1000) :
    Calls Tryz.prog 20 #[.pointer (some ⟨gp, 0, none⟩)] w fun e w' => e = .returned (.int .i64 (wrS ls q (dirtyOf q.hs)).1) ∧ St n0 w' gp ga g m most ff fi ca E XF (wrS ls q (dirtyOf q.hs)).2 (N + 1) O ∧ Acts n0 O w w' := by
  obtain ⟨hv, uv, d, hS, hp, hc, hb, hO⟩ := h
  obtain ⟨e1, e2, e3, e4, hps, hcm⟩ := step_flush (ls := ls) hp hm
  have hpb := (hb.wr (ls := ls) (dirtyOf q.hs)).mono (Nat.le_succ N)
  refine (flush_any w hS hK hsm hp.gd.small (by omega) (onD_cmds ls)).mono ?_
  rintro e w' ⟨rfl, hP⟩
  rw [e1, e2, e3, e4] at *
  exact ⟨rfl, St.next hO hP hps (by omega) hpb⟩
theorem St.has (h : St n0 w gp ga g m most ff fi ca E XF q N O) :
    Calls Tryz.prog 15 #[.pointer (some ⟨gp, 0, none⟩), .int .i64 n] w fun e w' => e = .returned (.bool (fd q.hs n).isSome) ∧ Below w.heap.size w w' := by
  obtain ⟨hv, uv, d, hS, _⟩ := h
  exact has_any w n hS.po
theorem St.held (h : St n0 w gp ga g m most ff fi ca E XF q N O) :
    Calls Tryz.prog 14 #[.pointer (some ⟨gp, 0, none⟩)] w fun e w' => ∃ va vd, e = .returned (.tuple #[va, vd]) ∧ Ints w.heap.size w' va (keysOf q.hs) ∧ Ints w.heap.size w' vd (dirtyOf q.hs) ∧ Below w.heap.size w w' := by
  obtain ⟨hv, uv, d, hS, _⟩ := h
  exact held_any w hS.po
end
end
end Go.Proofs.YtjlcbabnkhdgpaaGreatDoor
namespace Go.Proofs.YtjlcbabnkhdgpaaGreatDoor
section
set_option linter.unusedSimpArgs false
set_option linter.unusedVariables false
open Go.RowKit Go.Maps

section
variable {σ : Type} {ls : σ → Int → Int × σ} {SM : σ → Prop} {most : Int} {q : Sm σ} {d : DevM} {n : Int} {s : List UInt8}
/-- One page is pinned, once. -/
def Pin1 (q : Sm σ) (n : Int) : Prop := (∃ y, fd q.hs n = some y ∧ y.2.pins = 1) ∧ ∀ k y, k ≠ n → fd q.hs k = some y → y.2.pins = 0
theorem put_pin1 (h : Pin1 q n) (hl : s.length = 512) (hw : wholeB s = true) : (putS q n s).1 = 0 ∧ Pin1 (putS q n s).2 n ∧ ∀ k, cont (putS q n s).2 k = if k = n then s else cont q k := by
  obtain ⟨⟨y, hy, hp⟩, ho⟩ := h
  obtain ⟨e1, e2⟩ := put_pinned hy (by omega) hl hw
  refine ⟨e1, ⟨⟨(y.1, putF y.2 s), by rw [e2, fd_setF, if_pos rfl, hy]; rfl, hp⟩, fun k v hk hv => ?_⟩, fun k => ?_⟩
  · rw [e2, fd_setF, if_neg hk] at hv
    exact ho k v hk hv
  · have : (putS q n s).2 = ⟨setF q.hs n (putF y.2 s), q.us, q.s, q.disk⟩ := by rw [← e2]; rfl
    rw [this, cont_set _ _ _ _ _ _ _ hy]; rfl
theorem unpin_pin1 (h : Pin1 q n) : (unpinS q n).1 = 0 ∧ Idle (unpinS q n).2 ∧ (∀ k, cont (unpinS q n).2 k = cont q k) ∧ ∃ y, fd (unpinS q n).2.hs n = some y := by
  obtain ⟨⟨y, hy, hp⟩, ho⟩ := h
  obtain ⟨e1, e2⟩ := unpin_pinned hy (by omega)
  have hf : fd (unpinS q n).2.hs n = some (y.1, unpinF y.2) := by rw [e2, fd_setF, if_pos rfl, hy]; rfl
  refine ⟨e1, fun k v hv => ?_, fun k => ?_, _, hf⟩
  · by_cases e : k = n
    · rw [e, hf] at hv
      injection hv with hv
      subst hv
      show y.2.pins - 1 = 0
      omega
    · rw [e2, fd_setF, if_neg e] at hv
      exact ho k v e hv
  · have : (unpinS q n).2 = ⟨setF q.hs n (unpinF y.2), q.us, q.s, q.disk⟩ := by rw [← e2]; rfl
    rw [this, cont_set _ _ _ _ _ _ _ hy]
    split
    · rename_i e
      rw [e, cont_some hy]; rfl
    · rfl
theorem evict_idle (hF : Fine ls) (h : Ps most q.hs q.us d q.disk) (hI : Idle q) (hy : ∃ y, fd q.hs n = some y) : (evictS ls q n).1 = 0 ∧ Idle (evictS ls q n).2 ∧ ∀ k, cont (evictS ls q n).2 k = cont q k := by
  obtain ⟨y, hy⟩ := hy
  have hn : n ∈ q.us := (h.gd.keys n).2 (by rw [hy]; rfl)
  have : evictS ls q n = outS ls q n := by
    unfold evictS; rw [hy]; dsimp only; rw [if_neg (by rw [hI n y hy]; omega)]
  rw [this]
  exact ⟨outS_fine hF q n, outS_idle h hn hI, outS_cont h hn⟩
theorem pin_more (hy : fd q.hs n = none) (hl : (q.hs.length : Int) < most) (x : Nat) : pinS ls most q n x = ((q.disk n, 0), { q with hs := insF q.hs n (x, ⟨q.disk n, 1, false⟩), us := useL q.us n }) := by
  unfold pinS spaceS
  rw [hy]
  dsimp only
  rw [if_pos hl]
  unfold newS
  rw [if_neg (by simp)]
/-- What the pages read as, in a row. -/
def rowQ (q : Sm σ) : List (List UInt8) := (List.range 8).map fun (j : Nat) => cont q (j : Int)
theorem rowQ_length (q : Sm σ) : (rowQ q).length = 8 := by unfold rowQ; simp
theorem rowQ_at (q : Sm σ) (j : Nat) (hj : j < 8) : (rowQ q)[j]'(by rw [rowQ_length]; exact hj) = cont q j := by simp [rowQ]
theorem rowQ_same {q q' : Sm σ} (h : ∀ k, cont q' k = cont q k) : rowQ q' = rowQ q := by unfold rowQ; simp [h]
theorem rowQ_set {q q' : Sm σ} (j : Nat) (h : ∀ k, cont q' k = if k = (j : Int) then s else cont q k) : rowQ q' = (rowQ q).set j s := by
  apply List.ext_getElem
  · simp [rowQ]
  · intro i h1 h2
    rw [rowQ_length] at h1
    rw [rowQ_at q' i h1, h, List.getElem_set, rowQ_at q i h1]
    by_cases e : i = j
    · subst e; simp
    · rw [if_neg (by omega), if_neg (Ne.symm e)]
end
/-- The page that PoolKeeps puts. -/
def keepP (k : Nat) (t : List UInt8) : Pg := ⟨1 + (k : Int), 2, 0, 0, t.take 60, []⟩
def keepB (k : Nat) (t : List UInt8) : List UInt8 := encB (keepP k t)
section
variable {k : Nat} {t : List UInt8} (hk : k ≤ 100)
include hk
theorem keepP_right : rightB (keepP k t) = true := by
  have : (t.take 60).length ≤ 60 := by simp; omega
  have hw : withinB (1 + (k : Int)) 0 281474976710655 = true := by unfold withinB; rw [decide_eq_true (by omega), decide_eq_true (by omega)]; rfl
  unfold rightB keepP
  dsimp only
  rw [hw, List.any_nil, decide_eq_true (by omega)]
  rfl
theorem keepP_free : 0 ≤ freeOf (keepP k t) := by
  have _ := hk
  have : (t.take 60).length ≤ 60 := by simp; omega
  simp only [freeOf, keepP, sizes, List.map_nil, List.sum_nil]
  omega
theorem keepB_length : (keepB k t).length = 512 := encB_length _ (keepP_free hk)
theorem keepB_whole : wholeB (keepB k t) = true := wholeB_buildB _ _ (bodyB_length _ (keepP_free hk))
theorem encR_keep : encR (keepP k t) = (keepB k t, 0) := by
  unfold encR
  rw [if_pos (keepP_right hk), if_neg (by have := keepP_free (t := t) hk; omega)]; rfl
end
/-- A slice that is handed in: it reads as acts, all in blocks below n0. -/
abbrev ActM := Int × Int × List UInt8
def ActsIn (w : World) (n0 : Nat) (A : Option Addr) (l : List ActM) : Prop :=
  ∀ k (hk : k < l.length), ∃ b o, A = some ⟨b, o, none⟩ ∧ b < n0 ∧ w.cell? ⟨b, o + k * 3, none⟩ = some (.int .i64 l[k].1) ∧ w.cell? ⟨b, o + k * 3 + 1, none⟩ = some (.int .i64 l[k].2.1) ∧ w.cell? ⟨b, o + k * 3 + 2, none⟩ = some (.string (bs l[k].2.2))
theorem ActsIn.below {w w' : World} {n0 : Nat} {A : Option Addr} {l : List ActM} (h : ActsIn w n0 A l) (hb : Below n0 w w') : ActsIn w' n0 A l := fun k hk => by
  obtain ⟨b, o, e, hlt, h1, h2, h3⟩ := h k hk
  exact ⟨b, o, e, hlt, (hb.cell (p := ⟨b, o + k * 3, none⟩) hlt).trans h1, (hb.cell (p := ⟨b, o + k * 3 + 1, none⟩) hlt).trans h2, (hb.cell (p := ⟨b, o + k * 3 + 2, none⟩) hlt).trans h3⟩
section
variable {n0 gp ga g m gp2 : Nat} {w w' : World} {most most2 : Int} {ff ff2 : FuncId} {fi ca : Array Value}
variable {σ : Type} {E : σ → World → Prop} {XF : World → Nat → Prop} {ls : σ → Int → Int × σ} {SM : σ → Prop} {q : Sm σ} {N : Nat} {O : Nat → Prop}
theorem St.ps (h : St n0 w gp ga g m most ff fi ca E XF q N O) : ∃ d, Ps most q.hs q.us d q.disk := by
  obtain ⟨hv, uv, d, hS, hp, _⟩ := h
  exact ⟨d, hp⟩
theorem St.tw (h : St n0 w gp ga g m most ff fi ca E XF q N O) : ∃ d, Tw n0 w ga g m arm8 d := by
  obtain ⟨hv, uv, d, hS, hp, _⟩ := h
  exact ⟨d, hS.tw⟩
theorem St.turns (h : St n0 w gp ga g m most ff fi ca E XF q N O) : Turns w := by
  obtain ⟨d, h⟩ := h.tw
  exact h.turns
/-- Another pool on the same area. -/
theorem St.anew (h : St n0 w gp ga g m most ff fi ca E XF q N O) (hb : Below w.heap.size w w') (hP : PoAt n0 w' gp2 ga most2 (.func (.func ff2) #[] #[]) (.slice none 0 0) (.slice none 0 0) [] []) (hg : gp2 = w.heap.size) (hm : 0 ≤ most2) :
    St n0 w' gp2 ga g m most2 ff2 #[] #[] EU XU ⟨[], [], (), q.disk⟩ N O := by
  obtain ⟨hv, uv, d, hS, hp, hc, hpb, hO⟩ := h
  refine ⟨_, _, d, Sy.start hP (hS.tw.up hb), ⟨Gd.nil hm, (fun k y hy => by cases hy), hp.off, hp.fuse, hp.size, hp.dsk, (fun k y hy => by cases hy)⟩, hc, (fun x hx => by cases hx), fun b e => ?_⟩
  obtain ⟨a1, a2, a3⟩ := hO b e
  refine ⟨Nat.lt_of_lt_of_le a1 hb.size, fun ht => ?_, a3⟩
  rcases ht with ht | ht | ht
  · rcases ht with ht | ht | ht | ht
    · omega
    · simp [Value.ownBlock] at ht
    · simp [Value.ownBlock] at ht
    · cases ht
  · exact a2 (Or.inr (Or.inl (devF_same (Fr.up (F := fun _ => False) hb) a1 (fun e => e) ht)))
  · exact ht.elim
/-- The first pool. -/
theorem St.first (hP : PoAt n0 w gp ga most (.func (.func ff) #[] #[]) (.slice none 0 0) (.slice none 0 0) [] []) (hT : Tw n0 w ga g m arm8 (newM 40)) (hm : 0 ≤ most) :
    St n0 w gp ga g m most ff #[] #[] EU XU ⟨[], [], (), fun _ => zer⟩ 0 (fun _ => False) :=
  ⟨_, _, newM 40, Sy.start hP hT, Ps.start hm, Nat.le_refl _, (fun x hx => by cases hx), fun _ e => e.elim⟩
/-- A row of strings that is aside, behind an act. -/
theorem Acts.strs {v : Value} {l : List (List UInt8)} (h : Acts n0 O w w') (hr : Strs n0 w v l) (ho : ∀ b, v.ownBlock = some b → O b) : Strs n0 w' v l := Fr.own h hr (fun b e hf => hf.2 (ho b e))
theorem strs_cell {b c : Nat} {l : List (List UInt8)} (h : Strs n0 w (.slice (some ⟨b, 0, none⟩) 8 c) l) (hn : n0 ≤ w.heap.size) (j : Nat) (hj : j < l.length) : w.cell? ⟨b, j, none⟩ = some (.string (bs l[j])) ∧ w.frozen? ⟨b, j, none⟩ = false :=
  Two.cell (v := .slice none 0 0) (ys := []) ⟨h, World.ownsRow_nil _ _ _ _, Or.inr (by simp [Value.ownBlock]), hn⟩ j hj
theorem strs_store {b c : Nat} {l : List (List UInt8)} (h : Strs n0 w (.slice (some ⟨b, 0, none⟩) 8 c) l) (hn : n0 ≤ w.heap.size) (j : Nat) (s : List UInt8) : Strs n0 (w.setCell ⟨b, j, none⟩ (.string (bs s))) (.slice (some ⟨b, 0, none⟩) 8 c) (l.set j s) :=
  (Two.store (v := .slice none 0 0) (ys := []) ⟨h, World.ownsRow_nil _ _ _ _, Or.inr (by simp [Value.ownBlock]), hn⟩ j s).one
theorem strs_blk {b c n : Nat} {l : List (List UInt8)} (h : Strs n0 w (.slice (some ⟨b, 0, none⟩) n c) l) : n0 ≤ b ∧ ∃ cs, Blk w b 9 cs := by
  rcases h.2 with ⟨h1, h2⟩ | ⟨g', cap, cur, h1, hg', hh, _⟩
  · cases h1
  · injection h1 with h1 _ _
    injection h1 with h1
    injection h1 with h1
    subst h1
    exact ⟨hg', cur, hh⟩
theorem St.store {b c : Nat} {l : List (List UInt8)} (h : St n0 w gp ga g m most ff fi ca E XF q N (fun x => x = b)) (hK : FlOk n0 ga g m arm8 ff fi ca E XF (onD ls) SM) (hr : Strs n0 w (.slice (some ⟨b, 0, none⟩) 8 c) l) (j : Nat) (s : List UInt8) :
    St n0 (w.setCell ⟨b, j, none⟩ (.string (bs s))) gp ga g m most ff fi ca E XF q N (fun x => x = b) := by
  obtain ⟨hg, cs, hB⟩ := strs_blk hr
  obtain ⟨_, cs', hB'⟩ := strs_blk (strs_store hr h.size j s)
  refine h.aside hK (Fr.setCell w b j _) (fun x e => ⟨e, by rw [e]; exact hg, cs, 9, (0, 0), by rw [e]; exact hB, by decide⟩) (fun x e cs fz hh => ?_) (fun x e => Or.inl e)
  rw [e] at hh
  unfold Blk at hB'
  rw [hB'] at hh
  injection hh with hh
  injection hh with _ hh _
  exact absurd hh (by decide)
end
end
end Go.Proofs.YtjlcbabnkhdgpaaGreatDoor
namespace Go.Proofs.YtjlcbabnkhdgpaaGreatDoor
section
set_option linter.unusedSimpArgs false
set_option linter.unusedVariables false
open Go.ChangeShapes Go.WideShapes Go.ChangeAt Go.RowKit Go.Deep

theorem own : ownKnob Tryz.prog.godebug = none := by kernel_rfl
theorem laidOut : laidOutB Tryz.prog = true := by kernel_rfl
theorem weightsAll_mem {H : Type} {P : Program} {e : TypeId} : ∀ {l : List (DataW H)} {d : DataW H}, d ∈ l → ∀ n ∈ d.weights P e, n ∈ DataW.weightsAll P e l
  | _ :: _, _, .head _, n, hn => by simp only [DataW.weightsAll, List.mem_append]; exact Or.inl hn
  | _ :: _, _, .tail _ h, n, hn => by simp only [DataW.weightsAll, List.mem_append]; exact Or.inr (weightsAll_mem h n hn)
theorem weights_str {H : Type} (l : List UInt8) (t : TypeId) : DataW.weights (H := H) Tryz.prog t (.lit (.string l)) = [l.length] := by
  rw [DataW.weights]
set_option maxRecDepth 100000 in
theorem reach_small : reachBytes ≤ 140737488355328 := by decide

/-- WHAT A WALK THAT ONLY LAYS NEW BLOCKS GIVES: the row's own 'post'. -/
theorem post_below {H : Type} {enc : TypeId × Value → H} {f : Func} {s : ChangeSpec} {apart fresh handsOn : Bool} {W W' : World} {args : Array Value} {v : Value} {ds gs : List (DataW H)} {before pa pv : List MemPlace}
    (hW : DataW.Whole enc Tryz.prog f.params.toList s.vars apart W args.toList ds gs before) (hb : Below W.heap.size W W')
    (hres : ∀ (b : Nat) (sp : Nat → Bool) (hd : Bool), DataW.TrodAll enc Tryz.prog W' b sp hd f.resultTypes.toList (v.resultList f.resultTypes.size) (s.fn H (ds ++ gs)).results [])
    (hargs : DataW.TrodAll enc Tryz.prog W' 0 (fun b => decide (b < W.heap.size)) true f.params.toList args.toList (s.fn H (ds ++ gs)).args pa)
    (hvars : DataW.TrodVars enc Tryz.prog W' (fun b => decide (b < W.heap.size)) s.vars (s.fn H (ds ++ gs)).vars pv) :
    s.post enc Tryz.prog f apart fresh handsOn false W args v W' :=
  ⟨ds, gs, before, [], pa, pv, hW, hres _ _ _, hargs, hvars, hb.frame _, fun h => by cases h⟩

section
variable {H : Type} {enc : TypeId × Value → H} {w : World}
theorem slice_form {t e : TypeId} {spare : Nat → Bool} {held : Bool} {base fuel : Nat} {c : Value} {x : DataW H × List MemPlace} (ht : Tryz.prog.underlying t = some (.slice e)) (h : DataW.trod enc Tryz.prog w base spare held fuel t [c] = some x) : ∃ A n cap, c = .slice A n cap := by
  rcases open_slice ht h with ⟨hcs, _⟩ | ⟨a, len, cap', m', n', D, Pl, hcs, _⟩
  · injection hcs with hcs _
    exact ⟨_, _, _, hcs⟩
  · injection hcs with hcs _
    exact ⟨_, _, _, hcs⟩
theorem weights_slice {H : Type} {t e : TypeId} (ht : Tryz.prog.underlying t = some (.slice e)) (l s : List (DataW H)) : DataW.weights Tryz.prog t (.slice l s) = (l.length + s.length) * Tryz.prog.bytesOf e :: (DataW.weightsAll Tryz.prog e l ++ DataW.weightsAll Tryz.prog e s) := by
  rw [DataW.weights, ht]
/-- The cells of an element of such a type read as some q. -/
def RdOf (enc : TypeId × Value → H) (w : World) (e : TypeId) {Q : Type} (en : List Value → Q → Prop) : Prop :=
  ∀ (n : Nat) (cs : List Value) (x : DataW H × List MemPlace), DataW.trod enc Tryz.prog w 0 (fun _ => true) true n e cs = some x → (∀ n ∈ x.1.weights Tryz.prog e, n ≤ reachBytes) → (∀ y ∈ x.2, y.block < w.heap.size) → ∃ q, en cs q
/-- A slice whose elements read as these, all in blocks below n0. -/
def RowsIn {Q : Type} (K : Nat) (en : List Value → Q → Prop) (w : World) (n0 : Nat) (A : Option Addr) (l : List Q) : Prop :=
  ∀ (k : Nat) (hk : k < l.length), ∃ b o cs, A = some ⟨b, o, none⟩ ∧ b < n0 ∧ cs.length = K ∧ (∀ (j : Nat) (v : Value), cs[j]? = some v → w.cell? ⟨b, o + k * K + j, none⟩ = some v) ∧ en cs l[k]
theorem trod_rows {Q : Type} (q0 : Q) {t e : TypeId} (ht : Tryz.prog.underlying t = some (.slice e)) {K : Nat} (hK : Tryz.prog.cellsOf e = K) (hK1 : 0 < K) (hby : 0 < Tryz.prog.bytesOf e) {en : List Value → Q → Prop} (hen : RdOf enc w e en)
    {fuel : Nat} {x : DataW H × List MemPlace} {A : Option Addr} {n cap : Nat} (h : DataW.trod enc Tryz.prog w 0 (fun _ => true) true fuel t [.slice A n cap] = some x)
    (hz : ∀ n ∈ x.1.weights Tryz.prog t, n ≤ reachBytes) (hlt : ∀ y ∈ x.2, y.block < w.heap.size) :
    ∃ l : List Q, n = l.length ∧ (A = none → cap = 0 ∧ l = []) ∧ l.length ≤ cap ∧ l.length ≤ 140737488355328 ∧ cap ≤ 9223372036854775807 ∧ RowsIn K en w w.heap.size A l := by
  rcases open_slice ht h with ⟨hcs, hx⟩ | ⟨a, len, cap', m', n', D, Pl, hcs, hb, hlc, hm, hmm, hy, hel⟩
  · injection hcs with hcs _
    injection hcs with e1 e2 e3
    subst e1 e2 e3
    exact ⟨[], rfl, fun _ => ⟨rfl, rfl⟩, Nat.zero_le _, Nat.zero_le _, Nat.zero_le _, fun k hk => absurd hk (by simp)⟩
  · injection hcs with hcs _
    injection hcs with e1 e2 e3
    subst e1 e2 e3
    subst hy
    simp only [if_true] at hmm
    have hall : ∀ i, i < n → ∃ q : Q, ∃ cs, w.cells? 0 (a.add (i * K)) K = some cs ∧ en cs q := by
      intro i hi'
      obtain ⟨cs', hc', ht'⟩ := hel i (by omega)
      rw [hK] at hc'
      obtain ⟨q, hq⟩ := hen _ _ _ ht' (fun k hk => hz k (by
          rw [weights_slice ht]
          exact .tail _ (List.mem_append_left _ (weightsAll_mem (List.mem_map.2 ⟨i, List.mem_range.2 hi', rfl⟩) _ hk))))
        (fun y hy => hlt y (List.mem_append_right _ (List.mem_flatMap.2 ⟨i, List.mem_range.2 (by omega), hy⟩)))
      exact ⟨q, cs', hc', hq⟩
    obtain ⟨E, hE⟩ : ∃ E : Nat → Q, ∀ i, i < n → ∃ cs, w.cells? 0 (a.add (i * K)) K = some cs ∧ en cs (E i) := by
      refine ⟨fun i => if h : i < n then (hall i h).choose else q0, fun i hi' => ?_⟩
      simp only [dif_pos hi']
      exact (hall i hi').choose_spec
    refine ⟨(List.range n).map E, by simp, (fun e => by cases e), by simpa using hlc, ?_, by unfold maxLen at hm; omega, fun k hk => ?_⟩
    · rw [List.length_map, List.length_range]
      have := hz _ (by rw [weights_slice ht]; exact .head _)
      simp only [List.length_map, List.length_range] at this
      have h2 := reach_small
      have h3 : n * 1 ≤ (n + (m' - n)) * Tryz.prog.bytesOf e := Nat.mul_le_mul (by omega) hby
      omega
    · have hk' : k < n := by simpa using hk
      obtain ⟨cs, hcs, hq⟩ := hE k hk'
      obtain ⟨_, hlen, hat⟩ := World.cells?_some hcs
      have hz0 : a.spot = none := by
        obtain ⟨cs0, hcs0, _⟩ := hE 0 (by omega)
        obtain ⟨_, hl0, hat0⟩ := World.cells?_some hcs0
        have h00 := World.cell?_spot ((hat0 0 (by omega)).trans (List.getElem?_eq_getElem (by omega)))
        simpa [Addr.add] using h00
      obtain ⟨b, o, sp⟩ := a
      obtain rfl : sp = none := hz0
      have ha : ∀ n, (⟨b, o, none⟩ : Addr).add n = ⟨b, o + n, none⟩ := fun n => by unfold Addr.add; split <;> simp_all
      have hbl : b < w.heap.size := by
        refine hlt (.cell b (o + 0)) (List.mem_append_left _ (MemPlace.mem_row.2 ⟨0, ?_, rfl⟩))
        rw [hK]
        exact Nat.mul_pos (by omega) hK1
      refine ⟨b, o, cs, rfl, hbl, hlen, fun j v hj => ?_, by simpa using hq⟩
      have hjl : j < cs.length := (List.getElem?_eq_some_iff.1 hj).1
      have := hat j (by omega)
      rw [add_of_add, ha] at this
      rw [Nat.add_assoc, this]
      exact hj
set_option maxRecDepth 100000 in
theorem open_rows {Q : Type} (q0 : Q) {t e : TypeId} (ht : Tryz.prog.underlying t = some (.slice e)) {K : Nat} (hK : Tryz.prog.cellsOf e = K) (hK1 : 0 < K) (hby : 0 < Tryz.prog.bytesOf e) {en : List Value → Q → Prop} (hen : RdOf enc w e en)
    {b0 : Nat} {d : DataW H} {p : List MemPlace} {v : Value} (hv : Value.okWide Tryz.prog w .any b0 t v) (h : DataW.Trod enc Tryz.prog w 0 (fun _ => true) true t v d p)
    (hz : ∀ n ∈ d.weights Tryz.prog t, n ≤ reachBytes) (hlt : ∀ x ∈ p, x.block < w.heap.size) :
    ∃ (A : Option Addr) (cap : Nat) (l : List Q), v = .slice A l.length cap ∧ (A = none → cap = 0 ∧ l = []) ∧ l.length ≤ cap ∧ l.length ≤ 140737488355328 ∧ cap ≤ 9223372036854775807 ∧ RowsIn K en w w.heap.size A l := by
  obtain ⟨A, n, cap, rfl⟩ := okWide_slice ht hv
  obtain ⟨fuel, hf⟩ := h
  simp only [Value.cells] at hf
  obtain ⟨l, rfl, q⟩ := trod_rows q0 ht hK hK1 hby hen hf hz hlt
  exact ⟨A, cap, l, rfl, q⟩
/-- A number's cell, a text's cell, a truth's cell. -/
theorem trod_i64 {base fuel : Nat} {spare : Nat → Bool} {held : Bool} {cs : List Value} {x : DataW H × List MemPlace} (h : DataW.trod enc Tryz.prog w base spare held fuel 3 cs = some x) : ∃ z, cs = [.int .i64 z] ∧ in64 z := by
  obtain ⟨z, e0, rfl, hwf⟩ := DataW.trod_int Tryz.underlying3 h
  refine ⟨z, e0, ?_⟩
  have : (Lit.int .i64 z).wf = true := hwf
  simp [Lit.wf, IntKind.min, IntKind.max, IntKind.bits, IntKind.signed] at this
  unfold in64
  omega
set_option maxRecDepth 100000 in
theorem trod_text {base fuel : Nat} {spare : Nat → Bool} {held : Bool} {cs : List Value} {x : DataW H × List MemPlace} (h : DataW.trod enc Tryz.prog w base spare held fuel 9 cs = some x) (hz : ∀ n ∈ x.1.weights Tryz.prog 9, n ≤ reachBytes) : ∃ t : List UInt8, cs = [.string (bs t)] ∧ t.length ≤ 140737488355328 := by
  obtain ⟨s1, e1, rfl, _⟩ := DataW.trod_string Tryz.underlying9 h
  refine ⟨s1.data.toList, by rw [bs_of]; exact e1, ?_⟩
  exact Nat.le_trans (hz _ (by rw [weights_str]; exact .head _)) reach_small
end
section
variable {H : Type} {enc : TypeId × Value → H} {w : World}
def enInt (cs : List Value) (z : Int) : Prop := cs = [.int .i64 z] ∧ in64 z
def enStr (cs : List Value) (t : List UInt8) : Prop := cs = [.string (bs t)] ∧ t.length ≤ 140737488355328
theorem rd_int : RdOf enc w 3 enInt := fun n cs x h hz hlt => trod_i64 h
theorem rd_str : RdOf enc w 9 enStr := fun n cs x h hz hlt => trod_text h hz
end
end
end Go.Proofs.YtjlcbabnkhdgpaaGreatDoor
namespace Go.Proofs.YtjlcbabnkhdgpaaGreatDoor
section
set_option linter.unusedSimpArgs false
set_option linter.unusedVariables false
open Go.RowKit Go.ChangeShapes Go.WideShapes Go.ChangeAt Go.Deep
section
variable {H : Type} {enc : TypeId × Value → H} {w : World}
set_option maxRecDepth 100000 in
theorem weights_act10 (d0 d1 d2 : DataW H) : DataW.weights Tryz.prog 55 (.agg [d0, d1, d2]) = d0.weights Tryz.prog 3 ++ (d1.weights Tryz.prog 3 ++ (d2.weights Tryz.prog 9 ++ [])) := by
  rw [DataW.weights, Tryz.underlying55]
  rfl
def enAct (cs : List Value) (x : ActM) : Prop := cs = [.int .i64 x.1, .int .i64 x.2.1, .string (bs x.2.2)] ∧ in64 x.1 ∧ in64 x.2.1 ∧ x.2.2.length ≤ 140737488355328
set_option maxRecDepth 100000 in
theorem rd_act10 : RdOf enc w 55 enAct := by
  intro n cs x h hz hlt
  obtain ⟨y0, y1, y2, n', rfl, hl, h0, h1, h2⟩ := trod_struct3 Tryz.underlying55 h
  have hc : Tryz.prog.cellsOf 55 = 3 := by kernel_rfl
  have hs : Tryz.prog.cellsOf 9 = 1 := by kernel_rfl
  have hi : Tryz.prog.cellsOf 3 = 1 := by kernel_rfl
  rw [hc] at hl
  dsimp only at hz hlt
  match cs, hl with
  | [c0, c1, c2], _ =>
    simp only [hs, hi, List.drop_zero, List.take_succ_cons, List.take_zero, List.drop_succ_cons] at h0 h1 h2
    obtain ⟨z0, e0, q0⟩ := trod_i64 h0
    obtain ⟨z1, e1, q1⟩ := trod_i64 h1
    obtain ⟨t, e2, q2⟩ := trod_text h2 (fun n hn => hz n (by rw [weights_act10]; exact List.mem_append_right _ (List.mem_append_right _ (List.mem_append_left _ hn))))
    injection e0 with e0 _
    injection e1 with e1 _
    injection e2 with e2 _
    subst e0 e1 e2
    exact ⟨(z0, z1, t), rfl, q0, q1, q2⟩
set_option maxRecDepth 100000 in
theorem open_acts10 {b0 : Nat} {d : DataW H} {p : List MemPlace} {v : Value} (hv : Value.okWide Tryz.prog w .any b0 45 v) (h : DataW.Trod enc Tryz.prog w 0 (fun _ => true) true 45 v d p)
    (hz : ∀ n ∈ d.weights Tryz.prog 45, n ≤ reachBytes) (hlt : ∀ x ∈ p, x.block < w.heap.size) :
    ∃ (A : Option Addr) (cap : Nat) (l : List ActM), v = .slice A l.length cap ∧ ActsIn w w.heap.size A l ∧ l.length ≤ 140737488355328 ∧ ∀ x ∈ l, x.2.2.length ≤ 140737488355328 := by
  obtain ⟨A, cap, l, rfl, _, _, hl, _, hR⟩ := open_rows ((0, 0, []) : ActM) Tryz.underlying45 (K := 3) (by kernel_rfl) (by decide) (of_decide_eq_true (by kernel_rfl)) rd_act10 hv h hz hlt
  refine ⟨A, cap, l, rfl, fun k hk => ?_, hl, fun x hx => ?_⟩
  · obtain ⟨b, o, cs, e, hb, _, hat, rfl, _⟩ := hR k hk
    exact ⟨b, o, e, hb, by simpa using hat 0 _ rfl, hat 1 _ rfl, hat 2 _ rfl⟩
  · obtain ⟨k, hk, rfl⟩ := List.mem_iff_getElem.1 hx
    obtain ⟨b, o, cs, e, hb, _, hat, rfl, _, _, q⟩ := hR k hk
    exact q
end
end
end Go.Proofs.YtjlcbabnkhdgpaaGreatDoor
