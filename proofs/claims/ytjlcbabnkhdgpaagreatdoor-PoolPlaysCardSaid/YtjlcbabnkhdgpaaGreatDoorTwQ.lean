/-
  Plain Lean, no program: an area's rounds that succeed.
-/
import Derived.Test.YtjlcbabnkhdgpaaGreatDoorTwP
namespace Go.Proofs.YtjlcbabnkhdgpaaGreatDoor
set_option linter.unusedSimpArgs false
set_option linter.unusedVariables false

/-- An image that may be written. -/
def GoodI (a : ArM) (x : Img) : Prop := (0 ≤ x.1 ∧ x.1 < a.pg) ∧ x.2.length = 512
theorem slot_done {a : ArM} {d : DevM} {i : Nat} {x : Img} (hx : x.2.length = 512) (h : (slotM a d i x).1 = 0) :
    Eff d (slotM a d i x).2 3 (fun j => if a.sat + 3 * i + 2 = j then x.2.drop 256 else if a.sat + 3 * i + 1 = j then x.2.take 256 else if a.sat + 3 * i = j then padB (nameB x.1) else readM d j) := by
  unfold slotM at h ⊢
  split at h
  · rename_i h1; exact absurd h h1
  · rename_i h1
    rw [if_neg h1]
    have e1 := write_done (by simpa using h1)
    have e2 := put_done hx h
    have := e1.trans e2
    refine ⟨this.off, this.size, this.cmds, this.fuse, fun j => ?_⟩
    rw [this.read, show a.sat + 3 * (i : Int) + 1 + 1 = a.sat + 3 * i + 2 by omega]
    split
    · rfl
    · split
      · rfl
      · rw [e1.read]
theorem page_done {a : ArM} {d : DevM} {i : Nat} {x : Img} (hx : x.2.length = 512) (h : (pageM a d i x).1 = 0) :
    Eff d (pageM a d i x).2 2 (fun j => if a.fr + 2 * x.1 + 1 = j then x.2.drop 256 else if a.fr + 2 * x.1 = j then x.2.take 256 else readM d j) := put_done hx h
theorem slot_calm {a : ArM} {d : DevM} {i : Nat} {x : Img} (hx : x.2.length = 512) (ho : d.off = false) (hf : d.fuse = 0) (h0 : 0 ≤ a.sat) (h1 : a.sat + 3 * i + 2 < d.size) : (slotM a d i x).1 = 0 := by
  have h1 := write_calm (t := nameB x.1) ho hf (i := a.sat + 3 * i) (by omega) (by unfold nameB sealB; simp [putB_length, markB_length])
  have e1 := write_done h1
  unfold slotM
  rw [if_neg (by simp [h1])]
  exact put_calm e1.off (e1.fuse hf) ⟨by omega, by rw [e1.size]; omega⟩ hx
theorem page_calm {a : ArM} {d : DevM} {i : Nat} {x : Img} (hx : GoodI a x) (ho : d.off = false) (hf : d.fuse = 0) (h0 : 0 ≤ a.fr) (h1 : a.fr + 2 * a.pg ≤ d.size) : (pageM a d i x).1 = 0 := by
  obtain ⟨hp, hl⟩ := hx
  exact put_calm ho hf (by omega) hl
/-- The slots, when all images of a round were written into them. -/
structure SlotsDone (a : ArM) (d d' : DevM) (i : Nat) (l : List Img) : Prop where
  name : ∀ k (hk : k < l.length), readM d' (a.sat + 3 * (i + k : Nat)) = padB (nameB l[k].1)
  first : ∀ k (hk : k < l.length), readM d' (a.sat + 3 * (i + k : Nat) + 1) = l[k].2.take 256
  second : ∀ k (hk : k < l.length), readM d' (a.sat + 3 * (i + k : Nat) + 2) = l[k].2.drop 256
  others : ∀ j, (j < a.sat + 3 * i ∨ a.sat + 3 * (i + l.length : Nat) ≤ j) → readM d' j = readM d j
theorem slots_done {a : ArM} (l : List Img) (hx : ∀ x ∈ l, x.2.length = 512) (d : DevM) (ho : d.off = false) (i : Nat) (h : (runM (slotM a) d i l).1 = 0) :
    (∃ f, Eff d (runM (slotM a) d i l).2 (3 * l.length) f) ∧ SlotsDone a d (runM (slotM a) d i l).2 i l := by
  induction l generalizing d i with
  | nil => exact ⟨⟨readM d, ho, rfl, rfl, fun h => h, fun _ => rfl⟩, ⟨fun k hk => absurd hk (by simp), fun k hk => absurd hk (by simp), fun k hk => absurd hk (by simp), fun _ _ => rfl⟩⟩
  | cons x l ih =>
    simp only [runM] at h ⊢
    split at h
    · rename_i h1; exact absurd h h1
    · rename_i h1
      rw [if_neg h1]
      have e1 := slot_done (a := a) (d := d) (i := i) (hx x (by simp)) (by simpa using h1)
      obtain ⟨⟨f, e2⟩, s2⟩ := ih (fun y hy => hx y (by simp [hy])) (slotM a d i x).2 e1.off (i + 1) h
      generalize (runM (slotM a) (slotM a d i x).2 (i + 1) l).2 = d2 at *
      have e3 := e1.trans e2
      have ec : 3 + 3 * l.length = 3 * (x :: l).length := by simp; omega
      rw [ec] at e3
      refine ⟨⟨_, e3⟩, ⟨fun k hk => ?_, fun k hk => ?_, fun k hk => ?_, fun j hj => ?_⟩⟩
      · cases k with
        | zero =>
          rw [s2.others _ (Or.inl (by omega)), e1.read, if_neg (by omega), if_neg (by omega), if_pos (by omega)]
          rfl
        | succ k =>
          have := s2.name k (by simpa using hk)
          rw [show i + 1 + k = i + (k + 1) by omega] at this
          simpa using this
      · cases k with
        | zero =>
          rw [s2.others _ (Or.inl (by omega)), e1.read, if_neg (by omega), if_pos (by omega)]
          rfl
        | succ k =>
          have := s2.first k (by simpa using hk)
          rw [show i + 1 + k = i + (k + 1) by omega] at this
          simpa using this
      · cases k with
        | zero =>
          rw [s2.others _ (Or.inl (by omega)), e1.read, if_pos (by omega)]
          rfl
        | succ k =>
          have := s2.second k (by simpa using hk)
          rw [show i + 1 + k = i + (k + 1) by omega] at this
          simpa using this
      · rw [s2.others j (by simp at hj; omega), e1.read, if_neg (by simp at hj; omega), if_neg (by simp at hj; omega), if_neg (by simp at hj; omega)]
theorem slots_calm {a : ArM} (l : List Img) (hx : ∀ x ∈ l, x.2.length = 512) (d : DevM) (ho : d.off = false) (hf : d.fuse = 0) (h0 : 0 ≤ a.sat) (i : Nat) (h1 : a.sat + 3 * (i + l.length : Nat) ≤ d.size) : (runM (slotM a) d i l).1 = 0 := by
  induction l generalizing d i with
  | nil => rfl
  | cons x l ih =>
    have hl : (x :: l).length = l.length + 1 := rfl
    have hc := slot_calm (a := a) (d := d) (i := i) (hx x (by simp)) ho hf h0 (by omega)
    have e1 := slot_done (hx x (by simp)) hc
    simp only [runM]
    rw [if_neg (by simp [hc])]
    exact ih (fun y hy => hx y (by simp [hy])) _ e1.off (e1.fuse hf) (i + 1) (by rw [e1.size]; omega)
/-- The pages, when all images of a round were written to their places. -/
structure PagesDone (a : ArM) (d d' : DevM) (l : List Img) : Prop where
  first : ∀ p, readM d' (a.fr + 2 * p) = match lastAt l p with | some s => s.take 256 | none => readM d (a.fr + 2 * p)
  second : ∀ p, readM d' (a.fr + 2 * p + 1) = match lastAt l p with | some s => s.drop 256 | none => readM d (a.fr + 2 * p + 1)
theorem pages_done {a : ArM} (l : List Img) (hx : ∀ x ∈ l, x.2.length = 512) (d : DevM) (ho : d.off = false) (i : Nat) (h : (runM (pageM a) d i l).1 = 0) :
    (∃ f, Eff d (runM (pageM a) d i l).2 (2 * l.length) f) ∧ PagesDone a d (runM (pageM a) d i l).2 l := by
  induction l generalizing d i with
  | nil => exact ⟨⟨readM d, ho, rfl, rfl, fun h => h, fun _ => rfl⟩, ⟨fun _ => rfl, fun _ => rfl⟩⟩
  | cons x l ih =>
    simp only [runM] at h ⊢
    split at h
    · rename_i h1; exact absurd h h1
    · rename_i h1
      rw [if_neg h1]
      have e1 := page_done (a := a) (d := d) (i := i) (hx x (by simp)) (by simpa using h1)
      obtain ⟨⟨f, e2⟩, s2⟩ := ih (fun y hy => hx y (by simp [hy])) (pageM a d i x).2 e1.off (i + 1) h
      generalize (runM (pageM a) (pageM a d i x).2 (i + 1) l).2 = d2 at *
      have e3 := e1.trans e2
      have ec : 2 + 2 * l.length = 2 * (x :: l).length := by simp; omega
      rw [ec] at e3
      refine ⟨⟨_, e3⟩, ⟨fun p => ?_, fun p => ?_⟩⟩
      · rw [s2.first, lastAt_cons]
        cases lastAt l p with
        | some s => rfl
        | none =>
          dsimp only
          rw [e1.read, if_neg (by omega)]
          by_cases h : x.1 = p
          · rw [if_pos (by omega), if_pos h]
          · rw [if_neg (by omega), if_neg h]
      · rw [s2.second, lastAt_cons]
        cases lastAt l p with
        | some s => rfl
        | none =>
          dsimp only
          rw [e1.read]
          by_cases h : x.1 = p
          · rw [if_pos (by omega), if_pos h]
          · rw [if_neg (by omega), if_neg (by omega), if_neg h]
theorem pages_others {a : ArM} (l : List Img) (hx : ∀ x ∈ l, GoodI a x) (d : DevM) (ho : d.off = false) (i : Nat) (h : (runM (pageM a) d i l).1 = 0) (j : Int) (hj : j < a.fr ∨ a.fr + 2 * a.pg ≤ j) : readM (runM (pageM a) d i l).2 j = readM d j := by
  induction l generalizing d i with
  | nil => rfl
  | cons x l ih =>
    obtain ⟨hp, hl⟩ := hx x (by simp)
    simp only [runM] at h ⊢
    split at h
    · rename_i h1; exact absurd h h1
    · rename_i h1
      rw [if_neg h1]
      have e1 := page_done (a := a) (d := d) (i := i) hl (by simpa using h1)
      rw [ih (fun y hy => hx y (by simp [hy])) (pageM a d i x).2 e1.off (i + 1) h, e1.read, if_neg (by omega), if_neg (by omega)]
theorem pages_calm {a : ArM} (l : List Img) (hx : ∀ x ∈ l, GoodI a x) (d : DevM) (ho : d.off = false) (hf : d.fuse = 0) (h0 : 0 ≤ a.fr) (h1 : a.fr + 2 * a.pg ≤ d.size) (i : Nat) : (runM (pageM a) d i l).1 = 0 := by
  induction l generalizing d i with
  | nil => rfl
  | cons x l ih =>
    have hc := page_calm (a := a) (d := d) (i := i) (hx x (by simp)) ho hf h0 h1
    have e1 := page_done (hx x (by simp)).2 hc
    simp only [runM]
    rw [if_neg (by simp [hc])]
    exact ih (fun y hy => hx y (by simp [hy])) _ e1.off (e1.fuse hf) (by rw [e1.size]; omega) (i + 1)
/-- A round that succeeds. -/
structure RoundDone (a : ArM) (d d' : DevM) (l : List Img) : Prop where
  off : d'.off = false
  size : d'.size = d.size
  cmds : d'.cmds = d.cmds + (5 * l.length + 2)
  fuse : d.fuse = 0 → d'.fuse = 0
  wait : d'.wait = []
  name : ∀ k (hk : k < l.length), readM d' (a.sat + 3 * k) = padB (nameB l[k].1)
  first : ∀ k (hk : k < l.length), readM d' (a.sat + 3 * k + 1) = l[k].2.take 256
  second : ∀ k (hk : k < l.length), readM d' (a.sat + 3 * k + 2) = l[k].2.drop 256
  pfirst : ∀ p, 0 ≤ p → p < a.pg → readM d' (a.fr + 2 * p) = match lastAt l p with | some s => s.take 256 | none => readM d (a.fr + 2 * p)
  psecond : ∀ p, 0 ≤ p → p < a.pg → readM d' (a.fr + 2 * p + 1) = match lastAt l p with | some s => s.drop 256 | none => readM d (a.fr + 2 * p + 1)
  others : ∀ j, (j < a.sat ∨ a.sat + 3 * l.length ≤ j) → (j < a.fr ∨ a.fr + 2 * a.pg ≤ j) → readM d' j = readM d j
theorem round_done {a : ArM} {d : DevM} {l : List Img} (hfit : a.fits d.size) (hl : l.length ≤ a.sl) (hx : ∀ x ∈ l, GoodI a x) (ho : d.off = false) (h : (roundM a d l).1 = 0) : RoundDone a d (roundM a d l).2 l := by
  obtain ⟨f1, f2, f3, f4, f5, f6, f7⟩ := hfit
  have hx5 : ∀ x ∈ l, x.2.length = 512 := fun x h => (hx x h).2
  unfold roundM at h ⊢
  split at h
  · rename_i h1; exact absurd h h1
  · rename_i h1
    rw [if_neg h1]
    split at h
    · rename_i h2; exact absurd h h2
    · rename_i h2
      rw [if_neg h2]
      split at h
      · rename_i h3; exact absurd h h3
      · rename_i h3
        rw [if_neg h3]
        obtain ⟨⟨_, e1⟩, s1⟩ := slots_done l hx5 d ho 0 (by simpa using h1)
        generalize (runM (slotM a) d 0 l).2 = d1 at *
        obtain ⟨e2, w2⟩ := sync_done (d := d1) (by simpa using h2)
        generalize (syncM d1).2 = d2 at *
        obtain ⟨⟨_, e3⟩, s3⟩ := pages_done l hx5 d2 e2.off 0 (by simpa using h3)
        have o3 := pages_others l hx d2 e2.off 0 (by simpa using h3)
        generalize (runM (pageM a) d2 0 l).2 = d3 at *
        obtain ⟨e4, w4⟩ := sync_done (d := d3) h
        generalize (syncM d3).2 = d4 at *
        have e := ((e1.trans e2).trans e3).trans e4
        have z : ∀ k : Nat, 0 + k = k := Nat.zero_add
        refine ⟨e.off, e.size, by rw [e.cmds]; omega, e.fuse, w4, fun k hk => ?_, fun k hk => ?_, fun k hk => ?_, fun p hp0 hp1 => ?_, fun p hp0 hp1 => ?_, fun j h1 h2 => ?_⟩
        · have := s1.name k hk
          rw [z] at this
          rw [e4.read, o3 _ (by omega), e2.read]; exact this
        · have := s1.first k hk
          rw [z] at this
          rw [e4.read, o3 _ (by omega), e2.read]; exact this
        · have := s1.second k hk
          rw [z] at this
          rw [e4.read, o3 _ (by omega), e2.read]; exact this
        · rw [e4.read, s3.first]
          cases lastAt l p with
          | some s => rfl
          | none => dsimp only; rw [e2.read, s1.others _ (by omega)]
        · rw [e4.read, s3.second]
          cases lastAt l p with
          | some s => rfl
          | none => dsimp only; rw [e2.read, s1.others _ (by omega)]
        · rw [e4.read, o3 _ h2, e2.read, s1.others _ (by omega)]
theorem round_calm {a : ArM} {d : DevM} {l : List Img} (hfit : a.fits d.size) (hl : l.length ≤ a.sl) (hx : ∀ x ∈ l, GoodI a x) (ho : d.off = false) (hf : d.fuse = 0) : (roundM a d l).1 = 0 := by
  obtain ⟨f1, f2, f3, f4, f5, f6, f7⟩ := hfit
  have hx5 : ∀ x ∈ l, x.2.length = 512 := fun x h => (hx x h).2
  have h1 := slots_calm (a := a) l hx5 d ho hf f1 0 (by omega)
  obtain ⟨⟨_, e1⟩, _⟩ := slots_done l hx5 d ho 0 h1
  have h2 := sync_calm e1.off (e1.fuse hf)
  obtain ⟨e2, _⟩ := sync_done h2
  have h3 := pages_calm l hx _ e2.off (e2.fuse (e1.fuse hf)) f2 (by rw [e2.size, e1.size]; omega) 0
  obtain ⟨⟨_, e3⟩, _⟩ := pages_done l hx5 _ e2.off 0 h3
  have h4 := sync_calm e3.off (e3.fuse (e2.fuse (e1.fuse hf)))
  unfold roundM
  rw [if_neg (by simp [h1]), if_neg (by simp [h2]), if_neg (by simp [h3])]
  exact h4
theorem lastAt_app (l r : List Wr) (j : Int) : lastAt (l ++ r) j = match lastAt r j with | some s => some s | none => lastAt l j := by
  induction r using snoc_ind with
  | h0 => rw [List.append_nil]; rfl
  | h1 r x ih =>
    rw [← List.append_assoc, lastAt_snoc, lastAt_snoc, ih]
    split <;> rfl
/-- Rounds that succeed. -/
structure RoundsDone (a : ArM) (d d' : DevM) (l : List Img) : Prop where
  off : d'.off = false
  size : d'.size = d.size
  cmds : d'.cmds = d.cmds + (5 * l.length + 2 * ((l.length + a.sl.toNat - 1) / a.sl.toNat))
  fuse : d.fuse = 0 → d'.fuse = 0
  wait : d.wait = [] → d'.wait = []
  pfirst : ∀ p, 0 ≤ p → p < a.pg → readM d' (a.fr + 2 * p) = match lastAt l p with | some s => s.take 256 | none => readM d (a.fr + 2 * p)
  psecond : ∀ p, 0 ≤ p → p < a.pg → readM d' (a.fr + 2 * p + 1) = match lastAt l p with | some s => s.drop 256 | none => readM d (a.fr + 2 * p + 1)
theorem rounds_count (n s : Nat) (hn : n ≠ 0) (hs : 1 ≤ s) : (n + s - 1) / s = 1 + (n - min s n + s - 1) / s := by
  by_cases h : s ≤ n
  · rw [Nat.min_eq_left h, show n + s - 1 = (n - s + s - 1) + s by omega, Nat.add_div_right _ hs, Nat.add_comm]
  · rw [Nat.min_eq_right (by omega), show n + s - 1 = (n - 1) + s by omega, Nat.add_div_right _ hs, Nat.div_eq_of_lt (show n - 1 < s by omega), Nat.div_eq_of_lt (show n - n + s - 1 < s by omega)]
theorem rounds_done {a : ArM} (n : Nat) (d : DevM) (l : List Img) (hn : l.length ≤ n) (hfit : a.fits d.size) (hx : ∀ x ∈ l, GoodI a x) (ho : d.off = false) (h : (roundsM a n d l).1 = 0) : RoundsDone a d (roundsM a n d l).2 l := by
  have hsl : 1 ≤ a.sl.toNat := by have := hfit.2.2.1; omega
  induction n generalizing d l with
  | zero =>
    have : l = [] := List.eq_nil_of_length_eq_zero (by omega)
    subst this
    exact ⟨ho, rfl, by simp [roundsM]; rw [Nat.div_eq_of_lt (by omega)], fun h => h, fun h => h, fun _ _ _ => rfl, fun _ _ _ => rfl⟩
  | succ n ih =>
    simp only [roundsM] at h ⊢
    by_cases hz : l.length = 0
    · rw [if_pos hz] at h ⊢
      have : l = [] := List.eq_nil_of_length_eq_zero hz
      subst this
      exact ⟨ho, rfl, by simp; rw [Nat.div_eq_of_lt (by omega)], fun h => h, fun h => h, fun _ _ _ => rfl, fun _ _ _ => rfl⟩
    · rw [if_neg hz] at h ⊢
      obtain ⟨q, hq⟩ : ∃ q, q = min a.sl.toNat l.length := ⟨_, rfl⟩
      rw [← hq] at h ⊢
      split at h
      · rename_i h1; exact absurd h h1
      · rename_i h1
        rw [if_neg h1]
        have hxt : ∀ x ∈ l.take q, GoodI a x := fun x h => hx x (List.mem_of_mem_take h)
        have hxd : ∀ x ∈ l.drop q, GoodI a x := fun x h => hx x (List.mem_of_mem_drop h)
        have hlt : (l.take q).length = q := by simp; omega
        have hld : (l.drop q).length = l.length - q := by simp
        have r1 := round_done hfit (by rw [hlt]; omega) hxt ho (by simpa using h1)
        generalize (roundM a d (l.take q)).2 = d1 at *
        have r2 := ih d1 (l.drop q) (by rw [hld]; omega) (by rw [r1.size]; exact hfit) hxd r1.off h
        generalize (roundsM a n d1 (l.drop q)).2 = d2 at *
        have hla : ∀ p, lastAt l p = match lastAt (l.drop q) p with | some s => some s | none => lastAt (l.take q) p := fun p => by
          conv => lhs; rw [← List.take_append_drop q l]
          exact lastAt_app _ _ _
        refine ⟨r2.off, r2.size.trans r1.size, ?_, fun e => r2.fuse (r1.fuse e), fun _ => r2.wait r1.wait, fun p h0 h1 => ?_, fun p h0 h1 => ?_⟩
        · rw [r2.cmds, r1.cmds, hlt, hld, rounds_count l.length a.sl.toNat hz hsl, ← hq]
          omega
        · rw [r2.pfirst p h0 h1, hla]
          cases lastAt (l.drop q) p with
          | some s => rfl
          | none => exact r1.pfirst p h0 h1
        · rw [r2.psecond p h0 h1, hla]
          cases lastAt (l.drop q) p with
          | some s => rfl
          | none => exact r1.psecond p h0 h1
theorem rounds_calm {a : ArM} (n : Nat) (d : DevM) (l : List Img) (hfit : a.fits d.size) (hx : ∀ x ∈ l, GoodI a x) (ho : d.off = false) (hf : d.fuse = 0) : (roundsM a n d l).1 = 0 := by
  have hsl : 1 ≤ a.sl.toNat := by have := hfit.2.2.1; omega
  induction n generalizing d l with
  | zero => rfl
  | succ n ih =>
    simp only [roundsM]
    split
    · rfl
    · have hxt : ∀ x ∈ l.take (min a.sl.toNat l.length), GoodI a x := fun x h => hx x (List.mem_of_mem_take h)
      have hlt : (l.take (min a.sl.toNat l.length)).length = min a.sl.toNat l.length := by rw [List.length_take]; omega
      have h1 := round_calm hfit (by rw [hlt]; omega) hxt ho hf
      have r1 := round_done hfit (by rw [hlt]; omega) hxt ho h1
      rw [if_neg (by simp [h1])]
      exact ih _ _ (by rw [r1.size]; exact hfit) (fun x h => hx x (List.mem_of_mem_drop h)) r1.off (r1.fuse hf)
end Go.Proofs.YtjlcbabnkhdgpaaGreatDoor
