/-
  Plain Lean, no program: a device whose power may fail, and an area's rounds on it.
-/
import Derived.Test.YtjlcbabnkhdgpaaGreatDoorTwG
import Derived.Test.YtjlcbabnkhdgpaaGreatDoorLawB
namespace Go.Proofs.YtjlcbabnkhdgpaaGreatDoor
set_option linter.unusedSimpArgs false
set_option linter.unusedVariables false

theorem lastAt_snoc (l : List Wr) (x : Wr) (j : Int) : lastAt (l ++ [x]) j = if x.1 = j then some x.2 else lastAt l j := by
  unfold lastAt
  rw [List.reverse_append, List.reverse_singleton, List.singleton_append, List.find?_cons]
  by_cases h : x.1 = j
  · simp [h]
  · have : (x.1 == j) = false := by simpa using h
    rw [this]; simp [h]
theorem lastAt_nil (j : Int) : lastAt [] j = none := rfl
theorem lastAt_cons (x : Wr) (l : List Wr) (j : Int) : lastAt (x :: l) j = match lastAt l j with | some s => some s | none => if x.1 = j then some x.2 else none := by
  induction l using snoc_ind with
  | h0 => rw [show [x] = [] ++ [x] from rfl, lastAt_snoc]; rfl
  | h1 l y ih =>
    rw [show x :: (l ++ [y]) = (x :: l) ++ [y] from rfl, lastAt_snoc, lastAt_snoc, ih]
    split <;> rfl
theorem lastAt_none_of {l : List Wr} {j : Int} (h : ∀ x ∈ l, x.1 ≠ j) : lastAt l j = none := by
  cases hl : lastAt l j with
  | none => rfl
  | some s => obtain ⟨x, hx, e, _⟩ := lastAt_mem hl; exact absurd e (h x hx)

/-- What lasts of a sector. -/
def durM (d : DevM) (j : Int) : List UInt8 := match d.last j with | some s => s | none => List.replicate 256 0
/-- What a sector may hold if the power fails now. -/
def Mem (d : DevM) (j : Int) (s : List UInt8) : Prop := durM d j = s ∨ (j, s) ∈ d.wait
theorem readM_eq (d : DevM) (j : Int) : readM d j = match lastAt d.wait j with | some s => s | none => durM d j := rfl
theorem readM_mem (d : DevM) (j : Int) : Mem d j (readM d j) := by
  rw [readM_eq]
  cases h : lastAt d.wait j with
  | none => exact Or.inl rfl
  | some s =>
    obtain ⟨x, hx, e1, e2⟩ := lastAt_mem h
    obtain ⟨i, t⟩ := x
    dsimp only at e1 e2
    subst e1 e2
    exact Or.inr hx
theorem readM_nowait {d : DevM} (h : d.wait = []) (j : Int) : readM d j = durM d j := by rw [readM_eq, h]; rfl
theorem mem_nowait {d : DevM} (h : d.wait = []) {j : Int} {s : List UInt8} (hm : Mem d j s) : readM d j = s := by
  rw [readM_nowait h]
  rcases hm with hm | hm
  · exact hm
  · rw [h] at hm; cases hm
theorem keptN_mem (f : Int → Option (List UInt8)) (l : List Wr) (ks : List Int) (j : Int) (k : Nat) (hk : k ≤ l.length) : keptN f l ks k j = f j ∨ ∃ s, (j, s) ∈ l ∧ keptN f l ks k j = some s := by
  induction k with
  | zero => exact Or.inl rfl
  | succ k ih =>
    have ih := ih (by omega)
    have hg : l.getD k (0, []) ∈ l := by
      have : k < l.length := by omega
      simp [List.getD, this]
    simp only [keptN]
    split
    · dsimp only
      split
      · rename_i e
        refine Or.inr ⟨_, ?_, rfl⟩
        rw [e]; exact hg
      · exact ih
    · exact ih
theorem fail_mem {d : DevM} {ks : List Int} {j : Int} {s : List UInt8} (h : Mem (failM d ks) j s) : Mem d j s := by
  rcases h with h | h
  · unfold durM failM at h
    dsimp only at h
    rcases keptN_mem d.last d.wait ks j d.wait.length (Nat.le_refl _) with e | ⟨t, ht, e⟩
    · rw [e] at h; exact Or.inl h
    · rw [e] at h
      dsimp only at h
      subst h
      exact Or.inr ht
  · cases h
def wroteM (d : DevM) (i : Int) (t : List UInt8) : DevM := { goM d with wait := d.wait ++ [(i, padB t)] }
def syncedM (d : DevM) : DevM := { goM d with wait := [], last := putAll d.last d.wait, puts := d.puts + d.wait.length }
theorem wrote_mem {d : DevM} {i : Int} {t : List UInt8} {j : Int} {s : List UInt8} (h : Mem (wroteM d i t) j s) : Mem d j s ∨ (j = i ∧ s = padB t) := by
  rcases h with h | h
  · exact Or.inl (Or.inl h)
  · rcases List.mem_append.1 h with h | h
    · exact Or.inl (Or.inr h)
    · simp at h; exact Or.inr h
theorem wrote_read (d : DevM) (i : Int) (t : List UInt8) (j : Int) : readM (wroteM d i t) j = if i = j then padB t else readM d j := by
  rw [readM_eq, show (wroteM d i t).wait = d.wait ++ [(i, padB t)] from rfl, lastAt_snoc]
  by_cases h : i = j
  · simp [h]
  · simp only [if_neg h]
    rw [readM_eq]; rfl
theorem putAll_at (f : Int → Option (List UInt8)) (l : List Wr) (j : Int) : putAll f l j = match lastAt l j with | some s => some s | none => f j := by
  induction l using snoc_ind with
  | h0 => rfl
  | h1 l x ih =>
    rw [putAll_snoc, lastAt_snoc]
    by_cases h : x.1 = j
    · simp [h]
    · rw [if_neg h]
      show (if j = x.1 then some x.2 else putAll f l j) = _
      rw [if_neg (fun e => h e.symm), ih]
theorem synced_dur (d : DevM) (j : Int) : durM (syncedM d) j = readM d j := by
  unfold durM
  rw [show (syncedM d).last = putAll d.last d.wait from rfl, putAll_at, readM_eq]
  cases lastAt d.wait j <;> rfl
theorem synced_read (d : DevM) (j : Int) : readM (syncedM d) j = readM d j := by rw [readM_nowait rfl, synced_dur]
theorem synced_mem {d : DevM} {j : Int} {s : List UInt8} (h : Mem (syncedM d) j s) : readM d j = s := by
  rcases h with h | h
  · rw [synced_dur] at h; exact h
  · cases h
theorem padB_256 {s : List UInt8} (h : s.length = 256) : padB s = s := by unfold padB; rw [h]; simp

/-- All that a sector may hold is good. -/
def AllG (G : Int → List UInt8 → Prop) (d : DevM) : Prop := ∀ j s, Mem d j s → G j s
section
variable {G : Int → List UInt8 → Prop} {d : DevM} {i : Int} {t s : List UInt8}
theorem AllG.read (h : AllG G d) (j : Int) : G j (readM d j) := h j _ (readM_mem d j)
theorem AllG.fail (h : AllG G d) (ks : List Int) : AllG G (failM d ks) := fun j s hm => h j s (fail_mem hm)
theorem AllG.on (h : AllG G d) : AllG G (onM d) := h
theorem AllG.fuse (h : AllG G d) (n : Int) (ks : List Int) : AllG G (fuseM d n ks) := h
theorem AllG.write (h : AllG G d) (hg : G i (padB t)) : AllG G (writeM d i t).2 := by
  unfold writeM
  split
  · exact h
  · split
    · exact h
    · split
      · exact h
      · split
        · exact h.fail _
        · intro j s hm
          rcases wrote_mem (d := d) (i := i) (t := t) hm with hm | ⟨rfl, rfl⟩
          · exact h j s hm
          · exact hg
theorem AllG.sync (h : AllG G d) : AllG G (syncM d).2 := by
  unfold syncM
  split
  · exact h
  · split
    · exact h.fail _
    · intro j s hm
      rw [← synced_mem (d := d) hm]
      exact h.read j
theorem AllG.put (h : AllG G d) (hs : s.length = 512) (h1 : G i (s.take 256)) (h2 : G (i + 1) (s.drop 256)) : AllG G (putM d i s).2 := by
  have h1 : AllG G (writeM d i (s.take 256)).2 := h.write (by rw [padB_256 (by simp; omega)]; exact h1)
  unfold putM
  split
  · exact h1
  · exact h1.write (by rw [padB_256 (by simp; omega)]; exact h2)
theorem AllG.run (f : DevM → Nat → Img → Int × DevM) (l : List Img) (k : Nat) (hf : ∀ d i x, x ∈ l → k ≤ i → i < k + l.length → AllG G d → AllG G (f d i x).2) (h : AllG G d) : AllG G (runM f d k l).2 := by
  induction l generalizing d k with
  | nil => exact h
  | cons x l ih =>
    have h1 := hf d k x (by simp) (Nat.le_refl _) (by simp) h
    simp only [runM]
    split
    · exact h1
    · exact ih (k + 1) (fun d i y hy h1 h2 => hf d i y (by simp [hy]) (by omega) (by simp; omega)) h1
theorem AllG.of_nowait (hw : d.wait = []) (h : ∀ j, G j (readM d j)) : AllG G d := fun j s hm => by rw [← mem_nowait hw hm]; exact h j
theorem AllG.mono {G' : Int → List UInt8 → Prop} (h : AllG G d) (hg : ∀ j s, G j s → G' j s) : AllG G' d := fun j s hm => hg j s (h j s hm)
end

/-- What a command that succeeds leaves: the power on, as many commands more, the sectors. -/
structure Eff (d d' : DevM) (n : Nat) (f : Int → List UInt8) : Prop where
  off : d'.off = false
  size : d'.size = d.size
  cmds : d'.cmds = d.cmds + n
  fuse : d.fuse = 0 → d'.fuse = 0
  read : ∀ j, readM d' j = f j
theorem Eff.trans {d d' d'' : DevM} {n m : Nat} {f g : Int → List UInt8} (h : Eff d d' n f) (k : Eff d' d'' m g) : Eff d d'' (n + m) g :=
  ⟨k.off, k.size.trans h.size, by rw [k.cmds, h.cmds]; omega, fun e => k.fuse (h.fuse e), k.read⟩
theorem go_eff (d : DevM) : (goM d).cmds = d.cmds + 1 ∧ (d.fuse = 0 → (goM d).fuse = 0) := by
  refine ⟨rfl, fun h => ?_⟩
  unfold goM
  dsimp only
  rw [h]; rfl
theorem write_done {d : DevM} {i : Int} {t : List UInt8} (h : (writeM d i t).1 = 0) : Eff d (writeM d i t).2 1 (fun j => if i = j then padB t else readM d j) := by
  have e : (writeM d i t).2 = wroteM d i t ∧ d.off = false := by
    unfold writeM at h ⊢
    split at h
    · cases h
    · rename_i ho
      split at h
      · cases h
      · split at h
        · cases h
        · split at h
          · cases h
          · rename_i h1 h2 h3
            rw [if_neg ho, if_neg h1, if_neg h2, if_neg h3]
            exact ⟨rfl, by simpa using ho⟩
  rw [e.1]
  exact ⟨e.2, rfl, (go_eff d).1, (go_eff d).2, wrote_read d i t⟩
theorem write_calm {d : DevM} {i : Int} {t : List UInt8} (ho : d.off = false) (hf : d.fuse = 0) (hi : 0 ≤ i ∧ i < d.size) (ht : t.length ≤ 256) : (writeM d i t).1 = 0 := by
  unfold writeM
  rw [if_neg (by simp [ho]), if_neg (by omega), if_neg (by omega), if_neg (by omega)]
theorem sync_done {d : DevM} (h : (syncM d).1 = 0) : Eff d (syncM d).2 1 (readM d) ∧ (syncM d).2.wait = [] := by
  have e : (syncM d).2 = syncedM d ∧ d.off = false := by
    unfold syncM at h ⊢
    split at h
    · cases h
    · rename_i ho
      split at h
      · cases h
      · rename_i h1
        rw [if_neg ho, if_neg h1]
        exact ⟨rfl, by simpa using ho⟩
  rw [e.1]
  exact ⟨⟨e.2, rfl, (go_eff d).1, (go_eff d).2, synced_read d⟩, rfl⟩
theorem sync_calm {d : DevM} (ho : d.off = false) (hf : d.fuse = 0) : (syncM d).1 = 0 := by
  unfold syncM
  rw [if_neg (by simp [ho]), if_neg (by omega)]
theorem put_done {d : DevM} {i : Int} {s : List UInt8} (hs : s.length = 512) (h : (putM d i s).1 = 0) :
    Eff d (putM d i s).2 2 (fun j => if i + 1 = j then s.drop 256 else if i = j then s.take 256 else readM d j) := by
  unfold putM at h ⊢
  split at h
  · rename_i h1; exact absurd h h1
  · rename_i h1
    rw [if_neg h1]
    have e1 := write_done (by simpa using h1)
    have e2 := write_done h
    have := e1.trans e2
    refine ⟨this.off, this.size, this.cmds, this.fuse, fun j => ?_⟩
    rw [this.read, padB_256 (by simp; omega)]
    split
    · rfl
    · rw [e1.read, padB_256 (by simp; omega)]
theorem put_calm {d : DevM} {i : Int} {s : List UInt8} (ho : d.off = false) (hf : d.fuse = 0) (hi : 0 ≤ i ∧ i + 1 < d.size) (hs : s.length = 512) : (putM d i s).1 = 0 := by
  have h1 := write_calm (t := s.take 256) ho hf ⟨hi.1, by omega⟩ (by simp; omega)
  have e1 := write_done h1
  unfold putM
  rw [if_neg (by simp [h1])]
  exact write_calm e1.off (e1.fuse hf) ⟨by omega, by rw [e1.size]; omega⟩ (by simp; omega)
end Go.Proofs.YtjlcbabnkhdgpaaGreatDoor
