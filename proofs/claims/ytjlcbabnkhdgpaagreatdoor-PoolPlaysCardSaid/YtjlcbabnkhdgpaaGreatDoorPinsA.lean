/-
  Walks: the document's pages: New.
-/
import Derived.Test.YtjlcbabnkhdgpaaGreatDoorTwK
namespace Go.Proofs.YtjlcbabnkhdgpaaGreatDoor
section
set_option linter.unusedSimpArgs false
set_option linter.unusedVariables false

section
variable {G : Int → List UInt8 → Prop} {a : ArM} {d : DevM} {l : List Img}
/-- What an area's writes may lay down. -/
structure Lays (a : ArM) (G : Int → List UInt8 → Prop) (l : List Img) : Prop where
  name : ∀ x ∈ l, ∀ i : Nat, (i : Int) < a.sl → G (a.sat + 3 * i) (padB (nameB x.1)) ∧ G (a.sat + 3 * i + 1) (x.2.take 256) ∧ G (a.sat + 3 * i + 1 + 1) (x.2.drop 256)
  page : ∀ x ∈ l, G (a.fr + 2 * x.1) (x.2.take 256) ∧ G (a.fr + 2 * x.1 + 1) (x.2.drop 256)
theorem Lays.sub {r : List Img} (h : Lays a G l) (hs : ∀ x ∈ r, x ∈ l) : Lays a G r := ⟨fun x hx => h.name x (hs x hx), fun x hx => h.page x (hs x hx)⟩
theorem AllG.slots (h : AllG G d) (hl : Lays a G l) (hx : ∀ x ∈ l, x.2.length = 512) (hn : (l.length : Int) ≤ a.sl) : AllG G (runM (slotM a) d 0 l).2 := by
  refine AllG.run (slotM a) l 0 (fun d i x hx' _ hi hd => ?_) h
  obtain ⟨h1, h2, h3⟩ := hl.name x hx' i (by omega)
  unfold slotM
  split
  · exact hd.write h1
  · exact (hd.write h1).put (hx x hx') h2 h3
theorem AllG.pages (h : AllG G d) (hl : Lays a G l) (hx : ∀ x ∈ l, x.2.length = 512) : AllG G (runM (pageM a) d 0 l).2 := by
  refine AllG.run (pageM a) l 0 (fun d i x hx' _ hi hd => ?_) h
  obtain ⟨h1, h2⟩ := hl.page x hx'
  exact hd.put (hx x hx') h1 h2
theorem AllG.round (h : AllG G d) (hl : Lays a G l) (hx : ∀ x ∈ l, x.2.length = 512) (hn : (l.length : Int) ≤ a.sl) : AllG G (roundM a d l).2 := by
  have h1 := h.slots hl hx hn
  have h2 := h1.sync
  have h3 := h2.pages hl hx
  unfold roundM
  split
  · exact h1
  · split
    · exact h2
    · split
      · exact h3
      · exact h3.sync
theorem AllG.rounds (n : Nat) (h : AllG G d) (hl : Lays a G l) (hx : ∀ x ∈ l, x.2.length = 512) (hs : 1 ≤ a.sl) : AllG G (roundsM a n d l).2 := by
  induction n generalizing d l with
  | zero => exact h
  | succ n ih =>
    have hlt : (l.take (min a.sl.toNat l.length)).length = min a.sl.toNat l.length := by rw [List.length_take]; omega
    have h1 := h.round (hl.sub (r := l.take (min a.sl.toNat l.length)) fun x hx => List.mem_of_mem_take hx) (fun x h => hx x (List.mem_of_mem_take h)) (by rw [hlt]; omega)
    simp only [roundsM]
    split
    · exact h
    · split
      · exact h1
      · exact ih h1 (hl.sub fun x hx => List.mem_of_mem_drop hx) (fun x h => hx x (List.mem_of_mem_drop h))
theorem AllG.twrite (h : AllG G d) (hl : Lays a G l) (hx : ∀ x ∈ l, x.2.length = 512) (hs : 1 ≤ a.sl) : AllG G (twriteM a d l).2 := by
  unfold twriteM
  split
  · exact h.rounds _ hl hx hs
  · exact h
end

/-- Of what the slots hold. -/
theorem bestN_slot (a : ArM) (d : DevM) (k : Nat) (j : Int) (s : List UInt8) (h : bestN a d k j = some s) : ∃ i, i < k ∧ slotB a d i = true ∧ (slotN a d i : Int) = j ∧ slotS a d i = s := by
  induction k generalizing s with
  | zero => cases h
  | succ k ih =>
    simp only [bestN] at h
    split at h
    · rename_i hb
      dsimp only at h
      split at h
      · rename_i e
        cases h
        unfold betterB at hb
        rw [Bool.and_eq_true] at hb
        exact ⟨k, by omega, hb.1, e.symm, rfl⟩
      · obtain ⟨i, h1, h2⟩ := ih s h
        exact ⟨i, by omega, h2⟩
    · obtain ⟨i, h1, h2⟩ := ih s h
      exact ⟨i, by omega, h2⟩
theorem slotB_whole {a : ArM} {d : DevM} {i : Nat} (h : slotB a d i = true) : wholeB (slotS a d i) = true := by
  unfold slotB at h
  simp only [Bool.and_eq_true] at h
  exact h.2.2.1
theorem bestN_whole (a : ArM) (d : DevM) (k : Nat) (j : Int) (s : List UInt8) (h : bestN a d k j = some s) : wholeB s = true := by
  obtain ⟨i, _, h2, _, rfl⟩ := bestN_slot a d k j s h
  exact slotB_whole h2
/-- The slots are read alike. -/
theorem bestN_same {a : ArM} {d d' : DevM} (k : Nat) (hr : ∀ i : Nat, i < k → readM d' (a.sat + 3 * i) = readM d (a.sat + 3 * i) ∧ readM d' (a.sat + 3 * i + 1) = readM d (a.sat + 3 * i + 1) ∧ readM d' (a.sat + 3 * i + 1 + 1) = readM d (a.sat + 3 * i + 1 + 1)) : bestN a d' k = bestN a d k := by
  induction k with
  | zero => rfl
  | succ k ih =>
    have hk := hr k (by omega)
    have ih := ih (fun i hi => hr i (by omega))
    have e1 : slotN a d' k = slotN a d k := by unfold slotN; rw [hk.1]
    have e2 : slotS a d' k = slotS a d k := by unfold slotS; rw [hk.2.1, hk.2.2]
    have e3 : slotB a d' k = slotB a d k := by unfold slotB; rw [e1, e2, hk.1]
    have e4 : betterB a d' (bestN a d k) k = betterB a d (bestN a d k) k := by unfold betterB; rw [e1, e2, e3]
    simp only [bestN]
    rw [ih, e4, e1, e2]

/-- How many of the first k pages are to be repaired. -/
def fixes (a : ArM) (b : Int → Option (List UInt8)) (d : DevM) : Nat → Nat
  | 0 => 0
  | k + 1 => fixes a b d k + if (fixB a b d k).isSome = true then 1 else 0
theorem fixes_le (a : ArM) (b : Int → Option (List UInt8)) (d : DevM) (k : Nat) : fixes a b d k ≤ k := by
  induction k with
  | zero => exact Nat.le_refl _
  | succ k ih => simp only [fixes]; split <;> omega
/-- What repairing the first k pages leaves. -/
structure RepDone (a : ArM) (b : Int → Option (List UInt8)) (d d' : DevM) (k : Nat) : Prop where
  off : d'.off = false
  fuse : d'.fuse = 0
  size : d'.size = d.size
  done : ∀ p : Nat, p < k → pgv a d' p = match fixB a b d p with | some s => s | none => pgv a d p
  left : ∀ p : Nat, k ≤ p → pgv a d' p = pgv a d p
  others : ∀ j, (j < a.fr ∨ a.fr + 2 * a.pg ≤ j) → readM d' j = readM d j
theorem fixB_at {a : ArM} {b : Int → Option (List UInt8)} {d d' : DevM} {p : Nat} (h : pgv a d' p = pgv a d p) : fixB a b d' p = fixB a b d p := by
  unfold fixB
  cases b p with
  | none => rfl
  | some s =>
    show (if wholeB (pgv a d' p) = true then none else some s) = if wholeB (pgv a d p) = true then none else some s
    rw [h]
theorem rep_calm {a : ArM} {b : Int → Option (List UInt8)} {d : DevM} (hfit : a.fits d.size) (ho : d.off = false) (hf : d.fuse = 0) (hb : ∀ j s, b j = some s → s.length = 512) (k : Nat) (hk : (k : Int) ≤ a.pg) :
    (repM a b d k).1 = 0 ∧ (repM a b d k).2.2 = fixes a b d k ∧ RepDone a b d (repM a b d k).2.1 k := by
  obtain ⟨f1, f2, f3, f4, f5, f6, f7⟩ := hfit
  induction k with
  | zero => exact ⟨rfl, rfl, ho, hf, rfl, fun p hp => absurd hp (by omega), fun p _ => rfl, fun j _ => rfl⟩
  | succ k ih =>
    obtain ⟨h1, h2, h3⟩ := ih (by omega)
    have hfx : fixB a b (repM a b d k).2.1 k = fixB a b d k := fixB_at (h3.left k (Nat.le_refl _))
    simp only [repM]
    rw [if_neg (by simp [h1]), hfx]
    generalize repM a b d k = r at *
    obtain ⟨e, dk, c⟩ := r
    dsimp only at *
    cases hfk : fixB a b d k with
    | none =>
      dsimp only
      refine ⟨h1, by simp [fixes, hfk, h2], h3.off, h3.fuse, h3.size, fun p hp => ?_, fun p hp => h3.left p (by omega), h3.others⟩
      by_cases e : p = k
      · subst e; rw [h3.left p (Nat.le_refl _), hfk]
      · exact h3.done p (by omega)
    | some s =>
      dsimp only
      have hs : s.length = 512 := by
        unfold fixB at hfk
        cases hbk : b k with
        | none => rw [hbk] at hfk; cases hfk
        | some t =>
          rw [hbk] at hfk
          dsimp only at hfk
          split at hfk
          · cases hfk
          · cases hfk; exact hb _ _ hbk
      have hc := put_calm (i := a.fr + 2 * k) h3.off h3.fuse (by rw [h3.size]; omega) hs
      have e1 := put_done hs hc
      rw [if_neg (by simp [hc])]
      refine ⟨rfl, by simp [fixes, hfk, h2], e1.off, e1.fuse h3.fuse, e1.size.trans h3.size, fun p hp => ?_, fun p hp => ?_, fun j hj => ?_⟩
      · by_cases e : p = k
        · subst e
          rw [hfk]
          dsimp only
          unfold pgv
          rw [e1.read, e1.read, if_neg (by omega), if_pos rfl, if_pos rfl]
          exact take_drop_256 s
        · rw [← h3.done p (by omega)]
          unfold pgv
          rw [e1.read, e1.read, if_neg (by omega), if_neg (by omega), if_neg (by omega), if_neg (by omega)]
      · rw [← h3.left p (by omega)]
        unfold pgv
        rw [e1.read, e1.read, if_neg (by omega), if_neg (by omega), if_neg (by omega), if_neg (by omega)]
      · rw [e1.read, if_neg (by omega), if_neg (by omega)]
        exact h3.others j hj
/-- A Repair where no power fails. -/
theorem repair_calm {a : ArM} {d : DevM} (hfit : a.fits d.size) (hd : d.fits) (ho : d.off = false) (hf : d.fuse = 0) :
    (trepairM a d).1 = (((fixes a (bestN a d a.sl.toNat) d a.pg.toNat : Nat) : Int), (0 : Int)) ∧ RepDone a (bestN a d a.sl.toNat) d (trepairM a d).2 a.pg.toNat ∧ (d.wait = [] → (trepairM a d).2.wait = []) := by
  have hpg : (a.pg.toNat : Int) ≤ a.pg := by have := hfit.2.2.2.1; omega
  obtain ⟨h1, h2, h3⟩ := rep_calm hfit ho hf (bestN_len a hd a.sl.toNat) a.pg.toNat hpg
  unfold trepairM endM
  rw [if_neg (by simp [h1])]
  by_cases hz : (repM a (bestN a d a.sl.toNat) d a.pg.toNat).2.2 = 0
  · rw [if_pos hz]
    rw [h2] at hz
    refine ⟨by rw [hz]; rfl, h3, fun hw => ?_⟩
    have hn : ∀ k, k < a.pg.toNat → fixB a (bestN a d a.sl.toNat) d k = none := by
      have : ∀ n, fixes a (bestN a d a.sl.toNat) d n = 0 → ∀ k, k < n → fixB a (bestN a d a.sl.toNat) d k = none := by
        intro n
        induction n with
        | zero => intro _ k hk; omega
        | succ n ih =>
          intro hn k hk
          simp only [fixes] at hn
          by_cases e : k = n
          · subst e
            cases hfk : fixB a (bestN a d a.sl.toNat) d k with
            | none => rfl
            | some s => rw [hfk] at hn; simp at hn
          · exact ih (by omega) k (by omega)
      exact this _ hz
    rw [repM_none _ hn]
    exact hw
  · rw [if_neg hz]
    have hs := sync_calm h3.off h3.fuse
    obtain ⟨e, hw⟩ := sync_done hs
    rw [if_neg (by simp [hs])]
    refine ⟨by rw [h2], ⟨e.off, e.fuse h3.fuse, e.size.trans h3.size, fun p hp => ?_, fun p hp => ?_, fun j hj => ?_⟩, fun _ => hw⟩
    · rw [← h3.done p hp]; unfold pgv; rw [e.read, e.read]
    · rw [← h3.left p hp]; unfold pgv; rw [e.read, e.read]
    · rw [e.read]; exact h3.others j hj
theorem endM_cmds (r : Int × DevM × Nat) : (endM r).2.cmds ≤ r.2.1.cmds + 1 := by
  have h := syncM_cmds r.2.1
  unfold endM
  split
  · exact Nat.le_succ _
  · split
    · exact Nat.le_succ _
    · split
      · exact h
      · exact h
theorem trepair_cmds (a : ArM) (d : DevM) (ho : d.off = false) : (trepairM a d).2.cmds ≤ d.cmds + 2 * a.pg.toNat + 1 := by
  have h1 := endM_cmds (repM a (bestN a d a.sl.toNat) d a.pg.toNat)
  have h2 := (repM_all a (bestN a d a.sl.toNat) d ho a.pg.toNat).2.1
  unfold trepairM
  omega
theorem endM_size (r : Int × DevM × Nat) : (endM r).2.size = r.2.1.size := by
  have h := syncM_size r.2.1
  unfold endM
  split
  · rfl
  · split
    · rfl
    · split
      · exact h
      · exact h
theorem trepair_size (a : ArM) (d : DevM) (ho : d.off = false) : (trepairM a d).2.size = d.size :=
  (endM_size _).trans (repM_all a (bestN a d a.sl.toNat) d ho a.pg.toNat).1
/-- A second one finds nothing. -/
theorem repair_again {a : ArM} {d d' : DevM} (hfit : a.fits d.size) (hr : RepDone a (bestN a d a.sl.toNat) d d' a.pg.toNat) : trepairM a d' = ((0, 0), d') := by
  obtain ⟨f1, f2, f3, f4, f5, f6, f7⟩ := hfit
  have hb : bestN a d' a.sl.toNat = bestN a d a.sl.toNat := bestN_same _ (fun i hi => ⟨hr.others _ (by omega), hr.others _ (by omega), hr.others _ (by omega)⟩)
  unfold trepairM
  rw [hb, repM_none _ (fun k hk => ?_)]
  · unfold endM; simp
  · have hd := hr.done k hk
    cases hfk : fixB a (bestN a d a.sl.toNat) d k with
    | none =>
      rw [hfk] at hd
      rw [fixB_at hd]
      exact hfk
    | some s =>
      rw [hfk] at hd
      dsimp only at hd
      refine fixB_whole ?_
      rw [hd]
      unfold fixB at hfk
      cases hbk : bestN a d a.sl.toNat k with
      | none => rw [hbk] at hfk; cases hfk
      | some t =>
        rw [hbk] at hfk
        dsimp only at hfk
        split at hfk
        · cases hfk
        · cases hfk; exact bestN_whole a d _ _ _ hbk
end
end Go.Proofs.YtjlcbabnkhdgpaaGreatDoor
namespace Go.Proofs.YtjlcbabnkhdgpaaGreatDoor
section
set_option linter.unusedSimpArgs false
set_option linter.unusedVariables false
open Go.RowKit Go.Maps

theorem i64_mask (n : Int) (i : Nat) (hi : i ≤ 62) : bits .and .i64 n ((2 ^ i - 1 : Nat) : Int) = n % ((2 ^ i : Nat) : Int) := by
  have hp : 0 < 2 ^ i := Nat.two_pow_pos i
  have hle : 2 ^ i ≤ 2 ^ 62 := Nat.pow_le_pow_right (by decide) hi
  have hm : (BitVec.ofInt 64 ((2 ^ i - 1 : Nat) : Int)).toNat = 2 ^ i - 1 := by
    rw [BitVec.toNat_ofInt]
    have : ((2 ^ i - 1 : Nat) : Int) % ((2 ^ 64 : Nat) : Int) = ((2 ^ i - 1 : Nat) : Int) := Int.emod_eq_of_lt (by omega) (by omega)
    rw [this]
    simp
  have key : (BitVec.ofInt 64 n &&& BitVec.ofInt 64 ((2 ^ i - 1 : Nat) : Int)).toNat = (n % ((2 ^ 64 : Nat) : Int)).toNat % 2 ^ i := by
    rw [BitVec.toNat_and, BitVec.toNat_ofInt, hm, Nat.and_two_pow_sub_one_eq_mod]
  show IntKind.i64.wrap ((BitVec.ofInt 64 n &&& BitVec.ofInt 64 ((2 ^ i - 1 : Nat) : Int)).toNat : Nat) = _
  rw [key]
  have hd : ((2 ^ i : Nat) : Int) ∣ ((2 ^ 64 : Nat) : Int) := Int.natCast_dvd_natCast.2 (Nat.pow_dvd_pow 2 (by omega))
  have h0 : 0 ≤ n % ((2 ^ 64 : Nat) : Int) := Int.emod_nonneg _ (by decide)
  have e : (((n % ((2 ^ 64 : Nat) : Int)).toNat % 2 ^ i : Nat) : Int) = n % ((2 ^ i : Nat) : Int) := by
    rw [Int.natCast_emod, Int.toNat_of_nonneg h0, Int.emod_emod_of_dvd _ hd]
  rw [e]
  have h1 : 0 ≤ n % ((2 ^ i : Nat) : Int) := Int.emod_nonneg _ (by omega)
  have h2 : n % ((2 ^ i : Nat) : Int) < ((2 ^ i : Nat) : Int) := Int.emod_lt_of_pos _ (by omega)
  rw [IntKind.wrap_i64]
  omega

abbrev leafA : ArM := ⟨0, 3, 10, 8⟩
theorem leaves_plain {d1 : DevM} {other : List UInt8} {imgs : List Img} {n : Int} {ks : List Int} (hw : d1.wait = []) (hs : d1.size = 40) (hp : pgv leafA d1 7 = other) (hi : ∀ x ∈ imgs, (0 ≤ x.1 ∧ x.1 ≤ 6) ∧ x.2.length = 512) :
    pgv leafA (onM (twriteM leafA (fuseM d1 n ks) imgs).2) 7 = other := by
  have hG : AllG (fun j s => (j = 24 → s = readM d1 24) ∧ (j = 25 → s = readM d1 25)) d1 := AllG.of_nowait hw (fun j => ⟨fun e => by rw [e], fun e => by rw [e]⟩)
  have hL : Lays leafA (fun j s => (j = 24 → s = readM d1 24) ∧ (j = 25 → s = readM d1 25)) imgs := by
    constructor
    · intro x hx i hi'
      have hi3 : (i : Int) < 3 := hi'
      refine ⟨⟨fun e => ?_, fun e => ?_⟩, ⟨fun e => ?_, fun e => ?_⟩, ⟨fun e => ?_, fun e => ?_⟩⟩ <;> (exfalso; revert e; simp only [leafA]; omega)
    · intro x hx
      obtain ⟨⟨h0, h6⟩, _⟩ := hi x hx
      refine ⟨⟨fun e => ?_, fun e => ?_⟩, ⟨fun e => ?_, fun e => ?_⟩⟩ <;> (exfalso; revert e; simp only [leafA]; omega)
  have h := ((hG.fuse n ks).twrite hL (fun x hx => (hi x hx).2) (by decide)).on
  rw [← hp]
  show readM _ 24 ++ readM _ 25 = readM d1 24 ++ readM d1 25
  rw [(h.read 24).1 rfl, (h.read 25).2 rfl]
theorem leaves_end {d4 : DevM} {other : List UInt8} (hd : d4.fits) (hs : d4.size = 40) (ho : d4.off = false) (hf : d4.fuse = 0) (hp : pgv leafA d4 7 = other) (hwh : wholeB other = true) :
    ∃ c : Nat, c ≤ 7 ∧ (trepairM leafA d4).1 = ((c : Int), 0) ∧ (trepairM leafA d4).2.size = 40 ∧ (trepairM leafA d4).2.off = false ∧ trepairM leafA (trepairM leafA d4).2 = ((0, 0), (trepairM leafA d4).2) ∧ treadM leafA (trepairM leafA d4).2 7 = (other, 0) := by
  have hfit : leafA.fits d4.size := by rw [hs]; simp [ArM.fits, leafA]
  obtain ⟨h1, h2, _⟩ := repair_calm hfit hd ho hf
  have h7 : fixB leafA (bestN leafA d4 leafA.sl.toNat) d4 7 = none := fixB_whole (by rw [show ((7 : Nat) : Int) = 7 from rfl, hp]; exact hwh)
  refine ⟨_, ?_, h1, h2.size.trans hs, h2.off, repair_again hfit h2, ?_⟩
  · show fixes leafA (bestN leafA d4 leafA.sl.toNat) d4 8 ≤ 7
    have := fixes_le leafA (bestN leafA d4 leafA.sl.toNat) d4 7
    have e : fixes leafA (bestN leafA d4 leafA.sl.toNat) d4 8 = fixes leafA (bestN leafA d4 leafA.sl.toNat) d4 7 := by
      show _ + (if (fixB leafA (bestN leafA d4 leafA.sl.toNat) d4 7).isSome = true then 1 else 0) = _
      rw [h7]; rfl
    rw [e]; exact this
  · rw [tread_on h2.off (by decide) (by decide)]
    have := h2.done 7 (by decide)
    rw [h7] at this
    rw [show ((7 : Nat) : Int) = 7 from rfl] at this
    rw [this]
    show (pgv leafA d4 7, (0 : Int)) = _
    rw [hp]

/-- The first k images of the law. -/
def leafI (l : List (Int × List UInt8)) (k : Nat) : List Img := upto (fun i => ((l.getD i (0, [])).1 % 8 % 7, imgB (2 + i) (l.getD i (0, [])).2)) k
theorem leafI_succ (l : List (Int × List UInt8)) (k : Nat) (hk : k < l.length) : leafI l (k + 1) = leafI l k ++ [(l[k].1 % 8 % 7, imgB (2 + k) l[k].2)] := by
  unfold leafI
  rw [upto_succ]
  simp [List.getD, hk]
theorem leafI_length (l : List (Int × List UInt8)) (k : Nat) : (leafI l k).length = k := upto_length _ _
theorem leafI_mem (l : List (Int × List UInt8)) (k : Nat) (hk : k ≤ 1000000) (x : Img) (hx : x ∈ leafI l k) : (0 ≤ x.1 ∧ x.1 ≤ 6) ∧ x.2.length = 512 := by
  unfold leafI upto at hx
  obtain ⟨i, hi, rfl⟩ := List.mem_map.1 hx
  rw [List.mem_range] at hi
  exact ⟨by dsimp only; omega, imgB_length (by omega) (by omega)⟩
theorem below_sz {n0 : Nat} {w w' : World} (h : Below n0 w w') (hn : n0 ≤ w.heap.size) : n0 ≤ w'.heap.size := Nat.le_trans hn h.size

end
end Go.Proofs.YtjlcbabnkhdgpaaGreatDoor
namespace Go.Proofs.YtjlcbabnkhdgpaaGreatDoor
section
set_option linter.unusedSimpArgs false
set_option linter.unusedVariables false
open Go.RowKit Go.Maps

def rp (x : Int) : Int := (x.tmod 15 + 15).tmod 15
theorem rp_in (x : Int) : 0 ≤ rp x ∧ rp x < 15 := by
  have h1 : -15 < x.tmod 15 ∧ x.tmod 15 < 15 := by
    have h2 := Int.tmod_lt_of_pos x (show (0 : Int) < 15 by decide)
    have h3 := Int.tmod_lt_of_pos (-x) (show (0 : Int) < 15 by decide)
    rw [Int.neg_tmod] at h3
    omega
  unfold rp
  rw [Int.tmod_eq_emod_of_nonneg (by omega)]
  omega
def roundI (l : List (Int × List UInt8)) (k : Nat) : List Img := upto (fun i => (rp (l.getD i (0, [])).1, imgB (1 + i) (l.getD i (0, [])).2)) k
theorem roundI_succ (l : List (Int × List UInt8)) (k : Nat) (hk : k < l.length) : roundI l (k + 1) = roundI l k ++ [(rp l[k].1, imgB (1 + k) l[k].2)] := by
  unfold roundI
  rw [upto_succ]
  simp [List.getD, hk]
theorem roundI_length (l : List (Int × List UInt8)) (k : Nat) : (roundI l k).length = k := upto_length _ _
theorem roundI_mem (l : List (Int × List UInt8)) (k : Nat) (hk : k ≤ 1000000) (x : Img) (hx : x ∈ roundI l k) : (0 ≤ x.1 ∧ x.1 < 15) ∧ x.2.length = 512 ∧ wholeB x.2 = true := by
  unfold roundI upto at hx
  obtain ⟨i, hi, rfl⟩ := List.mem_map.1 hx
  rw [List.mem_range] at hi
  exact ⟨rp_in _, imgB_length (by omega) (by omega), imgB_whole (by omega) (by omega)⟩
section
variable {w w' : World} {n0 ga g m mb N sz n : Nat} {v kv u : Value} {a : ArM} {d : DevM} {T : TypeId} {xs : List Value} {f : Int → Option (List UInt8)}
/-- What is written into another map leaves an area. -/
theorem Tw.farMap (h : Tw n0 w ga g m a d) (hM : MapIs w mb f N) (hne : mb ≠ m) (hn : n0 ≤ mb) (hg : w.grownBy w' (some mb)) : Tw n0 w' ga g m a d := by
  obtain ⟨es, c, hb⟩ := hM.kind
  obtain ⟨q1, ⟨⟨v, kv, hD⟩, q2⟩, q3, q4, q5⟩ := h
  have hblk : ∀ (b : Nat) (T : TypeId) (cs : Array Value), Blk w b T cs → b ≠ mb := fun b T cs h e => by
    subst e
    unfold Blk at h
    rw [hb] at h
    cases h
  have hrow : ∀ (T : TypeId) (sz : Nat) (u : Value) (n : Nat) (xs : List Value), w.ownsRow n0 T sz u n xs → w'.ownsRow n0 T sz u n xs := fun T sz u n xs h => ownsRow_grown h hg (fun gg e cs fz hh => by injection e with e; subst e; rw [hb] at hh; cases hh)
  refine ⟨?_, ⟨⟨v, kv, ?_⟩, q2⟩, q3, ?_, q5⟩
  · unfold Ar at *
    exact q1.grown hg (fun e => hblk _ _ _ q1 (by injection e))
  · unfold DevAt at *
    obtain ⟨r1, r2, r3, r4, r5, r6, r7⟩ := hD
    exact ⟨r1, r2.grown hg (fun e => hblk _ _ _ r2 (by injection e)), r3.kept hg (fun e => hne (by injection e with e; exact e.symm)), hrow _ _ _ _ _ r4, hrow _ _ _ _ _ r5, r6, Nat.le_trans r7 hg.size⟩
  · intro i hi
    refine hg.cell (q4 i hi) (fun e => ?_)
    injection e with e
    dsimp only at e
    omega
theorem row_farMap (h : w.ownsRow n0 T sz u n xs) (hM : MapIs w mb f N) (hg : w.grownBy w' (some mb)) : w'.ownsRow n0 T sz u n xs := by
  obtain ⟨es, c, hb⟩ := hM.kind
  exact ownsRow_grown h hg (fun gg e cs fz hh => by injection e with e; subst e; rw [hb] at hh; cases hh)
theorem map_farRow (hM : MapIs w mb f N) (h : w.ownsRow n0 T sz u n xs) (hg : w.grownBy w' u.ownBlock) : MapIs w' mb f N := by
  obtain ⟨es, c, hb⟩ := hM.kind
  refine hM.kept hg (fun e => ?_)
  obtain ⟨_, hh⟩ := h
  rcases hh with ⟨hv', _⟩ | ⟨g', cap, cur, hv', hg', hh, _⟩
  · subst hv'; simp [Value.ownBlock] at e
  · subst hv'; simp [Value.ownBlock] at e; subst e; rw [hb] at hh; cases hh
end
theorem wrap64_in (x : Int) (h : -9223372036854775808 ≤ x ∧ x ≤ 9223372036854775807) : wrap64 x = x := by unfold wrap64; omega
theorem kept_none (f : Int → Option (List UInt8)) (l : List Wr) (k : Nat) : keptN f l [] k = f := by
  induction k with
  | zero => rfl
  | succ k ih => simp only [keptN]; rw [if_neg (by simp [keepAt])]; exact ih
/-- The power fails, and comes again: what was synced is there. -/
theorem blow_read {d : DevM} (hw : d.wait = []) (j : Int) : readM (onM (failM d [])) j = readM d j := by
  rw [readM_nowait (show (onM (failM d [])).wait = [] from rfl), readM_nowait hw]
  unfold durM
  have e : (onM (failM d [])).last = d.last := kept_none d.last d.wait d.wait.length
  rw [e]

end
end Go.Proofs.YtjlcbabnkhdgpaaGreatDoor
namespace Go.Proofs.YtjlcbabnkhdgpaaGreatDoor
section
set_option linter.unusedSimpArgs false
set_option linter.unusedVariables false

theorem noughts_eq {x : List UInt8} (h : noughtsB x = true) : x = List.replicate x.length 0 := by
  unfold noughtsB at h
  rw [List.all_eq_true] at h
  exact List.eq_replicate_iff.2 ⟨rfl, fun b hb => by simpa using h b hb⟩
theorem whole_twice {x : List UInt8} (hl : x.length = 512) (h : wholeB x = true) : twiceB x = true := by
  unfold wholeB at h
  rw [Bool.or_eq_true] at h
  rcases h with h | h
  · rw [noughts_eq h, hl]; decide +kernel
  · rw [Bool.and_eq_true] at h; exact h.2
theorem twice_ends {x : List UInt8} (h : twiceB x = true) : x.take 6 = (x.take 508).drop 502 := by
  unfold twiceB at h
  rw [beq_iff_eq, List.take_take] at h
  exact h
/-- Two halves that go together are of one number. -/
theorem whole_same {u v : List UInt8} (hu : u.length = 512) (hv : v.length = 512) (wv : wholeB v = true) (h : wholeB (u.take 256 ++ v.drop 256) = true) : lsnB u = lsnB v := by
  have h1 := whole_twice (by simp [hu, hv]) h
  have h2 := halved_twice (s := u) (t := v) (by omega)
  unfold halved at h2
  rw [h2, beq_iff_eq, ← twice_ends (whole_twice hv wv)] at h1
  unfold lsnB
  rw [h1]
theorem lsn_pos_noughts {s : List UInt8} (h : 0 < lsnB s) : noughtsB s = false := by
  cases hn : noughtsB s with
  | false => rfl
  | true =>
    exfalso
    have e := noughts_eq hn
    unfold lsnB at h
    rw [e, List.take_replicate] at h
    have : ∀ n, getB (List.replicate n 0) = 0 := by
      intro n
      induction n with
      | zero => rfl
      | succ n ih => rw [List.replicate_succ', getB_snoc, ih]; rfl
    rw [this] at h
    omega

/-- What page p may hold behind a Write of l: what it had, or what was to be written. -/
def Cand (now : Int → List UInt8) (l : List Img) (p : Int) (s : List UInt8) : Prop := s = now p ∨ (p, s) ∈ l
/-- Images whose numbers rise, all greater than those of what is there. -/
structure Rising (a : ArM) (now : Int → List UInt8) (l : List Img) : Prop where
  good : ∀ x ∈ l, GoodI a x ∧ wholeB x.2 = true
  rise : l.Pairwise (fun x y => lsnB x.2 < lsnB y.2)
  old : ∀ p, 0 ≤ p → p < a.pg → (now p).length = 512 ∧ wholeB (now p) = true
  less : ∀ p, 0 ≤ p → p < a.pg → ∀ x ∈ l, lsnB (now p) < lsnB x.2
section
variable {a : ArM} {now : Int → List UInt8} {l : List Img}
theorem Rising.pos (h : Rising a now l) (hp : 1 ≤ a.pg) (x : Img) (hx : x ∈ l) : 0 < lsnB x.2 := by
  have := h.less 0 (by omega) (by omega) x hx
  omega
theorem Rising.cand (h : Rising a now l) {p : Int} (h0 : 0 ≤ p) (h1 : p < a.pg) {s : List UInt8} (hc : Cand now l p s) : s.length = 512 ∧ wholeB s = true := by
  rcases hc with rfl | hc
  · exact h.old p h0 h1
  · obtain ⟨⟨_, g1⟩, g2⟩ := h.good _ hc
    exact ⟨g1, g2⟩
theorem pairwise_eq : ∀ {l : List Img}, l.Pairwise (fun x y => lsnB x.2 < lsnB y.2) → ∀ {x y : Img}, x ∈ l → y ∈ l → lsnB x.2 = lsnB y.2 → x = y
  | [], _, _, _, h, _, _ => by cases h
  | z :: l, hp, x, y, hx, hy, e => by
    rw [List.pairwise_cons] at hp
    rcases List.mem_cons.1 hx with ex | hx'
    · rcases List.mem_cons.1 hy with ey | hy'
      · rw [ex, ey]
      · have := hp.1 y hy'; rw [ex] at e; omega
    · rcases List.mem_cons.1 hy with ey | hy'
      · have := hp.1 x hx'; rw [ey] at e; omega
      · exact pairwise_eq hp.2 hx' hy' e
theorem Rising.one (h : Rising a now l) {p : Int} (h0 : 0 ≤ p) (h1 : p < a.pg) {u v : List UInt8} (hu : Cand now l p u) (hv : Cand now l p v) (e : lsnB u = lsnB v) : u = v := by
  rcases hu with rfl | hu <;> rcases hv with rfl | hv
  · rfl
  · have := h.less p h0 h1 _ hv; dsimp only at this; omega
  · have := h.less p h0 h1 _ hu; dsimp only at this; omega
  · have := pairwise_eq h.rise hu hv e
    injection this
theorem Rising.torn (h : Rising a now l) {p : Int} (h0 : 0 ≤ p) (h1 : p < a.pg) {u v : List UInt8} (hu : Cand now l p u) (hv : Cand now l p v) (hw : wholeB (u.take 256 ++ v.drop 256) = true) : u.take 256 ++ v.drop 256 = u := by
  obtain ⟨u1, u2⟩ := h.cand h0 h1 hu
  obtain ⟨v1, v2⟩ := h.cand h0 h1 hv
  have := h.one h0 h1 hu hv (whole_same u1 v1 v2 hw)
  subst this
  exact take_drop_256 u
end

/-- A device that was interrupted in a Write of l, and is on again. -/
structure Torn (a : ArM) (now : Int → List UInt8) (l : List Img) (d : DevM) : Prop where
  wait : d.wait = []
  size : a.fits d.size
  halves : ∀ p, 0 ≤ p → p < a.pg → ∃ u v, Cand now l p u ∧ Cand now l p v ∧ readM d (a.fr + 2 * p) = u.take 256 ∧ readM d (a.fr + 2 * p + 1) = v.drop 256
  mends : ∀ p, 0 ≤ p → p < a.pg → wholeB (pgv a d p) = false → ∃ s, bestN a d a.sl.toNat p = some s ∧ (p, s) ∈ l
/-- What no power's fail may pass: the error is 7, and nothing waits. -/
def Fails (r : Int × DevM) (d : DevM) : Prop := r.1 = 0 ∨ (r.1 = 7 ∧ r.2.off = true ∧ r.2.wait = [] ∧ r.2.size = d.size)
theorem fails_write {d : DevM} {i : Int} {t : List UInt8} (ho : d.off = false) (hi : 0 ≤ i ∧ i < d.size) (ht : t.length ≤ 256) : Fails (writeM d i t) d := by
  unfold writeM
  rw [if_neg (by simp [ho]), if_neg (by omega), if_neg (by omega)]
  split
  · exact Or.inr ⟨rfl, rfl, rfl, rfl⟩
  · exact Or.inl rfl
theorem fails_sync {d : DevM} (ho : d.off = false) : Fails (syncM d) d := by
  unfold syncM
  rw [if_neg (by simp [ho])]
  split
  · exact Or.inr ⟨rfl, rfl, rfl, rfl⟩
  · exact Or.inl rfl
theorem fails_put {d : DevM} {i : Int} {s : List UInt8} (ho : d.off = false) (hi : 0 ≤ i ∧ i + 1 < d.size) (hs : s.length = 512) : Fails (putM d i s) d := by
  have h1 := fails_write (t := s.take 256) ho (i := i) ⟨hi.1, by omega⟩ (by simp; omega)
  unfold putM
  split
  · exact h1
  · rename_i hz
    have e := write_done (by simpa using hz)
    have h2 := fails_write (d := (writeM d i (s.take 256)).2) (i := i + 1) (t := s.drop 256) e.off ⟨by omega, by rw [e.size]; omega⟩ (by simp; omega)
    rcases h2 with h2 | ⟨q1, q2, q3, q4⟩
    · exact Or.inl h2
    · exact Or.inr ⟨q1, q2, q3, q4.trans e.size⟩
theorem fails_run (f : DevM → Nat → Img → Int × DevM) (l : List Img) (size : Int) (hs : ∀ d i x, d.off = false → d.size = size → x ∈ l → (f d i x).1 = 0 → (f d i x).2.off = false ∧ (f d i x).2.size = size) (n : Nat)
    (hf : ∀ d i x, d.off = false → d.size = size → x ∈ l → i < n → Fails (f d i x) d) (d : DevM) (ho : d.off = false) (hz : d.size = size) (k : Nat) (hk : k + l.length ≤ n) : Fails (runM f d k l) d := by
  induction l generalizing d k with
  | nil => exact Or.inl rfl
  | cons x l ih =>
    have h1 := hf d k x ho hz (by simp) (by simp at hk; omega)
    simp only [runM]
    split
    · exact h1
    · rename_i hzz
      obtain ⟨o1, s1⟩ := hs d k x ho hz (by simp) (by simpa using hzz)
      have h2 := ih (fun d i y h h' hy => hs d i y h h' (by simp [hy])) (fun d i y h h' hy => hf d i y h h' (by simp [hy])) (f d k x).2 o1 s1 (k + 1) (by simp at hk; omega)
      rcases h2 with h2 | ⟨q1, q2, q3, q4⟩
      · exact Or.inl h2
      · exact Or.inr ⟨q1, q2, q3, q4.trans (s1.trans hz.symm)⟩
theorem fails_slots {a : ArM} {d : DevM} {l : List Img} (hfit : a.fits d.size) (hl : (l.length : Int) ≤ a.sl) (hx : ∀ x ∈ l, x.2.length = 512) (ho : d.off = false) : Fails (runM (slotM a) d 0 l) d := by
  obtain ⟨f1, f2, f3, f4, f5, f6, f7⟩ := hfit
  refine fails_run (slotM a) l d.size (fun d' i x h hs hx' he => ?_) a.sl.toNat (fun d' i x h hs hx' hi => ?_) d ho rfl 0 (by omega)
  · have e := slot_done (hx x hx') he
    exact ⟨e.off, e.size.trans hs⟩
  · have h1 := fails_write (t := nameB x.1) h (i := a.sat + 3 * i) (by rw [hs]; omega) (by unfold nameB sealB; simp [putB_length, markB_length])
    unfold slotM
    split
    · exact h1
    · rename_i hz
      have e := write_done (by simpa using hz)
      have h2 := fails_put (d := (writeM d' (a.sat + 3 * i) (nameB x.1)).2) (i := a.sat + 3 * i + 1) e.off ⟨by omega, by rw [e.size, hs]; omega⟩ (hx x hx')
      rcases h2 with h2 | ⟨q1, q2, q3, q4⟩
      · exact Or.inl h2
      · exact Or.inr ⟨q1, q2, q3, q4.trans e.size⟩
theorem fails_pages {a : ArM} {d : DevM} {l : List Img} (hfit : a.fits d.size) (hx : ∀ x ∈ l, GoodI a x) (ho : d.off = false) : Fails (runM (pageM a) d 0 l) d := by
  obtain ⟨f1, f2, f3, f4, f5, f6, f7⟩ := hfit
  refine fails_run (pageM a) l d.size (fun d' i x h hs hx' he => ?_) l.length (fun d' i x h hs hx' hi => ?_) d ho rfl 0 (by omega)
  · have e := page_done (hx x hx').2 he
    exact ⟨e.off, e.size.trans hs⟩
  · obtain ⟨hp, hl⟩ := hx x hx'
    exact fails_put h (by rw [hs]; omega) hl
end
end Go.Proofs.YtjlcbabnkhdgpaaGreatDoor
namespace Go.Proofs.YtjlcbabnkhdgpaaGreatDoor
section
set_option linter.unusedSimpArgs false
set_option linter.unusedVariables false

/-- The best of the slots is no less than any. -/
theorem best_ge {a : ArM} {d : DevM} {i : Nat} (k : Nat) (hi : i < k) (hs : slotB a d i = true) : ∃ s, bestN a d k (slotN a d i : Int) = some s ∧ lsnB (slotS a d i) ≤ lsnB s := by
  induction k with
  | zero => omega
  | succ k ih =>
    simp only [bestN]
    by_cases hb : betterB a d (bestN a d k) k = true
    · rw [if_pos hb]
      unfold betterB at hb
      rw [Bool.and_eq_true] at hb
      by_cases e : (slotN a d i : Int) = (slotN a d k : Int)
      · rw [if_pos e]
        refine ⟨_, rfl, ?_⟩
        by_cases ik : i = k
        · rw [ik]; exact Nat.le_refl _
        · obtain ⟨s, h1, h2⟩ := ih (by omega)
          have h3 := hb.2
          rw [show slotN a d k = slotN a d i by omega, h1] at h3
          have := of_decide_eq_true h3
          omega
      · rw [if_neg e]
        have hik : i < k := by
          by_cases ik : i = k
          · exact absurd (by rw [ik]) e
          · omega
        exact ih hik
    · rw [if_neg hb]
      by_cases ik : i = k
      · subst ik
        unfold betterB at hb
        rw [hs, Bool.true_and] at hb
        cases hm : bestN a d i (slotN a d i : Int) with
        | none => rw [hm] at hb; exact absurd rfl hb
        | some o =>
          rw [hm] at hb
          dsimp only at hb
          refine ⟨o, rfl, ?_⟩
          have := of_decide_eq_false (Bool.eq_false_iff.2 hb)
          omega
      · exact ih (by omega)
section
variable {a : ArM} {G : Int → List UInt8 → Prop} {d : DevM} {l : List Img}
theorem AllG.slots1 (h : AllG G d) (hl : ∀ x ∈ l, ∀ i : Nat, (i : Int) < a.sl → G (a.sat + 3 * i) (padB (nameB x.1)) ∧ G (a.sat + 3 * i + 1) (x.2.take 256) ∧ G (a.sat + 3 * i + 1 + 1) (x.2.drop 256)) (hx : ∀ x ∈ l, x.2.length = 512) (hn : (l.length : Int) ≤ a.sl) : AllG G (runM (slotM a) d 0 l).2 := by
  refine AllG.run (slotM a) l 0 (fun d i x hx' _ hi hd => ?_) h
  obtain ⟨h1, h2, h3⟩ := hl x hx' i (by omega)
  unfold slotM
  split
  · exact hd.write h1
  · exact (hd.write h1).put (hx x hx') h2 h3
theorem AllG.pages1 (h : AllG G d) (hl : ∀ x ∈ l, G (a.fr + 2 * x.1) (x.2.take 256) ∧ G (a.fr + 2 * x.1 + 1) (x.2.drop 256)) (hx : ∀ x ∈ l, x.2.length = 512) : AllG G (runM (pageM a) d 0 l).2 := by
  refine AllG.run (pageM a) l 0 (fun d i x hx' _ hi hd => ?_) h
  obtain ⟨h1, h2⟩ := hl x hx'
  exact hd.put (hx x hx') h1 h2
/-- A written name is read again. -/
theorem slot_named {i : Nat} {x : Img} (hx : GoodI a x) (hs : a.pg ≤ 800) (h0 : readM d (a.sat + 3 * i) = padB (nameB x.1)) : (slotN a d i : Int) = x.1 ∧ (readM d (a.sat + 3 * i)).take 8 = nameB (slotN a d i) := by
  obtain ⟨⟨p0, p1⟩, _⟩ := hx
  have hn : slotN a d i = x.1.toNat := by
    unfold slotN
    rw [h0]
    have e : padB (nameB x.1) = 67 :: 84 :: (putB 2 x.1.toNat ++ (markB ([67, 84] ++ putB 2 x.1.toNat) ++ List.replicate (256 - (nameB x.1).length) 0)) := by
      unfold padB nameB sealB
      simp
    rw [e]
    show getB ((putB 2 x.1.toNat ++ _).take 2) = _
    rw [List.take_left' (putB_length 2 _), getB_putB _ _ (by omega)]
  refine ⟨by rw [hn]; omega, ?_⟩
  rw [h0, hn, show ((x.1.toNat : Nat) : Int) = x.1 by omega]
  unfold padB
  exact List.take_left' (by unfold nameB; rw [sealB_length]; simp [putB_length])
end

/-- Each sector has its bytes. -/
def Full (d : DevM) : Prop := ∀ j, (readM d j).length = 256
/-- The slots' images are older than these. -/
def Older (a : ArM) (d : DevM) (l : List Img) : Prop := ∀ i : Nat, (i : Int) < a.sl → ∀ x ∈ l, getB ((readM d (a.sat + 3 * i + 1)).take 6) < lsnB x.2
theorem lsnB_slot {a : ArM} {d : DevM} (hf : Full d) (i : Nat) : lsnB (slotS a d i) = getB ((readM d (a.sat + 3 * i + 1)).take 6) := by
  unfold lsnB slotS
  rw [List.take_append_of_le_length (by rw [hf]; omega)]
theorem pgv_halves {a : ArM} {d : DevM} (hf : Full d) (p : Int) : readM d (a.fr + 2 * p) = (pgv a d p).take 256 ∧ readM d (a.fr + 2 * p + 1) = (pgv a d p).drop 256 := by
  unfold pgv
  exact ⟨(List.take_left' (hf _)).symm, (List.drop_left' (hf _)).symm⟩
theorem onM_read (d : DevM) (j : Int) : readM (onM d) j = readM d j := rfl
theorem onM_best (a : ArM) (d : DevM) (k : Nat) : bestN a (onM d) k = bestN a d k := bestN_same k (fun _ _ => ⟨rfl, rfl, rfl⟩)

section
variable {a : ArM} {now : Int → List UInt8} {l c : List Img} {d : DevM}
/-- A round whose power fails. -/
theorem round_fails (hfit : a.fits d.size) (ho : d.off = false) (hw : d.wait = []) (hF : Full d) (hn : (c.length : Int) ≤ a.sl) (hc : ∀ x ∈ c, x ∈ l) (hr : Rising a now l)
    (hpg : ∀ p, 0 ≤ p → p < a.pg → Cand now l p (pgv a d p)) (hold : Older a d c) (h : (roundM a d c).1 ≠ 0) :
    (roundM a d c).1 = 7 ∧ (roundM a d c).2.off = true ∧ Torn a now l (roundM a d c).2 := by
  have hgood : ∀ x ∈ c, GoodI a x ∧ wholeB x.2 = true := fun x hx => hr.good x (hc x hx)
  have hx5 : ∀ x ∈ c, x.2.length = 512 := fun x hx => (hgood x hx).1.2
  have hfit' := hfit
  obtain ⟨f1, f2, f3, f4, f5, f6, f7⟩ := hfit'
  have torn1 : ∀ d', Fails d' d → (∀ p, 0 ≤ p → p < a.pg → readM d'.2 (a.fr + 2 * p) = readM d (a.fr + 2 * p) ∧ readM d'.2 (a.fr + 2 * p + 1) = readM d (a.fr + 2 * p + 1)) → d'.1 ≠ 0 → d'.1 = 7 ∧ d'.2.off = true ∧ Torn a now l d'.2 := by
    intro d' hf hp hz
    rcases hf with hf | ⟨q1, q2, q3, q4⟩
    · exact absurd hf hz
    · refine ⟨q1, q2, q3, by rw [q4]; exact hfit, fun p p0 p1 => ?_, fun p p0 p1 hv => ?_⟩
      · obtain ⟨e1, e2⟩ := hp p p0 p1
        obtain ⟨g1, g2⟩ := pgv_halves (a := a) hF p
        exact ⟨_, _, hpg p p0 p1, hpg p p0 p1, by rw [e1, g1], by rw [e2, g2]⟩
      · obtain ⟨e1, e2⟩ := hp p p0 p1
        have e : pgv a d'.2 p = pgv a d p := by unfold pgv; rw [e1, e2]
        rw [e, (hr.cand p0 p1 (hpg p p0 p1)).2] at hv
        cases hv
  obtain ⟨G1, hG1⟩ : ∃ G : Int → List UInt8 → Prop, G = fun j s => ∀ p, 0 ≤ p → p < a.pg → (j = a.fr + 2 * p ∨ j = a.fr + 2 * p + 1) → s = readM d j := ⟨_, rfl⟩
  have a0 : AllG G1 d := AllG.of_nowait hw (fun j => by rw [hG1]; exact fun _ _ _ _ => rfl)
  have a1 : AllG G1 (runM (slotM a) d 0 c).2 := a0.slots1 (fun x hx i hi => by
    rw [hG1]
    refine ⟨fun p p0 p1 e => ?_, fun p p0 p1 e => ?_, fun p p0 p1 e => ?_⟩ <;> omega) hx5 hn
  have a2 := a1.sync
  have same : ∀ d', AllG G1 d' → ∀ p, 0 ≤ p → p < a.pg → readM d' (a.fr + 2 * p) = readM d (a.fr + 2 * p) ∧ readM d' (a.fr + 2 * p + 1) = readM d (a.fr + 2 * p + 1) := by
    intro d' hd p p0 p1
    rw [hG1] at hd
    exact ⟨hd.read _ p p0 p1 (Or.inl rfl), hd.read _ p p0 p1 (Or.inr rfl)⟩
  have hF1 : Fails (runM (slotM a) d 0 c) d := fails_slots hfit hn hx5 ho
  unfold roundM at h ⊢
  by_cases h1 : (runM (slotM a) d 0 c).1 ≠ 0
  · rw [if_pos h1] at h ⊢
    exact torn1 _ hF1 (same _ a1) h
  · rw [if_neg h1] at h ⊢
    obtain ⟨⟨_, e1⟩, s1⟩ := slots_done c hx5 d ho 0 (by simpa using h1)
    generalize (runM (slotM a) d 0 c).2 = d1 at *
    have hF2 : Fails (syncM d1) d1 := fails_sync e1.off
    by_cases h2 : (syncM d1).1 ≠ 0
    · rw [if_pos h2] at h ⊢
      refine torn1 _ ?_ (same _ a2) h
      rcases hF2 with hf | ⟨q1, q2, q3, q4⟩
      · exact Or.inl hf
      · exact Or.inr ⟨q1, q2, q3, q4.trans e1.size⟩
    · rw [if_neg h2] at h ⊢
      obtain ⟨e2, w2⟩ := sync_done (d := d1) (by simpa using h2)
      have same2 := same _ a2
      generalize (syncM d1).2 = d2 at *
      have size2 : d2.size = d.size := e2.size.trans e1.size
      obtain ⟨G2, hG2⟩ : ∃ G : Int → List UInt8 → Prop, G = fun j s => ((∀ p, 0 ≤ p → p < a.pg → j ≠ a.fr + 2 * p ∧ j ≠ a.fr + 2 * p + 1) → s = readM d2 j) ∧
          (∀ p, j = a.fr + 2 * p → 0 ≤ p → p < a.pg → s = readM d j ∨ ∃ x, (p, x) ∈ c ∧ s = x.take 256) ∧ (∀ p, j = a.fr + 2 * p + 1 → 0 ≤ p → p < a.pg → s = readM d j ∨ ∃ x, (p, x) ∈ c ∧ s = x.drop 256) := ⟨_, rfl⟩
      have b0 : AllG G2 d2 := AllG.of_nowait w2 (fun j => by
        rw [hG2]
        exact ⟨fun _ => rfl, fun p e p0 p1 => Or.inl (by rw [e]; exact (same2 p p0 p1).1), fun p e p0 p1 => Or.inl (by rw [e]; exact (same2 p p0 p1).2)⟩)
      have b1 : AllG G2 (runM (pageM a) d2 0 c).2 := b0.pages1 (fun x hx => by
        obtain ⟨⟨x0, x1⟩, _⟩ := (hgood x hx).1
        rw [hG2]
        refine ⟨⟨fun hn => absurd rfl (hn x.1 x0 x1).1, fun p e p0 p1 => Or.inr ⟨x.2, ?_, rfl⟩, fun p e p0 p1 => by omega⟩, ⟨fun hn => absurd rfl (hn x.1 x0 x1).2, fun p e p0 p1 => by omega, fun p e p0 p1 => Or.inr ⟨x.2, ?_, rfl⟩⟩⟩
        · rw [show p = x.1 by omega]; exact hx
        · rw [show p = x.1 by omega]; exact hx) hx5
      have torn2 : ∀ r : Int × DevM, Fails r d → AllG G2 r.2 → r.1 ≠ 0 → r.1 = 7 ∧ r.2.off = true ∧ Torn a now l r.2 := by
        intro r hf hG hz
        obtain ⟨r1, d'⟩ := r
        dsimp only at *
        rcases hf with hf | ⟨q1, q2, q3, q4⟩
        · exact absurd hf hz
        · dsimp only at *
          rw [hG2] at hG
          have slots : ∀ i : Nat, (i : Int) < a.sl → readM d' (a.sat + 3 * i) = readM d2 (a.sat + 3 * i) ∧ readM d' (a.sat + 3 * i + 1) = readM d2 (a.sat + 3 * i + 1) ∧ readM d' (a.sat + 3 * i + 1 + 1) = readM d2 (a.sat + 3 * i + 1 + 1) := fun i hi =>
            ⟨(hG.read _).1 (fun p p0 p1 => by omega), (hG.read _).1 (fun p p0 p1 => by omega), (hG.read _).1 (fun p p0 p1 => by omega)⟩
          refine ⟨q1, q2, q3, by rw [q4]; exact hfit, fun p p0 p1 => ?_, fun p p0 p1 hv => ?_⟩
          · obtain ⟨g1, g2⟩ := pgv_halves (a := a) hF p
            have t1 : ∃ u, Cand now l p u ∧ readM d' (a.fr + 2 * p) = u.take 256 := by
              rcases (hG.read _).2.1 p rfl p0 p1 with e | ⟨x, hx, e⟩
              · exact ⟨_, hpg p p0 p1, by rw [e, g1]⟩
              · exact ⟨x, Or.inr (hc _ hx), e⟩
            have t2 : ∃ v, Cand now l p v ∧ readM d' (a.fr + 2 * p + 1) = v.drop 256 := by
              rcases (hG.read _).2.2 p rfl p0 p1 with e | ⟨x, hx, e⟩
              · exact ⟨_, hpg p p0 p1, by rw [e, g2]⟩
              · exact ⟨x, Or.inr (hc _ hx), e⟩
            obtain ⟨u, u1, u2⟩ := t1
            obtain ⟨v, v1, v2⟩ := t2
            exact ⟨u, v, u1, v1, u2, v2⟩
          · have hex : ∃ x, (p, x) ∈ c := by
              rcases (hG.read _).2.1 p rfl p0 p1 with e | ⟨x, hx, e⟩
              · rcases (hG.read _).2.2 p rfl p0 p1 with e' | ⟨x, hx, e'⟩
                · have e : pgv a d' p = pgv a d p := by unfold pgv; rw [e, e']
                  rw [e, (hr.cand p0 p1 (hpg p p0 p1)).2] at hv
                  cases hv
                · exact ⟨x, hx⟩
              · exact ⟨x, hx⟩
            obtain ⟨x, hx⟩ := hex
            obtain ⟨k, hk, ek⟩ := List.mem_iff_getElem.1 hx
            have z : ∀ k : Nat, 0 + k = k := Nat.zero_add
            have at2 : ∀ k (hk : k < c.length), readM d' (a.sat + 3 * k) = padB (nameB c[k].1) ∧ slotS a d' k = c[k].2 := by
              intro k hk
              obtain ⟨t1, t2, t3⟩ := slots k (by omega)
              have n1 := s1.name k hk
              have n2 := s1.first k hk
              have n3 := s1.second k hk
              rw [z] at n1 n2 n3
              refine ⟨by rw [t1, e2.read]; exact n1, ?_⟩
              unfold slotS
              rw [t2, t3, e2.read, e2.read, n2, show a.sat + 3 * (k : Int) + 1 + 1 = a.sat + 3 * k + 2 by omega, n3]
              exact take_drop_256 _
            have on : ∀ k (hk : k < c.length), slotB a d' k = true ∧ (slotN a d' k : Int) = c[k].1 := by
              intro k hk
              obtain ⟨y1, y2⟩ := at2 k hk
              obtain ⟨g1, g2⟩ := hgood c[k] (List.getElem_mem hk)
              obtain ⟨m1, m2⟩ := slot_named g1 f4.2 y1
              refine ⟨?_, m1⟩
              unfold slotB
              have hpos := hr.pos f4.1 c[k] (hc _ (List.getElem_mem hk))
              rw [m2, y2, m1, g2, lsn_pos_noughts hpos, show thereB a c[k].1 = true by unfold thereB; simp; exact g1.1]
              simp
            obtain ⟨o1, o2⟩ := on k hk
            rw [ek] at o2
            dsimp only at o2
            obtain ⟨s, hs, hge⟩ := best_ge (a := a) (d := d') a.sl.toNat (i := k) (by omega) o1
            rw [o2] at hs
            rw [(at2 k hk).2, ek] at hge
            dsimp only at hge
            refine ⟨s, hs, ?_⟩
            obtain ⟨i, hi, b1', b2', b3'⟩ := bestN_slot a d' _ _ _ hs
            by_cases hik : i < c.length
            · obtain ⟨o3, o4⟩ := on i hik
              rw [← b3', (at2 i hik).2, ← b2', o4]
              exact hc _ (List.getElem_mem hik)
            · exfalso
              obtain ⟨t1, t2, t3⟩ := slots i (by omega)
              have hs' : slotS a d' i = slotS a d i := by
                unfold slotS
                rw [t2, t3, e2.read, e2.read, s1.others _ (by omega), s1.others _ (by omega)]
              have := hold i (by omega) _ hx
              rw [← lsnB_slot hF, ← hs', b3'] at this
              dsimp only at this
              omega
      have hF3 : Fails (runM (pageM a) d2 0 c) d2 := fails_pages (by rw [size2]; exact hfit) (fun x hx => (hgood x hx).1) e2.off
      by_cases h3 : (runM (pageM a) d2 0 c).1 ≠ 0
      · rw [if_pos h3] at h ⊢
        refine torn2 _ ?_ b1 h
        rcases hF3 with hf | ⟨q1, q2, q3, q4⟩
        · exact Or.inl hf
        · exact Or.inr ⟨q1, q2, q3, q4.trans size2⟩
      · rw [if_neg h3] at h ⊢
        obtain ⟨⟨_, e3⟩, _⟩ := pages_done c hx5 d2 e2.off 0 (by simpa using h3)
        have hF4 : Fails (syncM (runM (pageM a) d2 0 c).2) (runM (pageM a) d2 0 c).2 := fails_sync e3.off
        refine torn2 _ ?_ b1.sync h
        rcases hF4 with hf | ⟨q1, q2, q3, q4⟩
        · exact Or.inl hf
        · exact Or.inr ⟨q1, q2, q3, q4.trans (e3.size.trans size2)⟩
end
end
end Go.Proofs.YtjlcbabnkhdgpaaGreatDoor
namespace Go.Proofs.YtjlcbabnkhdgpaaGreatDoor
section
set_option linter.unusedSimpArgs false
set_option linter.unusedVariables false

theorem padB_length {s : List UInt8} (h : s.length ≤ 256) : (padB s).length = 256 := by
  unfold padB
  rw [List.length_append, List.length_replicate]
  omega
theorem nameB_length (p : Int) : (nameB p).length = 8 := by unfold nameB; rw [sealB_length]; simp [putB_length]
/-- Full sectors, slots whose numbers are of a kind: kept by what is written. -/
theorem lays_of {a : ArM} {c : List Img} {size : Int} (hfit : a.fits size) (P : Nat → Prop) (hc : ∀ x ∈ c, GoodI a x) (hp : ∀ x ∈ c, P (lsnB x.2)) :
    Lays a (fun j s => s.length = 256 ∧ ∀ i : Nat, (i : Int) < a.sl → j = a.sat + 3 * i + 1 → P (getB (s.take 6))) c := by
  obtain ⟨f1, f2, f3, f4, f5, f6, f7⟩ := hfit
  have h6 : ∀ x : Img, (x.2.take 256).take 6 = x.2.take 6 := fun x => by rw [List.take_take]; rfl
  refine ⟨fun x hx i hi => ⟨⟨padB_length (by rw [nameB_length]; omega), fun i' h1 h2 => by omega⟩, ⟨by rw [List.length_take, (hc x hx).2]; rfl, fun i' h1 h2 => ?_⟩, ⟨by rw [List.length_drop, (hc x hx).2], fun i' h1 h2 => by omega⟩⟩, fun x hx => ?_⟩
  · rw [h6]; exact hp x hx
  · obtain ⟨⟨p0, p1⟩, h5⟩ := hc x hx
    exact ⟨⟨by rw [List.length_take, h5]; rfl, fun i' h1 h2 => by omega⟩, ⟨by rw [List.length_drop, h5], fun i' h1 h2 => by omega⟩⟩
theorem allG_of {a : ArM} {d : DevM} (P : Nat → Prop) (hw : d.wait = []) (hF : Full d) (hs : ∀ i : Nat, (i : Int) < a.sl → P (getB ((readM d (a.sat + 3 * i + 1)).take 6))) :
    AllG (fun j s => s.length = 256 ∧ ∀ i : Nat, (i : Int) < a.sl → j = a.sat + 3 * i + 1 → P (getB (s.take 6))) d :=
  AllG.of_nowait hw (fun j => ⟨hF j, fun i hi e => by rw [e]; exact hs i hi⟩)
theorem allG_out {a : ArM} {d : DevM} {P : Nat → Prop} (h : AllG (fun j s => s.length = 256 ∧ ∀ i : Nat, (i : Int) < a.sl → j = a.sat + 3 * i + 1 → P (getB (s.take 6))) d) :
    Full d ∧ ∀ i : Nat, (i : Int) < a.sl → P (getB ((readM d (a.sat + 3 * i + 1)).take 6)) := ⟨fun j => (h.read j).1, fun i hi => (h.read _).2 i hi rfl⟩

theorem rounds_fails {a : ArM} {now : Int → List UInt8} {l : List Img} (hr : Rising a now l) (n : Nat) (r : List Img) (hn : r.length ≤ n) (d : DevM) (hfit : a.fits d.size) (ho : d.off = false) (hw : d.wait = []) (hF : Full d) (hc : ∀ x ∈ r, x ∈ l)
    (hpw : r.Pairwise (fun x y => lsnB x.2 < lsnB y.2)) (hpg : ∀ p, 0 ≤ p → p < a.pg → Cand now l p (pgv a d p)) (hold : Older a d r) (h : (roundsM a n d r).1 ≠ 0) :
    (roundsM a n d r).1 = 7 ∧ (roundsM a n d r).2.off = true ∧ Torn a now l (roundsM a n d r).2 := by
  have hsl : 1 ≤ a.sl.toNat := by have := hfit.2.2.1; omega
  induction n generalizing d r with
  | zero => exact absurd rfl h
  | succ n ih =>
    simp only [roundsM] at h ⊢
    by_cases hz : r.length = 0
    · rw [if_pos hz] at h; exact absurd rfl h
    · rw [if_neg hz] at h ⊢
      obtain ⟨q, hq⟩ : ∃ q, q = min a.sl.toNat r.length := ⟨_, rfl⟩
      rw [← hq] at h ⊢
      have hlt : (r.take q).length = q := by simp; omega
      have hld : (r.drop q).length = r.length - q := by simp
      have hct : ∀ x ∈ r.take q, x ∈ l := fun x h => hc x (List.mem_of_mem_take h)
      have hcd : ∀ x ∈ r.drop q, x ∈ l := fun x h => hc x (List.mem_of_mem_drop h)
      have hgt : ∀ x ∈ r.take q, GoodI a x := fun x h => (hr.good x (hct x h)).1
      by_cases h1 : (roundM a d (r.take q)).1 ≠ 0
      · rw [if_pos h1] at h ⊢
        exact round_fails hfit ho hw hF (by rw [hlt]; omega) hct hr hpg (fun i hi x hx => hold i hi x (List.mem_of_mem_take hx)) h1
      · rw [if_neg h1] at h ⊢
        have r1 := round_done hfit (by rw [hlt]; omega) hgt ho (by simpa using h1)
        have hpw' := hpw
        rw [← List.take_append_drop q r, List.pairwise_append] at hpw'
        obtain ⟨_, pd, pc⟩ := hpw'
        obtain ⟨F1, O1⟩ := allG_out (a := a) (P := fun n => ∀ y ∈ r.drop q, n < lsnB y.2) ((allG_of (a := a) (fun n => ∀ y ∈ r.drop q, n < lsnB y.2) hw hF (fun i hi y hy => hold i hi y (List.mem_of_mem_drop hy))).round (a := a) (lays_of hfit (fun n => ∀ y ∈ r.drop q, n < lsnB y.2) hgt (fun x hx y hy => pc x hx y hy)) (fun x hx => (hgt x hx).2) (by rw [hlt]; omega))
        generalize (roundM a d (r.take q)).2 = d1 at *
        refine ih (r.drop q) (by rw [hld]; omega) d1 (by rw [r1.size]; exact hfit) r1.off r1.wait F1 hcd pd (fun p p0 p1 => ?_) O1 h
        have e : pgv a d1 p = match lastAt (r.take q) p with | some s => s | none => pgv a d p := by
          unfold pgv
          rw [r1.pfirst p p0 p1, r1.psecond p p0 p1]
          cases lastAt (r.take q) p with
          | none => rfl
          | some s => exact take_drop_256 s
        rw [e]
        cases hla : lastAt (r.take q) p with
        | none => exact hpg p p0 p1
        | some s =>
          obtain ⟨x, hx, e1, e2⟩ := lastAt_mem hla
          refine Or.inr ?_
          rw [show (p, s) = x by rw [← e1, ← e2]]
          exact hct x hx

/-- A device between two writes: all pages whole, all numbers at most L. -/
structure Sound (a : ArM) (d : DevM) (now : Int → List UInt8) (L : Nat) : Prop where
  off : d.off = false
  wait : d.wait = []
  fits : a.fits d.size
  full : Full d
  page : ∀ p, 0 ≤ p → p < a.pg → pgv a d p = now p
  old : ∀ p, 0 ≤ p → p < a.pg → ((now p).length = 512 ∧ wholeB (now p) = true) ∧ lsnB (now p) ≤ L
  slots : ∀ i : Nat, (i : Int) < a.sl → getB ((readM d (a.sat + 3 * i + 1)).take 6) ≤ L
/-- A device whose power failed in a Write, and is on again. -/
structure Hurt (a : ArM) (d : DevM) (now : Int → List UInt8) (l : List Img) (L : Nat) : Prop where
  off : d.off = false
  torn : Torn a now l d
  full : Full d
  slots : ∀ i : Nat, (i : Int) < a.sl → getB ((readM d (a.sat + 3 * i + 1)).take 6) ≤ L
/-- What is to be written next. -/
structure Next (a : ArM) (l : List Img) (L L' : Nat) : Prop where
  good : ∀ x ∈ l, GoodI a x ∧ wholeB x.2 = true
  rise : l.Pairwise (fun x y => lsnB x.2 < lsnB y.2)
  more : ∀ x ∈ l, L < lsnB x.2 ∧ lsnB x.2 ≤ L'
  le : L ≤ L'
def nowL (now : Int → List UInt8) (l : List Img) (p : Int) : List UInt8 := match lastAt l p with | some s => s | none => now p
section
variable {a : ArM} {now : Int → List UInt8} {l : List Img} {d : DevM} {L L' : Nat}
theorem Sound.fuse (h : Sound a d now L) (n : Int) (ks : List Int) : Sound a (fuseM d n ks) now L := ⟨h.off, h.wait, h.fits, h.full, h.page, h.old, h.slots⟩
theorem Hurt.fuse (h : Hurt a d now l L) (n : Int) (ks : List Int) : Hurt a (fuseM d n ks) now l L := ⟨h.off, ⟨h.torn.wait, h.torn.size, h.torn.halves, fun p p0 p1 hv => by rw [bestN_same (d := d) (d' := fuseM d n ks) _ (fun _ _ => ⟨rfl, rfl, rfl⟩)]; exact h.torn.mends p p0 p1 hv⟩, h.full, h.slots⟩
theorem Sound.rising (h : Sound a d now L) (hl : Next a l L L') : Rising a now l :=
  ⟨hl.good, hl.rise, fun p p0 p1 => (h.old p p0 p1).1, fun p p0 p1 x hx => Nat.lt_of_le_of_lt (h.old p p0 p1).2 (hl.more x hx).1⟩
theorem Torn.on (h : Torn a now l d) : Torn a now l (onM d) :=
  ⟨h.wait, h.size, h.halves, fun p p0 p1 hv => by rw [onM_best]; exact h.mends p p0 p1 hv⟩
theorem Sound.write (h : Sound a d now L) (hl : Next a l L L') :
    ((twriteM a d l).1 = 0 ∧ (twriteM a d l).2.off = false ∧ Sound a (onM (twriteM a d l).2) (nowL now l) L') ∨
    ((twriteM a d l).1 = 7 ∧ (twriteM a d l).2.off = true ∧ Hurt a (onM (twriteM a d l).2) now l L') := by
  have hgood : ∀ x ∈ l, GoodI a x := fun x hx => (hl.good x hx).1
  have e : twriteM a d l = roundsM a l.length d l := by
    unfold twriteM
    rw [if_pos (List.all_eq_true.2 fun x hx => goodB_iff.2 (hl.good x hx))]
  have hle := hl.le
  obtain ⟨F1, O1⟩ := allG_out (P := (· ≤ L')) ((allG_of (a := a) (· ≤ L') h.wait h.full (fun i hi => Nat.le_trans (h.slots i hi) hl.le)).rounds (a := a) l.length (lays_of h.fits (· ≤ L') hgood (fun x hx => (hl.more x hx).2)) (fun x hx => (hgood x hx).2) h.fits.2.2.1.1)
  rw [e]
  by_cases hz : (roundsM a l.length d l).1 = 0
  · have r := rounds_done l.length d l (Nat.le_refl _) h.fits hgood h.off hz
    refine Or.inl ⟨hz, r.off, rfl, r.wait h.wait, by show a.fits (roundsM a l.length d l).2.size; rw [r.size]; exact h.fits, F1, fun p p0 p1 => ?_, fun p p0 p1 => ?_, O1⟩
    · show pgv a (roundsM a l.length d l).2 p = _
      rw [r.page p p0 p1]
      unfold nowL
      cases lastAt l p with
      | some s => rfl
      | none => exact h.page p p0 p1
    · unfold nowL
      cases hla : lastAt l p with
      | none => exact ⟨(h.old p p0 p1).1, Nat.le_trans (h.old p p0 p1).2 hl.le⟩
      | some s =>
        obtain ⟨x, hx, _, e2⟩ := lastAt_mem hla
        dsimp only
        rw [← e2]
        exact ⟨⟨(hgood x hx).2, (hl.good x hx).2⟩, (hl.more x hx).2⟩
  · obtain ⟨r1, r2, r3⟩ := rounds_fails (h.rising hl) l.length l (Nat.le_refl _) d h.fits h.off h.wait h.full (fun x hx => hx) hl.rise (fun p p0 p1 => Or.inl (h.page p p0 p1)) (fun i hi x hx => Nat.lt_of_le_of_lt (h.slots i hi) (hl.more x hx).1) hz
    exact Or.inr ⟨r1, r2, rfl, r3.on, F1, O1⟩

/-- Repair, however it ends: what is kept. -/
theorem AllG.rep {G : Int → List UInt8 → Prop} {b : Int → Option (List UInt8)} (h : AllG G d) (k : Nat) (hb : ∀ d' n s, AllG G d' → n < k → fixB a b d' n = some s → s.length = 512 ∧ G (a.fr + 2 * n) (s.take 256) ∧ G (a.fr + 2 * n + 1) (s.drop 256)) :
    AllG G (repM a b d k).2.1 := by
  induction k with
  | zero => exact h
  | succ k ih =>
    have ih := ih (fun d' n s hd hn => hb d' n s hd (by omega))
    simp only [repM]
    split
    · exact ih
    · cases hfk : fixB a b (repM a b d k).2.1 k with
      | none => exact ih
      | some s =>
        obtain ⟨h1, h2, h3⟩ := hb _ k s ih (by omega) hfk
        have hp := ih.put h1 h2 h3
        dsimp only
        split
        · exact hp
        · exact hp
theorem AllG.endM {G : Int → List UInt8 → Prop} {r : Int × DevM × Nat} (h : AllG G r.2.1) : AllG G (endM r).2 := by
  have hs := h.sync
  unfold Proofs.YtjlcbabnkhdgpaaGreatDoor.endM
  split
  · exact h
  · split
    · exact h
    · split
      · exact hs
      · exact hs
/-- Nothing waits behind Repair. -/
theorem rep_wait {b : Int → Option (List UInt8)} (hw : d.wait = []) (ho : d.off = false) (hfit : a.fits d.size) (hb : ∀ j s, b j = some s → s.length = 512) (k : Nat) (hk : (k : Int) ≤ a.pg) :
    ((repM a b d k).1 = 0 ∧ (repM a b d k).2.1.off = false ∧ (repM a b d k).2.1.size = d.size ∧ ((repM a b d k).2.2 = 0 → (repM a b d k).2.1 = d)) ∨ ((repM a b d k).1 = 7 ∧ (repM a b d k).2.1.wait = []) := by
  have hf2 := hfit
  obtain ⟨f1, f2, f3, f4, f5, f6, f7⟩ := hf2
  induction k with
  | zero => exact Or.inl ⟨rfl, ho, rfl, fun _ => rfl⟩
  | succ k ih =>
    simp only [repM]
    rcases ih (by omega) with ⟨i1, i2, i3, i4⟩ | ⟨i1, i2⟩
    · rw [if_neg (by simp [i1])]
      generalize repM a b d k = r at *
      obtain ⟨e, dk, n⟩ := r
      dsimp only at *
      cases hfk : fixB a b dk k with
      | none => exact Or.inl ⟨i1, i2, i3, i4⟩
      | some s =>
        have hs : s.length = 512 := by
          unfold fixB at hfk
          cases hbk : b k with
          | none => rw [hbk] at hfk; cases hfk
          | some t =>
            rw [hbk] at hfk
            dsimp only at hfk
            split at hfk
            · cases hfk
            · cases hfk; exact hb _ _ hbk
        have hp := fails_put (d := dk) (i := a.fr + 2 * k) (s := s) i2 (by rw [i3]; omega) hs
        dsimp only
        by_cases hz : (putM dk (a.fr + 2 * k) s).1 ≠ 0
        · rw [if_pos hz]
          rcases hp with hp | ⟨q1, q2, q3, q4⟩
          · exact absurd hp hz
          · exact Or.inr ⟨q1, q3⟩
        · rw [if_neg hz]
          have e1 := put_done hs (by simpa using hz)
          exact Or.inl ⟨rfl, e1.off, e1.size.trans i3, fun h => absurd h (by simp)⟩
    · rw [if_pos (by simp [i1])]
      exact Or.inr ⟨i1, i2⟩
theorem repair_wait (hw : d.wait = []) (ho : d.off = false) (hfit : a.fits d.size) (hd : d.fits) : (trepairM a d).2.wait = [] := by
  have hpg : (a.pg.toNat : Int) ≤ a.pg := by have := hfit.2.2.2.1; omega
  have h := rep_wait hw ho hfit (bestN_len a hd a.sl.toNat) a.pg.toNat hpg
  unfold trepairM endM
  rcases h with ⟨i1, i2, i3, i4⟩ | ⟨i1, i2⟩
  · rw [if_neg (by simp [i1])]
    by_cases hz : (repM a (bestN a d a.sl.toNat) d a.pg.toNat).2.2 = 0
    · rw [if_pos hz]
      show (repM a (bestN a d a.sl.toNat) d a.pg.toNat).2.1.wait = []
      rw [i4 hz]; exact hw
    · rw [if_neg hz]
      have hf := fails_sync i2
      have hs : (syncM (repM a (bestN a d a.sl.toNat) d a.pg.toNat).2.1).2.wait = [] := by
        rcases hf with hf | ⟨_, _, q3, _⟩
        · exact (sync_done hf).2
        · exact q3
      split
      · exact hs
      · exact hs
  · rw [if_pos (by simp [i1])]
    exact i2
/-- A Repair that may fail, too. -/
theorem Hurt.repair (h : Hurt a d now l L) (hr : Rising a now l) (hd : d.fits) : Hurt a (onM (trepairM a d).2) now l L := by
  have hfit := h.torn.size
  have hf2 := hfit
  obtain ⟨f1, f2, f3, f4, f5, f6, f7⟩ := hf2
  obtain ⟨G, hG⟩ : ∃ G : Int → List UInt8 → Prop, G = fun j s => s.length = 256 ∧ ((∀ p, 0 ≤ p → p < a.pg → j ≠ a.fr + 2 * p ∧ j ≠ a.fr + 2 * p + 1) → s = readM d j) ∧
      (∀ p, j = a.fr + 2 * p → 0 ≤ p → p < a.pg → (∃ u, Cand now l p u ∧ s = u.take 256) ∧ (wholeB (pgv a d p) = true → s = readM d j)) ∧
      (∀ p, j = a.fr + 2 * p + 1 → 0 ≤ p → p < a.pg → (∃ u, Cand now l p u ∧ s = u.drop 256) ∧ (wholeB (pgv a d p) = true → s = readM d j)) := ⟨_, rfl⟩
  have a0 : AllG G d := AllG.of_nowait h.torn.wait (fun j => by
    rw [hG]
    refine ⟨h.full j, fun _ => rfl, fun p e p0 p1 => ⟨?_, fun _ => rfl⟩, fun p e p0 p1 => ⟨?_, fun _ => rfl⟩⟩
    · obtain ⟨u, v, h1, h2, h3, h4⟩ := h.torn.halves p p0 p1
      exact ⟨u, h1, by rw [e]; exact h3⟩
    · obtain ⟨u, v, h1, h2, h3, h4⟩ := h.torn.halves p p0 p1
      exact ⟨v, h2, by rw [e]; exact h4⟩)
  have hkeep : ∀ d', AllG G d' → ∀ p, 0 ≤ p → p < a.pg → wholeB (pgv a d p) = true → pgv a d' p = pgv a d p := by
    intro d' hd' p p0 p1 hwh
    rw [hG] at hd'
    unfold pgv
    rw [((hd'.read _).2.2.1 p rfl p0 p1).2 hwh, ((hd'.read _).2.2.2 p rfl p0 p1).2 hwh]
  have a1 : AllG G (trepairM a d).2 := by
    unfold trepairM
    refine AllG.endM (a0.rep a.pg.toNat (fun d' n s hd' hn hfx => ?_))
    unfold fixB at hfx
    cases hbn : bestN a d a.sl.toNat n with
    | none => rw [hbn] at hfx; cases hfx
    | some t =>
      rw [hbn] at hfx
      dsimp only at hfx
      by_cases hwd : wholeB (pgv a d n) = true
      · have e := hkeep d' hd' n (by omega) (by omega) hwd
        rw [show pageR a d' n = pgv a d' n from rfl, e, if_pos hwd] at hfx
        cases hfx
      · have hs : s = t := by
          split at hfx
          · cases hfx
          · cases hfx; rfl
        subst hs
        have hlen := bestN_len a hd _ _ _ hbn
        obtain ⟨s', hs', hm⟩ := h.torn.mends n (by omega) (by omega) (by simpa using hwd)
        rw [hbn] at hs'
        injection hs' with hs'
        subst hs'
        rw [hG]
        refine ⟨hlen, ⟨by rw [List.length_take, hlen]; rfl, fun hno => absurd rfl (hno n (by omega) (by omega)).1, fun p e p0 p1 => ?_, fun p e p0 p1 => by omega⟩, ⟨by rw [List.length_drop, hlen], fun hno => absurd rfl (hno n (by omega) (by omega)).2, fun p e p0 p1 => by omega, fun p e p0 p1 => ?_⟩⟩
        · have : p = n := by omega
          subst this
          exact ⟨⟨s, Or.inr hm, rfl⟩, fun hh => absurd hh hwd⟩
        · have : p = n := by omega
          subst this
          exact ⟨⟨s, Or.inr hm, rfl⟩, fun hh => absurd hh hwd⟩
  have hsz : (trepairM a d).2.size = d.size := trepair_size a d h.off
  have hwt := repair_wait h.torn.wait h.off hfit hd
  have hk2 := hkeep _ a1
  rw [hG] at a1
  generalize (trepairM a d).2 = d' at *
  have slots : ∀ i : Nat, (i : Int) < a.sl → readM d' (a.sat + 3 * i) = readM d (a.sat + 3 * i) ∧ readM d' (a.sat + 3 * i + 1) = readM d (a.sat + 3 * i + 1) ∧ readM d' (a.sat + 3 * i + 1 + 1) = readM d (a.sat + 3 * i + 1 + 1) := fun i hi =>
    ⟨(a1.read _).2.1 (fun p p0 p1 => by omega), (a1.read _).2.1 (fun p p0 p1 => by omega), (a1.read _).2.1 (fun p p0 p1 => by omega)⟩
  have T : Torn a now l d' := by
    refine ⟨hwt, by rw [hsz]; exact hfit, fun p p0 p1 => ?_, fun p p0 p1 hv => ?_⟩
    · obtain ⟨⟨u, u1, u2⟩, _⟩ := (a1.read _).2.2.1 p rfl p0 p1
      obtain ⟨⟨v, v1, v2⟩, _⟩ := (a1.read _).2.2.2 p rfl p0 p1
      exact ⟨u, v, u1, v1, u2, v2⟩
    · rw [bestN_same (d := d) (d' := d') a.sl.toNat (fun i hi => slots i (by omega))]
      refine h.torn.mends p p0 p1 ?_
      cases hwd : wholeB (pgv a d p) with
      | false => rfl
      | true => rw [hk2 p p0 p1 hwd, hwd] at hv; cases hv
  exact ⟨rfl, T.on, fun j => (a1.read j).1, fun i hi => by rw [onM_read, (slots i hi).2.1]; exact h.slots i hi⟩
/-- A Repair that succeeds: each page is whole, what it had or what was to be written. -/
theorem Hurt.mend (h : Hurt a d now l L') (hf : d.fuse = 0) (hr : Rising a now l) (hd : d.fits) (hd2 : (trepairM a d).2.fits) (ho : ∀ p, 0 ≤ p → p < a.pg → lsnB (now p) ≤ L') (hL : ∀ x ∈ l, lsnB x.2 ≤ L') :
    (trepairM a d).1.2 = 0 ∧ Sound a (trepairM a d).2 (pgv a (trepairM a d).2) L' ∧ ∀ p, 0 ≤ p → p < a.pg → Cand now l p (pgv a (trepairM a d).2 p) := by
  have hfit := h.torn.size
  have hf2 := hfit
  obtain ⟨f1, f2, f3, f4, f5, f6, f7⟩ := hf2
  obtain ⟨h1, h2, h3⟩ := repair_calm hfit hd h.off hf
  generalize (trepairM a d).2 = d' at *
  have hC : ∀ p, 0 ≤ p → p < a.pg → Cand now l p (pgv a d' p) := by
    intro p p0 p1
    have hd := h2.done p.toNat (by omega)
    rw [show ((p.toNat : Nat) : Int) = p by omega] at hd
    by_cases hw : wholeB (pgv a d p) = true
    · have hw' : wholeB (pgv a d (p.toNat : Nat)) = true := by rw [show ((p.toNat : Nat) : Int) = p by omega]; exact hw
      rw [fixB_whole hw'] at hd
      dsimp only at hd
      rw [hd]
      obtain ⟨u, v, u1, v1, u2, v2⟩ := h.torn.halves p p0 p1
      have e : pgv a d p = u.take 256 ++ v.drop 256 := by unfold pgv; rw [u2, v2]
      rw [e] at hw ⊢
      rw [hr.torn p0 p1 u1 v1 hw]
      exact u1
    · obtain ⟨s, hs, hm⟩ := h.torn.mends p p0 p1 (by simpa using hw)
      have e : fixB a (bestN a d a.sl.toNat) d p.toNat = some s := by
        unfold fixB
        rw [show ((p.toNat : Nat) : Int) = p by omega, hs]
        dsimp only
        rw [if_neg]
        show ¬ wholeB (pgv a d (p.toNat : Nat)) = true
        rw [show ((p.toNat : Nat) : Int) = p by omega]; exact hw
      rw [e] at hd
      dsimp only at hd
      rw [hd]
      exact Or.inr hm
  have hslot : ∀ i : Nat, (i : Int) < a.sl → readM d' (a.sat + 3 * i + 1) = readM d (a.sat + 3 * i + 1) := fun i hi => h2.others _ (by omega)
  have hF : Full d' := fun j => readM_length hd2 j
  refine ⟨by rw [h1], ⟨h2.off, h3 h.torn.wait, by rw [h2.size]; exact hfit, hF, fun _ _ _ => rfl, fun p p0 p1 => ⟨hr.cand p0 p1 (hC p p0 p1), ?_⟩, fun i hi => by rw [hslot i hi]; exact h.slots i hi⟩, hC⟩
  rcases hC p p0 p1 with e | e
  · rw [e]; exact ho p p0 p1
  · exact hL _ e
end
end
end Go.Proofs.YtjlcbabnkhdgpaaGreatDoor
namespace Go.Proofs.YtjlcbabnkhdgpaaGreatDoor
section
set_option linter.unusedSimpArgs false
set_option linter.unusedVariables false
open Go.RowKit Go.Maps

def strCells (l : List (List UInt8)) : List Value := l.map fun s => .string (bs s)
theorem strCells_snoc (l : List (List UInt8)) (s : List UInt8) : strCells (l ++ [s]) = strCells l ++ [.string (bs s)] := by simp [strCells]
theorem strCells_length (l : List (List UInt8)) : (strCells l).length = l.length := by simp [strCells]
theorem info_str : ∃ i z, Tryz.prog.info? 9 = some i ∧ i.zero = some z ∧ i.size = 1 ∧ i.bytes = 16 ∧ z.cells.size = 1 := by
  have h : (Tryz.prog.info? 9).bind (fun i => i.zero.map fun z => (i.size, i.bytes, z.cells.size)) = some (1, 16, 1) := by kernel_rfl
  cases hi : Tryz.prog.info? 9 with
  | none => rw [hi] at h; simp at h
  | some i =>
    rw [hi] at h
    cases hz : i.zero with
    | none => simp [hz] at h
    | some z =>
      simp [hz] at h
      exact ⟨i, z, rfl, hz, h.1, h.2.1, h.2.2⟩
/-- A row of strings that is the call's own. -/
abbrev Strs (n0 : Nat) (w : World) (v : Value) (l : List (List UInt8)) : Prop := w.ownsRow n0 9 1 v l.length (strCells l)
theorem strs_append (base : Nat) (v : Value) (l ks : List (List UInt8)) (a : Addr) (cap : Nat) (w : World) (ho : Strs base w v l) (hs : ∀ j u, (strCells ks)[j]? = some u → w.cell? (a.add j) = some u) (hl : l.length ≤ 1000000) (hk : ks.length ≤ 1000000) (hw : base ≤ w.heap.size) :
    ∃ v' w', (Builtin.append_ #[47, 47] 47 #[v, .slice (some a) ks.length cap]).run Tryz.prog w = .ok v' w' ∧ Strs base w' v' (l ++ ks) ∧ w.grownBy w' v.ownBlock ∧ (v'.ownBlock = v.ownBlock ∨ v'.ownBlock = some w.heap.size) := by
  obtain ⟨i, z, hi, hz, hsz, hby, hzs⟩ := info_str
  obtain ⟨v', w', hr, q1, q2, _, q3⟩ := run_append_own_at (P := Tryz.prog) w base 47 47 9 i z 1 16 Tryz.underlying47 hi hz hsz hby hzs (by decide) v l.length _ ho a ks.length cap (strCells ks) (by simp [strCells_length]) hs
    (fun u hu => by obtain ⟨x, _, rfl⟩ := List.mem_map.1 hu; rfl) (by unfold maxLen; omega) (by omega) hw
  refine ⟨v', w', hr, ?_, q2, q3⟩
  unfold Strs
  rw [List.length_append, show strCells (l ++ ks) = strCells l ++ strCells ks from List.map_append]
  exact q1
theorem str_append (base : Nat) (v : Value) (l : List (List UInt8)) (s : List UInt8) (gb : Nat) (w : World) (ho : Strs base w v l) (hb : Blk w gb 9 #[.string (bs s)]) (hl : l.length ≤ 1000000) (hw : base ≤ w.heap.size) :
    ∃ v' w', (Builtin.append_ #[47, 47] 47 #[v, .slice (some ⟨gb, 0, none⟩) 1 1]).run Tryz.prog w = .ok v' w' ∧ Strs base w' v' (l ++ [s]) ∧ w.grownBy w' v.ownBlock ∧ (v'.ownBlock = v.ownBlock ∨ v'.ownBlock = some w.heap.size) :=
  strs_append base v l [s] ⟨gb, 0, none⟩ 1 w ho (fun j u hu => World.news_of_block hb j u (by simpa [strCells] using hu)) hl (by simp) hw
theorem Strs.slice {n0 : Nat} {w : World} {v : Value} {l : List (List UInt8)} (h : Strs n0 w v l) : ∃ A c, v = .slice A l.length c := by
  rcases h.2 with ⟨h1, h2⟩ | ⟨g, cap, cur, h1, _⟩
  · exact ⟨none, 0, by rw [h1, h2]⟩
  · exact ⟨_, _, h1⟩
theorem Strs.form {n0 : Nat} {w : World} {v : Value} {l : List (List UInt8)} (h : Strs n0 w v l) : ∃ A n c, v = .slice A n c := by
  obtain ⟨A, c, h⟩ := h.slice
  exact ⟨A, _, c, h⟩
/-- Two rows of strings, apart. -/
structure Two (n0 : Nat) (w : World) (u v : Value) (xs ys : List (List UInt8)) : Prop where
  one : Strs n0 w u xs
  two : Strs n0 w v ys
  apart : u.ownBlock = none ∨ u.ownBlock ≠ v.ownBlock
  at0 : n0 ≤ w.heap.size
section
variable {w w' : World} {n0 : Nat} {u v : Value} {xs ys : List (List UInt8)} {s : List UInt8} {gb : Nat}
theorem Two.up (h : Two n0 w u v xs ys) (hb : Below w.heap.size w w') : Two n0 w' u v xs ys :=
  ⟨ownsRow_grown h.one (grown_of_below hb none) (by simp), ownsRow_grown h.two (grown_of_below hb none) (by simp), h.apart, Nat.le_trans h.at0 hb.size⟩
theorem Two.swap (h : Two n0 w u v xs ys) : Two n0 w v u ys xs := by
  refine ⟨h.two, h.one, ?_, h.at0⟩
  cases hv : v.ownBlock with
  | none => exact Or.inl rfl
  | some k =>
    right
    intro e
    rcases h.apart with h' | h'
    · rw [h'] at e; cases e
    · exact h' (by rw [hv, ← e])
theorem Two.append (h : Two n0 w u v xs ys) (hb : Blk w gb 9 #[.string (bs s)]) (hl : xs.length ≤ 1000000) :
    ∃ u' w', (Builtin.append_ #[47, 47] 47 #[u, .slice (some ⟨gb, 0, none⟩) 1 1]).run Tryz.prog w = .ok u' w' ∧ Two n0 w' u' v (xs ++ [s]) ys ∧ w.grownBy w' u.ownBlock := by
  obtain ⟨u', w', hr, q1, q2, q3⟩ := str_append n0 u xs s gb w h.one hb hl h.at0
  refine ⟨u', w', hr, ⟨q1, h.two.kept q2 ?_, ?_, Nat.le_trans h.at0 q2.size⟩, q2⟩
  · have := h.swap.apart; exact this
  · rcases q3 with q3 | q3
    · rw [q3]; exact h.apart
    · right
      rw [q3]
      intro e
      have := (h.two.lt _ e.symm).2
      omega
theorem Two.below (h : Two n0 w u v xs ys) (hg : w.grownBy w' u.ownBlock) {n1 : Nat} {w0 : World} (hb : Below n1 w0 w) (hn : n1 ≤ n0) : Below n1 w0 w' :=
  hb.grown hg (Nat.le_trans hn h.at0) (fun k e => Nat.le_trans hn (h.one.lt k e).1)
theorem Two.blk (h : Two n0 w u v xs ys) (hg : w.grownBy w' u.ownBlock) {T : TypeId} {cs : Array Value} {b : Nat} (hb : Blk w b T cs) (hT : T ≠ 9) : Blk w' b T cs :=
  hb.grown hg (hb.notOwn h.one hT)
theorem Two.blkAt (h : Two n0 w u v xs ys) (hg : w.grownBy w' u.ownBlock) {T : TypeId} {cs : Array Value} {b : Nat} (hb : Blk w b T cs) (hne : u.ownBlock ≠ some b) : Blk w' b T cs :=
  hb.grown hg (fun e => hne e.symm)
theorem Two.setBlk (h : Two n0 w u v xs ys) {T : TypeId} {cs : Array Value} {b : Nat} (hb : Blk w b T cs) (hT : T ≠ 9) (j : Nat) (x : Value) : Two n0 (w.setCell ⟨b, j, none⟩ x) u v xs ys :=
  ⟨own_grown h.one hb hT (grown_setCell w b j x), own_grown h.two hb hT (grown_setCell w b j x), h.apart, by simpa [World.setCell] using h.at0⟩
/-- A fresh block is in no row. -/
theorem Two.fresh (h : Two n0 w u v xs ys) : u.ownBlock ≠ some w.heap.size := fun e => by have := (h.one.lt _ e).2; omega
end
end
end Go.Proofs.YtjlcbabnkhdgpaaGreatDoor
namespace Go.Proofs.YtjlcbabnkhdgpaaGreatDoor
section
set_option linter.unusedSimpArgs false
set_option linter.unusedVariables false
open Go.RowKit Go.Maps

theorem new9_results (tmps : Array Value) (rb : Nat) (W : World) {v0 v1 : Value} (h2 : tmps.getD 2 undef = .pointer (some ⟨rb, 0, none⟩)) (h : Blk W rb 49 #[v0, v1]) :
    (results Tryz.f21 tmps).run Tryz.prog W = .ok (.agg #[v0, v1]) W := by
  have c0 := h.cell 0
  have c1 := h.cell 1
  have h2' : tmps[2]?.getD undef = .pointer (some ⟨rb, 0, none⟩) := by simpa using h2
  simp [results, Tryz.results21, go_sem, c0, c1, h2']
set_option maxHeartbeats 6400000 in
set_option maxRecDepth 100000 in
theorem new9_any (w : World) :
    Calls Tryz.prog 21 #[.int .i64 8] w fun e w' => ∃ u v, e = .returned (.agg #[u, v]) ∧ Two w.heap.size w' u v (List.replicate 8 (List.replicate 512 0)) (List.replicate 8 []) ∧ Below w.heap.size w w' := by
  obtain ⟨z, hz⟩ : ∃ z, z = List.replicate 512 (0 : UInt8) := ⟨_, rfl⟩
  rw [← hz]
  have hmk := fun W : World => run_make_bytes W 512 (by decide) (by decide)
  rw [show (512 : Int).toNat = 512 from rfl, ← hz] at hmk
  have hzl : z.length = 512 := by rw [hz]; exact List.length_replicate
  have HMK := Lib.hid hmk; have HZL := Lib.hid hzl
  clear hz hmk hzl
  go_enter Tryz.func21, Tryz.ntmps21
  go_wp2_with fail
  have hP0 := Blk.made (w.alloc (.cells #[.slice none 0 0, .slice none 0 0] 49)) #[.slice none 0 0, .slice none 0 0] 49
  go_loopg [4] 8 (fun gh i wr => ∃ k : Nat, k ≤ 8 ∧ gh = 8 - k ∧ i = .int .i64 k ∧ ∃ u v, Blk wr (w.heap.size + 1) 49 #[u, v] ∧ Blk wr w.heap.size 49 #[.slice none 0 0, .slice none 0 0] ∧ Two w.heap.size wr u v (List.replicate k z) (List.replicate k []) ∧ Below w.heap.size w wr)
  case atStart =>
    refine ⟨0, Nat.zero_le _, rfl, rfl, _, _, ?_, ?_, ⟨World.ownsRow_nil _ _ _ _, World.ownsRow_nil _ _ _ _, Or.inl rfl, ?_⟩, ?_⟩
    · simpa using hP0
    · exact (Blk.made w _ _).alloc _
    · simp; omega
    · exact ((Below.refl _ _).alloc (Nat.le_refl _) _).alloc (by simp) _
  case round =>
    obtain ⟨k, hk, rfl, rfl, u, v, hP, hR, hTw, hB⟩ := hrel
    by_cases hlt : k < 8
    · have hks : List.replicate (k + 1) z = List.replicate k z ++ [z] := List.replicate_succ'
      have hke : List.replicate (k + 1) ([] : List UInt8) = List.replicate k [] ++ [[]] := List.replicate_succ'
      have hkl : (List.replicate k z).length ≤ 1000000 := by rw [List.length_replicate]; omega
      have hkl2 : (List.replicate k ([] : List UInt8)).length ≤ 1000000 := by rw [List.length_replicate]; omega
      have hlt2 : (k : Int) < 8 := by omega
      have HKS := Lib.hid hks; have HKE := Lib.hid hke
      clear hks hke
      generalize List.replicate k z = xs at *
      generalize List.replicate k ([] : List UInt8) = ys at *
      generalize hpbe : w.heap.size + 1 = pb at *
      have hpb : w.heap.size ≤ pb := by omega
      have hne : w.heap.size ≠ pb := by omega
      clear hpbe
      go_wp2_with fail
      have hTd := hTw.up ((Below.refl _ wr).drew)
      have hPd := hP.up ((Below.refl _ wr).drew)
      have hRd := hR.up ((Below.refl _ wr).drew)
      have hBd := hB.drew
      clear hTw hP hR hB
      refine wp_region_late 9 (fun W => W.cell? ⟨pb, 0, none⟩ = some u ∧ W.cell? ⟨pb, 1, none⟩ = some v) (by kernel_rfl) ?_
      show wpAnyK _ _ _ _ _ 9 14 #[false,false,false,false,false,false,false,false,false,false,false,false,false,false] _ (World.drew _)
      generalize wr.drew = W0 at *
      refine wpAnyK_takeAny (i := 0) (oi := ⟨some 11, _, _, _, _, _⟩) (v := ?_) rfl (by kernel_rfl) (by kernel_rfl) (by kernel_rfl) (by kernel_rfl) (fun _ _ _ h => h) (Or.inl ⟨by kernel_rfl, ?_⟩) (fun _ => ⟨hPd.cell 0, hPd.cell 1⟩) ?_
      rotate_left
      · intro w'; go_simp; rfl
      try simp only [Act.put, List.setIfInBounds_toArray, List.set_cons_zero, List.set_cons_succ]
      refine wpAnyK_takeAny (i := 6) (oi := ⟨some 17, _, _, _, _, _⟩) (v := ?_) rfl (by kernel_rfl) (by kernel_rfl) (by kernel_rfl) (by kernel_rfl) (fun _ _ _ h => h) (Or.inl ⟨by kernel_rfl, ?_⟩) (fun _ => ⟨hPd.cell 0, hPd.cell 1⟩) ?_
      rotate_left
      · intro w'; go_simp; rfl
      try simp only [Act.put, List.setIfInBounds_toArray, List.set_cons_zero, List.set_cons_succ]
      refine wpAnyK_take (i := 1) (oi := ⟨some 12, _, _, _, _, _⟩) (L := [5, 9, 10, 11, 12, 13]) (v := ?_) rfl (by kernel_rfl) (by kernel_rfl) (by kernel_rfl) (by kernel_rfl) (fun _ _ _ h => h) (Or.inl ⟨by kernel_rfl, ?_⟩) ⟨hPd.cell 0, hPd.cell 1⟩ ?_
      rotate_left
      · rintro w' ⟨e0, e1⟩; go_simp; rfl
      try simp only [Act.put, List.setIfInBounds_toArray, List.set_cons_zero, List.set_cons_succ]
      refine wpAnyK_take (i := 7) (oi := ⟨some 18, _, _, _, _, _⟩) (L := [9, 10, 11, 12, 13]) (v := ?_) rfl (by kernel_rfl) (by kernel_rfl) (by kernel_rfl) (by kernel_rfl) (fun _ _ _ h => h) (Or.inl ⟨by kernel_rfl, ?_⟩) ⟨hPd.cell 0, hPd.cell 1⟩ ?_
      rotate_left
      · rintro w' ⟨e0, e1⟩; go_simp; rfl
      try simp only [Act.put, List.setIfInBounds_toArray, List.set_cons_zero, List.set_cons_succ]
      refine wpAnyK_ready (rs := [2, 8]) (by kernel_rfl) (by simp) ?_
      refine AllReadyK.cons (o := ⟨some 13, _, _, _, _, _⟩) rfl (fun K hK => ?_) (AllReadyK.cons (o := ⟨some 19, _, _, _, _, _⟩) rfl (fun K hK => ?_) AllReadyK.nil)
      · -- 2
        have hb1 : Below W0.heap.size W0 (W0.alloc (.cells (Lib.byteCells z).toArray 5)) := (Below.refl _ _).alloc (Nat.le_refl _) _
        have hTw1 := hTd.up hb1
        have hP1 := hPd.up hb1
        have hR1 := hRd.up hb1
        have hB1 := hBd.trans (hb1.mono hTd.at0)
        have hY1 : RowB (W0.alloc (.cells (Lib.byteCells z).toArray 5)) W0.heap.size z := by unfold RowB; exact Blk.made _ _ _
        have hm1 := HMK.out W0
        go_simp
        refine hK _ _ (fun _ => ⟨hP1.cell 0, hP1.cell 1⟩) ?_
        clear hK K
        generalize W0.alloc (.cells (Lib.byteCells z).toArray 5) = W1 at *
        clear hm1 hb1
        refine wpAnyK_ready (rs := [3, 8]) (by kernel_rfl) (by simp) ?_
        refine AllReadyK.cons (o := ⟨some 14, _, _, _, _, _⟩) rfl (fun K hK => ?_) (AllReadyK.cons (o := ⟨some 19, _, _, _, _, _⟩) rfl (fun K hK => ?_) AllReadyK.nil)
        · -- 3
          have hc2 := hY1.conv 512 512 HZL.out.symm
          go_simp
          clear hc2
          refine hK _ _ (fun _ => ⟨hP1.cell 0, hP1.cell 1⟩) ?_
          clear hK K
          refine wpAnyK_ready (rs := [4, 8]) (by kernel_rfl) (by simp) ?_
          refine AllReadyK.cons (o := ⟨some 15, _, _, _, _, _⟩) rfl (fun K hK => ?_) (AllReadyK.cons (o := ⟨some 19, _, _, _, _, _⟩) rfl (fun K hK => ?_) AllReadyK.nil)
          · -- 4
            have hb3 : Below W1.heap.size W1 (W1.alloc (.cells #[.string (bs z)] 9)) := (Below.refl _ _).alloc (Nat.le_refl _) _
            have hTw3 := hTw1.up hb3
            have hP3 := hP1.up hb3
            have hR3 := hR1.up hb3
            have hB3 := hB1.trans (hb3.mono hTw1.at0)
            have hZ3 : Blk (W1.alloc (.cells #[.string (bs z)] 9)) W1.heap.size 9 #[.string (bs z)] := Blk.made _ _ _
            go_simp
            refine hK _ _ (fun _ => ⟨hP3.cell 0, hP3.cell 1⟩) ?_
            clear hK K
            generalize W1.alloc (.cells #[.string (bs z)] 9) = W3 at *
            refine wpAnyK_ready (rs := [5, 8]) (by kernel_rfl) (by simp) ?_
            refine AllReadyK.cons (o := ⟨some 16, _, _, _, _, _⟩) rfl (fun K hK => ?_) (AllReadyK.cons (o := ⟨some 19, _, _, _, _, _⟩) rfl (fun K hK => ?_) AllReadyK.nil)
            · -- 5
              obtain ⟨u1, W4, hr4, hs4, hg4⟩ := hTw3.append hZ3 hkl
              obtain ⟨A4, n4, c4, he4⟩ := hs4.one.form
              subst he4
              rw [if_pos (by kernel_rfl)]
              refine Lib.wp_append_run _ (.tmp 12) (.tmp 15) 47 47 rfl _ _ rfl rfl _ _ hr4 ?_
              try simp only [Act.put, List.setIfInBounds_toArray, List.set_cons_zero, List.set_cons_succ]
              have hTw4 := hs4
              have hP4 := hTw3.blk hg4 hP3 (by decide)
              have hR4 := hTw3.blk hg4 hR3 (by decide)
              have hB4 := hTw3.below hg4 hB3 (Nat.le_refl _)
              refine hK _ _ (fun _ => ⟨hP4.cell 0, hP4.cell 1⟩) ?_
              clear hK K
              refine wpAnyK_takeAny (i := 10) (oi := ⟨some 21, _, _, _, _, _⟩) (v := ?_) rfl (by kernel_rfl) (by kernel_rfl) (by kernel_rfl) (by kernel_rfl) (fun _ _ _ h => h) (Or.inl ⟨by kernel_rfl, ?_⟩) (fun _ => ⟨hP4.cell 0, hP4.cell 1⟩) ?_
              rotate_left
              · intro w'; go_simp; rfl
              try simp only [Act.put, List.setIfInBounds_toArray, List.set_cons_zero, List.set_cons_succ]
              refine wpAnyK_ready (rs := [8]) (by kernel_rfl) (by simp) ?_
              refine AllReadyK.cons (o := ⟨some 19, _, _, _, _, _⟩) rfl (fun K hK => ?_) AllReadyK.nil
              have hb5 : Below W4.heap.size W4 (W4.alloc (.cells #[.string ⟨#[]⟩] 9)) := (Below.refl _ _).alloc (Nat.le_refl _) _
              have hTw5 := hTw4.up hb5
              have hP5 := hP4.up hb5
              have hR5 := hR4.up hb5
              have hB5 := hB4.trans (hb5.mono hTw4.at0)
              have hE5 : Blk (W4.alloc (.cells #[.string ⟨#[]⟩] 9)) W4.heap.size 9 #[.string (bs [])] := Blk.made _ _ _
              have hn5 := hTw4.fresh
              go_simp
              refine hK _ _ (fun _ => ⟨hP5.cell 0, hP5.cell 1⟩) ?_
              clear hK K
              generalize W4.alloc (.cells #[.string ⟨#[]⟩] 9) = W5 at *
              refine wpAnyK_ready (rs := [9]) (by kernel_rfl) (by simp) ?_
              refine AllReadyK.cons (o := ⟨some 20, _, _, _, _, _⟩) rfl (fun K hK => ?_) AllReadyK.nil
              obtain ⟨v1, W6, hr6, hs6, hg6⟩ := hTw5.swap.append hE5 hkl2
              obtain ⟨A6, n6, c6, he6⟩ := hs6.one.form
              subst he6
              rw [if_pos (by kernel_rfl)]
              refine Lib.wp_append_run _ (.tmp 18) (.tmp 19) 47 47 rfl _ _ rfl rfl _ _ hr6 ?_
              try simp only [Act.put, List.setIfInBounds_toArray, List.set_cons_zero, List.set_cons_succ]
              have hTw6 := hs6.swap
              have hP6 := hTw5.swap.blk hg6 hP5 (by decide)
              have hR6 := hTw5.swap.blk hg6 hR5 (by decide)
              have hB6 := hTw5.swap.below hg6 hB5 (Nat.le_refl _)
              refine hK _ _ (fun h => by cases h) ?_
              clear hK K
              refine wpAnyK_ready (rs := [11]) (by kernel_rfl) (by simp) ?_
              refine AllReadyK.cons (o := ⟨none, _, _, _, _, _⟩) rfl (fun K hK => ?_) AllReadyK.nil
              have f7 := hP6.frozen 0
              have cc7 := hP6.cell 0
              go_simp
              refine hK _ _ (fun h => by cases h) ?_
              clear hK K
              have hTw7 := hTw6.setBlk hP6 (by decide) 0 (.slice A4 n4 c4)
              have hR7 := hR6.setOther hne 0 (.slice A4 n4 c4)
              have hB7 := hB6.setCell (p := ⟨pb, 0, none⟩) hpb (.slice A4 n4 c4)
              have hP7 := hP6.set 0 (.slice A4 n4 c4)
              clear f7 cc7
              generalize W6.setCell ⟨pb, 0, none⟩ (.slice A4 n4 c4) = W7 at *
              refine wpAnyK_takeAny (i := 12) (oi := ⟨some 22, _, _, _, _, _⟩) (v := ?_) rfl (by kernel_rfl) (by kernel_rfl) (by kernel_rfl) (by kernel_rfl) (fun _ _ _ h => h) (Or.inl ⟨by kernel_rfl, ?_⟩) (fun h => by cases h) ?_
              rotate_left
              · intro w'; go_simp; rfl
              try simp only [Act.put, List.setIfInBounds_toArray, List.set_cons_zero, List.set_cons_succ]
              refine wpAnyK_ready (rs := [13]) (by kernel_rfl) (by simp) ?_
              refine AllReadyK.cons (o := ⟨none, _, _, _, _, _⟩) rfl (fun K hK => ?_) AllReadyK.nil
              have f8 := hP7.frozen 1
              have cc8 := hP7.cell 1
              go_simp
              refine hK _ _ (fun h => by cases h) ?_
              clear hK K
              have hTw8 := hTw7.setBlk hP7 (by decide) 1 (.slice A6 n6 c6)
              have hR8 := hR7.setOther hne 1 (.slice A6 n6 c6)
              have hB8 := hB7.setCell (p := ⟨pb, 1, none⟩) hpb (.slice A6 n6 c6)
              have hP8 := hP7.set 1 (.slice A6 n6 c6)
              clear f8 cc8
              generalize W7.setCell ⟨pb, 1, none⟩ (.slice A6 n6 c6) = W8 at *
              refine wpAnyK_done (by kernel_rfl) ?_ _
              go_wp2_with fail
              go_roundg (8 - (k + 1))
              case measure => omega
              case rel => exact ⟨k + 1, by omega, rfl, by go_num, _, _, hP8, hR8, HKS.out ▸ HKE.out ▸ hTw8, hB8⟩
            · -- 8
              have hb9 : Below W3.heap.size W3 (W3.alloc (.cells #[.string ⟨#[]⟩] 9)) := (Below.refl _ _).alloc (Nat.le_refl _) _
              have hTw9 := hTw3.up hb9
              have hP9 := hP3.up hb9
              have hR9 := hR3.up hb9
              have hB9 := hB3.trans (hb9.mono hTw3.at0)
              have hZ9 := hZ3.up hb9
              have hE9 : Blk (W3.alloc (.cells #[.string ⟨#[]⟩] 9)) W3.heap.size 9 #[.string (bs [])] := Blk.made _ _ _
              have hn9 := hTw3.fresh
              go_simp
              refine hK _ _ (fun _ => ⟨hP9.cell 0, hP9.cell 1⟩) ?_
              clear hK K
              generalize W3.alloc (.cells #[.string ⟨#[]⟩] 9) = W9 at *
              refine wpAnyK_ready (rs := [5]) (by kernel_rfl) (by simp) ?_
              refine AllReadyK.cons (o := ⟨some 16, _, _, _, _, _⟩) rfl (fun K hK => ?_) AllReadyK.nil
              obtain ⟨u1, W10, hr10, hs10, hg10⟩ := hTw9.append hZ9 hkl
              obtain ⟨A10, n10, c10, he10⟩ := hs10.one.form
              subst he10
              rw [if_pos (by kernel_rfl)]
              refine Lib.wp_append_run _ (.tmp 12) (.tmp 15) 47 47 rfl _ _ rfl rfl _ _ hr10 ?_
              try simp only [Act.put, List.setIfInBounds_toArray, List.set_cons_zero, List.set_cons_succ]
              have hTw10 := hs10
              have hP10 := hTw9.blk hg10 hP9 (by decide)
              have hR10 := hTw9.blk hg10 hR9 (by decide)
              have hB10 := hTw9.below hg10 hB9 (Nat.le_refl _)
              have hE10 := hTw9.blkAt hg10 hE9 hn9
              refine hK _ _ (fun _ => ⟨hP10.cell 0, hP10.cell 1⟩) ?_
              clear hK K
              refine wpAnyK_takeAny (i := 10) (oi := ⟨some 21, _, _, _, _, _⟩) (v := ?_) rfl (by kernel_rfl) (by kernel_rfl) (by kernel_rfl) (by kernel_rfl) (fun _ _ _ h => h) (Or.inl ⟨by kernel_rfl, ?_⟩) (fun _ => ⟨hP10.cell 0, hP10.cell 1⟩) ?_
              rotate_left
              · intro w'; go_simp; rfl
              try simp only [Act.put, List.setIfInBounds_toArray, List.set_cons_zero, List.set_cons_succ]
              refine wpAnyK_ready (rs := [9]) (by kernel_rfl) (by simp) ?_
              refine AllReadyK.cons (o := ⟨some 20, _, _, _, _, _⟩) rfl (fun K hK => ?_) AllReadyK.nil
              obtain ⟨v1, W11, hr11, hs11, hg11⟩ := hTw10.swap.append hE10 hkl2
              obtain ⟨A11, n11, c11, he11⟩ := hs11.one.form
              subst he11
              rw [if_pos (by kernel_rfl)]
              refine Lib.wp_append_run _ (.tmp 18) (.tmp 19) 47 47 rfl _ _ rfl rfl _ _ hr11 ?_
              try simp only [Act.put, List.setIfInBounds_toArray, List.set_cons_zero, List.set_cons_succ]
              have hTw11 := hs11.swap
              have hP11 := hTw10.swap.blk hg11 hP10 (by decide)
              have hR11 := hTw10.swap.blk hg11 hR10 (by decide)
              have hB11 := hTw10.swap.below hg11 hB10 (Nat.le_refl _)
              refine hK _ _ (fun h => by cases h) ?_
              clear hK K
              refine wpAnyK_ready (rs := [11]) (by kernel_rfl) (by simp) ?_
              refine AllReadyK.cons (o := ⟨none, _, _, _, _, _⟩) rfl (fun K hK => ?_) AllReadyK.nil
              have f12 := hP11.frozen 0
              have cc12 := hP11.cell 0
              go_simp
              refine hK _ _ (fun h => by cases h) ?_
              clear hK K
              have hTw12 := hTw11.setBlk hP11 (by decide) 0 (.slice A10 n10 c10)
              have hR12 := hR11.setOther hne 0 (.slice A10 n10 c10)
              have hB12 := hB11.setCell (p := ⟨pb, 0, none⟩) hpb (.slice A10 n10 c10)
              have hP12 := hP11.set 0 (.slice A10 n10 c10)
              clear f12 cc12
              generalize W11.setCell ⟨pb, 0, none⟩ (.slice A10 n10 c10) = W12 at *
              refine wpAnyK_takeAny (i := 12) (oi := ⟨some 22, _, _, _, _, _⟩) (v := ?_) rfl (by kernel_rfl) (by kernel_rfl) (by kernel_rfl) (by kernel_rfl) (fun _ _ _ h => h) (Or.inl ⟨by kernel_rfl, ?_⟩) (fun h => by cases h) ?_
              rotate_left
              · intro w'; go_simp; rfl
              try simp only [Act.put, List.setIfInBounds_toArray, List.set_cons_zero, List.set_cons_succ]
              refine wpAnyK_ready (rs := [13]) (by kernel_rfl) (by simp) ?_
              refine AllReadyK.cons (o := ⟨none, _, _, _, _, _⟩) rfl (fun K hK => ?_) AllReadyK.nil
              have f13 := hP12.frozen 1
              have cc13 := hP12.cell 1
              go_simp
              refine hK _ _ (fun h => by cases h) ?_
              clear hK K
              have hTw13 := hTw12.setBlk hP12 (by decide) 1 (.slice A11 n11 c11)
              have hR13 := hR12.setOther hne 1 (.slice A11 n11 c11)
              have hB13 := hB12.setCell (p := ⟨pb, 1, none⟩) hpb (.slice A11 n11 c11)
              have hP13 := hP12.set 1 (.slice A11 n11 c11)
              clear f13 cc13
              generalize W12.setCell ⟨pb, 1, none⟩ (.slice A11 n11 c11) = W13 at *
              refine wpAnyK_done (by kernel_rfl) ?_ _
              go_wp2_with fail
              go_roundg (8 - (k + 1))
              case measure => omega
              case rel => exact ⟨k + 1, by omega, rfl, by go_num, _, _, hP13, hR13, HKS.out ▸ HKE.out ▸ hTw13, hB13⟩
          · -- 8
            have hb14 : Below W1.heap.size W1 (W1.alloc (.cells #[.string ⟨#[]⟩] 9)) := (Below.refl _ _).alloc (Nat.le_refl _) _
            have hTw14 := hTw1.up hb14
            have hP14 := hP1.up hb14
            have hR14 := hR1.up hb14
            have hB14 := hB1.trans (hb14.mono hTw1.at0)
            have hE14 : Blk (W1.alloc (.cells #[.string ⟨#[]⟩] 9)) W1.heap.size 9 #[.string (bs [])] := Blk.made _ _ _
            have hn14 := hTw1.fresh
            have hY14 : RowB (W1.alloc (.cells #[.string ⟨#[]⟩] 9)) _ z := (show Blk W1 _ _ _ from hY1).up hb14
            go_simp
            refine hK _ _ (fun _ => ⟨hP14.cell 0, hP14.cell 1⟩) ?_
            clear hK K
            generalize W1.alloc (.cells #[.string ⟨#[]⟩] 9) = W14 at *
            refine wpAnyK_ready (rs := [4]) (by kernel_rfl) (by simp) ?_
            refine AllReadyK.cons (o := ⟨some 15, _, _, _, _, _⟩) rfl (fun K hK => ?_) AllReadyK.nil
            have hb15 : Below W14.heap.size W14 (W14.alloc (.cells #[.string (bs z)] 9)) := (Below.refl _ _).alloc (Nat.le_refl _) _
            have hTw15 := hTw14.up hb15
            have hP15 := hP14.up hb15
            have hR15 := hR14.up hb15
            have hB15 := hB14.trans (hb15.mono hTw14.at0)
            have hE15 := hE14.up hb15
            have hZ15 : Blk (W14.alloc (.cells #[.string (bs z)] 9)) W14.heap.size 9 #[.string (bs z)] := Blk.made _ _ _
            go_simp
            refine hK _ _ (fun _ => ⟨hP15.cell 0, hP15.cell 1⟩) ?_
            clear hK K
            generalize W14.alloc (.cells #[.string (bs z)] 9) = W15 at *
            refine wpAnyK_ready (rs := [5]) (by kernel_rfl) (by simp) ?_
            refine AllReadyK.cons (o := ⟨some 16, _, _, _, _, _⟩) rfl (fun K hK => ?_) AllReadyK.nil
            obtain ⟨u1, W16, hr16, hs16, hg16⟩ := hTw15.append hZ15 hkl
            obtain ⟨A16, n16, c16, he16⟩ := hs16.one.form
            subst he16
            rw [if_pos (by kernel_rfl)]
            refine Lib.wp_append_run _ (.tmp 12) (.tmp 15) 47 47 rfl _ _ rfl rfl _ _ hr16 ?_
            try simp only [Act.put, List.setIfInBounds_toArray, List.set_cons_zero, List.set_cons_succ]
            have hTw16 := hs16
            have hP16 := hTw15.blk hg16 hP15 (by decide)
            have hR16 := hTw15.blk hg16 hR15 (by decide)
            have hB16 := hTw15.below hg16 hB15 (Nat.le_refl _)
            have hE16 := hTw15.blkAt hg16 hE15 hn14
            refine hK _ _ (fun _ => ⟨hP16.cell 0, hP16.cell 1⟩) ?_
            clear hK K
            refine wpAnyK_takeAny (i := 10) (oi := ⟨some 21, _, _, _, _, _⟩) (v := ?_) rfl (by kernel_rfl) (by kernel_rfl) (by kernel_rfl) (by kernel_rfl) (fun _ _ _ h => h) (Or.inl ⟨by kernel_rfl, ?_⟩) (fun _ => ⟨hP16.cell 0, hP16.cell 1⟩) ?_
            rotate_left
            · intro w'; go_simp; rfl
            try simp only [Act.put, List.setIfInBounds_toArray, List.set_cons_zero, List.set_cons_succ]
            refine wpAnyK_ready (rs := [9]) (by kernel_rfl) (by simp) ?_
            refine AllReadyK.cons (o := ⟨some 20, _, _, _, _, _⟩) rfl (fun K hK => ?_) AllReadyK.nil
            obtain ⟨v1, W17, hr17, hs17, hg17⟩ := hTw16.swap.append hE16 hkl2
            obtain ⟨A17, n17, c17, he17⟩ := hs17.one.form
            subst he17
            rw [if_pos (by kernel_rfl)]
            refine Lib.wp_append_run _ (.tmp 18) (.tmp 19) 47 47 rfl _ _ rfl rfl _ _ hr17 ?_
            try simp only [Act.put, List.setIfInBounds_toArray, List.set_cons_zero, List.set_cons_succ]
            have hTw17 := hs17.swap
            have hP17 := hTw16.swap.blk hg17 hP16 (by decide)
            have hR17 := hTw16.swap.blk hg17 hR16 (by decide)
            have hB17 := hTw16.swap.below hg17 hB16 (Nat.le_refl _)
            refine hK _ _ (fun h => by cases h) ?_
            clear hK K
            refine wpAnyK_ready (rs := [11]) (by kernel_rfl) (by simp) ?_
            refine AllReadyK.cons (o := ⟨none, _, _, _, _, _⟩) rfl (fun K hK => ?_) AllReadyK.nil
            have f18 := hP17.frozen 0
            have cc18 := hP17.cell 0
            go_simp
            refine hK _ _ (fun h => by cases h) ?_
            clear hK K
            have hTw18 := hTw17.setBlk hP17 (by decide) 0 (.slice A16 n16 c16)
            have hR18 := hR17.setOther hne 0 (.slice A16 n16 c16)
            have hB18 := hB17.setCell (p := ⟨pb, 0, none⟩) hpb (.slice A16 n16 c16)
            have hP18 := hP17.set 0 (.slice A16 n16 c16)
            clear f18 cc18
            generalize W17.setCell ⟨pb, 0, none⟩ (.slice A16 n16 c16) = W18 at *
            refine wpAnyK_takeAny (i := 12) (oi := ⟨some 22, _, _, _, _, _⟩) (v := ?_) rfl (by kernel_rfl) (by kernel_rfl) (by kernel_rfl) (by kernel_rfl) (fun _ _ _ h => h) (Or.inl ⟨by kernel_rfl, ?_⟩) (fun h => by cases h) ?_
            rotate_left
            · intro w'; go_simp; rfl
            try simp only [Act.put, List.setIfInBounds_toArray, List.set_cons_zero, List.set_cons_succ]
            refine wpAnyK_ready (rs := [13]) (by kernel_rfl) (by simp) ?_
            refine AllReadyK.cons (o := ⟨none, _, _, _, _, _⟩) rfl (fun K hK => ?_) AllReadyK.nil
            have f19 := hP18.frozen 1
            have cc19 := hP18.cell 1
            go_simp
            refine hK _ _ (fun h => by cases h) ?_
            clear hK K
            have hTw19 := hTw18.setBlk hP18 (by decide) 1 (.slice A17 n17 c17)
            have hR19 := hR18.setOther hne 1 (.slice A17 n17 c17)
            have hB19 := hB18.setCell (p := ⟨pb, 1, none⟩) hpb (.slice A17 n17 c17)
            have hP19 := hP18.set 1 (.slice A17 n17 c17)
            clear f19 cc19
            generalize W18.setCell ⟨pb, 1, none⟩ (.slice A17 n17 c17) = W19 at *
            refine wpAnyK_done (by kernel_rfl) ?_ _
            go_wp2_with fail
            go_roundg (8 - (k + 1))
            case measure => omega
            case rel => exact ⟨k + 1, by omega, rfl, by go_num, _, _, hP19, hR19, HKS.out ▸ HKE.out ▸ hTw19, hB19⟩
        · -- 8
          have hb20 : Below W1.heap.size W1 (W1.alloc (.cells #[.string ⟨#[]⟩] 9)) := (Below.refl _ _).alloc (Nat.le_refl _) _
          have hTw20 := hTw1.up hb20
          have hP20 := hP1.up hb20
          have hR20 := hR1.up hb20
          have hB20 := hB1.trans (hb20.mono hTw1.at0)
          have hE20 : Blk (W1.alloc (.cells #[.string ⟨#[]⟩] 9)) W1.heap.size 9 #[.string (bs [])] := Blk.made _ _ _
          have hn20 := hTw1.fresh
          have hY20 : RowB (W1.alloc (.cells #[.string ⟨#[]⟩] 9)) _ z := (show Blk W1 _ _ _ from hY1).up hb20
          go_simp
          refine hK _ _ (fun _ => ⟨hP20.cell 0, hP20.cell 1⟩) ?_
          clear hK K
          generalize W1.alloc (.cells #[.string ⟨#[]⟩] 9) = W20 at *
          refine wpAnyK_ready (rs := [3]) (by kernel_rfl) (by simp) ?_
          refine AllReadyK.cons (o := ⟨some 14, _, _, _, _, _⟩) rfl (fun K hK => ?_) AllReadyK.nil
          have hc21 := hY20.conv 512 512 HZL.out.symm
          go_simp
          clear hc21
          refine hK _ _ (fun _ => ⟨hP20.cell 0, hP20.cell 1⟩) ?_
          clear hK K
          refine wpAnyK_ready (rs := [4]) (by kernel_rfl) (by simp) ?_
          refine AllReadyK.cons (o := ⟨some 15, _, _, _, _, _⟩) rfl (fun K hK => ?_) AllReadyK.nil
          have hb22 : Below W20.heap.size W20 (W20.alloc (.cells #[.string (bs z)] 9)) := (Below.refl _ _).alloc (Nat.le_refl _) _
          have hTw22 := hTw20.up hb22
          have hP22 := hP20.up hb22
          have hR22 := hR20.up hb22
          have hB22 := hB20.trans (hb22.mono hTw20.at0)
          have hE22 := hE20.up hb22
          have hZ22 : Blk (W20.alloc (.cells #[.string (bs z)] 9)) W20.heap.size 9 #[.string (bs z)] := Blk.made _ _ _
          go_simp
          refine hK _ _ (fun _ => ⟨hP22.cell 0, hP22.cell 1⟩) ?_
          clear hK K
          generalize W20.alloc (.cells #[.string (bs z)] 9) = W22 at *
          refine wpAnyK_ready (rs := [5]) (by kernel_rfl) (by simp) ?_
          refine AllReadyK.cons (o := ⟨some 16, _, _, _, _, _⟩) rfl (fun K hK => ?_) AllReadyK.nil
          obtain ⟨u1, W23, hr23, hs23, hg23⟩ := hTw22.append hZ22 hkl
          obtain ⟨A23, n23, c23, he23⟩ := hs23.one.form
          subst he23
          rw [if_pos (by kernel_rfl)]
          refine Lib.wp_append_run _ (.tmp 12) (.tmp 15) 47 47 rfl _ _ rfl rfl _ _ hr23 ?_
          try simp only [Act.put, List.setIfInBounds_toArray, List.set_cons_zero, List.set_cons_succ]
          have hTw23 := hs23
          have hP23 := hTw22.blk hg23 hP22 (by decide)
          have hR23 := hTw22.blk hg23 hR22 (by decide)
          have hB23 := hTw22.below hg23 hB22 (Nat.le_refl _)
          have hE23 := hTw22.blkAt hg23 hE22 hn20
          refine hK _ _ (fun _ => ⟨hP23.cell 0, hP23.cell 1⟩) ?_
          clear hK K
          refine wpAnyK_takeAny (i := 10) (oi := ⟨some 21, _, _, _, _, _⟩) (v := ?_) rfl (by kernel_rfl) (by kernel_rfl) (by kernel_rfl) (by kernel_rfl) (fun _ _ _ h => h) (Or.inl ⟨by kernel_rfl, ?_⟩) (fun _ => ⟨hP23.cell 0, hP23.cell 1⟩) ?_
          rotate_left
          · intro w'; go_simp; rfl
          try simp only [Act.put, List.setIfInBounds_toArray, List.set_cons_zero, List.set_cons_succ]
          refine wpAnyK_ready (rs := [9]) (by kernel_rfl) (by simp) ?_
          refine AllReadyK.cons (o := ⟨some 20, _, _, _, _, _⟩) rfl (fun K hK => ?_) AllReadyK.nil
          obtain ⟨v1, W24, hr24, hs24, hg24⟩ := hTw23.swap.append hE23 hkl2
          obtain ⟨A24, n24, c24, he24⟩ := hs24.one.form
          subst he24
          rw [if_pos (by kernel_rfl)]
          refine Lib.wp_append_run _ (.tmp 18) (.tmp 19) 47 47 rfl _ _ rfl rfl _ _ hr24 ?_
          try simp only [Act.put, List.setIfInBounds_toArray, List.set_cons_zero, List.set_cons_succ]
          have hTw24 := hs24.swap
          have hP24 := hTw23.swap.blk hg24 hP23 (by decide)
          have hR24 := hTw23.swap.blk hg24 hR23 (by decide)
          have hB24 := hTw23.swap.below hg24 hB23 (Nat.le_refl _)
          refine hK _ _ (fun h => by cases h) ?_
          clear hK K
          refine wpAnyK_ready (rs := [11]) (by kernel_rfl) (by simp) ?_
          refine AllReadyK.cons (o := ⟨none, _, _, _, _, _⟩) rfl (fun K hK => ?_) AllReadyK.nil
          have f25 := hP24.frozen 0
          have cc25 := hP24.cell 0
          go_simp
          refine hK _ _ (fun h => by cases h) ?_
          clear hK K
          have hTw25 := hTw24.setBlk hP24 (by decide) 0 (.slice A23 n23 c23)
          have hR25 := hR24.setOther hne 0 (.slice A23 n23 c23)
          have hB25 := hB24.setCell (p := ⟨pb, 0, none⟩) hpb (.slice A23 n23 c23)
          have hP25 := hP24.set 0 (.slice A23 n23 c23)
          clear f25 cc25
          generalize W24.setCell ⟨pb, 0, none⟩ (.slice A23 n23 c23) = W25 at *
          refine wpAnyK_takeAny (i := 12) (oi := ⟨some 22, _, _, _, _, _⟩) (v := ?_) rfl (by kernel_rfl) (by kernel_rfl) (by kernel_rfl) (by kernel_rfl) (fun _ _ _ h => h) (Or.inl ⟨by kernel_rfl, ?_⟩) (fun h => by cases h) ?_
          rotate_left
          · intro w'; go_simp; rfl
          try simp only [Act.put, List.setIfInBounds_toArray, List.set_cons_zero, List.set_cons_succ]
          refine wpAnyK_ready (rs := [13]) (by kernel_rfl) (by simp) ?_
          refine AllReadyK.cons (o := ⟨none, _, _, _, _, _⟩) rfl (fun K hK => ?_) AllReadyK.nil
          have f26 := hP25.frozen 1
          have cc26 := hP25.cell 1
          go_simp
          refine hK _ _ (fun h => by cases h) ?_
          clear hK K
          have hTw26 := hTw25.setBlk hP25 (by decide) 1 (.slice A24 n24 c24)
          have hR26 := hR25.setOther hne 1 (.slice A24 n24 c24)
          have hB26 := hB25.setCell (p := ⟨pb, 1, none⟩) hpb (.slice A24 n24 c24)
          have hP26 := hP25.set 1 (.slice A24 n24 c24)
          clear f26 cc26
          generalize W25.setCell ⟨pb, 1, none⟩ (.slice A24 n24 c24) = W26 at *
          refine wpAnyK_done (by kernel_rfl) ?_ _
          go_wp2_with fail
          go_roundg (8 - (k + 1))
          case measure => omega
          case rel => exact ⟨k + 1, by omega, rfl, by go_num, _, _, hP26, hR26, HKS.out ▸ HKE.out ▸ hTw26, hB26⟩
      · -- 8
        have hb27 : Below W0.heap.size W0 (W0.alloc (.cells #[.string ⟨#[]⟩] 9)) := (Below.refl _ _).alloc (Nat.le_refl _) _
        have hTw27 := hTd.up hb27
        have hP27 := hPd.up hb27
        have hR27 := hRd.up hb27
        have hB27 := hBd.trans (hb27.mono hTd.at0)
        have hE27 : Blk (W0.alloc (.cells #[.string ⟨#[]⟩] 9)) W0.heap.size 9 #[.string (bs [])] := Blk.made _ _ _
        have hn27 := hTd.fresh
        go_simp
        refine hK _ _ (fun _ => ⟨hP27.cell 0, hP27.cell 1⟩) ?_
        clear hK K
        generalize W0.alloc (.cells #[.string ⟨#[]⟩] 9) = W27 at *
        refine wpAnyK_ready (rs := [2]) (by kernel_rfl) (by simp) ?_
        refine AllReadyK.cons (o := ⟨some 13, _, _, _, _, _⟩) rfl (fun K hK => ?_) AllReadyK.nil
        have hb28 : Below W27.heap.size W27 (W27.alloc (.cells (Lib.byteCells z).toArray 5)) := (Below.refl _ _).alloc (Nat.le_refl _) _
        have hTw28 := hTw27.up hb28
        have hP28 := hP27.up hb28
        have hR28 := hR27.up hb28
        have hB28 := hB27.trans (hb28.mono hTw27.at0)
        have hE28 := hE27.up hb28
        have hY28 : RowB (W27.alloc (.cells (Lib.byteCells z).toArray 5)) W27.heap.size z := by unfold RowB; exact Blk.made _ _ _
        have hm28 := HMK.out W27
        go_simp
        refine hK _ _ (fun _ => ⟨hP28.cell 0, hP28.cell 1⟩) ?_
        clear hK K
        generalize W27.alloc (.cells (Lib.byteCells z).toArray 5) = W28 at *
        clear hm28 hb28
        refine wpAnyK_ready (rs := [3]) (by kernel_rfl) (by simp) ?_
        refine AllReadyK.cons (o := ⟨some 14, _, _, _, _, _⟩) rfl (fun K hK => ?_) AllReadyK.nil
        have hc29 := hY28.conv 512 512 HZL.out.symm
        go_simp
        clear hc29
        refine hK _ _ (fun _ => ⟨hP28.cell 0, hP28.cell 1⟩) ?_
        clear hK K
        refine wpAnyK_ready (rs := [4]) (by kernel_rfl) (by simp) ?_
        refine AllReadyK.cons (o := ⟨some 15, _, _, _, _, _⟩) rfl (fun K hK => ?_) AllReadyK.nil
        have hb30 : Below W28.heap.size W28 (W28.alloc (.cells #[.string (bs z)] 9)) := (Below.refl _ _).alloc (Nat.le_refl _) _
        have hTw30 := hTw28.up hb30
        have hP30 := hP28.up hb30
        have hR30 := hR28.up hb30
        have hB30 := hB28.trans (hb30.mono hTw28.at0)
        have hE30 := hE28.up hb30
        have hZ30 : Blk (W28.alloc (.cells #[.string (bs z)] 9)) W28.heap.size 9 #[.string (bs z)] := Blk.made _ _ _
        go_simp
        refine hK _ _ (fun _ => ⟨hP30.cell 0, hP30.cell 1⟩) ?_
        clear hK K
        generalize W28.alloc (.cells #[.string (bs z)] 9) = W30 at *
        refine wpAnyK_ready (rs := [5]) (by kernel_rfl) (by simp) ?_
        refine AllReadyK.cons (o := ⟨some 16, _, _, _, _, _⟩) rfl (fun K hK => ?_) AllReadyK.nil
        obtain ⟨u1, W31, hr31, hs31, hg31⟩ := hTw30.append hZ30 hkl
        obtain ⟨A31, n31, c31, he31⟩ := hs31.one.form
        subst he31
        rw [if_pos (by kernel_rfl)]
        refine Lib.wp_append_run _ (.tmp 12) (.tmp 15) 47 47 rfl _ _ rfl rfl _ _ hr31 ?_
        try simp only [Act.put, List.setIfInBounds_toArray, List.set_cons_zero, List.set_cons_succ]
        have hTw31 := hs31
        have hP31 := hTw30.blk hg31 hP30 (by decide)
        have hR31 := hTw30.blk hg31 hR30 (by decide)
        have hB31 := hTw30.below hg31 hB30 (Nat.le_refl _)
        have hE31 := hTw30.blkAt hg31 hE30 hn27
        refine hK _ _ (fun _ => ⟨hP31.cell 0, hP31.cell 1⟩) ?_
        clear hK K
        refine wpAnyK_takeAny (i := 10) (oi := ⟨some 21, _, _, _, _, _⟩) (v := ?_) rfl (by kernel_rfl) (by kernel_rfl) (by kernel_rfl) (by kernel_rfl) (fun _ _ _ h => h) (Or.inl ⟨by kernel_rfl, ?_⟩) (fun _ => ⟨hP31.cell 0, hP31.cell 1⟩) ?_
        rotate_left
        · intro w'; go_simp; rfl
        try simp only [Act.put, List.setIfInBounds_toArray, List.set_cons_zero, List.set_cons_succ]
        refine wpAnyK_ready (rs := [9]) (by kernel_rfl) (by simp) ?_
        refine AllReadyK.cons (o := ⟨some 20, _, _, _, _, _⟩) rfl (fun K hK => ?_) AllReadyK.nil
        obtain ⟨v1, W32, hr32, hs32, hg32⟩ := hTw31.swap.append hE31 hkl2
        obtain ⟨A32, n32, c32, he32⟩ := hs32.one.form
        subst he32
        rw [if_pos (by kernel_rfl)]
        refine Lib.wp_append_run _ (.tmp 18) (.tmp 19) 47 47 rfl _ _ rfl rfl _ _ hr32 ?_
        try simp only [Act.put, List.setIfInBounds_toArray, List.set_cons_zero, List.set_cons_succ]
        have hTw32 := hs32.swap
        have hP32 := hTw31.swap.blk hg32 hP31 (by decide)
        have hR32 := hTw31.swap.blk hg32 hR31 (by decide)
        have hB32 := hTw31.swap.below hg32 hB31 (Nat.le_refl _)
        refine hK _ _ (fun h => by cases h) ?_
        clear hK K
        refine wpAnyK_ready (rs := [11]) (by kernel_rfl) (by simp) ?_
        refine AllReadyK.cons (o := ⟨none, _, _, _, _, _⟩) rfl (fun K hK => ?_) AllReadyK.nil
        have f33 := hP32.frozen 0
        have cc33 := hP32.cell 0
        go_simp
        refine hK _ _ (fun h => by cases h) ?_
        clear hK K
        have hTw33 := hTw32.setBlk hP32 (by decide) 0 (.slice A31 n31 c31)
        have hR33 := hR32.setOther hne 0 (.slice A31 n31 c31)
        have hB33 := hB32.setCell (p := ⟨pb, 0, none⟩) hpb (.slice A31 n31 c31)
        have hP33 := hP32.set 0 (.slice A31 n31 c31)
        clear f33 cc33
        generalize W32.setCell ⟨pb, 0, none⟩ (.slice A31 n31 c31) = W33 at *
        refine wpAnyK_takeAny (i := 12) (oi := ⟨some 22, _, _, _, _, _⟩) (v := ?_) rfl (by kernel_rfl) (by kernel_rfl) (by kernel_rfl) (by kernel_rfl) (fun _ _ _ h => h) (Or.inl ⟨by kernel_rfl, ?_⟩) (fun h => by cases h) ?_
        rotate_left
        · intro w'; go_simp; rfl
        try simp only [Act.put, List.setIfInBounds_toArray, List.set_cons_zero, List.set_cons_succ]
        refine wpAnyK_ready (rs := [13]) (by kernel_rfl) (by simp) ?_
        refine AllReadyK.cons (o := ⟨none, _, _, _, _, _⟩) rfl (fun K hK => ?_) AllReadyK.nil
        have f34 := hP33.frozen 1
        have cc34 := hP33.cell 1
        go_simp
        refine hK _ _ (fun h => by cases h) ?_
        clear hK K
        have hTw34 := hTw33.setBlk hP33 (by decide) 1 (.slice A32 n32 c32)
        have hR34 := hR33.setOther hne 1 (.slice A32 n32 c32)
        have hB34 := hB33.setCell (p := ⟨pb, 1, none⟩) hpb (.slice A32 n32 c32)
        have hP34 := hP33.set 1 (.slice A32 n32 c32)
        clear f34 cc34
        generalize W33.setCell ⟨pb, 1, none⟩ (.slice A32 n32 c32) = W34 at *
        refine wpAnyK_done (by kernel_rfl) ?_ _
        go_wp2_with fail
        go_roundg (8 - (k + 1))
        case measure => omega
        case rel => exact ⟨k + 1, by omega, rfl, by go_num, _, _, hP34, hR34, HKS.out ▸ HKE.out ▸ hTw34, hB34⟩
    · have hk8 : k = 8 := by omega
      subst hk8
      have hnlt : ¬ (((8 : Nat) : Int) < 8) := by omega
      obtain ⟨A1, n1, c1, rfl⟩ := hTw.one.form
      obtain ⟨A2, n2, c2, rfl⟩ := hTw.two.form
      have f0 := hR.frozen 0
      have f1 := hR.frozen 1
      have r0 := hR.cell 0
      have r1 := hR.cell 1
      have p0 := hP.cell 0
      have p1 := hP.cell 1
      go_wp2_with fail
      have hB4 := (hR.set 0 (.slice A1 n1 c1)).set 1 (.slice A2 n2 c2)
      refine bodyPost_ret (new9_results _ _ _ rfl hB4) rfl ?_
      exact ⟨_, _, rfl, (hTw.setBlk hR (by decide) 0 _).setBlk (hR.set 0 _) (by decide) 1 _, (hB.setCell (p := ⟨w.heap.size, 0, none⟩) (Nat.le_refl _) _).setCell (p := ⟨w.heap.size, 1, none⟩) (Nat.le_refl _) _⟩
end
end Go.Proofs.YtjlcbabnkhdgpaaGreatDoor
