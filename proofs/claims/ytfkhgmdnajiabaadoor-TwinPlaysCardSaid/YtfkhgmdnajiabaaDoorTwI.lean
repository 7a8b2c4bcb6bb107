/-
  Plain Lean, no program: an area's Write, Read and Repair where no power fails; walks: a new device, speaks.
-/
import Derived.Test.YtfkhgmdnajiabaaDoorTwH
namespace Go.Proofs.YtfkhgmdnajiabaaDoor
set_option linter.unusedSimpArgs false
set_option linter.unusedVariables false
open Go.RowKit Go.Maps

/-- A page's bytes. -/
def pgv (a : ArM) (d : DevM) (p : Int) : List UInt8 := readM d (a.fr + 2 * p) ++ readM d (a.fr + 2 * p + 1)
theorem goodB_iff {a : ArM} {x : Img} : goodB a x = true ↔ GoodI a x ∧ wholeB x.2 = true := by
  unfold goodB thereB GoodI
  simp only [Bool.and_eq_true, decide_eq_true_eq]
  constructor
  · rintro ⟨h1, h2, h3⟩; exact ⟨⟨h1, h2⟩, h3⟩
  · rintro ⟨⟨h1, h2⟩, h3⟩; exact ⟨h1, h2, h3⟩
theorem take_drop_256 (s : List UInt8) : s.take 256 ++ s.drop 256 = s := List.take_append_drop 256 s
theorem RoundsDone.page {a : ArM} {d d' : DevM} {l : List Img} (h : RoundsDone a d d' l) (p : Int) (h0 : 0 ≤ p) (h1 : p < a.pg) : pgv a d' p = match lastAt l p with | some s => s | none => pgv a d p := by
  unfold pgv
  rw [h.pfirst p h0 h1, h.psecond p h0 h1]
  cases lastAt l p with
  | some s => exact take_drop_256 s
  | none => rfl
theorem write_calm_all {a : ArM} {d : DevM} {l : List Img} (hfit : a.fits d.size) (hx : ∀ x ∈ l, goodB a x = true) (ho : d.off = false) (hf : d.fuse = 0) :
    (twriteM a d l).1 = 0 ∧ RoundsDone a d (twriteM a d l).2 l := by
  have hx' : ∀ x ∈ l, GoodI a x := fun x h => (goodB_iff.1 (hx x h)).1
  have e : twriteM a d l = roundsM a l.length d l := by unfold twriteM; rw [if_pos (List.all_eq_true.2 hx)]
  rw [e]
  have h := rounds_calm l.length d l hfit hx' ho hf
  exact ⟨h, rounds_done l.length d l (Nat.le_refl _) hfit hx' ho h⟩
theorem write_bad {a : ArM} {d : DevM} {l : List Img} (h : ∃ x ∈ l, goodB a x = false) : twriteM a d l = (1, d) := by
  unfold twriteM
  rw [if_neg]
  intro hh
  obtain ⟨x, hx, hb⟩ := h
  rw [List.all_eq_true] at hh
  rw [hh x hx] at hb
  cases hb
theorem tread_on {a : ArM} {d : DevM} {p : Int} (ho : d.off = false) (h0 : 0 ≤ p) (h1 : p < a.pg) : treadM a d p = (pgv a d p, 0) := by
  unfold treadM twoM
  rw [if_pos (by unfold thereB; simp; omega), if_neg (by simp [ho])]; rfl
theorem tread_no {a : ArM} {d : DevM} {p : Int} (h : ¬ (0 ≤ p ∧ p < a.pg)) : treadM a d p = ([], 1) := by
  unfold treadM
  rw [if_neg (by unfold thereB; simp; omega)]
theorem repM_none {a : ArM} {b : Int → Option (List UInt8)} {d : DevM} (n : Nat) (h : ∀ k, k < n → fixB a b d k = none) : repM a b d n = (0, d, 0) := by
  induction n with
  | zero => rfl
  | succ n ih =>
    rw [repM, ih (fun k hk => h k (by omega)), if_neg (by simp)]
    dsimp only
    rw [h n (by omega)]
theorem fixB_whole {a : ArM} {b : Int → Option (List UInt8)} {d : DevM} {k : Nat} (h : wholeB (pgv a d k) = true) : fixB a b d k = none := by
  unfold fixB
  cases b k with
  | none => rfl
  | some s => show (if wholeB (pgv a d k) = true then none else some s) = none; rw [if_pos h]
theorem repair_none {a : ArM} {d : DevM} (h : ∀ k : Nat, (k : Int) < a.pg → wholeB (pgv a d k) = true) : trepairM a d = ((0, 0), d) := by
  unfold trepairM
  rw [repM_none _ (fun k hk => fixB_whole (h k (by omega)))]
  unfold endM
  simp
theorem newM_read (n j : Int) : readM (newM n) j = List.replicate 256 0 := rfl
theorem newM_page (a : ArM) (n p : Int) : pgv a (newM n) p = List.replicate 512 0 := by
  unfold pgv
  rw [newM_read, newM_read, List.replicate_append_replicate]
theorem zeros_whole : wholeB (List.replicate 512 (0 : UInt8)) = true := by decide +kernel
theorem zeros_noughts : noughtsB (List.replicate 512 (0 : UInt8)) = true := by decide +kernel

theorem devnew_dv (n0 : Nat) (n : Int) (h1 : 1 ≤ n) (h2 : n ≤ 4096) (w : World) (hn : n0 ≤ w.heap.size) :
    Calls Tryd.prog 8 #[.int .i64 n] w fun e w' => ∃ m, e = .returned (.tuple #[.pointer (some ⟨w.heap.size + 1, 0, none⟩), .int .i64 0]) ∧ Dv n0 w' (w.heap.size + 1) m (newM n) ∧ Below w.heap.size w w' := by
  refine (devnew_ok n0 n h1 h2 w hn).mono ?_
  rintro e w' ⟨rfl, ⟨m, v, kv, h⟩, hb⟩
  exact ⟨m, rfl, ⟨⟨v, kv, h⟩, by simp [newM]⟩, hb⟩
theorem Tw.glt {n0 ga g m : Nat} {w : World} {a : ArM} {d : DevM} (h : Tw n0 w ga g m a d) : g < w.heap.size := by
  obtain ⟨⟨v, kv, hD⟩, _⟩ := h.dv
  exact hD.blk.lt
theorem Tw.mlt {n0 ga g m : Nat} {w : World} {a : ArM} {d : DevM} (h : Tw n0 w ga g m a d) : m < w.heap.size := by
  obtain ⟨⟨v, kv, hD⟩, _⟩ := h.dv
  obtain ⟨es, c, hm⟩ := hD.map_
  exact heap_lt hm
theorem Dv.map2 {n0 g m : Nat} {w : World} {d : DevM} (h : Dv n0 w g m d) : ∃ es c, w.heap[m]? = some (.map es c) := by
  obtain ⟨⟨v, kv, hD⟩, _⟩ := h
  exact hD.map_
theorem Dv.blk2 {n0 g m : Nat} {w : World} {d : DevM} (h : Dv n0 w g m d) : ∃ cs, Blk w g 66 cs := by
  obtain ⟨⟨v, kv, hD⟩, _⟩ := h
  exact ⟨_, hD.blk⟩
/-- One image in a slice. -/
theorem imgs_one {w : World} {g m : Nat} (p : Int) (s : List UInt8) (hg : g < w.heap.size) (hm : m < w.heap.size) :
    ImgsAt (w.alloc (.cells #[.int .i64 p, .string (bs s)] 36)) g m (some ⟨w.heap.size, 0, none⟩) [(p, s)] := by
  intro k hk
  have hk0 : k = 0 := by simp at hk; omega
  subst hk0
  have hb := Blk.made w #[.int .i64 p, .string (bs s)] 36
  refine ⟨w.heap.size, 0, rfl, ⟨by omega, by omega, _, _, _, hb, by decide⟩, ?_, ?_⟩
  · simp
  · simp

set_option maxHeartbeats 3200000 in
set_option maxRecDepth 100000 in
theorem speaks_any (w : World) (ht : Turns w) : Calls Tryd.prog 7 #[] w fun e w' => e = .returned (.bool true) ∧ Below w.heap.size w w' := by
  obtain ⟨s, hs⟩ : ∃ s, s = imgB 5 [120] := ⟨_, rfl⟩
  have himg := fun W hW => image_any 0 5 [120] (by decide) (by decide) (by decide) W hW
  rw [← hs] at himg
  have hl : s.length = 512 := by rw [hs]; exact imgB_length (by decide) (by decide)
  have hw : wholeB s = true := by rw [hs]; exact imgB_whole (by decide) (by decide)
  have hx120 : bs [120] = ⟨#[120]⟩ := rfl
  rw [hx120] at himg
  have hlt := ht.lt
  have hd := devnew_dv w.heap.size 40 (by decide) (by decide) w (Nat.le_refl _)
  obtain ⟨a, ha⟩ : ∃ a : ArM, a = ⟨1, 2, 10, 8⟩ := ⟨_, rfl⟩
  have hfit : a.fits (newM 40).size := by rw [ha]; simp [ArM.fits, newM]
  have hg : ∀ x ∈ [((3 : Int), s)], goodB a x = true := by
    intro x hx
    simp at hx
    subst hx
    rw [ha]
    exact goodB_iff.2 ⟨⟨by simp, hl⟩, hw⟩
  obtain ⟨q1, q2⟩ := write_calm_all (a := a) (d := newM 40) hfit hg rfl rfl
  have hwr := fun (ga g m : Nat) (W : World) h1 h2 => twrite_any w.heap.size ga g m a (newM 40) (some ⟨W.heap.size, 0, none⟩) 1 [((3 : Int), s)] (W.alloc (.cells #[.int .i64 3, .string (bs s)] 36)) h1 h2 (by simp) (by simp) (fun x hx => by simp at hx; subst hx; show s.length ≤ _; omega) (by decide)
  rw [show twriteM a (newM 40) [((3 : Int), s)] = ((twriteM a (newM 40) [((3 : Int), s)]).1, (twriteM a (newM 40) [((3 : Int), s)]).2) from rfl, q1] at hwr
  generalize (twriteM a (newM 40) [((3 : Int), s)]).2 = d1 at *
  have hp : ∀ p : Int, 0 ≤ p → p < a.pg → pgv a d1 p = if p = 3 then s else List.replicate 512 0 := fun p h0 h1 => by
    rw [q2.page p h0 h1, lastAt_cons, lastAt_nil, newM_page]
    dsimp only
    by_cases h : p = 3
    · rw [if_pos h.symm, if_pos h]
    · rw [if_neg (fun e => h e.symm), if_neg h]
  have ha8 : a.pg = 8 := by rw [ha]
  have htr : treadM a d1 3 = (s, 0) := by rw [tread_on q2.off (by decide) (by rw [ha8]; decide), hp 3 (by decide) (by rw [ha8]; decide)]; rfl
  have hrp : trepairM a d1 = ((0, 0), d1) := repair_none (fun k hk => by
    rw [hp k (by omega) hk]
    split
    · exact hw
    · exact zeros_whole)
  have hc1 : d1.cmds < 900000000 := by rw [q2.cmds, ha]; simp [newM]
  have hrd := fun ga g m W h => tread_any w.heap.size ga g m a d1 3 W h (by omega)
  have hre := fun ga g m W h => repair_any w.heap.size ga g m a d1 W h hc1 q2.off
  rw [htr] at hrd
  rw [hrp] at hre
  dsimp only at hrd hre
  have hnew := fun g m W h1 h2 => twnew_ok w.heap.size g m a (newM 40) W h1 h2 hlt hfit
  have HFI := Lib.hid himg; have HNW := Lib.hid hnew; have HWR := Lib.hid hwr; have HRD := Lib.hid hrd; have HRE := Lib.hid hre; have HT := Lib.hid ht; have HA := Lib.hid ha
  clear hs hl hw hx120 hlt hfit hg q1 q2 hp htr hrp hc1 himg hnew hwr hrd hre ht ha8 ha
  go_enter Tryd.func7, Tryd.ntmps7
  go_wp2_with fail
  refine hd.mono ?_
  rintro e w1 ⟨m, rfl, hD, hb1⟩
  have HD := Lib.hid hD; have HB1 := Lib.hid hb1
  clear hd hD hb1
  go_wp2_with fail
  have hn := HNW.out _ m w1 HD.out (HT.out.below HB1.out)
  rw [HA.out] at hn
  refine hn.mono ?_
  rintro e w2 ⟨rfl, hT2, hb2⟩
  rw [← HA.out] at hT2
  have HT2 := Lib.hid hT2; have HB2 := Lib.hid (HB1.out.trans (hb2.mono HB1.out.size))
  clear hn hT2 hb2 HD HB1
  generalize w1.heap.size = ga at *
  generalize w.heap.size + 1 = g at *
  go_wp2_with fail
  refine (HFI.out w2 HT2.out.turns).mono ?_
  rintro e w3 ⟨rfl, hb3⟩
  have HT3 := Lib.hid (HT2.out.up hb3); have HB3 := Lib.hid (HB2.out.trans (hb3.mono HB2.out.size))
  clear hb3 HT2 HB2
  have hb4 : Below w3.heap.size w3 (w3.alloc (.cells #[.int .i64 3, .string (bs s)] 36)) := (Below.refl _ _).alloc (Nat.le_refl _) _
  have hw := HWR.out ga g m w3 (HT3.out.up hb4) (imgs_one 3 s HT3.out.glt HT3.out.mlt)
  have HB4 := Lib.hid (HB3.out.trans (hb4.mono HB3.out.size))
  clear hb4 HT3 HB3
  go_wp2_with fail
  refine hw.mono ?_
  rintro e w4 ⟨rfl, hT4, hk4⟩
  have HT4 := Lib.hid hT4; have HB5 := Lib.hid (HB4.out.trans hk4.below)
  clear hw hT4 hk4 HB4
  go_wp2_with fail
  refine (HRD.out ga g m w4 HT4.out).mono ?_
  rintro e w5 ⟨rfl, hb5⟩
  have HT5 := Lib.hid (HT4.out.up hb5); have HB6 := Lib.hid (HB5.out.trans (hb5.mono HB5.out.size))
  clear hb5 HT4 HB5
  go_wp2_with fail
  refine (HRE.out ga g m w5 HT5.out).mono ?_
  rintro e w6 ⟨rfl, hT6, hk6⟩
  have hpg := pages_any _ _ _ _ _ _ _ hT6
  rw [HA.out] at hpg
  dsimp only at hpg
  have HB7 := Lib.hid (HB6.out.trans hk6.below)
  clear hT6 hk6 HT5 HB6
  go_wp2_with fail
  refine hpg.mono ?_
  rintro e w7 ⟨rfl, rfl⟩
  go_wp2_with fail
  go_ret
  exact ⟨rfl, HB7.out⟩
end Go.Proofs.YtfkhgmdnajiabaaDoor
