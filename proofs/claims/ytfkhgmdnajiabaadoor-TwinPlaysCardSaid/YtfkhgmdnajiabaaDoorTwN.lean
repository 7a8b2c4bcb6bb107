/-
  Walks: TwinRounds.
-/
import Derived.Test.YtfkhgmdnajiabaaDoorTwM
namespace Go.Proofs.YtfkhgmdnajiabaaDoor
set_option linter.unusedSimpArgs false
set_option linter.unusedVariables false
open Go.RowKit Go.Maps

def rp (x : Int) : Int := (x.tmod 15 + 15).tmod 15
theorem rp_in (x : Int) : 0 ≤ rp x ∧ rp x < 15 := by
  have h1 : -15 < x.tmod 15 ∧ x.tmod 15 < 15 := by
    have h2 := Int.tmod_lt_of_pos x (show (0 : Int) < 15 by decide)
    have h3 := Int.tmod_lt_of_pos (-x) (show (0 : Int) < 15 by decide)
    rw [Int.neg_tmod] at h3
    omega
  unfold rp
  rw [Int.tmod_eq_emod_of_nonneg (by omega)]
  omega
def roundI (l : List (Int × List UInt8)) (k : Nat) : List Img := upto (fun i => (rp (l.getD i (0, [])).1, imgB (1 + i) (l.getD i (0, [])).2)) k
theorem roundI_succ (l : List (Int × List UInt8)) (k : Nat) (hk : k < l.length) : roundI l (k + 1) = roundI l k ++ [(rp l[k].1, imgB (1 + k) l[k].2)] := by
  unfold roundI
  rw [upto_succ]
  simp [List.getD, hk]
theorem roundI_length (l : List (Int × List UInt8)) (k : Nat) : (roundI l k).length = k := upto_length _ _
theorem roundI_mem (l : List (Int × List UInt8)) (k : Nat) (hk : k ≤ 1000000) (x : Img) (hx : x ∈ roundI l k) : (0 ≤ x.1 ∧ x.1 < 15) ∧ x.2.length = 512 ∧ wholeB x.2 = true := by
  unfold roundI upto at hx
  obtain ⟨i, hi, rfl⟩ := List.mem_map.1 hx
  rw [List.mem_range] at hi
  exact ⟨rp_in _, imgB_length (by omega) (by omega), imgB_whole (by omega) (by omega)⟩
section
variable {w w' : World} {n0 ga g m mb N sz n : Nat} {v kv u : Value} {a : ArM} {d : DevM} {T : TypeId} {xs : List Value} {f : Int → Option (List UInt8)}
/-- What is written into another map leaves an area. -/
theorem Tw.farMap (h : Tw n0 w ga g m a d) (hM : MapIs w mb f N) (hne : mb ≠ m) (hn : n0 ≤ mb) (hg : w.grownBy w' (some mb)) : Tw n0 w' ga g m a d := by
  obtain ⟨es, c, hb⟩ := hM.kind
  obtain ⟨q1, ⟨⟨v, kv, hD⟩, q2⟩, q3, q4, q5⟩ := h
  have hblk : ∀ (b : Nat) (T : TypeId) (cs : Array Value), Blk w b T cs → b ≠ mb := fun b T cs h e => by
    subst e
    unfold Blk at h
    rw [hb] at h
    cases h
  have hrow : ∀ (T : TypeId) (sz : Nat) (u : Value) (n : Nat) (xs : List Value), w.ownsRow n0 T sz u n xs → w'.ownsRow n0 T sz u n xs := fun T sz u n xs h => ownsRow_grown h hg (fun gg e cs fz hh => by injection e with e; subst e; rw [hb] at hh; cases hh)
  refine ⟨?_, ⟨⟨v, kv, ?_⟩, q2⟩, q3, ?_, q5⟩
  · unfold Ar at *
    exact q1.grown hg (fun e => hblk _ _ _ q1 (by injection e))
  · unfold DevAt at *
    obtain ⟨r1, r2, r3, r4, r5, r6, r7⟩ := hD
    exact ⟨r1, r2.grown hg (fun e => hblk _ _ _ r2 (by injection e)), r3.kept hg (fun e => hne (by injection e with e; exact e.symm)), hrow _ _ _ _ _ r4, hrow _ _ _ _ _ r5, r6, Nat.le_trans r7 hg.size⟩
  · intro i hi
    refine hg.cell (q4 i hi) (fun e => ?_)
    injection e with e
    dsimp only at e
    omega
theorem row_farMap (h : w.ownsRow n0 T sz u n xs) (hM : MapIs w mb f N) (hg : w.grownBy w' (some mb)) : w'.ownsRow n0 T sz u n xs := by
  obtain ⟨es, c, hb⟩ := hM.kind
  exact ownsRow_grown h hg (fun gg e cs fz hh => by injection e with e; subst e; rw [hb] at hh; cases hh)
theorem map_farRow (hM : MapIs w mb f N) (h : w.ownsRow n0 T sz u n xs) (hg : w.grownBy w' u.ownBlock) : MapIs w' mb f N := by
  obtain ⟨es, c, hb⟩ := hM.kind
  refine hM.kept hg (fun e => ?_)
  obtain ⟨_, hh⟩ := h
  rcases hh with ⟨hv', _⟩ | ⟨g', cap, cur, hv', hg', hh, _⟩
  · subst hv'; simp [Value.ownBlock] at e
  · subst hv'; simp [Value.ownBlock] at e; subst e; rw [hb] at hh; cases hh
end
theorem wrap64_in (x : Int) (h : -9223372036854775808 ≤ x ∧ x ≤ 9223372036854775807) : wrap64 x = x := by unfold wrap64; omega
theorem kept_none (f : Int → Option (List UInt8)) (l : List Wr) (k : Nat) : keptN f l [] k = f := by
  induction k with
  | zero => rfl
  | succ k ih => simp only [keptN]; rw [if_neg (by simp [keepAt])]; exact ih
/-- The power fails, and comes again: what was synced is there. -/
theorem blow_read {d : DevM} (hw : d.wait = []) (j : Int) : readM (onM (failM d [])) j = readM d j := by
  rw [readM_nowait (show (onM (failM d [])).wait = [] from rfl), readM_nowait hw]
  unfold durM
  have e : (onM (failM d [])).last = d.last := kept_none d.last d.wait d.wait.length
  rw [e]

set_option maxHeartbeats 6400000 in
set_option maxRecDepth 100000 in
theorem rounds_any (l : List (Int × List UInt8)) (A : Option Addr) (cap : Nat) (ns : Int) (w : World) (hT : Turns w) (hA : PutsAt w w.heap.size A l) (hl : l.length ≤ 140737488355328)
    (hx : ∀ x ∈ l, x.2.length ≤ 140737488355328) (h64 : ∀ x ∈ l, in64 x.1) :
    Calls Tryd.prog 4 #[.slice A l.length cap, .int .i64 ns] w fun e w' => e = .returned (.bool true) ∧ Below w.heap.size w w' := by
  have hsp := speaks_any w hT
  have hlt := hT.lt
  obtain ⟨sl, hsl⟩ : ∃ s : Nat, s = (1 + ns % 8).toNat := ⟨_, rfl⟩
  have hsI : (1 + ns % 8) = (sl : Int) := by omega
  have hs1 : 1 ≤ sl ∧ sl ≤ 8 := by omega
  have c1 : bits .and .i64 ns 7 = ns % 8 := i64_mask ns 3 (by decide)
  have c2 : IntKind.i64.wrap (1 + ns % 8) = (sl : Int) := by rw [IntKind.wrap_i64]; omega
  obtain ⟨a, ha⟩ : ∃ a : ArM, a = ⟨30, sl, 0, 15⟩ := ⟨_, rfl⟩
  have hfit : a.fits (newM 60).size := by rw [ha]; simp only [ArM.fits, newM]; omega
  have hnew := fun g m W h1 h2 => twnew_ok w.heap.size g m a (newM 60) W h1 h2 hlt hfit
  rw [show (Value.int .i64 a.sat) = .int .i64 30 by rw [ha], show (Value.int .i64 a.sl) = .int .i64 (sl : Int) by rw [ha], show (Value.int .i64 a.fr) = .int .i64 0 by rw [ha], show (Value.int .i64 a.pg) = .int .i64 15 by rw [ha]] at hnew
  have hmm := @run_makeMap Tryd.prog
  have HSP := Lib.hid hsp; have HNW := Lib.hid hnew; have HT := Lib.hid hT; have HX := Lib.hid hx; have H64 := Lib.hid h64; have HPA := Lib.hid hA; have HFIT := Lib.hid hfit; have HA := Lib.hid ha; have HMM := Lib.hid hmm
  obtain ⟨nn, hnn⟩ : ∃ n : Nat, n = min l.length 40 := ⟨_, rfl⟩
  have HNN := Lib.hid hnn
  clear hsp hlt hsl hsI hfit hnew hT hx h64 hA ha hnn hmm
  go_enter Tryd.func4, Tryd.ntmps4
  go_wp2_with fail
  refine HSP.out.mono ?_
  rintro e w1 ⟨rfl, hb1⟩
  have HB1 := Lib.hid hb1; have HT1 := Lib.hid (HT.out.below hb1)
  clear hb1 HSP HT
  go_wp2_with fail
  refine (devnew_dv w.heap.size 60 (by decide) (by decide) w1 HB1.out.size).mono ?_
  rintro e w2 ⟨m, rfl, hD, hb2⟩
  have HB2 := Lib.hid (HB1.out.trans (hb2.mono HB1.out.size)); have HT2 := Lib.hid (HT1.out.below hb2); have HD2 := Lib.hid hD
  clear hb2 hD HB1 HT1
  generalize w1.heap.size + 1 = g at *
  go_wp2_with fail
  refine (HNW.out g m w2 HD2.out HT2.out).mono ?_
  rintro e w3 ⟨rfl, hT3, hb3⟩
  have HT3 := Lib.hid hT3; have HB3 := Lib.hid (HB2.out.trans (hb3.mono HB2.out.size))
  clear hT3 hb3 HB2 HT2 HD2 HNW
  generalize w2.heap.size = ga at *
  have hmm := HMM.out
  have hM3 := MapIs.made w3
  have hbm : Below w3.heap.size w3 (w3.alloc (.map #[] 0)) := (Below.refl _ _).alloc (Nat.le_refl _) _
  have hmne : w3.heap.size ≠ m := by have := HT3.out.mlt; omega
  have HM := Lib.hid hM3; have HT4 := Lib.hid (HT3.out.up hbm); have HB4 := Lib.hid (HB3.out.trans (hbm.mono (below_sz HB3.out (Nat.le_refl _)))); have HMN := Lib.hid hmne; have HMB := Lib.hid (below_sz HB3.out (Nat.le_refl _))
  clear hM3 hbm hmne HT3 HB3 HMM
  go_wp2_with fail
  clear hmm
  generalize w3.alloc (.map #[] 0) = w4 at *
  generalize w3.heap.size = mb at *
  go_loopg [9, 11] nn (fun gh v i wr => ∃ k : Nat, k ≤ nn ∧ gh = nn - k ∧ i = .int .i64 k ∧ wr.ownsRow w.heap.size 36 2 v (roundI l k).length (imgCells (roundI l k)) ∧ MapIs wr mb (lastAt (roundI l k)) k ∧ Tw w.heap.size wr ga g m a (newM 60) ∧ Below w.heap.size w wr)
  case atStart => exact ⟨0, Nat.zero_le _, rfl, rfl, World.ownsRow_nil _ _ _ _, HM.out, HT4.out, HB4.out⟩
  case round =>
    clear HM HT4 HB4
    obtain ⟨k, hk, rfl, rfl, hO, hM, hT, hB⟩ := hrel
    have hk9 : k ≤ 40 := by have := HNN.out; omega
    by_cases hlt : k < nn
    · have hkl2 : k < l.length := by have := HNN.out; omega
      have hk8 : k < 40 := by have := HNN.out; omega
      obtain ⟨b, o, rfl, hbn, e0, e1⟩ := HPA.out.below hB k hkl2
      obtain ⟨x, hxx⟩ : ∃ x, x = l[k] := ⟨_, rfl⟩
      rw [← hxx] at e0 e1
      have hxl := HX.out x (by rw [hxx]; exact List.getElem_mem hkl2)
      have hx64 := H64.out x (by rw [hxx]; exact List.getElem_mem hkl2)
      have hnext : roundI l (k + 1) = roundI l k ++ [(rp x.1, imgB (1 + k) x.2)] := by rw [hxx]; exact roundI_succ l k hkl2
      obtain ⟨xp, xt⟩ := x
      dsimp only at e0 e1 hxl hx64 hnext
      have him := fun W hW => image_any xp (1 + (k : Int)) xt (by omega) (by omega) hxl W hW
      have hsl5 : (imgB (1 + (k : Int)) xt).length = 512 := imgB_length (by omega) (by omega)
      generalize imgB (1 + (k : Int)) xt = s at *
      have r1 : IntKind.i64.wrap (xp.tmod 15 + 15) = xp.tmod 15 + 15 := by
        have h2 := Int.tmod_lt_of_pos xp (show (0 : Int) < 15 by decide)
        have h3 := Int.tmod_lt_of_pos (-xp) (show (0 : Int) < 15 by decide)
        rw [Int.neg_tmod] at h3
        rw [IntKind.wrap_i64]; omega
      have r2 : (xp.tmod 15 + 15).tmod 15 = rp xp := rfl
      have r3 : IntKind.i64.wrap (1 + (k : Int)) = 1 + (k : Int) := by rw [IntKind.wrap_i64]; omega
      have r4 : (k : Int) < (l.length : Int) := by omega
      have hrp := rp_in xp
      have hlen : (roundI l k).length = k := roundI_length l k
      have HO := Lib.hid hO; have HT := Lib.hid hT; have HB := Lib.hid hB; have HM := Lib.hid hM; have HNX := Lib.hid hnext; have HLEN := Lib.hid hlen; have HRP := Lib.hid hrp; have HS5 := Lib.hid hsl5
      clear hO hT hB hM hxx hnext hlen hrp hsl5
      go_wp2_with fail
      refine (him wr HT.out.turns).mono ?_
      rintro e w5 ⟨rfl, hb5⟩
      have hT5 := HT.out.up hb5
      have hB5 := HB.out.trans (hb5.mono (below_sz HB.out (Nat.le_refl _)))
      have hO5 := ownsRow_grown HO.out (grown_of_below hb5 none) (by simp)
      have hM5 := HM.out.up hb5
      have hb6 : Below w5.heap.size w5 (w5.alloc (.cells #[.int .i64 (rp xp), .string (bs s)] 36)) := (Below.refl _ _).alloc (Nat.le_refl _) _
      have hT6 := hT5.up hb6
      have hB6 := hB5.trans (hb6.mono (below_sz hB5 (Nat.le_refl _)))
      have hO6 := ownsRow_grown hO5 (grown_of_below hb6 none) (by simp)
      have hM6 := hM5.up hb6
      have hBk := Blk.made w5 #[.int .i64 (rp xp), .string (bs s)] 36
      obtain ⟨v', w7, hr7, hO7, hg7⟩ := imgs_append w.heap.size u9 (roundI l k) (rp xp) s w5.heap.size _ hO6 hBk (by have := HLEN.out; omega) (below_sz hB6 (Nat.le_refl _))
      have hT7 := hT6.far hO6 hg7 (by decide) (by decide) (by decide) (by decide)
      have hM7 := map_farRow hM6 hO6 hg7
      have hB7 := below_far hB6 hO6 hg7 (Nat.le_refl _) (below_sz hB6 (Nat.le_refl _))
      obtain ⟨w8, hput, hM8, hg8⟩ := hM7.put (by omega) (rp xp) (by have := HRP.out; unfold in64; omega) s (by have := HS5.out; omega)
      have hT8 := hT7.farMap hM7 HMN.out HMB.out hg8
      have hO8 := row_farMap hO7 hM7 hg8
      have hB8 := hB7.grown hg8 (below_sz hB7 (Nat.le_refl _)) (fun kk e => by injection e with e; have := HMB.out; omega)
      have hfe : (fun j => if j = rp xp then some s else lastAt (roundI l k) j) = lastAt (roundI l (k + 1)) := by
        funext j
        rw [HNX.out, lastAt_snoc]
        dsimp only
        by_cases h : j = rp xp
        · rw [if_pos h, if_pos h.symm]
        · rw [if_neg h, if_neg (fun e => h e.symm)]
      rw [hfe] at hM8
      rw [← HNX.out] at hO8
      have HO8 := Lib.hid hO8; have HT8 := Lib.hid hT8; have HM8 := Lib.hid hM8; have HB8 := Lib.hid hB8
      clear hT5 hB5 hO5 hM5 hb6 hT6 hB6 hO6 hM6 hBk hO7 hg7 hT7 hM7 hB7 hM8 hg8 hT8 hO8 hB8 hfe HO HT HB HM hb5 him e0 e1
      go_wp2_with (at_builtin; refine Lib.wpList_append_run _ rfl _ _ _ _ rfl _ _ rfl rfl _ _ hr7 ?_)
      go_roundg (nn - (k + 1))
      case measure => omega
      case rel => exact ⟨k + 1, by omega, rfl, by go_num, HO8.out, HM8.out, HT8.out, HB8.out⟩
    · have hkk : k = nn := by omega
      subst hkk
      obtain ⟨imgs, himgs⟩ : ∃ x, x = roundI l k := ⟨_, rfl⟩
      have hmem : ∀ x ∈ imgs, (0 ≤ x.1 ∧ x.1 < 15) ∧ x.2.length = 512 ∧ wholeB x.2 = true := fun x hx => roundI_mem l k (by omega) x (himgs ▸ hx)
      have hil : imgs.length ≤ 40 := by rw [himgs, roundI_length]; exact hk9
      rw [← himgs] at hO hM
      have hapg : a.pg = 15 := by rw [HA.out]
      have hafr : a.sl.toNat = sl := by rw [HA.out]; simp
      have hgd : ∀ x ∈ imgs, goodB a x = true := fun x hx => by
        obtain ⟨h1, h2, h3⟩ := hmem x hx
        exact goodB_iff.2 ⟨⟨by rw [hapg]; exact h1, h2⟩, h3⟩
      obtain ⟨q1, q2⟩ := write_calm_all (a := a) (d := newM 60) HFIT.out hgd rfl rfl
      obtain ⟨A', cap', hu9, hIm, hcap⟩ := imgs_at hO hT.dv.blk2 hT.dv.map2
      subst hu9
      have hwr := twrite_any w.heap.size ga g m a (newM 60) A' cap' imgs wr hT hIm hcap (by omega) (fun x hx => by have := (hmem x hx).2.1; omega) (by decide)
      rw [show twriteM a (newM 60) imgs = ((twriteM a (newM 60) imgs).1, (twriteM a (newM 60) imgs).2) from rfl, q1] at hwr
      generalize (twriteM a (newM 60) imgs).2 = d1 at *
      have hc1 : d1.cmds = 5 * imgs.length + 2 * ((imgs.length + sl - 1) / sl) := by rw [q2.cmds, hafr]; exact Nat.zero_add _
      have hdv : (imgs.length + sl - 1) / sl ≤ 48 := Nat.le_trans (Nat.div_le_self _ _) (by omega)
      have hc2 : d1.cmds ≤ 1000 := by omega
      have ho1 : d1.off = false := q2.off
      have hw1 : d1.wait = [] := q2.wait rfl
      have hrd : ∀ p : Nat, p < 15 → treadM a (onM (failM d1 [])) p = ((match lastAt imgs p with | some s => s | none => List.replicate 512 0), 0) := fun p hp => by
        rw [tread_on rfl (by omega) (by rw [hapg]; omega)]
        have e : pgv a (onM (failM d1 [])) p = pgv a d1 p := by unfold pgv; rw [blow_read hw1, blow_read hw1]
        rw [e, q2.page p (by omega) (by rw [hapg]; omega), newM_page]
        cases lastAt imgs p <;> rfl
      have hmg : mb ≠ g := by
        obtain ⟨es, c, hb⟩ := hM.kind
        obtain ⟨cs, hg⟩ := hT.dv.blk2
        intro e
        subst e
        unfold Blk at hg
        rw [hb] at hg
        cases hg
      have hlm : ∀ s, ∀ p : Nat, lastAt imgs p = some s → s.length = 512 := fun s p h => by
        obtain ⟨x, hx, _, e⟩ := lastAt_mem h
        rw [← e]; exact (hmem x hx).2.1
      have e5 : IntKind.i64.wrap (5 * (imgs.length : Int)) = 5 * (imgs.length : Int) := by rw [IntKind.wrap_i64]; omega
      have e6 : IntKind.i64.wrap ((imgs.length : Int) + (sl : Int)) = (imgs.length : Int) + (sl : Int) := by rw [IntKind.wrap_i64]; omega
      have e7 : IntKind.i64.wrap ((imgs.length : Int) + (sl : Int) - 1) = ((imgs.length + sl - 1 : Nat) : Int) := by rw [IntKind.wrap_i64]; omega
      obtain ⟨rr, hrr⟩ : ∃ x : Nat, x = (imgs.length + sl - 1) / sl := ⟨_, rfl⟩
      rw [← hrr] at hc1 hdv
      have hfin : ((d1.cmds : Int) == wrap64 (5 * (imgs.length : Int) + wrap64 (2 * wrap64 (((imgs.length + sl - 1 : Nat) : Int) / (sl : Int))))) = true := by
        rw [hc1, ← Int.natCast_ediv, ← hrr, beq_iff_eq]
        rw [wrap64_in (rr : Int) (by omega), wrap64_in (2 * (rr : Int)) (by omega), wrap64_in _ (by omega)]
        omega
      have HFIN := Lib.hid hfin
      have e11 : ((sl : Int) == 0) = false := by simp; omega
      have hdg := hT.dv.blk2
      have hdm := hT.dv.map2
      have HT := Lib.hid hT; have HB := Lib.hid hB; have HM := Lib.hid hM; have HRD := Lib.hid hrd; have HMG := Lib.hid hmg; have HLM := Lib.hid hlm; have HC2 := Lib.hid hc2; have HW1 := Lib.hid hw1; have HO1 := Lib.hid ho1; have HC1 := Lib.hid hc1
      clear hO hT hB hM himgs hmem hapg hafr hgd q1 q2 hIm hc1 hrd hmg hlm hc2 hw1 ho1 hrr hdg hdm hcap hfin
      by_cases h9 : l.length ≤ 40
      · have e3 : ¬ ((k : Int) < (l.length : Int)) := by have := HNN.out; omega
        go_wp2_with fail
        refine hwr.mono ?_
        clear hwr
        rintro e w9 ⟨rfl, hT9, hk9⟩
        have HM9 := Lib.hid (hk9.map_ HM.out HMG.out HMN.out); have HB9 := Lib.hid (HB.out.trans hk9.below); have HT9 := Lib.hid hT9
        clear hT9 hk9 HM HB HT
        go_wp2_with fail
        refine (devblow_any w.heap.size g m d1 w9 HT9.out.dv HO1.out (by have := HC2.out; omega)).mono ?_
        rintro e w10 ⟨rfl, hD10, hk10⟩
        have HM10 := Lib.hid (hk10.map_ HM9.out HMG.out HMN.out); have HB10 := Lib.hid (HB9.out.trans hk10.below); have HT10 := Lib.hid (HT9.out.kept hD10 rfl hk10)
        clear hD10 hk10 HM9 HB9 HT9
        go_wp2_with fail
        refine (devon_any w.heap.size g m (failM d1 []) w10 HT10.out.dv).mono ?_
        rintro e w11 ⟨rfl, hD11, hk11⟩
        have HM11 := Lib.hid (hk11.map_ HM10.out HMG.out HMN.out); have HB11 := Lib.hid (HB10.out.trans hk11.below); have HT11 := Lib.hid (HT10.out.kept hD11 rfl hk11)
        clear hD11 hk11 HM10 HB10 HT10
        have hcd : (onM (failM d1 [])).cmds = d1.cmds := rfl
        have hwd : (onM (failM d1 [])).wait = [] := rfl
        generalize onM (failM d1 []) = d2 at *
        have HCD := Lib.hid hcd; have HWD := Lib.hid hwd
        clear hcd hwd
        go_wp2_with fail
        go_loopg [14] 15 (fun gh i wr => ∃ k2 : Nat, k2 ≤ 15 ∧ gh = 15 - k2 ∧ i = .int .i64 k2 ∧ MapIs wr mb (lastAt imgs) k ∧ Tw w.heap.size wr ga g m a d2 ∧ Below w.heap.size w wr)
        case atStart => exact ⟨0, Nat.zero_le _, rfl, rfl, HM11.out, HT11.out, HB11.out⟩
        case round =>
          clear HM11 HT11 HB11
          obtain ⟨k2, hk2, rfl, rfl, hM, hT, hB⟩ := hrel
          by_cases hlt2 : k2 < 15
          · have hr := tread_any w.heap.size ga g m a d2 k2 _ hT (by have := HCD.out; have := HC2.out; omega)
            rw [HRD.out k2 hlt2] at hr
            have in1 : in64 (k2 : Int) := by unfold in64; omega
            have HM := Lib.hid hM; have HT := Lib.hid hT; have HB := Lib.hid hB
            clear hM hT hB
            cases hla : lastAt imgs k2 with
            | some s =>
              rw [hla] at hr
              dsimp only at hr
              have hs5 := HLM.out s k2 hla
              go_wp2_with fail
              refine hr.mono ?_
              clear hr
              rintro e w12 ⟨rfl, hb12⟩
              obtain ⟨v, hv, hlook⟩ := (HM.out.up hb12).look k2 in1
              rw [hla] at hlook
              obtain rfl := hv s hla
              have HM12 := Lib.hid (HM.out.up hb12); have HT12 := Lib.hid (HT.out.up hb12); have HB12 := Lib.hid (HB.out.trans (hb12.mono (below_sz HB.out (Nat.le_refl _))))
              clear hv hla hb12 HM HT HB
              go_wp2_with fail
              go_roundg (15 - (k2 + 1))
              case measure => omega
              case rel => exact ⟨k2 + 1, by omega, rfl, by go_num, HM12.out, HT12.out, HB12.out⟩
            | none =>
              rw [hla] at hr
              dsimp only at hr
              go_wp2_with fail
              refine hr.mono ?_
              clear hr
              rintro e w12 ⟨rfl, hb12⟩
              obtain ⟨v, hv, hlook⟩ := (HM.out.up hb12).look k2 in1
              rw [hla] at hlook
              have hno := fun W => refnothing_any (List.replicate 512 0) (by rw [List.length_replicate]; decide) W
              rw [zeros_noughts] at hno
              have HM12 := Lib.hid (HM.out.up hb12); have HT12 := Lib.hid (HT.out.up hb12); have HB12 := Lib.hid (HB.out.trans (hb12.mono (below_sz HB.out (Nat.le_refl _))))
              clear hv hla hb12 HM HT HB
              generalize List.replicate 512 (0 : UInt8) = z at *
              go_wp2_with fail
              refine (hno _).mono ?_
              rintro e w13 ⟨rfl, rfl⟩
              go_wp2_with fail
              go_roundg (15 - (k2 + 1))
              case measure => omega
              case rel => exact ⟨k2 + 1, by omega, rfl, by go_num, HM12.out, HT12.out, HB12.out⟩
          · have hk15 : k2 = 15 := by omega
            subst hk15
            have hop := devopen_any w.heap.size g m d2 _ hT.dv
            rw [HWD.out, HCD.out] at hop
            have HB := Lib.hid hB
            clear hM hT hB
            go_wp2_with fail
            refine hop.mono ?_
            clear hop
            rintro e w12 ⟨rfl, hb12⟩
            have HB12 := Lib.hid (HB.out.trans (hb12.mono (below_sz HB.out (Nat.le_refl _))))
            clear hb12 HB
            go_wp2_with fail
            go_ret
            exact ⟨congrArg (fun b => Ending.returned (Value.bool b)) HFIN.out, HB12.out⟩
      · have e3 : (k : Int) < (l.length : Int) := by have := HNN.out; omega
        have e4 : ¬ ((k : Int) < 40) := by have := HNN.out; omega
        go_wp2_with fail
        refine hwr.mono ?_
        clear hwr
        rintro e w9 ⟨rfl, hT9, hk9⟩
        have HM9 := Lib.hid (hk9.map_ HM.out HMG.out HMN.out); have HB9 := Lib.hid (HB.out.trans hk9.below); have HT9 := Lib.hid hT9
        clear hT9 hk9 HM HB HT
        go_wp2_with fail
        refine (devblow_any w.heap.size g m d1 w9 HT9.out.dv HO1.out (by have := HC2.out; omega)).mono ?_
        rintro e w10 ⟨rfl, hD10, hk10⟩
        have HM10 := Lib.hid (hk10.map_ HM9.out HMG.out HMN.out); have HB10 := Lib.hid (HB9.out.trans hk10.below); have HT10 := Lib.hid (HT9.out.kept hD10 rfl hk10)
        clear hD10 hk10 HM9 HB9 HT9
        go_wp2_with fail
        refine (devon_any w.heap.size g m (failM d1 []) w10 HT10.out.dv).mono ?_
        rintro e w11 ⟨rfl, hD11, hk11⟩
        have HM11 := Lib.hid (hk11.map_ HM10.out HMG.out HMN.out); have HB11 := Lib.hid (HB10.out.trans hk11.below); have HT11 := Lib.hid (HT10.out.kept hD11 rfl hk11)
        clear hD11 hk11 HM10 HB10 HT10
        have hcd : (onM (failM d1 [])).cmds = d1.cmds := rfl
        have hwd : (onM (failM d1 [])).wait = [] := rfl
        generalize onM (failM d1 []) = d2 at *
        have HCD := Lib.hid hcd; have HWD := Lib.hid hwd
        clear hcd hwd
        go_wp2_with fail
        go_loopg [14] 15 (fun gh i wr => ∃ k2 : Nat, k2 ≤ 15 ∧ gh = 15 - k2 ∧ i = .int .i64 k2 ∧ MapIs wr mb (lastAt imgs) k ∧ Tw w.heap.size wr ga g m a d2 ∧ Below w.heap.size w wr)
        case atStart => exact ⟨0, Nat.zero_le _, rfl, rfl, HM11.out, HT11.out, HB11.out⟩
        case round =>
          clear HM11 HT11 HB11
          obtain ⟨k2, hk2, rfl, rfl, hM, hT, hB⟩ := hrel
          by_cases hlt2 : k2 < 15
          · have hr := tread_any w.heap.size ga g m a d2 k2 _ hT (by have := HCD.out; have := HC2.out; omega)
            rw [HRD.out k2 hlt2] at hr
            have in1 : in64 (k2 : Int) := by unfold in64; omega
            have HM := Lib.hid hM; have HT := Lib.hid hT; have HB := Lib.hid hB
            clear hM hT hB
            cases hla : lastAt imgs k2 with
            | some s =>
              rw [hla] at hr
              dsimp only at hr
              have hs5 := HLM.out s k2 hla
              go_wp2_with fail
              refine hr.mono ?_
              clear hr
              rintro e w12 ⟨rfl, hb12⟩
              obtain ⟨v, hv, hlook⟩ := (HM.out.up hb12).look k2 in1
              rw [hla] at hlook
              obtain rfl := hv s hla
              have HM12 := Lib.hid (HM.out.up hb12); have HT12 := Lib.hid (HT.out.up hb12); have HB12 := Lib.hid (HB.out.trans (hb12.mono (below_sz HB.out (Nat.le_refl _))))
              clear hv hla hb12 HM HT HB
              go_wp2_with fail
              go_roundg (15 - (k2 + 1))
              case measure => omega
              case rel => exact ⟨k2 + 1, by omega, rfl, by go_num, HM12.out, HT12.out, HB12.out⟩
            | none =>
              rw [hla] at hr
              dsimp only at hr
              go_wp2_with fail
              refine hr.mono ?_
              clear hr
              rintro e w12 ⟨rfl, hb12⟩
              obtain ⟨v, hv, hlook⟩ := (HM.out.up hb12).look k2 in1
              rw [hla] at hlook
              have hno := fun W => refnothing_any (List.replicate 512 0) (by rw [List.length_replicate]; decide) W
              rw [zeros_noughts] at hno
              have HM12 := Lib.hid (HM.out.up hb12); have HT12 := Lib.hid (HT.out.up hb12); have HB12 := Lib.hid (HB.out.trans (hb12.mono (below_sz HB.out (Nat.le_refl _))))
              clear hv hla hb12 HM HT HB
              generalize List.replicate 512 (0 : UInt8) = z at *
              go_wp2_with fail
              refine (hno _).mono ?_
              rintro e w13 ⟨rfl, rfl⟩
              go_wp2_with fail
              go_roundg (15 - (k2 + 1))
              case measure => omega
              case rel => exact ⟨k2 + 1, by omega, rfl, by go_num, HM12.out, HT12.out, HB12.out⟩
          · have hk15 : k2 = 15 := by omega
            subst hk15
            have hop := devopen_any w.heap.size g m d2 _ hT.dv
            rw [HWD.out, HCD.out] at hop
            have HB := Lib.hid hB
            clear hM hT hB
            go_wp2_with fail
            refine hop.mono ?_
            clear hop
            rintro e w12 ⟨rfl, hb12⟩
            have HB12 := Lib.hid (HB.out.trans (hb12.mono (below_sz HB.out (Nat.le_refl _))))
            clear hb12 HB
            go_wp2_with fail
            go_ret
            exact ⟨congrArg (fun b => Ending.returned (Value.bool b)) HFIN.out, HB12.out⟩
end Go.Proofs.YtfkhgmdnajiabaaDoor
