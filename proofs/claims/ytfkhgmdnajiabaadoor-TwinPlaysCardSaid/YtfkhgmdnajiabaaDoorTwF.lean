/-
  Walks: an area's Repair.
-/
import Derived.Test.YtfkhgmdnajiabaaDoorTwE
namespace Go.Proofs.YtfkhgmdnajiabaaDoor
set_option linter.unusedSimpArgs false
set_option linter.unusedVariables false
open Go.RowKit Go.Maps

def lsnB (l : List UInt8) : Nat := getB (l.take 6)
/-- Is slot k to be taken, beside what the first k slots hold? -/
def betterB (a : ArM) (d : DevM) (b : Int → Option (List UInt8)) (k : Nat) : Bool :=
  slotB a d k && (match b (slotN a d k) with | none => true | some o => decide (lsnB o < lsnB (slotS a d k)))
/-- The best of the first k slots, for each page. -/
def bestN (a : ArM) (d : DevM) : Nat → Int → Option (List UInt8)
  | 0 => fun _ => none
  | k + 1 => if betterB a d (bestN a d k) k = true then fun j => if j = (slotN a d k : Int) then some (slotS a d k) else bestN a d k j else bestN a d k
/-- A page's bytes, as they are. -/
def pageR (a : ArM) (d : DevM) (n : Nat) : List UInt8 := readM d (a.fr + 2 * n) ++ readM d (a.fr + 2 * n + 1)
/-- What page n is to have, if it is torn and a slot has it. -/
def fixB (a : ArM) (b : Int → Option (List UInt8)) (d : DevM) (n : Nat) : Option (List UInt8) := match b n with | none => none | some s => if wholeB (pageR a d n) = true then none else some s
/-- The first k pages are repaired: the error, the device, how many were. -/
def repM (a : ArM) (b : Int → Option (List UInt8)) (d : DevM) : Nat → Int × DevM × Nat
  | 0 => (0, d, 0)
  | k + 1 =>
    if (repM a b d k).1 ≠ 0 then repM a b d k
    else match fixB a b (repM a b d k).2.1 k with
    | none => repM a b d k
    | some s => if (putM (repM a b d k).2.1 (a.fr + 2 * k) s).1 ≠ 0 then ((putM (repM a b d k).2.1 (a.fr + 2 * k) s).1, (putM (repM a b d k).2.1 (a.fr + 2 * k) s).2, 0)
      else (0, (putM (repM a b d k).2.1 (a.fr + 2 * k) s).2, (repM a b d k).2.2 + 1)
def endM (r : Int × DevM × Nat) : (Int × Int) × DevM :=
  if r.1 ≠ 0 then ((0, r.1), r.2.1)
  else if r.2.2 = 0 then ((0, 0), r.2.1)
  else if (syncM r.2.1).1 ≠ 0 then ((0, (syncM r.2.1).1), (syncM r.2.1).2)
  else ((r.2.2, 0), (syncM r.2.1).2)
def trepairM (a : ArM) (d : DevM) : (Int × Int) × DevM := endM (repM a (bestN a d a.sl.toNat) d a.pg.toNat)

theorem writeM_on {d : DevM} {i : Int} {s : List UInt8} (h : (writeM d i s).1 = 0) : (writeM d i s).2.off = false := by
  unfold writeM at h ⊢
  split at h
  · cases h
  · rename_i ho
    split at h
    · cases h
    · split at h
      · cases h
      · split at h
        · cases h
        · rename_i h1 h2 h3
          rw [if_neg ho, if_neg h1, if_neg h2, if_neg h3]
          simpa [goM] using ho
theorem putM_on {d : DevM} {i : Int} {s : List UInt8} (h : (putM d i s).1 = 0) : (putM d i s).2.off = false := by
  unfold putM at h ⊢
  split at h
  · rename_i h1; exact absurd h h1
  · rename_i h1; rw [if_neg h1]; exact writeM_on h
theorem repM_all (a : ArM) (b : Int → Option (List UInt8)) (d : DevM) (ho : d.off = false) (k : Nat) :
    (repM a b d k).2.1.size = d.size ∧ (repM a b d k).2.1.cmds ≤ d.cmds + 2 * k ∧ ((repM a b d k).1 = 0 → (repM a b d k).2.1.off = false) ∧ (repM a b d k).2.2 ≤ k := by
  induction k with
  | zero => exact ⟨rfl, by simp [repM], fun _ => ho, by simp [repM]⟩
  | succ k ih =>
    obtain ⟨h1, h2, h3, h4⟩ := ih
    simp only [repM]
    generalize repM a b d k = r at *
    obtain ⟨e, dk, c⟩ := r
    dsimp only at *
    split
    · exact ⟨h1, Nat.le_trans h2 (by omega), h3, Nat.le_trans h4 (by omega)⟩
    · split
      · exact ⟨h1, Nat.le_trans h2 (by omega), h3, Nat.le_trans h4 (by omega)⟩
      · rename_i s _
        have hs := putM_size dk (a.fr + 2 * k) s
        have hc := putM_cmds dk (a.fr + 2 * k) s
        split
        · exact ⟨hs.trans h1, Nat.le_trans hc (by omega), fun h => by rename_i hne; exact absurd h hne, by simp⟩
        · rename_i hne
          exact ⟨hs.trans h1, Nat.le_trans hc (by omega), fun _ => putM_on (by simpa using hne), Nat.succ_le_succ h4⟩
theorem repM_stop (a : ArM) (b : Int → Option (List UInt8)) (d : DevM) (k n : Nat) (h : k + 1 ≤ n) (he : (repM a b d (k + 1)).1 ≠ 0) : repM a b d n = repM a b d (k + 1) := by
  obtain ⟨j, rfl⟩ : ∃ j, n = k + 1 + j := ⟨n - (k + 1), by omega⟩
  clear h
  induction j with
  | zero => rfl
  | succ j ih =>
    rw [show k + 1 + (j + 1) = (k + 1 + j) + 1 from rfl, repM, ih, if_pos he]
theorem bestN_len (a : ArM) {d : DevM} (hf : d.fits) (k : Nat) (j : Int) (s : List UInt8) (h : bestN a d k j = some s) : s.length = 512 := by
  induction k generalizing s with
  | zero => cases h
  | succ k ih =>
    simp only [bestN] at h
    split at h
    · dsimp only at h
      split at h
      · cases h
        unfold slotS
        rw [List.length_append, readM_length hf, readM_length hf]
      · exact ih s h
    · exact ih s h
theorem Kept.map_ {w w' : World} {n0 g m mb : Nat} {f : Int → Option (List UInt8)} {N : Nat} (hK : Kept n0 g m w w') (hM : MapIs w mb f N) (h1 : mb ≠ g) (h2 : mb ≠ m) : MapIs w' mb f N := by
  unfold MapIs at *
  obtain ⟨n, D, q1, ⟨es, c, hb, q2⟩, q3⟩ := hM
  exact ⟨n, D, q1, ⟨es, c, hK.at_ hb h1 h2 (by intro cs fz e; cases e), q2⟩, q3⟩
theorem MapIs.more_ {w : World} {m : Nat} {f : Int → Option (List UInt8)} {N N' : Nat} (hM : MapIs w m f N) (h : N ≤ N') : MapIs w m f N' := by
  unfold MapIs at *
  obtain ⟨n, D, q1, q⟩ := hM
  exact ⟨n, D, Nat.le_trans q1 h, q⟩
theorem MapIs.kind {w : World} {m : Nat} {f : Int → Option (List UInt8)} {N : Nat} (hM : MapIs w m f N) : ∃ es c, w.heap[m]? = some (.map es c) := by
  unfold MapIs at hM
  obtain ⟨n, D, q1, ⟨es, c, hb, q2⟩, q3⟩ := hM
  exact ⟨es, c, hb⟩
attribute [local irreducible] MapIs Tw

set_option maxHeartbeats 6400000 in
set_option maxRecDepth 100000 in
theorem repair_any (n0 ga g m : Nat) (a : ArM) (d : DevM) (w : World) (h : Tw n0 w ga g m a d) (hc : d.cmds < 900000000) (ho : d.off = false) :
    Calls Tryd.prog 13 #[.pointer (some ⟨ga, 0, none⟩)] w fun e w' =>
      e = .returned (.tuple #[.int .i64 (trepairM a d).1.1, .int .i64 (trepairM a d).1.2]) ∧ Tw n0 w' ga g m a (trepairM a d).2 ∧ Kept n0 g m w w' := by
  obtain ⟨f1, f2, f3, f4, f5, f6, _⟩ := h.fits
  have hz := h.dv.size
  have hfit := h.dv.fits
  obtain ⟨rr, hrr⟩ : ∃ r, r = trepairM a d := ⟨_, rfl⟩
  rw [← hrr]
  obtain ⟨sln, hsln⟩ : ∃ n : Nat, n = a.sl.toNat := ⟨_, rfl⟩
  obtain ⟨pgn, hpgn⟩ : ∃ n : Nat, n = a.pg.toNat := ⟨_, rfl⟩
  have hslI : a.sl = (sln : Int) := by omega
  have hpgI : a.pg = (pgn : Int) := by omega
  have HR := Lib.hid hrr; have HFIT := Lib.hid hfit
  have HBL := Lib.hid (bestN_len a hfit)
  have hsz : d.size ≤ 4096 := hz.2
  have c2 := h.cells.2.2.1
  rw [hslI] at c2
  have HSL := Lib.hid hsln; have HPG := Lib.hid hpgn; have HSI := Lib.hid hslI; have HPI := Lib.hid hpgI
  clear hsln hpgn hslI hpgI
  have H := Lib.hid h
  clear h hrr hz hfit
  have hmm := @run_makeMap Tryd.prog
  have hM0 := MapIs.made w
  have hb0 : Below w.heap.size w (w.alloc (.map #[] 0)) := (Below.refl _ _).alloc (Nat.le_refl _) _
  have hs0 : w.heap.size < (w.alloc (.map #[] 0)).heap.size := by simp
  have c2 := up_cell hb0 c2
  have HM := Lib.hid hM0; have HB := Lib.hid hb0; have HS := Lib.hid hs0
  clear hM0 hb0 hs0
  go_enter Tryd.func13, Tryd.ntmps13
  go_wp2_with fail
  clear hmm
  obtain ⟨mb, hmb⟩ : ∃ x, x = w.heap.size := ⟨_, rfl⟩
  have HMB := Lib.hid hmb
  rw [← hmb] at HM HB HS ⊢
  clear hmb
  generalize w.alloc (.map #[] 0) = w1 at *
  go_loopg [26] sln (fun gh i wr => ∃ k : Nat, k ≤ sln ∧ gh = sln - k ∧ i = .int .i64 k ∧ MapIs wr mb (bestN a d k) k ∧ Below mb w wr ∧ mb < wr.heap.size)
  case atStart => exact ⟨0, Nat.zero_le _, rfl, rfl, HM.out, HB.out, HS.out⟩
  case round =>
    clear HM HB HS c2
    obtain ⟨k, hk, rfl, rfl, hM, hB, hs⟩ := hrel
    have hk16 : k ≤ 16 := by have := HSI.out; omega
    by_cases hlt : k < sln
    · have hsl := slot_on n0 ga g m a d k wr (H.out.up (HMB.out ▸ hB)) (by have := HSI.out; omega) hc ho
      have hnl : slotN a d k < 65536 := by
        unfold slotN
        have := getB_lt (((readM d (a.sat + 3 * k)).take 4).drop 2)
        rw [List.length_drop, List.length_take, readM_length HFIT.out] at this
        exact this
      have hsz2 : (slotS a d k).length = 512 := by unfold slotS; rw [List.length_append, readM_length HFIT.out, readM_length HFIT.out]
      have hbe : bestN a d (k + 1) = if betterB a d (bestN a d k) k = true then fun j => if j = (slotN a d k : Int) then some (slotS a d k) else bestN a d k j else bestN a d k := rfl
      have hbt : betterB a d (bestN a d k) k = (slotB a d k && (match bestN a d k (slotN a d k) with | none => true | some o => decide (lsnB o < lsnB (slotS a d k)))) := rfl
      have hlen := fun s => HBL.out k (slotN a d k) s
      have in1 : in64 (slotN a d k : Int) := by unfold in64; omega
      generalize betterB a d (bestN a d k) k = bt at *
      generalize slotN a d k = sn at *
      generalize slotS a d k = ss at *
      generalize slotB a d k = sb at *
      obtain ⟨f2, hf2⟩ : ∃ x, x = bestN a d (k + 1) := ⟨_, rfl⟩
      rw [← hf2] at hbe
      have HF2 := Lib.hid hf2
      clear hf2
      generalize bestN a d k = f at *
      have HM := Lib.hid hM; have HB := Lib.hid hB; have HS := Lib.hid hs; have HBE := Lib.hid hbe; have HBT := Lib.hid hbt; have HL := Lib.hid hlen
      clear hM hB hs hbe hbt hlen
      go_wp2_with fail
      refine hsl.mono ?_
      rintro e w2 ⟨rfl, hb2⟩
      clear hsl
      have hM2 := HM.out.up hb2
      have hB2 := HB.out.trans (hb2.mono (Nat.le_of_lt HS.out))
      have hs2 : mb < w2.heap.size := Nat.lt_of_lt_of_le HS.out hb2.size
      have HM := Lib.hid hM2; have HB := Lib.hid hB2; have HS := Lib.hid hs2
      clear hM2 hB2 hs2 hb2
      obtain ⟨w3, hw3⟩ : ∃ x, x = w2.alloc (.cells #[.int .i64 sn, .string (bs ss)] 36) := ⟨_, rfl⟩
      have hb3 : Below w2.heap.size w2 w3 := by rw [hw3]; exact (Below.refl _ _).alloc (Nat.le_refl _) _
      have hM3 := HM.out.up hb3
      have hB3 := HB.out.trans (hb3.mono (Nat.le_of_lt HS.out))
      have hs3 : mb < w3.heap.size := Nat.lt_of_lt_of_le HS.out hb3.size
      have hBk : Blk w3 w2.heap.size 36 #[.int .i64 sn, .string (bs ss)] := by rw [hw3]; exact Blk.made _ _ _
      obtain ⟨v, hv, hlook⟩ := hM3.look sn in1
      obtain ⟨w4, hput, hM4, hg4⟩ := hM3.put (by have := HSI.out; omega) sn in1 ss (by omega)
      have hB4 : Below mb w w4 := hB3.grown hg4 (Nat.le_of_lt hs3) (fun k e => by injection e with e; omega)
      have hs4 : mb < w4.heap.size := Nat.lt_of_lt_of_le hs3 hg4.size
      have HM3 := Lib.hid hM3; have HB3 := Lib.hid hB3; have HS3 := Lib.hid hs3
      have HM4 := Lib.hid hM4; have HB4 := Lib.hid hB4; have HS4 := Lib.hid hs4; have HV := Lib.hid hv
      have d0 := hBk.cell 0
      have d1 := hBk.cell 1
      replace d0 : w3.cell? ⟨w2.heap.size, 0, none⟩ = some (.int .i64 sn) := d0
      replace d1 : w3.cell? ⟨w2.heap.size, 1, none⟩ = some (.string (bs ss)) := d1
      rw [hw3] at d0 d1 hlook hput
      have HW3 := Lib.hid hw3
      clear hb3 hM3 hB3 hs3 hM4 hB4 hs4 hg4 hv hBk HM HB HS hw3
      cases sb with
      | false =>
        go_wp2_with fail
        have hff : f2 = f := by rw [HBE.out, HBT.out]; simp
        subst hff
        go_roundg (sln - (k + 1))
        case measure => omega
        case rel =>
          obtain rfl := HW3.out
          exact ⟨k + 1, by omega, rfl, by go_num, HF2.out ▸ HM3.out.more_ (Nat.le_succ _), HB3.out, HS3.out⟩
      | true =>
        cases hf : f sn with
        | none =>
          rw [hf] at hlook
          go_wp2_with fail
          have hff : f2 = fun j => if j = (sn : Int) then some ss else f j := by rw [HBE.out, HBT.out, hf]; simp
          subst hff
          go_roundg (sln - (k + 1))
          case measure => omega
          case rel => exact ⟨k + 1, by omega, rfl, by go_num, HF2.out ▸ HM4.out, HB4.out, HS4.out⟩
        | some o =>
          rw [hf] at hlook
          obtain rfl := HV.out o hf
          have hlo := HL.out v hf
          have l1 := fun W => lsn_ok ss hsz2 W
          have l2 := fun W => lsn_ok v hlo W
          have HF := Lib.hid hf
          have HD2 := Lib.hid (show decide (lsnB v < lsnB ss) = decide ((getB (v.take 6) : Int) < (getB (ss.take 6) : Int)) by unfold lsnB; simp)
          clear hf
          go_wp2_with fail
          refine (l1 _).mono ?_
          rintro e w5 ⟨rfl, rfl⟩
          go_wp2_with fail
          refine (l2 _).mono ?_
          rintro e w5 ⟨rfl, rfl⟩
          by_cases hcmp : (getB (v.take 6) : Int) < (getB (ss.take 6) : Int)
          · go_wp2_with fail
            have hff : f2 = fun j => if j = (sn : Int) then some ss else f j := by
              have hbt2 : bt = decide (lsnB v < lsnB ss) := by rw [HBT.out]; simp [HF.out]
              rw [HBE.out, hbt2, HD2.out, decide_eq_true hcmp]; rfl
            subst hff
            go_roundg (sln - (k + 1))
            case measure => omega
            case rel => exact ⟨k + 1, by omega, rfl, by go_num, HF2.out ▸ HM4.out, HB4.out, HS4.out⟩
          · go_wp2_with fail
            have hff : f2 = f := by
              have hbt2 : bt = decide (lsnB v < lsnB ss) := by rw [HBT.out]; simp [HF.out]
              rw [HBE.out, hbt2, HD2.out, decide_eq_false (Int.not_lt.2 hcmp)]; rfl
            subst hff
            go_roundg (sln - (k + 1))
            case measure => omega
            case rel =>
              obtain rfl := HW3.out
              exact ⟨k + 1, by omega, rfl, by go_num, HF2.out ▸ HM3.out.more_ (Nat.le_succ _), HB3.out, HS3.out⟩
    · have hkk : k = sln := by omega
      rw [hkk] at hM
      have hB' := HMB.out ▸ hB
      have hT := H.out.up hB'
      have hK : Kept n0 g m w wr := Kept.of_below hB' H.out.n0le
      have hne : mb ≠ g ∧ mb ≠ m := by
        obtain ⟨⟨v, kv, hD⟩, _⟩ := H.out.dv
        have h1 := hD.blk.lt
        obtain ⟨es, c, hm⟩ := hD.map_
        have h2 := heap_lt hm
        have := HMB.out
        omega
      have hbl := HBL.out sln
      have hres : rr = endM (repM a (bestN a d sln) d pgn) := by rw [HR.out, HSL.out, HPG.out]; rfl
      generalize bestN a d sln = b at *
      have c4 := hT.cells.2.2.2.2
      rw [HPI.out] at c4
      have HRS := Lib.hid hres; have HBB := Lib.hid hbl
      have HT := Lib.hid hT; have HM := Lib.hid hM; have HK := Lib.hid hK
      clear hB hs hM hB' hT hK hres hbl hkk HR
      go_wp2_with fail
      go_loopg [11, 69] pgn (fun gh c i wr => ∃ (k : Nat) (dk : DevM) (cnt : Nat), k ≤ pgn ∧ gh = pgn - k ∧ i = .int .i64 k ∧ c = .int .i64 cnt ∧ repM a b d k = (0, dk, cnt) ∧ Tw n0 wr ga g m a dk ∧ MapIs wr mb b sln ∧ Kept n0 g m w wr)
      case atStart => exact ⟨0, d, 0, Nat.zero_le _, rfl, rfl, rfl, rfl, HT.out, HM.out, HK.out⟩
      case round =>
        clear HT HM HK c4
        obtain ⟨k, dk, cnt, hk, rfl, rfl, rfl, hrep, hT, hM, hK⟩ := hrel
        have hall := repM_all a b d ho k
        rw [hrep] at hall
        obtain ⟨q1, q2, q3, q4⟩ := hall
        dsimp only at q1 q2 q3 q4
        have q3 := q3 rfl
        have hpg8 : pgn ≤ 800 := by have := HPI.out; omega
        by_cases hlt : k < pgn
        · have hstep : repM a b d (k + 1) = match fixB a b dk k with
            | none => (0, dk, cnt)
            | some s => if (putM dk (a.fr + 2 * k) s).1 ≠ 0 then ((putM dk (a.fr + 2 * k) s).1, (putM dk (a.fr + 2 * k) s).2, 0) else (0, (putM dk (a.fr + 2 * k) s).2, cnt + 1) := by
            simp only [repM, hrep]
            rfl
          have in1 : in64 (k : Int) := by have := HPI.out; unfold in64; omega
          obtain ⟨v, hv, hlook⟩ := hM.look k in1
          have HST := Lib.hid hstep; have HV := Lib.hid hv
          have HT := Lib.hid hT; have HM := Lib.hid hM; have HK := Lib.hid hK
          clear hstep hv hT hM hK
          cases hb : b k with
          | none =>
            have hn : repM a b d (k + 1) = (0, dk, cnt) := by rw [HST.out]; unfold fixB; rw [hb]
            rw [hb] at hlook
            have HN := Lib.hid hn
            clear hn HST HRS hb
            go_wp2_with fail
            go_roundg (pgn - (k + 1))
            case measure => omega
            case rel => exact ⟨k + 1, dk, cnt, by omega, rfl, by go_num, rfl, HN.out, HT.out, HM.out, HK.out⟩
          | some s =>
            rw [hb] at hlook
            obtain rfl := HV.out s hb
            have htb : thereB a k = true := by have := HPI.out; unfold thereB; simp; omega
            have hrd := tread_any n0 ga g m a dk k wr HT.out (by omega)
            have htr : treadM a dk k = (pageR a dk k, 0) := by unfold treadM twoM; rw [if_pos htb, if_neg (by simp [q3])]; rfl
            rw [htr] at hrd
            dsimp only at hrd
            have hpl : (pageR a dk k).length = 512 := by unfold pageR; rw [List.length_append, readM_length HT.out.dv.fits, readM_length HT.out.dv.fits]
            have hfx : fixB a b dk k = if wholeB (pageR a dk k) = true then none else some v := by unfold fixB; rw [hb]
            have hst := HST.out
            rw [hfx] at hst
            have hwh := fun W hW => pagewhole_any (pageR a dk k) (by omega) W hW
            have hvl : v.length = 512 := HBB.out k v hb
            have hws : (decide ((pageR a dk k).length = 512) && wholeB (pageR a dk k)) = wholeB (pageR a dk k) := by simp [hpl]
            rw [hws] at hwh
            generalize pageR a dk k = pg at *
            generalize wholeB pg = pw at *
            clear htr hfx hws HV HST hb
            go_wp2_with fail
            refine hrd.mono ?_
            rintro e w2 ⟨rfl, hb2⟩
            have hk2 : Kept n0 g m wr w2 := Kept.of_below hb2 HT.out.n0le
            have HT2 := Lib.hid (HT.out.up hb2); have HM2 := Lib.hid (HM.out.up hb2); have HK2 := Lib.hid (HK.out.trans hk2)
            clear hrd hb2 hk2 HT HM HK
            go_wp2_with fail
            refine (hwh w2 HT2.out.turns).mono ?_
            rintro e w3 ⟨rfl, hb3⟩
            have hk3 : Kept n0 g m w2 w3 := Kept.of_below hb3 HT2.out.n0le
            have HT3 := Lib.hid (HT2.out.up hb3); have HM3 := Lib.hid (HM2.out.up hb3); have HK3 := Lib.hid (HK2.out.trans hk3)
            clear hwh hb3 hk3 HT2 HM2 HK2
            cases pw with
            | true =>
              rw [if_pos rfl] at hst
              dsimp only at hst
              have HN := Lib.hid hst
              clear hst HRS
              go_wp2_with fail
              go_roundg (pgn - (k + 1))
              case measure => omega
              case rel => exact ⟨k + 1, dk, cnt, by omega, rfl, by go_num, rfl, HN.out, HT3.out, HM3.out, HK3.out⟩
            | false =>
              rw [if_neg (by simp)] at hst
              dsimp only at hst
              have hkp : (k : Int) < a.pg := by have := HPI.out; omega
              have hput := put_any n0 ga g m a dk (a.fr + 2 * k) v w3 HT3.out (by rw [q1]; omega) hvl (by omega)
              have qq1 : IntKind.i64.wrap (2 * (k : Int)) = 2 * (k : Int) := by rw [IntKind.wrap_i64]; omega
              have qq2 : IntKind.i64.wrap (a.fr + 2 * (k : Int)) = a.fr + 2 * (k : Int) := by rw [IntKind.wrap_i64]; omega
              have c3 := HT3.out.cells.2.2.2.1
              have hra := repM_stop a b d k pgn
              generalize putM dk (a.fr + 2 * k) v = pm at *
              obtain ⟨er, d2⟩ := pm
              dsimp only at hput hst
              have HN := Lib.hid hst
              have HRA := Lib.hid hra
              clear hst hra
              go_wp2_with fail
              refine hput.mono ?_
              rintro e w4 ⟨rfl, hT4, hk4⟩
              have HT4 := Lib.hid hT4; have HM4 := Lib.hid (hk4.map_ HM3.out hne.1 hne.2); have HK4 := Lib.hid (HK3.out.trans hk4)
              clear hput hT4 hk4 HT3 HM3 HK3 c3
              by_cases her : er = 0
              · subst her
                have hn := HN.out
                rw [if_neg (by simp)] at hn
                have HN := Lib.hid hn
                clear hn HRS HRA
                go_wp2_with fail
                go_roundg (pgn - (k + 1))
                case measure => omega
                case rel => exact ⟨k + 1, d2, cnt + 1, by omega, by go_num, by go_num, rfl, HN.out, HT4.out, HM4.out, HK4.out⟩
              · have hn := HN.out
                rw [if_pos her] at hn
                have hfin : rr = ((0, er), d2) := by
                  rw [HRS.out, HRA.out (by omega) (by rw [hn]; exact her), hn]
                  unfold endM
                  rw [if_pos her]
                subst hfin
                clear hn HN HRS HRA
                go_wp2_with fail
                go_ret2
                exact ⟨rfl, HT4.out, HK4.out⟩
        · have hkk : k = pgn := by omega
          rw [hkk] at hrep
          have hres := HRS.out
          rw [hrep] at hres
          unfold endM at hres
          rw [if_neg (by simp)] at hres
          dsimp only at hres
          by_cases hz : cnt = 0
          · subst hz
            rw [if_pos rfl] at hres
            subst hres
            have HT := Lib.hid hT; have HK := Lib.hid hK
            clear HRS hT hK hM hrep
            go_wp2_with fail
            go_ret2
            exact ⟨rfl, HT.out, HK.out⟩
          · rw [if_neg hz] at hres
            have hsy := devsync_any n0 g m dk wr hT.dv (by omega)
            have hss := syncM_size dk
            generalize syncM dk = sm at *
            obtain ⟨er, d2⟩ := sm
            dsimp only at hsy hss hres
            have c0 := hT.cells.1
            have HT := Lib.hid hT; have HK := Lib.hid hK; have HRES := Lib.hid hres
            have hcz : ¬ ((cnt : Int) = 0) := by omega
            clear HRS hT hK hM hrep hres
            go_wp2_with fail
            refine hsy.mono ?_
            rintro e w1 ⟨rfl, hD1, hk1⟩
            have HT1 := Lib.hid (HT.out.kept hD1 hss hk1); have HK1 := Lib.hid (HK.out.trans hk1)
            clear hsy HT HK hD1 hk1 c0
            by_cases her : er = 0
            · subst her
              have hr := HRES.out
              rw [if_neg (by simp)] at hr
              subst hr
              clear HRES
              go_wp2_with fail
              go_ret2
              exact ⟨rfl, HT1.out, HK1.out⟩
            · have hr := HRES.out
              rw [if_pos her] at hr
              subst hr
              clear HRES
              go_wp2_with fail
              go_ret2
              exact ⟨rfl, HT1.out, HK1.out⟩
end Go.Proofs.YtfkhgmdnajiabaaDoor
