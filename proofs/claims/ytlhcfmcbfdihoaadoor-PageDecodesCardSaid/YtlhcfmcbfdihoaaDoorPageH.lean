/-
  Walks: the page of bytes: Decode, whole bytes.
-/
import Derived.Test.YtlhcfmcbfdihoaaDoorPageG
namespace Go.Proofs.YtlhcfmcbfdihoaaDoor
open Go.RowKit

theorem new_cell (w : World) (cs : Array Value) (T : TypeId) (j : Nat) {g : Nat} {v : Value} (hg : g = w.heap.size) (h : cs[j]? = some v) : (w.alloc (.cells cs T)).cell? ((⟨g, 0, none⟩ : Addr).add j) = some v := by
  subst hg
  have e : (⟨w.heap.size, 0, none⟩ : Addr).add j = ⟨w.heap.size, j, none⟩ := by unfold Addr.add; split <;> simp_all
  rw [e, World.cell?_alloc_new, h]

theorem grown_trans {a b c : World} {r : Option Nat} (h : a.grownBy b r) (k : b.grownBy c r) : a.grownBy c r :=
  ⟨k.os.trans h.os, k.tape.trans h.tape, k.output.trans h.output, Nat.le_trans h.size k.size, fun i hi hne => (k.block i (Nat.lt_of_lt_of_le hi h.size) hne).trans (h.block i hi hne)⟩
theorem grown_six (W : World) (g : Nat) (v0 v1 v2 v3 v4 v5 : Value) : W.grownBy (six W g v0 v1 v2 v3 v4 v5) (some g) :=
  grown_trans (grown_trans (grown_trans (grown_trans (grown_trans (grown_setCell _ _ _ _) (grown_setCell _ _ _ _)) (grown_setCell _ _ _ _)) (grown_setCell _ _ _ _)) (grown_setCell _ _ _ _)) (grown_setCell _ _ _ _)

/-- The page of whole bytes, if there is one. -/
def decB (l : List UInt8) : Option Pg := if (cutPage l).2 && ((encR (cutPage l).1).2 == 0 && (encR (cutPage l).1).1 == l) then some (cutPage l).1 else none
def DecWhole (l : List UInt8) (w : World) (e : Ending) (w' : World) : Prop := match decB l with | some p => DecOk p 0 w e w' | none => DecOk pg0 2 w e w'

theorem DecWhole.no {l : List UInt8} {w w' : World} {e : Ending} (h : decB l = none) (hd : DecOk pg0 2 w e w') : DecWhole l w e w' := by unfold DecWhole; rw [h]; exact hd
theorem DecWhole.yes {l : List UInt8} {w w' : World} {e : Ending} {p : Pg} (h : decB l = some p) (hd : DecOk p 0 w e w') : DecWhole l w e w' := by unfold DecWhole; rw [h]; exact hd
attribute [irreducible] DecWhole decB

set_option maxHeartbeats 6400000 in
set_option maxRecDepth 100000 in
theorem decode_whole (l : List UInt8) (hl : l.length = 512) (hz : noughtsB l = false) (hw : wholeB l = true) (w : World) (ht : Turns w) :
    Calls Tryd.prog 14 #[.string (bs l)] w (DecWhole l w) := by
  have hn := noughts_any l (by omega)
  rw [hz] at hn
  have HN := Lib.hid hn
  have hwh := whole_ok l hl
  rw [hw] at hwh
  have HW := Lib.hid hwh
  have HT := Lib.hid ht
  have hlsn := lsn_ok l hl
  have hbody := body_ok l hl
  have HLS := Lib.hid hlsn
  have HBO := Lib.hid hbody
  have HB : Below w.heap.size w (w.alloc (.cells zCells 29)) := (Below.refl _ _).alloc (Nat.le_refl _) _
  clear hn hz hwh hw ht hlsn hbody
  go_enter Tryd.func14, Tryd.ntmps14
  go_wp2_with fail
  refine (HN.out _).mono ?_
  rintro e w1 ⟨rfl, n, rfl⟩
  go_wp2_with fail
  refine (HW.out _ (HT.out.below (below_drewN HB n))).mono ?_
  rintro e w2 ⟨rfl, hb2⟩
  have hx := ((HBox.made w zCells).up (below_drewN (Below.refl _ _) n)).up hb2
  have hB2 : Below w.heap.size w w2 := (below_drewN HB n).trans (hb2.mono (by simp))
  have HX := Lib.hid hx
  clear hx hb2 HB HN HW
  go_wp2_with fail
  refine (HBO.out _).mono ?_
  rintro e w1 ⟨rfl, rfl⟩
  go_wp2_with fail
  refine (HLS.out _).mono ?_
  rintro e w1 ⟨rfl, rfl⟩
  go_wp2_with fail
  have hd0 := D0.new hB2 HX.out (Nat.le_refl _) ((l.take 502).drop 6)
  clear HX HBO HLS
  obtain ⟨c0, hc0⟩ : ∃ c : Cu, c = ⟨(l.take 502).drop 6, true⟩ := ⟨_, rfl⟩
  rw [← hc0] at hd0
  have hl0 : c0.rest.length ≤ 1000000 := by rw [hc0]; simp; omega
  obtain ⟨lsn, hls⟩ : ∃ x, x = getB (l.take 6) := ⟨_, rfl⟩
  rw [← hls]
  obtain ⟨c1, hc1⟩ : ∃ c, c = c0.next 1 := ⟨_, rfl⟩
  obtain ⟨kind, hkind⟩ : ∃ x, x = getB (c0.got 1) := ⟨_, rfl⟩
  have hl1 : c1.rest.length ≤ 1000000 := by rw [hc1]; exact Nat.le_trans (Cu.next_le _ _) hl0
  have ct := hd0.num1 hl0
  rw [← hc1, ← hkind] at ct
  obtain ⟨c2, hc2⟩ : ∃ c, c = c1.next 1 := ⟨_, rfl⟩
  obtain ⟨level, hlevel⟩ : ∃ x, x = getB (c1.got 1) := ⟨_, rfl⟩
  have hl2 : c2.rest.length ≤ 1000000 := by rw [hc2]; exact Nat.le_trans (Cu.next_le _ _) hl1
  obtain ⟨c3, hc3⟩ : ∃ c, c = c2.next 2 := ⟨_, rfl⟩
  obtain ⟨right, hright⟩ : ∃ x, x = getB (c2.got 2) := ⟨_, rfl⟩
  have hl3 : c3.rest.length ≤ 1000000 := by rw [hc3]; exact Nat.le_trans (Cu.next_le _ _) hl2
  obtain ⟨c4, hc4⟩ : ∃ c, c = c3.next 1 := ⟨_, rfl⟩
  obtain ⟨high, hhigh⟩ : ∃ x, x = getB (c3.got 1) := ⟨_, rfl⟩
  have hl4 : c4.rest.length ≤ 1000000 := by rw [hc4]; exact Nat.le_trans (Cu.next_le _ _) hl3
  obtain ⟨c5, hc5⟩ : ∃ c, c = c4.next 2 := ⟨_, rfl⟩
  obtain ⟨count, hcount⟩ : ∃ x, x = getB (c4.got 2) := ⟨_, rfl⟩
  have hl5 : c5.rest.length ≤ 1000000 := by rw [hc5]; exact Nat.le_trans (Cu.next_le _ _) hl4
  obtain ⟨cc, hcc⟩ : ∃ c, c = c5.next high := ⟨_, rfl⟩
  obtain ⟨hi, hhi⟩ : ∃ x, x = c5.got high := ⟨_, rfl⟩
  have hlc : cc.rest.length ≤ 1000000 := by rw [hcc]; exact Nat.le_trans (Cu.next_le _ _) hl5
  have hhigh1 : high < 256 := by rw [hhigh]; exact Cu.num_lt _
  have hcount1 : count ≤ 65535 := by
    rw [hcount]
    have h1 := getB_lt (c4.got 2)
    have h2 : 256 ^ (c4.got 2).length ≤ 256 ^ 2 := Nat.pow_le_pow_right (by decide) (c4.got_le 2)
    omega
  have hkind1 : kind < 256 := by rw [hkind]; exact Cu.num_lt _
  have hhi1 : hi.length ≤ 256 := by rw [hhi]; exact Nat.le_trans (Cu.got_le _ _) (by omega)
  have HHEAD : Hid (cutHead l = (⟨lsn, kind, level, right, hi, []⟩, count, cc)) := by
    show cutHead l = _
    unfold cutHead
    simp only [← hc0, ← hls, ← hc1, ← hc2, ← hc3, ← hc4, ← hc5, ← hkind, ← hlevel, ← hright, ← hhigh, ← hcount, ← hcc, ← hhi]
  have Q2 := Lib.hid hc2; have Q3 := Lib.hid hc3; have Q4 := Lib.hid hc4; have Q5 := Lib.hid hc5; have Qc := Lib.hid hcc
  have P1 := Lib.hid hlevel; have P2 := Lib.hid hright; have P3 := Lib.hid hhigh; have P4 := Lib.hid hcount; have P5 := Lib.hid hhi
  clear hc0 hc1 hc2 hc3 hc4 hc5 hcc hkind hlevel hright hhigh hcount hhi hls
  refine ct.mono ?_
  clear ct hd0
  rintro e w4 ⟨rfl, hd1⟩
  go_wp2_with fail
  have ct := hd1.num1 hl1
  rw [← Q2.out, ← P1.out] at ct
  refine ct.mono ?_
  clear ct hd1
  rintro e w5 ⟨rfl, hd2⟩
  go_wp2_with fail
  have ct := hd2.num2 hl2
  rw [← Q3.out, ← P2.out] at ct
  refine ct.mono ?_
  clear ct hd2
  rintro e w6 ⟨rfl, hd3⟩
  have hD3 := hd3.page lsn kind level right
  clear hd3
  go_wp2_with fail
  have ct := hD3.num1 hl3
  rw [← Q4.out, ← P3.out] at ct
  refine ct.mono ?_
  clear ct hD3
  rintro e w7 ⟨rfl, hD4⟩
  generalize w2.heap.size = cb at *
  generalize w6.heap.size = pb at *
  go_wp2_with fail
  have ct := hD4.num2 hl4
  rw [← Q5.out, ← P4.out] at ct
  refine ct.mono ?_
  clear ct hD4
  rintro e w8 ⟨rfl, hD5⟩
  go_wp2_with fail
  have ct := hD5.takeN high (by omega) hl5
  rw [← Qc.out, ← P5.out] at ct
  refine ct.mono ?_
  clear ct hD5
  rintro e w9 ⟨rfl, hD6⟩
  obtain ⟨v9, hb9, _⟩ := hD6.page
  obtain ⟨⟨_, _, _, _, g4, _⟩, _, _, _, _, gf4, _⟩ := hb9.cells
  have hD7 := hD6.set4 hi
  have HD7 := Lib.hid hD7
  clear hD6 hD7 hb9
  go_wp2_with fail
  clear g4 gf4
  go_loopw [8] (fun i wr => ∃ (k : Nat) (acc : List Ent) (c' : Cu), k ≤ count ∧ i = .int .i64 k ∧ acc.length ≤ k ∧ c'.rest.length ≤ 1000000 ∧ DInv w w.heap.size cb pb ⟨lsn, kind, level, right, hi, acc⟩ c' wr ∧ Hid (SmallE acc ∧ cutEnts (count - k) c' acc = cutEnts count cc [])) (fun i _ => count - (intOf i).toNat)
  case atStart => exact ⟨0, [], cc, Nat.zero_le _, rfl, Nat.le_refl _, hlc, HD7.out, ⟨⟨by simp, by simp⟩, rfl⟩⟩
  case round =>
    clear HD7
    obtain ⟨k, acc, c', hk, rfl, hacc, hlc', hD, hrun⟩ := hrel
    have hcut := hD.isCut
    obtain ⟨k0, k1, kf0, kf1⟩ := hcut.cells
    clear hcut
    by_cases hlt : k < count
    · obtain ⟨rest, ok⟩ := c'
      cases ok with
      | true =>
        -- three numbers
        obtain ⟨d1, hd1⟩ : ∃ c, c = Cu.next ⟨rest, true⟩ 1 := ⟨_, rfl⟩
        obtain ⟨d2, hd2⟩ : ∃ c, c = d1.next 1 := ⟨_, rfl⟩
        obtain ⟨d3, hd3⟩ : ∃ c, c = d2.next 1 := ⟨_, rfl⟩
        obtain ⟨mark, hmark⟩ : ∃ x, x = getB (Cu.got ⟨rest, true⟩ 1) := ⟨_, rfl⟩
        obtain ⟨klen, hklen⟩ : ∃ x, x = getB (d1.got 1) := ⟨_, rfl⟩
        obtain ⟨vlen, hvlen⟩ : ∃ x, x = getB (d2.got 1) := ⟨_, rfl⟩
        obtain ⟨d4, hd4⟩ : ∃ c, c = d3.next klen := ⟨_, rfl⟩
        obtain ⟨d5, hd5⟩ : ∃ c, c = d4.next vlen := ⟨_, rfl⟩
        obtain ⟨key, hkey⟩ : ∃ x, x = d3.got klen := ⟨_, rfl⟩
        obtain ⟨value, hvalue⟩ : ∃ x, x = d4.got vlen := ⟨_, rfl⟩
        obtain ⟨mb, hmb⟩ : ∃ b, b = (mark == 1) := ⟨_, rfl⟩
        obtain ⟨ob, hob⟩ : ∃ b, b = decide (mark ≤ 1) := ⟨_, rfl⟩
        have m1 : mark < 256 := by rw [hmark]; exact Cu.num_lt _
        have m2 : klen < 256 := by rw [hklen]; exact Cu.num_lt _
        have m3 : vlen < 256 := by rw [hvlen]; exact Cu.num_lt _
        have m4 : key.length ≤ 1000000 := by rw [hkey]; exact Nat.le_trans (Cu.got_le _ _) (by omega)
        have m5 : value.length ≤ 1000000 := by rw [hvalue]; exact Nat.le_trans (Cu.got_le _ _) (by omega)
        have s1 : d1.rest.length ≤ 1000000 := by rw [hd1]; exact Nat.le_trans (Cu.next_le _ _) hlc'
        have s2 : d2.rest.length ≤ 1000000 := by rw [hd2]; exact Nat.le_trans (Cu.next_le _ _) s1
        have s3 : d3.rest.length ≤ 1000000 := by rw [hd3]; exact Nat.le_trans (Cu.next_le _ _) s2
        have s4 : d4.rest.length ≤ 1000000 := by rw [hd4]; exact Nat.le_trans (Cu.next_le _ _) s3
        have s5 : d5.rest.length ≤ 1000000 := by rw [hd5]; exact Nat.le_trans (Cu.next_le _ _) s4
        have HRUN : Hid (SmallE (acc ++ [⟨key, value, mb⟩]) ∧ cutEnts (count - (k + 1)) ⟨d5.rest, d5.ok && ob⟩ (acc ++ [⟨key, value, mb⟩]) = cutEnts count cc []) := by
          obtain ⟨q1, q2⟩ := hrun.out
          refine ⟨⟨by rw [List.length_append]; simp; omega, ?_⟩, ?_⟩
          · intro e he
            rcases List.mem_append.1 he with he | he
            · exact q1.2 e he
            · simp at he; subst he; exact ⟨m4, m5⟩
          · rw [← q2, show count - k = (count - (k + 1)) + 1 from by omega, cutEnts, if_pos rfl]
            have : cutEnt ⟨rest, true⟩ = (⟨key, value, mb⟩, ⟨d5.rest, d5.ok && ob⟩) := by
              unfold cutEnt
              simp only [← hd1, ← hd2, ← hd3, ← hmark, ← hklen, ← hvlen, ← hd4, ← hd5, ← hkey, ← hvalue, ← hmb, ← hob]
            rw [this]
        have e1 : ((mark : Int) == 1) = mb := by
          rw [hmb, Bool.eq_iff_iff, beq_iff_eq, beq_iff_eq]; omega
        have e2 : decide ((mark : Int) ≤ 1) = ob := by rw [hob, Bool.eq_iff_iff, decide_eq_true_eq, decide_eq_true_eq]; omega
        have D2 := Lib.hid hd2; have D3 := Lib.hid hd3; have D4 := Lib.hid hd4; have D5 := Lib.hid hd5
        have K1 := Lib.hid hklen; have K2 := Lib.hid hvlen; have K3 := Lib.hid hkey; have K4 := Lib.hid hvalue
        have ct := hD.num1 hlc'
        rw [← hd1, ← hmark] at ct
        clear hd1 hd2 hd3 hd4 hd5 hmark hklen hvlen hkey hvalue hmb hob hrun hD
        go_wp2_with fail
        refine ct.mono ?_
        clear ct
        rintro e x1 ⟨rfl, hD1⟩
        clear k0 k1 kf0 kf1
        go_wp2_with fail
        have ct := hD1.num1 s1
        rw [← D2.out, ← K1.out] at ct
        refine ct.mono ?_
        clear ct hD1
        rintro e x2 ⟨rfl, hD2⟩
        go_wp2_with fail
        have ct := hD2.num1 s2
        rw [← D3.out, ← K2.out] at ct
        refine ct.mono ?_
        clear ct hD2
        rintro e x3 ⟨rfl, hD3⟩
        go_wp2_with fail
        have ct := hD3.takeN klen (by omega) s3
        rw [← D4.out, ← K3.out] at ct
        refine ct.mono ?_
        clear ct hD3
        rintro e x4 ⟨rfl, hD4⟩
        go_wp2_with fail
        have ct := hD4.takeN vlen (by omega) s4
        rw [← D5.out, ← K4.out] at ct
        refine ct.mono ?_
        clear ct hD4
        rintro e x5 ⟨rfl, hD5⟩
        have hD6 := hD5.alloc (.cells #[.string (bs key), .string (bs value), .bool mb] 56)
        obtain ⟨v6, hb6, hown6⟩ := hD6.page
        obtain ⟨⟨_, _, _, _, _, g5⟩, _, _, _, _, _, gf5⟩ := hb6.cells
        obtain ⟨i0, z0, hi0, hz0, hs0, hb0, hc0⟩ := info_entry
        have HOWN := Lib.hid hown6
        have HI := Lib.hid hi0; have HZ := Lib.hid hz0; have HS := Lib.hid hs0; have HBy := Lib.hid hb0; have HC := Lib.hid hc0
        have HD6 := Lib.hid hD6
        have hsz6 := hD6.old.size
        clear hown6 hi0 hz0 hs0 hb0 hc0 hD6 hD5
        go_wp2_with (at_builtin; refine wpList_append_own _ rfl (.tmp 82) (.tmp 84) 27 rfl w.heap.size 56 i0 z0 3 40 Tryd.underlying27 HI.out HZ.out HS.out HBy.out HC.out (by decide) v6 acc.length _ rfl (HOWN.out.alloc _) ⟨x5.heap.size + 1, 0, none⟩ 1 1 [.string (bs key), .string (bs value), .bool mb] rfl rfl ?c1 ?c2 ?c3 ?c4 ?c5 ?_)
        case c1 =>
          intro j u hj
          match j, hj with
          | 0, hj => simp at hj; subst hj; exact new_cell _ _ _ _ (by simp) rfl
          | 1, hj => simp at hj; subst hj; exact new_cell _ _ _ _ (by simp) rfl
          | 2, hj => simp at hj; subst hj; exact new_cell _ _ _ _ (by simp) rfl
        case c2 => intro u hu; simp at hu; rcases hu with rfl | rfl | rfl <;> rfl
        case c3 => unfold maxLen; omega
        case c4 => omega
        case c5 => simp at hsz6 ⊢; omega
        intro v10 w10 hown10 hgr10 _
        obtain ⟨A10, c10, hv10, _, _⟩ := own_slice hown10
        subst hv10
        obtain ⟨hb10, hD10⟩ := (HD6.out.alloc (.cells #[.string (bs key), .string (bs value), .bool mb] 56)).set5 (hb6.up ((Below.refl _ _).alloc (Nat.le_refl _) _)) (HOWN.out.alloc _) hgr10 (acc ++ [⟨key, value, mb⟩]) (v' := .slice A10 (acc.length + 1) c10) (by
          rw [entsCells_snoc, List.length_append]; exact hown10)
        obtain ⟨⟨_, _, _, _, _, g10⟩, _, _, _, _, _, gf10⟩ := hb10.cells
        obtain ⟨k0, k1, kf0, kf1⟩ := hD10.isCut.cells
        have HD10 := Lib.hid hD10
        clear hD10 hown10 hgr10 HOWN HD6 hb6 g5 gf5 hb10 hsz6 HI HZ HS HBy HC
        obtain ⟨r5, o5⟩ := d5
        cases o5
        all_goals
          go_wp2_with fail
          go_roundw
          case rel =>
            have hle : (acc ++ [(⟨key, value, mb⟩ : Ent)]).length ≤ k + 1 := by rw [List.length_append]; simp; omega
            first
              | exact ⟨k + 1, acc ++ [⟨key, value, mb⟩], ⟨r5, false⟩, by omega, by go_num, hle, s5, HD10.out.setok false, Lib.hid HRUN.out⟩
              | exact ⟨k + 1, acc ++ [⟨key, value, mb⟩], ⟨r5, ob⟩, by omega, by go_num, hle, s5, HD10.out.setok ob, Lib.hid HRUN.out⟩
          case measure => simp [intOf]; omega
      | false =>
        have hres : Hid (SmallE acc ∧ cutEnts count cc [] = (acc, ⟨rest, false⟩)) := by
          obtain ⟨q1, q2⟩ := hrun.out
          refine ⟨q1, ?_⟩
          rw [← q2, show count - k = (count - (k + 1)) + 1 from by omega, cutEnts]
          rfl
        have HDEC : Hid (decB l = none) := by
          show decB l = none
          unfold decB cutPage
          rw [HHEAD.out]
          simp only [hres.out.2]
          rfl
        have hsm : Small ⟨lsn, kind, level, right, hi, acc⟩ := ⟨by show hi.length ≤ _; omega, hres.out.1⟩
        clear hrun hlc'
        have hE := hD
        obtain ⟨v, hb, hown⟩ := hE.page
        obtain ⟨A, cap, hv, hrd, hcap⟩ := own_slice hown
        subst hv
        obtain ⟨⟨g0, g1, g2, g3, g4, g5⟩, _⟩ := hb.cells
        have ct := encode_any ⟨lsn, kind, level, right, hi, acc⟩ A cap hsm wr hrd (HT.out.below hD.old)
        have HD := Lib.hid hD
        clear hown hrd hcap hb hD hE hsm hres
        go_wp2_with fail
        refine ct.mono ?_
        clear ct g0 g1 g2 g3 g4 g5 k0 k1 kf0 kf1
        rintro e wz ⟨rfl, hbz⟩
        have hDz := HD.out.below hbz
        obtain ⟨k0, k1, kf0, kf1⟩ := hDz.isCut.cells
        obtain ⟨⟨z0, z1, z2, z3, z4, z5⟩, f0, f1, f2, f3, f4, f5⟩ := hDz.res.cells
        have HDz := Lib.hid hDz
        clear hDz hbz
        go_wp2
        have hf := HDz.out.res.six (.int .i64 0) (.int .i64 0) (.int .i64 0) (.int .i64 0) (.string ⟨#[]⟩) (.slice none 0 0)
        have hold := HDz.out.old
        have hd := DecOk.six (n := 2) hold w.heap.size (Nat.le_refl _)
        have hno := HDEC.out
        have hpost := DecWhole.no hno hd
        unfold six at hf hpost
        refine bodyPost_ret (v := .tuple #[.agg #[.int .i64 0, .int .i64 0, .int .i64 0, .int .i64 0, .string ⟨#[]⟩, .slice none 0 0], .int .i64 2]) ?_ rfl ?_
        · exact decode_results _ _ _ _ rfl rfl hf
        · exact hpost
    · have hkc : k = count := by omega
      obtain ⟨rest, ok⟩ := c'
      have hres : Hid (SmallE acc ∧ cutEnts count cc [] = (acc, ⟨rest, ok⟩)) := by
        obtain ⟨q1, q2⟩ := hrun.out
        refine ⟨q1, ?_⟩
        rw [← q2, hkc, Nat.sub_self]
        rfl
      have hsm : Small ⟨lsn, kind, level, right, hi, acc⟩ := ⟨by show hi.length ≤ _; omega, hres.out.1⟩
      obtain ⟨tx, htx⟩ : ∃ x, x = (encR ⟨lsn, kind, level, right, hi, acc⟩).1 := ⟨_, rfl⟩
      obtain ⟨er, her⟩ : ∃ x, x = (encR ⟨lsn, kind, level, right, hi, acc⟩).2 := ⟨_, rfl⟩
      have HDEC0 : Hid (decB l = if ok && (er == 0 && tx == l) then some ⟨lsn, kind, level, right, hi, acc⟩ else none) := by
        show decB l = _
        unfold decB cutPage
        rw [HHEAD.out]
        simp only [hres.out.2]
        rw [← her, ← htx]
      obtain ⟨v, hb, hown⟩ := hD.page
      obtain ⟨A, cap, hv, hrd, hcap⟩ := own_slice hown
      subst hv
      obtain ⟨⟨g0, g1, g2, g3, g4, g5⟩, _⟩ := hb.cells
      have ct := encode_any ⟨lsn, kind, level, right, hi, acc⟩ A cap hsm wr hrd (HT.out.below hD.old)
      rw [← htx, ← her] at ct
      have HD := Lib.hid hD
      have HRD := Lib.hid hrd
      have HB9 := Lib.hid hb
      clear hrun hlc' hkc hown hrd hb hD hsm hres htx her
      go_wp2_with fail
      refine ct.mono ?_
      clear ct g0 g1 g2 g3 g4 g5 k0 k1 kf0 kf1
      rintro e wz ⟨rfl, hbz⟩
      have hDz := HD.out.below hbz
      obtain ⟨k0, k1, kf0, kf1⟩ := hDz.isCut.cells
      obtain ⟨⟨z0, z1, z2, z3, z4, z5⟩, f0, f1, f2, f3, f4, f5⟩ := hDz.res.cells
      obtain ⟨⟨g0, g1, g2, g3, g4, g5⟩, _⟩ := (HB9.out.up hbz).cells
      have HRZ := Lib.hid ((HRD.out.below hbz).more hbz.size)
      have HDz := Lib.hid hDz
      clear hDz hbz HRD HB9 HD
      cases ok with
      | false =>
        have HDEC : Hid (decB l = none) := HDEC0.out
        clear HDEC0 g0 g1 g2 g3 g4 g5
        go_wp2
        all_goals
          have hf := HDz.out.res.six (.int .i64 0) (.int .i64 0) (.int .i64 0) (.int .i64 0) (.string ⟨#[]⟩) (.slice none 0 0)
          have hold := HDz.out.old
          have hd := DecOk.six (n := 2) hold w.heap.size (Nat.le_refl _)
          have hno := HDEC.out
          have hpost := DecWhole.no hno hd
          unfold six at hf hpost
          refine bodyPost_ret (v := .tuple #[.agg #[.int .i64 0, .int .i64 0, .int .i64 0, .int .i64 0, .string ⟨#[]⟩, .slice none 0 0], .int .i64 2]) ?_ rfl ?_
          · exact decode_results _ _ _ _ rfl rfl hf
          · exact hpost
      | true =>
        by_cases he : er = 0
        · by_cases ht : tx = l
          · have HDEC : Hid (decB l = some ⟨lsn, kind, level, right, hi, acc⟩) := by
              show decB l = _
              rw [HDEC0.out, he, ht]; simp
            have e1 : (er != 0) = false := by simp [he]
            have e2 : (tx == l) = true := by simp [ht]
            clear HDEC0 he ht
            go_wp2
            have hf := HDz.out.res.six (.int .i64 lsn) (.int .i64 kind) (.int .i64 level) (.int .i64 right) (.string (bs hi)) (.slice A acc.length cap)
            have hold := below_six HDz.out.old (Nat.le_refl _) (.int .i64 lsn) (.int .i64 kind) (.int .i64 level) (.int .i64 right) (.string (bs hi)) (.slice A acc.length cap)
            obtain ⟨v', hb', hown'⟩ := HDz.out.page
            have hv' : v' = .slice A acc.length cap := by
              have h5 := hb'.cells.1.2.2.2.2.2
              rw [g5] at h5
              exact (Option.some.inj h5).symm
            rw [hv'] at hown'
            have hown2 := ownsRow_grown hown' (grown_six wz w.heap.size (.int .i64 lsn) (.int .i64 kind) (.int .i64 level) (.int .i64 right) (.string (bs hi)) (.slice A acc.length cap)) (by
              intro g e cs fz hh
              simp at e
              subst e
              have hr := HDz.out.res
              unfold HBox at hr
              rw [hr] at hh
              simp at hh)
            obtain ⟨A', cap', hv2, hrd, _⟩ := own_slice hown2
            have hA : A = A' := by injection hv2
            subst hA
            have hpost : DecWhole l w (.returned (.tuple #[.agg (pgCells ⟨lsn, kind, level, right, hi, acc⟩ A cap), .int .i64 0])) _ := DecWhole.yes HDEC.out ⟨A, cap, rfl, hrd, hcap, hold⟩
            clear hown2 hrd hv2 hown' hv' hb'
            unfold six at hf hpost
            refine bodyPost_ret (v := .tuple #[.agg (pgCells ⟨lsn, kind, level, right, hi, acc⟩ A cap), .int .i64 0]) ?_ rfl ?_
            · exact decode_results _ _ _ _ rfl rfl hf
            · exact hpost
          · have HDEC : Hid (decB l = none) := by
              show decB l = _
              rw [HDEC0.out]; simp [ht]
            have e1 : (er != 0) = false := by simp [he]
            have e2 : (tx == l) = false := by simp [ht]
            clear HDEC0 g0 g1 g2 g3 g4 g5 he ht
            go_wp2
            all_goals
              have hf := HDz.out.res.six (.int .i64 0) (.int .i64 0) (.int .i64 0) (.int .i64 0) (.string ⟨#[]⟩) (.slice none 0 0)
              have hold := HDz.out.old
              have hd := DecOk.six (n := 2) hold w.heap.size (Nat.le_refl _)
              have hno := HDEC.out
              have hpost := DecWhole.no hno hd
              unfold six at hf hpost
              refine bodyPost_ret (v := .tuple #[.agg #[.int .i64 0, .int .i64 0, .int .i64 0, .int .i64 0, .string ⟨#[]⟩, .slice none 0 0], .int .i64 2]) ?_ rfl ?_
              · exact decode_results _ _ _ _ rfl rfl hf
              · exact hpost
        · have HDEC : Hid (decB l = none) := by
            show decB l = _
            rw [HDEC0.out]; simp [he]
          have e1 : (er != 0) = true := by simp [he]
          clear HDEC0 g0 g1 g2 g3 g4 g5 he
          go_wp2
          all_goals
            have hf := HDz.out.res.six (.int .i64 0) (.int .i64 0) (.int .i64 0) (.int .i64 0) (.string ⟨#[]⟩) (.slice none 0 0)
            have hold := HDz.out.old
            have hd := DecOk.six (n := 2) hold w.heap.size (Nat.le_refl _)
            have hno := HDEC.out
            have hpost := DecWhole.no hno hd
            unfold six at hf hpost
            refine bodyPost_ret (v := .tuple #[.agg #[.int .i64 0, .int .i64 0, .int .i64 0, .int .i64 0, .string ⟨#[]⟩, .slice none 0 0], .int .i64 2]) ?_ rfl ?_
            · exact decode_results _ _ _ _ rfl rfl hf
            · exact hpost
end Go.Proofs.YtlhcfmcbfdihoaaDoor
