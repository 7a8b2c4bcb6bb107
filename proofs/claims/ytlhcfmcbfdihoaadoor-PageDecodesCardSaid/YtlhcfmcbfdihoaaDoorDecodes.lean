/-
  Walks: the law 'PageDecodes'.
-/
import Derived.Test.YtlhcfmcbfdihoaaDoorEncodes
import Derived.Test.YtlhcfmcbfdihoaaDoorRefI
namespace Go.Proofs.YtlhcfmcbfdihoaaDoor
set_option linter.unusedSimpArgs false
set_option linter.unusedVariables false
open Go.RowKit

/-- What any bytes are decoded to. -/
def decAny (l : List UInt8) : Pg × Int :=
  if l.length < 512 then (pg0, 3) else if 512 < l.length then (pg0, 6) else if noughtsB l then (pg0, 0) else if wholeB l then (match decB l with | some p => (p, 0) | none => (pg0, 2)) else (pg0, 5)
theorem decode_any (l : List UInt8) (hl : l.length ≤ 140737488355300) (w : World) (ht : Turns w) :
    Calls Tryd.prog 14 #[.string (bs l)] w (DecOk (decAny l).1 (decAny l).2 w) := by
  unfold decAny
  by_cases h1 : l.length < 512
  · rw [if_pos h1]; exact decode_short l h1 w
  rw [if_neg h1]
  by_cases h2 : 512 < l.length
  · rw [if_pos h2]; exact decode_long l h2 (by omega) w
  rw [if_neg h2]
  have h3 : l.length = 512 := by omega
  cases hz : noughtsB l with
  | true => rw [if_pos rfl]; exact decode_noughts l h3 hz w
  | false =>
    rw [if_neg (by simp)]
    cases hw : wholeB l with
    | false => rw [if_neg (by simp)]; exact decode_torn l h3 hz hw w ht
    | true =>
      rw [if_pos rfl]
      have h := decode_whole l h3 hz hw w ht
      unfold DecWhole at h
      cases hd : decB l with
      | some p => rw [hd] at h; exact h
      | none => rw [hd] at h; exact h
theorem refdecode_any (l : List UInt8) (hl : l.length ≤ 140737488355300) (w : World) :
    Calls Tryd.prog 20 #[.string (bs l)] w (DecOk (decAny l).1 (decAny l).2 w) := by
  unfold decAny
  by_cases h1 : l.length < 512
  · rw [if_pos h1]; exact refdecode_short l h1 w
  rw [if_neg h1]
  by_cases h2 : 512 < l.length
  · rw [if_pos h2]; exact refdecode_long l h2 (by omega) w
  rw [if_neg h2]
  have h3 : l.length = 512 := by omega
  cases hz : noughtsB l with
  | true => rw [if_pos rfl]; exact refdecode_noughts l h3 hz w
  | false =>
    rw [if_neg (by simp)]
    have e : wholeB l = (sealedB l && twiceB l) := by unfold wholeB; rw [hz]; simp
    cases hw : (sealedB l && twiceB l) with
    | false => rw [e, hw, if_neg (by simp)]; exact refdecode_torn l h3 hz hw w
    | true =>
      rw [e, hw, if_pos rfl]
      have h := refdecode_whole l h3 hz hw w
      unfold DecWhole at h
      cases hd : decB l with
      | some p => rw [hd] at h; exact h
      | none => rw [hd] at h; exact h
theorem decAny_small (l : List UInt8) : (decAny l).1.ents.length ≤ 140737488355328 := by
  unfold decAny
  split
  · simp [pg0]
  split
  · simp [pg0]
  split
  · simp [pg0]
  split
  · cases hd : decB l with
    | none => simp [pg0]
    | some p =>
      have he := (decB_iff l p).1 hd
      have h2 : (encR p).2 = 0 := by rw [he]
      have hp : rightB p = true ∧ 0 ≤ freeOf p := by
        unfold encR at h2
        split at h2
        · rename_i hr
          split at h2
          · cases h2
          · exact ⟨hr, by omega⟩
        · cases h2
      have := ents_count hp.1 hp.2
      show p.ents.length ≤ _
      omega
  · simp [pg0]

/-- A page laid into a variable. -/
theorem PVar.new {p : Pg} {A : Option Addr} {c : Nat} {w : World} (T : TypeId) (h : ReadsE w w.heap.size A p.ents) :
    Below w.heap.size w (w.alloc (.cells (pgCells p A c) T)) ∧ PVar p A c w.heap.size T (w.alloc (.cells (pgCells p A c) T)) := by
  have e1 : Below w.heap.size w (w.alloc (.cells (pgCells p A c) T)) := (Below.refl _ _).alloc (Nat.le_refl _) _
  unfold PVar
  exact ⟨e1, Blk.made _ _ _, (h.below e1).more e1.size⟩

set_option maxHeartbeats 6400000 in
set_option maxRecDepth 100000 in
theorem decodes_any (l : List UInt8) (hl : l.length ≤ 140737488355300) (w : World) (ht : Turns w) :
    Calls Tryd.prog 4 #[.string (bs l)] w fun e w' => e = .returned (.bool true) ∧ Below w.heap.size w w' := by
  have HL := Lib.hid hl
  have hI := Held.start ht
  clear hl ht
  go_enter Tryd.func4, Tryd.ntmps4
  go_wp2_with fail
  generalize hxb : w.heap.size = xb at *
  refine (speaks_any w hI.turns).mono ?_
  rintro e w1 ⟨rfl, hb⟩
  have hI := hI.up hb
  clear hb
  by_cases hbig : 1000 < l.length
  · have HI := Lib.hid hI
    clear hI
    go_wp2_with fail
    go_ret
    exact ⟨rfl, hxb ▸ HI.out.since⟩
  have HI := Lib.hid hI
  clear hI
  go_wp2_with fail
  obtain ⟨p, hp⟩ : ∃ p, p = (decAny l).1 := ⟨_, rfl⟩
  obtain ⟨n, hn⟩ : ∃ n, n = (decAny l).2 := ⟨_, rfl⟩
  have HPS := Lib.hid (show p.ents.length ≤ 140737488355328 by rw [hp]; exact decAny_small l)
  have hd1 := decode_any l HL.out w1 HI.out.turns
  have hd2 := refdecode_any l HL.out
  rw [← hp, ← hn] at hd1 hd2
  have HD2 := Lib.hid hd2
  clear hd2 hp hn
  refine hd1.mono ?_
  rintro e w2 ⟨A1, c1, rfl, hr1, _, hb⟩
  have hI := HI.out.up hb
  clear hd1 HI hb
  obtain ⟨hb, hVa⟩ := PVar.new (c := c1) 29 hr1
  have hI := hI.up hb
  unfold pgCells at hb hVa hI ⊢
  have HI := Lib.hid hI; have HVA := Lib.hid hVa
  clear hI hVa hb hr1
  go_wp2_with fail
  generalize w2.alloc (.cells #[.int .i64 p.lsn, .int .i64 p.kind, .int .i64 p.level, .int .i64 p.right, .string (bs p.high), .slice A1 p.ents.length c1] 29) = w3 at *
  generalize w2.heap.size = pa at *
  refine (HD2.out w3).mono ?_
  rintro e w4 ⟨A2, c2, rfl, hr2, _, hb⟩
  have hI := HI.out.up hb
  have hVa := HVA.out.up hb
  clear HI HVA hb HD2
  obtain ⟨hb, hVb⟩ := PVar.new (c := c2) 32 hr2
  have hI := hI.up hb
  have hVa := hVa.up hb
  unfold pgCells at hb hVb hVa hI ⊢
  have HI := Lib.hid hI; have HVA := Lib.hid hVa; have HVB := Lib.hid hVb
  clear hI hVa hVb hb hr2
  have hnn : (n == n) = true := by simp
  by_cases h5 : l.length = 512
  · have e5 : ((l.length : Int) == 512) = true := by simp; omega
    have H5 := Lib.hid h5
    go_wp2_with fail
    generalize w4.alloc (.cells #[.int .i64 p.lsn, .int .i64 p.kind, .int .i64 p.level, .int .i64 p.right, .string (bs p.high), .slice A2 p.ents.length c2] 32) = w5 at *
    generalize w4.heap.size = pb at *
    refine (refnothing_any l HL.out w5).mono ?_
    rintro e wq ⟨rfl, hq⟩
    subst hq
    cases hz : noughtsB l with
    | true =>
      obtain ⟨x0, x1, x2, x3, x4, x5⟩ := HVA.out.cells
      obtain ⟨y0, y1, y2, y3, y4, y5⟩ := HVB.out.cells
      have HZ := Lib.hid hz
      clear hz
      go_wp2_with fail
      have hsm := same_any p p A1 A2 c1 c2 HPS.out HPS.out w5 HVA.out.reads HVB.out.reads
      unfold pgCells at hsm
      refine hsm.mono ?_
      rintro e w6 ⟨r, rfl, hr, hb⟩
      obtain rfl : r = true := hr.2 rfl
      have HK := Lib.hid (HI.out.up hb)
      clear hsm hr hb HI HVA HVB x0 x1 x2 x3 x4 x5 y0 y1 y2 y3 y4 y5
      go_wp2_with fail
      refine (whole_ok l H5.out w6 HK.out.turns).mono ?_
      rintro e w7 ⟨rfl, hb⟩
      rw [show wholeB l = true by unfold wholeB; rw [HZ.out]; rfl]
      have HK2 := Lib.hid (HK.out.up hb)
      clear hb HK
      go_wp2_with fail
      go_ret
      exact ⟨rfl, hxb ▸ HK2.out.since⟩
    | false =>
      have HW : Hid (wholeB l = (sealedB l && twiceB l)) := Lib.hid (by unfold wholeB; rw [hz]; rfl)
      clear hz
      have hwh := whole_ok l H5.out
      go_wp2_with fail
      refine (refwhole_any l H5.out w5).mono ?_
      rintro e w6 ⟨rfl, hb⟩
      rw [← HW.out]
      clear HW
      generalize wholeB l = wb at *
      have HWH := Lib.hid hwh
      clear hwh
      have hVa := HVA.out.up hb
      have hVb := HVB.out.up hb
      have hI := HI.out.up hb
      clear HVA HVB HI hb
      obtain ⟨x0, x1, x2, x3, x4, x5⟩ := hVa.cells
      obtain ⟨y0, y1, y2, y3, y4, y5⟩ := hVb.cells
      have HVA := Lib.hid hVa; have HVB := Lib.hid hVb; have HI := Lib.hid hI
      clear hVa hVb hI
      go_wp2_with fail
      have hsm := same_any p p A1 A2 c1 c2 HPS.out HPS.out w6 HVA.out.reads HVB.out.reads
      unfold pgCells at hsm
      refine hsm.mono ?_
      rintro e w7 ⟨r, rfl, hr, hb⟩
      obtain rfl : r = true := hr.2 rfl
      have HK := Lib.hid (HI.out.up hb)
      clear hsm hr hb HI HVA HVB x0 x1 x2 x3 x4 x5 y0 y1 y2 y3 y4 y5
      go_wp2_with fail
      refine (HWH.out w7 HK.out.turns).mono ?_
      rintro e w8 ⟨rfl, hb⟩
      have HK2 := Lib.hid (HK.out.up hb)
      clear hb HK HWH
      have hbb : (wb == wb) = true := by simp
      go_wp2_with fail
      go_ret
      exact ⟨rfl, hxb ▸ HK2.out.since⟩
  · have e5 : ((l.length : Int) == 512) = false := by simp; omega
    have H5 := Lib.hid h5
    have hVa := HVA.out
    have hVb := HVB.out
    obtain ⟨x0, x1, x2, x3, x4, x5⟩ := hVa.cells
    obtain ⟨y0, y1, y2, y3, y4, y5⟩ := hVb.cells
    clear hVa hVb
    go_wp2_with fail
    generalize w4.alloc (.cells #[.int .i64 p.lsn, .int .i64 p.kind, .int .i64 p.level, .int .i64 p.right, .string (bs p.high), .slice A2 p.ents.length c2] 32) = w6 at *
    generalize w4.heap.size = pb at *
    have hsm := same_any p p A1 A2 c1 c2 HPS.out HPS.out w6 HVA.out.reads HVB.out.reads
    unfold pgCells at hsm
    refine hsm.mono ?_
    rintro e w7 ⟨r, rfl, hr, hb⟩
    obtain rfl : r = true := hr.2 rfl
    have HK := Lib.hid (HI.out.up hb)
    clear hsm hr hb HI HVA HVB x0 x1 x2 x3 x4 x5 y0 y1 y2 y3 y4 y5
    have HLL := Lib.hid (show l.length ≤ 140737488355328 by have := HL.out; omega)
    go_wp2_with fail
    refine (whole_no l H5.out HLL.out w7).mono ?_
    rintro e w8 ⟨rfl, hq⟩
    subst hq
    go_wp2_with fail
    go_ret
    exact ⟨rfl, hxb ▸ HK.out.since⟩
end Go.Proofs.YtlhcfmcbfdihoaaDoor
