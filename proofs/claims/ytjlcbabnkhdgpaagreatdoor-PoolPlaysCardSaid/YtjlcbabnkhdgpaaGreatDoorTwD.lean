/-
  Walks: an area's Write.
-/
import Derived.Test.YtjlcbabnkhdgpaaGreatDoorTwC
namespace Go.Proofs.YtjlcbabnkhdgpaaGreatDoor
set_option linter.unusedSimpArgs false
set_option linter.unusedVariables false
open Go.RowKit Go.Maps

theorem pagewhole_any (s : List UInt8) (hs : s.length ≤ 140737488355328) (w : World) (ht : Turns w) :
    Calls Tryz.prog 37 #[.string (bs s)] w fun e w' => e = .returned (.bool (decide (s.length = 512) && wholeB s)) ∧ Below w.heap.size w w' := by
  by_cases h : s.length = 512
  · refine (whole_ok s h w ht).mono ?_
    rintro e w' ⟨rfl, hb⟩
    exact ⟨by simp [h], hb⟩
  · refine (whole_no s h hs w).mono ?_
    rintro e w' ⟨rfl, rfl⟩
    exact ⟨by simp [h], Below.refl _ _⟩
set_option maxHeartbeats 800000 in
theorem twrite_nil (v : Value) (w : World) :
    Calls Tryz.prog 70 #[.pointer none, v] w fun e w' => e = .returned (.int .i64 1) ∧ w = w' := by
  go_enter Tryz.func70, Tryz.ntmps70
  go_wp2
  go_ret
  exact ⟨rfl, rfl⟩
theorem roundsM_all (a : ArM) (hs : 1 ≤ a.sl) (n : Nat) (d : DevM) (l : List Img) : (roundsM a n d l).2.size = d.size ∧ (roundsM a n d l).2.cmds ≤ d.cmds + 7 * l.length := by
  induction n generalizing d l with
  | zero => simp [roundsM]
  | succ n ih =>
    have h1 := roundM_all a d (l.take (min a.sl.toNat l.length))
    have hl : (l.take (min a.sl.toNat l.length)).length = min a.sl.toNat l.length := by rw [List.length_take]; omega
    simp only [roundsM]
    split
    · simp
    · split
      · exact ⟨h1.1, by omega⟩
      · have h2 := ih (roundM a d (l.take (min a.sl.toNat l.length))).2 (l.drop (min a.sl.toNat l.length))
        rw [List.length_drop] at h2
        exact ⟨h2.1.trans h1.1, by omega⟩
theorem ImgsAt.take {w : World} {g m : Nat} {A : Option Addr} {l : List Img} (h : ImgsAt w g m A l) (n : Nat) : ImgsAt w g m A (l.take n) := fun k hk => by
  have hk' : k < l.length := by simp at hk; omega
  obtain ⟨b, o, e, hO, h1, h2⟩ := h k hk'
  exact ⟨b, o, e, hO, by simpa using h1, by simpa using h2⟩

theorem ImgsAt.drop {w : World} {g m : Nat} {A : Option Addr} {l : List Img} (h : ImgsAt w g m A l) (n : Nat) : ImgsAt w g m (A.map (fun x => x.add (n * 2))) (l.drop n) := fun k hk => by
  have hk' : n + k < l.length := by simp at hk; omega
  obtain ⟨b, o, rfl, hO, h1, h2⟩ := h (n + k) hk'
  refine ⟨b, o + n * 2, ?_, hO, ?_, ?_⟩
  · simp only [Option.map_some, Addr.add]
    split <;> simp_all
  · rw [show o + n * 2 + k * 2 = o + (n + k) * 2 by omega, List.getElem_drop]; exact h1
  · rw [show o + n * 2 + k * 2 + 1 = o + (n + k) * 2 + 1 by omega, List.getElem_drop]; exact h2
theorem ImgsAt.nil {w : World} {g m : Nat} {A : Option Addr} : ImgsAt w g m A [] := fun k hk => absurd hk (by simp)

set_option maxHeartbeats 6400000 in
set_option maxRecDepth 100000 in
theorem twrite_any (n0 ga g m : Nat) (a : ArM) (d : DevM) (A : Option Addr) (cap : Nat) (l : List Img) (w : World) (h : Tw n0 w ga g m a d) (hI : ImgsAt w g m A l) (hcap : l.length ≤ cap) (hl : l.length ≤ 1000000)
    (hx : ∀ x ∈ l, x.2.length ≤ 140737488355328) (hc : d.cmds < 800000000) :
    Calls Tryz.prog 70 #[.pointer (some ⟨ga, 0, none⟩), .slice A l.length cap] w fun e w' => e = .returned (.int .i64 (twriteM a d l).1) ∧ Tw n0 w' ga g m a (twriteM a d l).2 ∧ Kept n0 g m w w' := by
  obtain ⟨f1, f2, f3, f4, f5, f6, _⟩ := h.fits
  have hz := h.dv.size
  obtain ⟨rr, hrr⟩ : ∃ r, r = twriteM a d l := ⟨_, rfl⟩
  rw [← hrr]
  have HR := Lib.hid hrr
  have HX := Lib.hid hx
  have H := Lib.hid h; have HI := Lib.hid hI
  have hsz : d.size ≤ 4096 := hz.2
  clear h hI hrr hx hz
  go_enter Tryz.func70, Tryz.ntmps70
  go_wp2_with fail
  go_loopg [13] l.length (fun gh i wr => ∃ k : Nat, k ≤ l.length ∧ gh = l.length - k ∧ i = .int .i64 k ∧ (l.take k).all (goodB a) = true ∧ Tw n0 wr ga g m a d ∧ ImgsAt wr g m A l ∧ Kept n0 g m w wr)
  case atStart => exact ⟨0, Nat.zero_le _, rfl, rfl, by simp, H.out, HI.out, Kept.refl _ _ _ _⟩
  case round =>
    clear H HI
    obtain ⟨k, hk, rfl, rfl, hall, hT, hI, hK⟩ := hrel
    by_cases hlt : k < l.length
    · obtain ⟨b, o, rfl, hO, e0, e1⟩ := hI k hlt
      obtain ⟨x, hxx⟩ : ∃ x, x = l[k] := ⟨_, rfl⟩
      have hall2 : (l.take (k + 1)).all (goodB a) = goodB a x := by rw [List.take_succ_eq_append_getElem hlt, List.all_append, hall, ← hxx]; simp
      have hno : goodB a x = false → rr = (1, d) := fun hb => by
        rw [HR.out]
        unfold twriteM
        rw [if_neg]
        intro hh
        rw [List.all_eq_true] at hh
        have := hh x (by rw [hxx]; exact List.getElem_mem hlt)
        rw [hb] at this
        cases this
      rw [← hxx] at e0 e1
      have hxm := HX.out x (by rw [hxx]; exact List.getElem_mem hlt)
      obtain ⟨pn, ps⟩ := x
      dsimp only at e0 e1 hxm
      have hn0 := hT.n0le
      have hb2 : Below wr.heap.size wr (wr.alloc (.cells #[.int .i64 pn, .string (bs ps)] 132)) := (Below.refl _ _).alloc (Nat.le_refl _) _
      have hk2 : Kept n0 g m wr _ := Kept.of_below hb2 hn0
      have hB2 := Blk.made wr #[.int .i64 pn, .string (bs ps)] 132
      have hT2 := hT.up hb2
      have hth := there_any n0 ga g m a d pn _ hT2
      have hwh := pagewhole_any ps hxm _ hT2.turns
      have HT := Lib.hid hT2; have HI := Lib.hid (hI.kept hk2); have HK := Lib.hid (hK.trans hk2); have HB := Lib.hid hB2
      have hgd : goodB a (pn, ps) = (thereB a pn && (decide (ps.length = 512) && wholeB ps)) := rfl
      rw [hgd] at hall2 hno
      generalize thereB a pn = b1 at *
      generalize (decide (ps.length = 512) && wholeB ps) = b2 at *
      have HA := Lib.hid hall2; have HNO := Lib.hid hno
      have c0 := hB2.cell 0
      have c1 := hB2.cell 1
      replace c0 : (wr.alloc (.cells #[.int .i64 pn, .string (bs ps)] 132)).cell? ⟨wr.heap.size, 0, none⟩ = some (.int .i64 pn) := c0
      replace c1 : (wr.alloc (.cells #[.int .i64 pn, .string (bs ps)] 132)).cell? ⟨wr.heap.size, 1, none⟩ = some (.string (bs ps)) := c1
      clear hT hI hK hb2 hk2 hB2 hT2 hxx hO hall hall2 hno hgd
      go_wp2_with fail
      refine hth.mono ?_
      rintro e w2 ⟨rfl, rfl⟩
      cases b1 with
      | true =>
        go_wp2_with fail
        refine hwh.mono ?_
        rintro e w3 ⟨rfl, hb3⟩
        have hk3 : Kept n0 g m _ w3 := Kept.of_below hb3 HT.out.n0le
        have HT3 := Lib.hid (HT.out.up hb3); have HI3 := Lib.hid (HI.out.kept hk3); have HK3 := Lib.hid (HK.out.trans hk3)
        clear hb3 hk3 HT HI HK HB c0 c1 hth hwh
        cases b2 with
        | true =>
          go_wp2_with fail
          go_roundg (l.length - (k + 1))
          case measure => omega
          case rel => exact ⟨k + 1, by omega, rfl, by go_num, by rw [HA.out]; rfl, HT3.out, HI3.out, HK3.out⟩
        | false =>
          have hfin := HNO.out rfl
          subst hfin
          clear HA HNO
          go_wp2_with fail
          go_ret
          exact ⟨rfl, HT3.out, HK3.out⟩
      | false =>
        have hfin := HNO.out (by simp)
        subst hfin
        clear HA HNO hth hwh
        go_wp2_with fail
        go_ret
        exact ⟨rfl, HT.out, HK.out⟩
    · have hkk : k = l.length := by omega
      subst hkk
      rw [List.take_length] at hall
      have hr2 : rr = roundsM a l.length d l := by rw [HR.out]; unfold twriteM; rw [if_pos hall]
      have HR := Lib.hid hr2
      have hgood : ∀ x ∈ l, (0 ≤ x.1 ∧ x.1 < a.pg) ∧ x.2.length = 512 := fun x hx => by
        have := List.all_eq_true.1 hall x hx
        unfold goodB thereB at this
        simp at this
        exact ⟨this.1, this.2.1⟩
      have HG := Lib.hid hgood
      have HT := Lib.hid hT; have HI := Lib.hid hI; have HK := Lib.hid hK
      clear hT hI hK hr2 hall hgood HX
      go_wp2_with fail
      go_loopg [1] l.length (fun gh v wr => ∃ (A' : Option Addr) (cap' : Nat) (rem : List Img) (dk : DevM), gh = rem.length ∧ v = .slice A' rem.length cap' ∧ rem.length ≤ cap' ∧ rem.length ≤ l.length ∧ (∀ x ∈ rem, x ∈ l) ∧
        (∃ j, rem.length ≤ j ∧ rr = roundsM a j dk rem) ∧ (dk.size = d.size ∧ dk.cmds + 7 * rem.length ≤ d.cmds + 7 * l.length) ∧ Tw n0 wr ga g m a dk ∧ ImgsAt wr g m A' rem ∧ Kept n0 g m w wr)
      case atStart => exact ⟨A, cap, l, d, rfl, rfl, hcap, Nat.le_refl _, fun _ h => h, ⟨_, Nat.le_refl _, HR.out⟩, ⟨rfl, Nat.le_refl _⟩, HT.out, HI.out, HK.out⟩
      case round =>
        clear HT HI HK HR
        obtain ⟨A', cap', rem, dk, rfl, rfl, hcap2, hrl, hmem, ⟨j, hj, hrr⟩, ⟨hsk, hck⟩, hT, hI, hK⟩ := hrel
        by_cases hz : rem.length = 0
        · have hfin : rr = (0, dk) := by
            rw [hrr]
            cases j with
            | zero => rfl
            | succ j => simp only [roundsM]; rw [if_pos hz]
          subst hfin
          have HT := Lib.hid hT; have HK := Lib.hid hK
          rw [hz]
          clear hT hI hK hrr
          go_wp2_with fail
          go_ret
          exact ⟨rfl, HT.out, HK.out⟩
        · obtain ⟨j', rfl⟩ : ∃ j', j = j' + 1 := ⟨j - 1, by omega⟩
          obtain ⟨n, hn⟩ : ∃ n, n = min a.sl.toNat rem.length := ⟨_, rfl⟩
          have hn1 : n ≤ rem.length := by omega
          have hmin : min a.sl (rem.length : Int) = (n : Int) := by omega
          simp only [roundsM] at hrr
          rw [if_neg hz, ← hn] at hrr
          have hround := fun W hW hWI => round_any n0 ga g m a dk A' cap' (rem.take n) W hW hWI (by simp; omega) (fun x hx => HG.out x (hmem x (List.mem_of_mem_take hx))) (by omega)
          have hnl : (rem.take n).length = n := by simp; omega
          have hra := roundM_all a dk (rem.take n)
          rw [hnl] at hround hra
          have HRR := Lib.hid hrr; have HRD := Lib.hid hround; have HRA := Lib.hid hra
          have c2 := hT.cells.2.2.1
          have HT := Lib.hid hT; have HI := Lib.hid hI; have HK := Lib.hid hK; have HN := Lib.hid hn
          clear hT hI hK hrr hround hra hn
          have hpos : (0 : Int) < (rem.length : Int) := by omega
          go_wp2_with fail
          refine (HRD.out wr HT.out (HI.out.take n)).mono ?_
          generalize roundM a dk (rem.take n) = r1 at *
          obtain ⟨er1, d1⟩ := r1
          rintro e w2 ⟨rfl, hT2, hk2⟩
          have HT2 := Lib.hid hT2; have HI2 := Lib.hid (HI.out.kept hk2); have HK2 := Lib.hid (HK.out.trans hk2)
          clear hT2 hk2 HT HI HK HRD c2
          by_cases her : er1 = 0
          · subst her
            have hR2 := HRR.out
            rw [if_neg (by simp)] at hR2
            have HR := Lib.hid hR2
            clear hR2 HRR
            go_wp2_with fail
            case inr =>
             go_roundg (rem.length - n)
             case measure => have := HN.out; omega
             case rel =>
              refine ⟨_, cap' - n, rem.drop n, d1, by simp, by rw [List.length_drop], by rw [List.length_drop]; omega, by rw [List.length_drop]; omega, fun x hx => hmem x (List.mem_of_mem_drop hx), ⟨j', by rw [List.length_drop]; have := HN.out; omega, HR.out⟩, ⟨HRA.out.1.trans hsk, ?_⟩, HT2.out, HI2.out.drop n, HK2.out⟩
              rw [List.length_drop]
              have := HRA.out.2
              have := HN.out
              omega
            case inl =>
             go_roundg (rem.length - n)
             case measure => have := HN.out; omega
             case rel =>
              have hd : rem.drop n = [] := List.drop_eq_nil_of_le (by omega)
              have hR := HR.out
              rw [hd] at hR
              refine ⟨A', 0, [], d1, by simp; omega, by simp; omega, by simp, by simp, fun x hx => by simp at hx, ⟨j', by simp, hR⟩, ⟨HRA.out.1.trans hsk, ?_⟩, HT2.out, ImgsAt.nil, HK2.out⟩
              have := HRA.out.2
              have := HN.out
              simp
              omega
          · have hfin := HRR.out
            rw [if_pos her] at hfin
            subst hfin
            clear HRR
            go_wp2_with fail
            go_ret
            exact ⟨rfl, HT2.out, HK2.out⟩
end Go.Proofs.YtjlcbabnkhdgpaaGreatDoor
