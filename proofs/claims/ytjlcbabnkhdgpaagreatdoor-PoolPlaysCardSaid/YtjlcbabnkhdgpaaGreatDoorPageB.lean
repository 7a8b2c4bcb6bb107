/-
  Walks: may there be such a page?
-/
import Derived.Test.YtjlcbabnkhdgpaaGreatDoorPageA
namespace Go.Proofs.YtjlcbabnkhdgpaaGreatDoor
open Go.RowKit

set_option maxHeartbeats 400000 in
theorem bad_any (k v : List UInt8) (m : Bool) (w : World) :
    Calls Tryz.prog 73 #[.agg #[.string (bs k), .string (bs v), .bool m]] w fun e w' => e = .returned (.bool (badE ⟨k, v, m⟩)) ∧ Below w.heap.size w w' := by
  cases h : decide (64 < (k.length : Int)) with
  | true =>
    go_enter Tryz.func73, Tryz.ntmps73
    go_wp2
    go_ret
    exact ⟨ret_bool (by simp only [badE, h, Bool.true_or]), (Below.refl _ _).alloc (Nat.le_refl _) _⟩
  | false =>
    go_enter Tryz.func73, Tryz.ntmps73
    go_wp2
    go_ret
    exact ⟨ret_bool (by simp only [badE, h, Bool.false_or]), (Below.refl _ _).alloc (Nat.le_refl _) _⟩

theorem any_take_succ (l : List Ent) (k : Nat) (hk : k < l.length) (h : (l.take k).any badE = false) : (l.take (k + 1)).any badE = badE l[k] := by
  rw [List.take_succ_eq_append_getElem hk, List.any_append, h]; simp

/-- What IndexFunc answers here: an index, or -1. -/
def FirstBad (l : List Ent) (w : World) (e : Ending) (w' : World) : Prop := ∃ i : Int, e = .returned (.int .i64 i) ∧ -1 ≤ i ∧ decide (0 ≤ i) = l.any badE ∧ Below w.heap.size w w'

set_option maxHeartbeats 400000 in
theorem indexBad_any (l : List Ent) (A : Option Addr) (c : Nat) (hl : l.length ≤ 70000) (w : World) (hr : ReadsE w w.heap.size A l) :
    Calls Tryz.prog 98 #[.slice A l.length c, .func (.func 73) #[] #[]] w (FirstBad l w) := by
  have HR := Lib.hid hr
  clear hr
  go_enter Tryz.func98, Tryz.ntmps98
  go_wp2
  go_loopw [8] (fun i wr => ∃ k : Nat, k ≤ l.length ∧ i = .int .i64 k ∧ Hid ((l.take k).any badE = false) ∧ Below w.heap.size w wr) (fun i _ => l.length - (intOf i).toNat)
  case atStart => exact ⟨0, Nat.zero_le _, rfl, (by simp : (l.take 0).any badE = false), Below.refl _ _⟩
  case round =>
    obtain ⟨k, hk, rfl, hno, hbel⟩ := hrel
    by_cases hlt : k < l.length
    · obtain ⟨b, o, rfl, hb, c0, c1, c2⟩ := (HR.out.below hbel).at_ k hlt
      have HB := Lib.hid (any_take_succ l k hlt hno.out)
      obtain ⟨bad, hbad⟩ : ∃ bad, badE l[k] = bad := ⟨_, rfl⟩
      have cb := bad_any l[k].key l[k].value l[k].marked wr
      have eb : badE ⟨l[k].key, l[k].value, l[k].marked⟩ = bad := hbad
      rw [eb] at cb
      have Hbad := Lib.hid hbad
      clear hbad eb
      cases bad with
      | false =>
        go_wp2_with (go_at_call 73; refine cb.mono ?_; clear cb; rintro e w' ⟨rfl, hb2⟩)
        go_roundw
        case rel => exact ⟨k + 1, by omega, by go_num, (by rw [HB.out, Hbad.out] : (l.take (k + 1)).any badE = false), hbel.trans (hb2.mono hbel.size)⟩
        case measure => simp [intOf]; omega
      | true =>
        go_wp2_with (go_at_call 73; refine cb.mono ?_; clear cb; rintro e w' ⟨rfl, hb2⟩)
        go_ret
        refine ⟨k, rfl, by omega, ?_, hbel.trans (hb2.mono hbel.size)⟩
        have : l.any badE = true := List.any_eq_true.2 ⟨l[k], List.getElem_mem hlt, Hbad.out⟩
        rw [this]; simp
    · go_wp2
      go_ret
      refine ⟨-1, rfl, by omega, ?_, hbel⟩
      have := hno.out
      rw [List.take_of_length_le (by omega)] at this
      rw [this]; rfl

set_option maxHeartbeats 400000 in
theorem containsBad_any (l : List Ent) (A : Option Addr) (c : Nat) (hl : l.length ≤ 70000) (w : World) (hr : ReadsE w w.heap.size A l) :
    Calls Tryz.prog 72 #[.slice A l.length c, .func (.func 73) #[] #[]] w fun e w' => e = .returned (.bool (l.any badE)) ∧ Below w.heap.size w w' := by
  have HR := Lib.hid hr
  clear hr
  go_enter Tryz.func72, Tryz.ntmps72
  go_wp2_with (go_at_call 98; refine (indexBad_any l A c hl w HR.out).mono ?_; rintro e w' ⟨i, rfl, h0, h1, hb⟩; have H1 := Lib.hid h1; clear h1)
  go_ret
  exact ⟨ret_bool H1.out, hb⟩

set_option maxHeartbeats 1700000 in
theorem right_any (p : Pg) (A : Option Addr) (c : Nat) (hs : Small p) (w : World) (hr : ReadsE w w.heap.size A p.ents) :
    Calls Tryz.prog 46 #[.agg #[.int .i64 p.lsn, .int .i64 p.kind, .int .i64 p.level, .int .i64 p.right, .string (bs p.high), .slice A p.ents.length c]] w
      fun e w' => e = .returned (.bool (rightB p)) ∧ Below w.heap.size w w' := by
  obtain ⟨hh, hE⟩ := hs
  have hn := hE.1
  have HR := Lib.hid (hr.below (w' := w.alloc (.cells #[.int .i64 p.lsn, .int .i64 p.kind, .int .i64 p.level, .int .i64 p.right, .string (bs p.high), .slice A p.ents.length c] 64)) ((Below.refl _ _).alloc (Nat.le_refl _) _))
  have HB : Below w.heap.size w (w.alloc (.cells #[.int .i64 p.lsn, .int .i64 p.kind, .int .i64 p.level, .int .i64 p.right, .string (bs p.high), .slice A p.ents.length c] 64)) := (Below.refl _ _).alloc (Nat.le_refl _) _
  clear hr hE
  cases hhi : decide ((p.high.length : Int) ≤ 64) with
  | _ =>
    have HH := Lib.hid hhi
    go_enter Tryz.func46, Tryz.ntmps46
    go_wp2_with (first | (go_at_call 71; refine (within_any _ _ _ _).mono ?_; rintro e w' ⟨rfl, rfl⟩) | (go_at_call 72; refine (containsBad_any p.ents A c hn _ (HR.out.more (by simp))).mono ?_; rintro e w' ⟨rfl, hb2⟩))
    all_goals go_ret
    all_goals refine ⟨ret_bool ?_, ?_⟩
    all_goals first
      | exact HB
      | exact HB.trans (hb2.mono (by simp))
      | (simp only [rightB, HH.out, Bool.true_and, Bool.false_and, Bool.and_false, *]; done)
end Go.Proofs.YtjlcbabnkhdgpaaGreatDoor
