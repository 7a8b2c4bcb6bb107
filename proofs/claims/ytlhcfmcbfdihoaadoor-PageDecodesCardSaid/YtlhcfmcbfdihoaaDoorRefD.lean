/-
  Walks: the document's answer for layer 5: Free, Nothing, Whole.
-/
import Derived.Test.YtlhcfmcbfdihoaaDoorRefC
import Derived.Test.YtlhcfmcbfdihoaaDoorPageA
import Derived.BigQuiet
namespace Go.Proofs.YtlhcfmcbfdihoaaDoor
set_option linter.unusedSimpArgs false
set_option linter.unusedVariables false
open Go.RowKit

set_option maxHeartbeats 800000 in
set_option maxRecDepth 100000 in
theorem reffree_any (p : Pg) (A : Option Addr) (c : Nat) (hs : Small p) (w : World) (hr : ReadsE w w.heap.size A p.ents) :
    Calls Tryd.prog 13 #[.agg #[.int .i64 p.lsn, .int .i64 p.kind, .int .i64 p.level, .int .i64 p.right, .string (bs p.high), .slice A p.ents.length c]] w
      fun e w' => e = .returned (.int .i64 (freeOf p)) ∧ Below w.heap.size w w' := by
  obtain ⟨hh, hE⟩ := hs
  have hn := hE.1
  have HR := Lib.hid hr
  have HE := Lib.hid hE
  clear hr hE
  go_enter Tryd.func13, Tryd.ntmps13
  go_wp2
  have hb0 : Below w.heap.size w (w.alloc (.cells #[.int .i64 p.lsn, .int .i64 p.kind, .int .i64 p.level, .int .i64 p.right, .string (bs p.high), .slice A p.ents.length c] 32)) := (Below.refl _ _).alloc (Nat.le_refl _) _
  have c5 : (w.alloc (.cells #[.int .i64 p.lsn, .int .i64 p.kind, .int .i64 p.level, .int .i64 p.right, .string (bs p.high), .slice A p.ents.length c] 32)).cell? ⟨w.heap.size, 5, none⟩ = some (.slice A p.ents.length c) := by
    rw [World.cell?_alloc_new]; rfl
  have hR := HR.out.below hb0
  generalize w.alloc (.cells #[.int .i64 p.lsn, .int .i64 p.kind, .int .i64 p.level, .int .i64 p.right, .string (bs p.high), .slice A p.ents.length c] 32) = w1 at *
  generalize hg0 : w.heap.size = g0 at *
  go_loopg [3, 4] p.ents.length (fun g n i wr => ∃ d : Nat, wr = w1.drewN d ∧ ∃ k : Nat, k ≤ p.ents.length ∧ g = p.ents.length - k ∧ i = .int .i64 k ∧ n = .int .i64 (489 - (p.high.length : Int) - (sizes (p.ents.take k) : Int)))
  case atStart => exact ⟨0, rfl, 0, Nat.zero_le _, rfl, rfl, by simp [sizes]⟩
  case round =>
    obtain ⟨d, rfl, k, hk, rfl, rfl, rfl⟩ := hrel
    have hsz := sizes_take_le HE.out k hk
    by_cases hlt : k < p.ents.length
    · obtain ⟨b, o, rfl, hb, c0, c1, c2⟩ := hR.at_ k hlt
      have he := HE.out.2 p.ents[k] (List.getElem_mem hlt)
      obtain ⟨he1, he2⟩ := he
      go_wp2_with fail
      go_quiet (fail)
      go_wp2_with fail
      go_roundg (p.ents.length - (k + 1))
      case measure => omega
      case rel =>
        refine ⟨_, rfl, k + 1, by omega, rfl, by go_num, ?_⟩
        rw [List.take_succ_eq_append_getElem hlt, sizes_snoc]; unfold entSize; go_num
    · go_wp2_with fail
      go_ret
      exact ⟨ret_int (by rw [List.take_of_length_le (by omega)]; rfl), hg0 ▸ below_drewN hb0 _⟩
end Go.Proofs.YtlhcfmcbfdihoaaDoor
