/-
  Walks: the law's own comparing: 'same'.
-/
import Derived.Test.YtlhcfmcbfdihoaaDoorMadeA
import Derived.Laws.StructEq
namespace Go.Proofs.YtlhcfmcbfdihoaaDoor
open Go.RowKit

/-- Are two entries' three parts the same? (Kept shut.) -/
def entEq (k v k' v' : List UInt8) (m m' : Bool) : Bool := k == k' && (v == v' && m == m')
theorem entEq_true {k v k' v' : List UInt8} {m m' : Bool} (h : entEq k v k' v' m m' = true) : (⟨k, v, m⟩ : Ent) = ⟨k', v', m'⟩ := by
  unfold entEq at h; simp at h; simp [h]
theorem entEq_false {k v k' v' : List UInt8} {m m' : Bool} (h : entEq k v k' v' m m' = false) : (⟨k, v, m⟩ : Ent) ≠ ⟨k', v', m'⟩ := by
  intro e; injection e with e1 e2 e3; subst e1 e2 e3; simp [entEq] at h
set_option maxRecDepth 100000 in
theorem eqEnt (k v k' v' : List UInt8) (m m' : Bool) (w : World) : (Op.equalIn 10000 57 (.agg #[.string (bs k), .string (bs v), .bool m]) (.agg #[.string (bs k'), .string (bs v'), .bool m'])).run Tryd.prog w = .ok (entEq k v k' v' m m') w := by
  unfold entEq
  have u3 := Tryd.underlying9
  have a3 := Tryd.isAgg9
  have z3 := Tryd.sizeOf9
  have u4 := Tryd.underlying4
  have a4 := Tryd.isAgg4
  have z4 := Tryd.sizeOf4
  have hS : Tryd.prog.underlying 57 = some (.struct (Tryd.prog.fieldsOf 57)) := by kernel_rfl
  have hp : Tryd.prog.stoodInHeld 57 = false := by kernel_rfl
  rw [show (10000 : Nat) = 9999 + 1 from rfl, run_equalIn_agg w 9999 57 _ _ hS hp]
  simp only [Program.fieldsOf, Tryd.underlying57]
  go_simp
  by_cases h1 : k = k' <;> by_cases h2 : v = v' <;> by_cases h3 : m = m' <;> simp [h1, h2, h3]

attribute [irreducible] entEq
attribute [local go_sem high] eqEnt

theorem pg_ext {a b : Pg} (h0 : a.lsn = b.lsn) (h1 : a.kind = b.kind) (h2 : a.level = b.level) (h3 : a.right = b.right) (h4 : a.high = b.high) (h5 : a.ents = b.ents) : a = b := by
  cases a; cases b; simp_all

/-- What 'same' keeps. -/
def SInv (w0 : World) (a b : Pg) (A B : Option Addr) (ca cb : Nat) (w : World) : Prop :=
  Below w0.heap.size w0 w ∧ ReadsE w w0.heap.size A a.ents ∧ ReadsE w w0.heap.size B b.ents ∧ w.cell? ⟨w0.heap.size, 5, none⟩ = some (.slice A a.ents.length ca) ∧ w.cell? ⟨w0.heap.size + 1, 5, none⟩ = some (.slice B b.ents.length cb)
theorem SInv.start (w : World) (a b : Pg) (A B : Option Addr) (ca cb : Nat) (hra : ReadsE w w.heap.size A a.ents) (hrb : ReadsE w w.heap.size B b.ents) :
    SInv w a b A B ca cb ((w.alloc (.cells (pgCells a A ca) 29)).alloc (.cells (pgCells b B cb) 32)) := by
  have b1 := Blk.made w (pgCells a A ca) 29
  have e1 : Below w.heap.size w (w.alloc (.cells (pgCells a A ca) 29)) := (Below.refl _ _).alloc (Nat.le_refl _) _
  have z1 : (w.alloc (.cells (pgCells a A ca) 29)).heap.size = w.heap.size + 1 := by simp
  generalize w.alloc (.cells (pgCells a A ca) 29) = w1 at *
  have b2 := Blk.made w1 (pgCells b B cb) 32
  rw [z1] at b2
  have e2 : Below w.heap.size w (w1.alloc (.cells (pgCells b B cb) 32)) := e1.alloc (by omega) _
  have b1' := b1.alloc (.cells (pgCells b B cb) 32)
  exact ⟨e2, hra.below e2, hrb.below e2, b1'.cell 5, b2.cell 5⟩
section
variable {w0 w w' : World} {a b : Pg} {A B : Option Addr} {ca cb : Nat}
theorem SInv.up (h : SInv w0 a b A B ca cb w) (hb : Below w.heap.size w w') : SInv w0 a b A B ca cb w' := by
  obtain ⟨h1, h2, h3, h4, h5⟩ := h
  have k : ∀ {p : Addr} {v : Value}, w.cell? p = some v → w'.cell? p = some v := fun {p v} hp => (World.cell?_of_block (hb.block p.block (World.block_lt_of_cell? w p hp))).trans hp
  exact ⟨h1.trans (hb.mono h1.size), h2.below (hb.mono h1.size), h3.below (hb.mono h1.size), k h4, k h5⟩
theorem SInv.cells (h : SInv w0 a b A B ca cb w) : w.cell? ⟨w0.heap.size, 5, none⟩ = some (.slice A a.ents.length ca) ∧ w.cell? ⟨w0.heap.size + 1, 5, none⟩ = some (.slice B b.ents.length cb) := h.2.2.2
theorem SInv.old (h : SInv w0 a b A B ca cb w) : Below w0.heap.size w0 w := h.1
theorem SInv.reads (h : SInv w0 a b A B ca cb w) : ReadsE w w0.heap.size A a.ents ∧ ReadsE w w0.heap.size B b.ents := ⟨h.2.1, h.2.2.1⟩
end
attribute [irreducible] SInv

set_option maxHeartbeats 3200000 in
set_option maxRecDepth 100000 in
/-- Two pages are the same just where all in them is the same. -/
theorem same_any (a b : Pg) (A B : Option Addr) (ca cb : Nat) (ha : a.ents.length ≤ 140737488355328) (hb : b.ents.length ≤ 140737488355328) (w : World) (hra : ReadsE w w.heap.size A a.ents) (hrb : ReadsE w w.heap.size B b.ents) :
    Calls Tryd.prog 15 #[.agg (pgCells a A ca), .agg (pgCells b B cb)] w fun e w' => ∃ r : Bool, e = .returned (.bool r) ∧ (r = true ↔ a = b) ∧ Below w.heap.size w w' := by
  obtain ⟨l0, l1, l2, l3, hi, ents⟩ := a
  obtain ⟨m0, m1, m2, m3, hj, ents'⟩ := b
  have hS := SInv.start w ⟨l0, l1, l2, l3, hi, ents⟩ ⟨m0, m1, m2, m3, hj, ents'⟩ A B ca cb hra hrb
  unfold pgCells at hS ⊢
  dsimp only at ha hb hS ⊢
  obtain ⟨n, hn⟩ : ∃ n, n = ents.length := ⟨_, rfl⟩
  obtain ⟨m, hm⟩ : ∃ n, n = ents'.length := ⟨_, rfl⟩
  rw [← hn] at ha hS ⊢
  rw [← hm] at hb hS ⊢
  have HN := Lib.hid hn; have HM := Lib.hid hm; have HS := Lib.hid hS
  clear hn hm hS hra hrb
  go_enter Tryd.func15, Tryd.ntmps15
  by_cases e0 : l0 = m0
  · by_cases e1 : l1 = m1
    · by_cases e2 : l2 = m2
      · by_cases e3 : l3 = m3
        · by_cases e4 : hi = hj
          · by_cases e5 : n = m
            · subst e0; subst e1; subst e2; subst e3; subst e4; subst e5
              go_wp2_with fail
              have hS := HS.out
              generalize ((w.alloc (.cells #[.int .i64 l0, .int .i64 l1, .int .i64 l2, .int .i64 l3, .string (bs hi), .slice A n ca] 29)).alloc (.cells #[.int .i64 l0, .int .i64 l1, .int .i64 l2, .int .i64 l3, .string (bs hi), .slice B n cb] 32)) = w2 at *
              clear HS
              have HS := Lib.hid hS
              clear hS
              go_loopw [5] (fun i wr => ∃ k : Nat, k ≤ n ∧ i = .int .i64 k ∧ ents.take k = ents'.take k ∧ SInv w ⟨l0, l1, l2, l3, hi, ents⟩ ⟨l0, l1, l2, l3, hi, ents'⟩ A B ca cb wr) (fun i _ => n - (intOf i).toNat)
              case atStart => exact ⟨0, Nat.zero_le _, rfl, by simp, HS.out⟩
              case round =>
                clear HS
                obtain ⟨k, hk, rfl, hj', hS⟩ := hrel
                obtain ⟨x5, y5⟩ := hS.cells
                dsimp only at x5 y5
                rw [← HN.out] at x5
                rw [← HM.out] at y5
                by_cases hlt : k < n
                · obtain ⟨b1, o1, rfl, hb1, c0, c1, c2⟩ := hS.reads.1.at_ k (by have := HN.out; show k < ents.length; omega)
                  obtain ⟨b2, o2, rfl, hb2, d0, d1, d2⟩ := hS.reads.2.at_ k (by have := HM.out; show k < ents'.length; omega)
                  have hla : k < ents.length := by have := HN.out; omega
                  have hlb : k < ents'.length := by have := HM.out; omega
                  dsimp only at c0 c1 c2 d0 d1 d2
                  have hjj : ents[k] = ents'[k] → ents.take (k + 1) = ents'.take (k + 1) := fun h => by
                    rw [List.take_succ_eq_append_getElem hla, List.take_succ_eq_append_getElem hlb, hj', h]
                  have hnn : ents[k] ≠ ents'[k] → ¬ ((⟨l0, l1, l2, l3, hi, ents⟩ : Pg) = ⟨l0, l1, l2, l3, hi, ents'⟩) := fun h h' => h (by injection h' with _ _ _ _ _ h'; subst h'; rfl)
                  have HJ := Lib.hid hjj; have HNN := Lib.hid hnn
                  obtain ⟨e, he⟩ : ∃ e, e = ents[k] := ⟨_, rfl⟩
                  obtain ⟨f, hf⟩ : ∃ e, e = ents'[k] := ⟨_, rfl⟩
                  rw [← he] at c0 c1 c2 HJ HNN
                  rw [← hf] at d0 d1 d2 HJ HNN
                  clear hjj hnn he hf hj'
                  obtain ⟨key, value, marked⟩ := e
                  obtain ⟨key', value', marked'⟩ := f
                  have HS := Lib.hid hS
                  clear hS
                  cases hq : entEq key value key' value' marked marked' with
                  | true =>
                    go_wp2_with fail
                    go_region
                    all_goals
                      go_wp2_with fail
                      go_roundw
                      case rel =>
                        skip
                        exact ⟨k + 1, hlt, by go_num, HJ.out (entEq_true hq), HS.out.up (Below.refl _ _).drew⟩
                      case measure => simp [intOf]; omega
                  | false =>
                    go_wp2_with fail
                    go_region
                    all_goals
                      go_wp2_with fail
                      go_ret
                      exact ⟨false, rfl, ⟨(fun h => by cases h), fun h => absurd h (HNN.out (entEq_false hq))⟩, (HS.out.up (Below.refl _ _).drew).old⟩
                · have hkc : k = n := by omega
                  have heq : (⟨l0, l1, l2, l3, hi, ents⟩ : Pg) = ⟨l0, l1, l2, l3, hi, ents'⟩ := by
                    have h1 := HN.out; have h2 := HM.out
                    rw [List.take_of_length_le (by omega), List.take_of_length_le (by omega)] at hj'
                    rw [hj']
                  have HS := Lib.hid hS
                  clear hS hj'
                  go_wp2_with fail
                  go_ret
                  exact ⟨true, rfl, ⟨fun _ => heq, fun _ => rfl⟩, HS.out.old⟩
            · go_wp2_with fail
              go_ret
              refine ⟨false, rfl, ⟨(fun h => by cases h), fun h => (by injection h with h0 h1 h2 h3 h4 h5; subst h5; exact absurd (HN.out.trans HM.out.symm) e5)⟩, ?_⟩
              exact ((Below.refl _ _).alloc (Nat.le_refl _) _).alloc (by simp) _
          · go_wp2_with fail
            go_ret
            refine ⟨false, rfl, ⟨(fun h => by cases h), fun h => (by injection h with h0 h1 h2 h3 h4 h5; exact absurd h4 e4)⟩, ?_⟩
            exact ((Below.refl _ _).alloc (Nat.le_refl _) _).alloc (by simp) _
        · go_wp2_with fail
          go_ret
          refine ⟨false, rfl, ⟨(fun h => by cases h), fun h => (by injection h with h0 h1 h2 h3 h4 h5; exact absurd h3 e3)⟩, ?_⟩
          exact ((Below.refl _ _).alloc (Nat.le_refl _) _).alloc (by simp) _
      · go_wp2_with fail
        go_ret
        refine ⟨false, rfl, ⟨(fun h => by cases h), fun h => (by injection h with h0 h1 h2 h3 h4 h5; exact absurd h2 e2)⟩, ?_⟩
        exact ((Below.refl _ _).alloc (Nat.le_refl _) _).alloc (by simp) _
    · go_wp2_with fail
      go_ret
      refine ⟨false, rfl, ⟨(fun h => by cases h), fun h => (by injection h with h0 h1 h2 h3 h4 h5; exact absurd h1 e1)⟩, ?_⟩
      exact ((Below.refl _ _).alloc (Nat.le_refl _) _).alloc (by simp) _
  · go_wp2_with fail
    go_ret
    refine ⟨false, rfl, ⟨(fun h => by cases h), fun h => (by injection h with h0 h1 h2 h3 h4 h5; exact absurd h0 e0)⟩, ?_⟩
    exact ((Below.refl _ _).alloc (Nat.le_refl _) _).alloc (by simp) _
end Go.Proofs.YtlhcfmcbfdihoaaDoor
