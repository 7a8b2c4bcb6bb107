/-
  Plain Lean, no program: of two pages of other numbers neither half goes with the other's.
-/
import Derived.Test.YtjlcbabnkhdgpaaGreatDoorLawA
namespace Go.Proofs.YtjlcbabnkhdgpaaGreatDoor

/-- The first half of one, the second of another. -/
def halved (s t : List UInt8) : List UInt8 := s.take 256 ++ t.drop 256
theorem mid_end (t : List UInt8) : ((t.drop 256).take 252).drop 246 = (t.take 508).drop 502 := by
  rw [List.take_drop, List.drop_drop]
theorem halved_twice {s t : List UInt8} (hs : 256 ≤ s.length) : twiceB (halved s t) = (s.take 6 == (t.take 508).drop 502) := by
  have e1 : (halved s t).take 508 = s.take 256 ++ (t.drop 256).take 252 := by
    unfold halved
    rw [List.take_append, List.take_of_length_le (l := s.take 256) (by simp; omega)]
    simp [Nat.min_eq_left hs]
  have e2 : (s.take 256 ++ (t.drop 256).take 252).take 6 = s.take 6 := by
    rw [List.take_append_of_le_length (by simp; omega), List.take_take]
    simp
  have e3 : (s.take 256 ++ (t.drop 256).take 252).drop 502 = (t.take 508).drop 502 := by
    rw [← mid_end, List.drop_append, List.drop_eq_nil_of_le (by simp; omega)]
    simp [Nat.min_eq_left hs]
  unfold twiceB
  rw [e1, e2, e3]
theorem halved_not {s t : List UInt8} (hs : 256 ≤ s.length) (hne : s.take 6 ≠ (t.take 508).drop 502) {x : UInt8} (hx : x ∈ halved s t) (h0 : x ≠ 0) : wholeB (halved s t) = false := by
  have ht : twiceB (halved s t) = false := by rw [halved_twice hs]; simpa using hne
  have hz := noughts_not hx h0
  simp [wholeB, ht, hz]
theorem putB6_inj {n m : Nat} (hn : n < 281474976710656) (hm : m < 281474976710656) (h : putB 6 n = putB 6 m) : n = m := by
  have h1 := congrArg getB h
  rwa [getB_putB 6 n (by omega), getB_putB 6 m (by omega)] at h1
theorem getB_some (l : List UInt8) (h : getB l ≠ 0) : ∃ x ∈ l, x ≠ 0 := by
  induction l using snoc_ind with
  | h0 => exact absurd rfl h
  | h1 l b ih =>
    by_cases hb : b = 0
    · subst hb
      rw [getB_snoc] at h
      obtain ⟨x, hx, h0⟩ := ih (by simp at h; omega)
      exact ⟨x, by simp [hx], h0⟩
    · exact ⟨b, by simp, hb⟩
section
variable {a b : Pg} (ha : rightB a = true) (fa : 0 ≤ freeOf a)
include ha fa
theorem encB_front : (encB a).take 6 = putB 6 a.lsn.toNat := by
  have _ := ha
  exact (buildB_parts _ _ (bodyB_length a fa)).1
theorem encB_back : ((encB a).take 508).drop 502 = putB 6 a.lsn.toNat := by
  have _ := ha
  have h := (buildB_parts a.lsn.toNat _ (bodyB_length a fa)).2.2
  show ((buildB a.lsn.toNat (bodyB a)).take 508).drop 502 = _
  rw [h, List.drop_left' (by simp [putB_length, bodyB_length a fa])]
theorem encB_kind : ∃ x ∈ (encB a).take 256, x ≠ 0 := by
  have _ := fa
  obtain ⟨_, h1, _⟩ := rightB_spec ha
  have l6 := putB_length 6 a.lsn.toNat
  have e : ∃ R, encB a = (putB 6 a.lsn.toNat ++ [UInt8.ofNat (a.kind.toNat % 256)]) ++ R := by
    apply Exists.intro
    show buildB a.lsn.toNat (bodyB a) = _
    unfold buildB sealB bodyB headB
    rw [show putB 1 a.kind.toNat = [UInt8.ofNat (a.kind.toNat % 256)] from by simp [putB]]
    simp only [List.append_assoc]
    rfl
  obtain ⟨R, e⟩ := e
  refine ⟨UInt8.ofNat (a.kind.toNat % 256), ?_, ?_⟩
  · refine List.mem_of_mem_take (i := 7) ?_
    rw [List.take_take, e]
    rw [show min 7 256 = 7 from rfl, List.take_left' (by simp [l6])]
    simp
  · intro h
    have h2 := congrArg UInt8.toNat h
    simp at h2
    omega
theorem halves_pages (hb : rightB b = true) (fb : 0 ≤ freeOf b) (hne : a.lsn ≠ b.lsn) : wholeB (halved (encB a) (encB b)) = false := by
  obtain ⟨h0, _⟩ := rightB_spec ha
  obtain ⟨h1, _⟩ := rightB_spec hb
  obtain ⟨x, hx, hx0⟩ := encB_kind ha fa
  refine halved_not (by rw [encB_length a fa]; decide) ?_ (x := x) (by unfold halved; rw [List.mem_append]; exact Or.inl hx) hx0
  rw [encB_front ha fa, encB_back hb fb]
  intro h
  have := putB6_inj (by omega) (by omega) h
  omega
theorem halves_zero (hne : a.lsn ≠ 0) : wholeB (halved (encB a) (List.replicate 512 0)) = false ∧ wholeB (halved (List.replicate 512 0) (encB a)) = false := by
  obtain ⟨h0, _⟩ := rightB_spec ha
  obtain ⟨x, hx, hx0⟩ := encB_kind ha fa
  have z1 : ((List.replicate 512 (0 : UInt8)).take 508).drop 502 = putB 6 0 := by decide +kernel
  have z2 : (List.replicate 512 (0 : UInt8)).take 6 = putB 6 0 := by decide +kernel
  have hn : putB 6 a.lsn.toNat ≠ putB 6 0 := fun h => by
    have := putB6_inj (by omega) (by omega) h
    omega
  refine ⟨halved_not (by rw [encB_length a fa]; decide) ?_ (x := x) (by unfold halved; rw [List.mem_append]; exact Or.inl hx) hx0, ?_⟩
  · rw [encB_front ha fa, z1]; exact hn
  · obtain ⟨y, hy, hy0⟩ := getB_some (putB 6 a.lsn.toNat) (by rw [getB_putB _ _ (by omega)]; omega)
    refine halved_not (by rw [List.length_replicate]; decide) ?_ (x := y) ?_ hy0
    · rw [z2, encB_back ha fa]; exact hn.symm
    · unfold halved
      rw [List.mem_append]
      rw [← encB_back ha fa, ← mid_end] at hy
      exact Or.inr (List.mem_of_mem_take (List.mem_of_mem_drop hy))
end
/-- A page that is handed in, whose texts and entries are no longer than there may be. -/
def Handed (x : Pg) : Prop := x.high.length ≤ 140737488355328 ∧ x.ents.length ≤ 140737488355328 ∧ ∀ e ∈ x.ents, e.key.length ≤ 140737488355328 ∧ e.value.length ≤ 140737488355328

end Go.Proofs.YtjlcbabnkhdgpaaGreatDoor
