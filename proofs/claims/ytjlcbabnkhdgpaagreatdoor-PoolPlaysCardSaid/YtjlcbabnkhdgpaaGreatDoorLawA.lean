/-
  Plain Lean, no program: a page's bytes are whole, and cut into the page again; two pages have the same bytes just where they are the same; of two pages of other numbers neither half goes with the other's.
-/
import Derived.Test.YtjlcbabnkhdgpaaGreatDoorPageD
namespace Go.Proofs.YtjlcbabnkhdgpaaGreatDoor

theorem Cu.got_app (a b : List UInt8) (ok : Bool) (n : Nat) (h : a.length = n) : Cu.got ⟨a ++ b, ok⟩ n = a := by
  subst h; simp [Cu.got]; intro h; omega
theorem Cu.next_app (a b : List UInt8) (ok : Bool) (n : Nat) (h : a.length = n) : Cu.next ⟨a ++ b, ok⟩ n = ⟨b, ok⟩ := by
  subst h
  unfold Cu.next
  rw [if_neg (by simp)]
  simp
theorem cutEnt_entB (e : Ent) (r : List UInt8) (ok : Bool) (hk : e.key.length < 256) (hv : e.value.length < 256) : cutEnt ⟨entB e ++ r, ok⟩ = (e, ⟨r, ok⟩) := by
  have e0 : entB e ++ r = putB 1 (if e.marked then 1 else 0) ++ (putB 1 e.key.length ++ (putB 1 e.value.length ++ (e.key ++ (e.value ++ r)))) := by simp [entB]
  have l1 : (putB 1 (if e.marked then 1 else 0)).length = 1 := putB_length _ _
  have l2 : (putB 1 e.key.length).length = 1 := putB_length _ _
  have l3 : (putB 1 e.value.length).length = 1 := putB_length _ _
  have g1 : getB (putB 1 (if e.marked then 1 else 0)) = if e.marked then 1 else 0 := getB_putB _ _ (by split <;> omega)
  have g2 : getB (putB 1 e.key.length) = e.key.length := getB_putB _ _ (by omega)
  have g3 : getB (putB 1 e.value.length) = e.value.length := getB_putB _ _ (by omega)
  unfold cutEnt
  rw [e0]
  simp only [Cu.got_app _ _ _ 1 l1, Cu.next_app _ _ _ 1 l1, Cu.got_app _ _ _ 1 l2, Cu.next_app _ _ _ 1 l2, Cu.got_app _ _ _ 1 l3, Cu.next_app _ _ _ 1 l3, g1, g2, g3,
    Cu.got_app e.key _ _ _ rfl, Cu.next_app e.key _ _ _ rfl, Cu.got_app e.value _ _ _ rfl, Cu.next_app e.value _ _ _ rfl]
  obtain ⟨k, v, m⟩ := e
  cases m <;> simp
theorem cutEnts_entsB (l : List Ent) (hl : ∀ e ∈ l, e.key.length < 256 ∧ e.value.length < 256) (r : List UInt8) (acc : List Ent) : cutEnts l.length ⟨entsB l ++ r, true⟩ acc = (acc ++ l, ⟨r, true⟩) := by
  induction l generalizing acc with
  | nil => simp [cutEnts, entsB]
  | cons e l ih =>
    have h := hl e (by simp)
    have e0 : entsB (e :: l) ++ r = entB e ++ (entsB l ++ r) := by simp [entsB]
    rw [e0, List.length_cons, cutEnts, if_pos rfl, cutEnt_entB e _ _ h.1 h.2, ih (fun x hx => hl x (by simp [hx]))]
    simp

theorem withinB_true {n a b : Int} (h : withinB n a b = true) : a ≤ n ∧ n ≤ b := by simpa [withinB] using h
/-- What the guards of Encode give. -/
theorem rightB_spec {p : Pg} (h : rightB p = true) : (0 ≤ p.lsn ∧ p.lsn ≤ 281474976710655) ∧ (1 ≤ p.kind ∧ p.kind ≤ 255) ∧ (0 ≤ p.level ∧ p.level ≤ 255) ∧ (0 ≤ p.right ∧ p.right ≤ 65535) ∧ p.high.length ≤ 64 ∧ ∀ e ∈ p.ents, e.key.length ≤ 64 ∧ e.value.length ≤ 100 := by
  simp only [rightB, Bool.and_eq_true, decide_eq_true_eq, Bool.not_eq_true'] at h
  obtain ⟨h0, h1, h2, h3, h4, h5⟩ := h
  refine ⟨withinB_true h0, withinB_true h1, withinB_true h2, withinB_true h3, by omega, fun e he => ?_⟩
  rw [List.any_eq_false] at h5
  have := h5 e he
  simp [badE] at this
  omega
section
variable {p : Pg} (hr : rightB p = true) (hf : 0 ≤ freeOf p)
include hr hf
theorem ents_count : p.ents.length ≤ 163 := by
  have _ := hr
  have h1 := sizes_ge p.ents
  unfold freeOf at hf
  omega
theorem cutHead_body (s : List UInt8) (hs : (s.take 502).drop 6 = bodyB p) (hn : getB (s.take 6) = p.lsn.toNat) : cutHead s = (⟨p.lsn, p.kind, p.level, p.right, p.high, []⟩, p.ents.length, ⟨entsB p.ents ++ List.replicate (496 - (headB p ++ entsB p.ents).length) 0, true⟩) := by
  obtain ⟨h0, h1, h2, h3, h4, h5⟩ := rightB_spec hr
  have h6 := ents_count hr hf
  have e0 : bodyB p = putB 1 p.kind.toNat ++ (putB 1 p.level.toNat ++ (putB 2 p.right.toNat ++ (putB 1 p.high.length ++ (putB 2 p.ents.length ++ (p.high ++ (entsB p.ents ++ List.replicate (496 - (headB p ++ entsB p.ents).length) 0)))))) := by
    simp [bodyB, headB]
  have l1 : (putB 1 p.kind.toNat).length = 1 := putB_length _ _
  have l2 : (putB 1 p.level.toNat).length = 1 := putB_length _ _
  have l3 : (putB 2 p.right.toNat).length = 2 := putB_length _ _
  have l4 : (putB 1 p.high.length).length = 1 := putB_length _ _
  have l5 : (putB 2 p.ents.length).length = 2 := putB_length _ _
  have g1 : getB (putB 1 p.kind.toNat) = p.kind.toNat := getB_putB _ _ (by omega)
  have g2 : getB (putB 1 p.level.toNat) = p.level.toNat := getB_putB _ _ (by omega)
  have g3 : getB (putB 2 p.right.toNat) = p.right.toNat := getB_putB _ _ (by omega)
  have g4 : getB (putB 1 p.high.length) = p.high.length := getB_putB _ _ (by omega)
  have g5 : getB (putB 2 p.ents.length) = p.ents.length := getB_putB _ _ (by omega)
  unfold cutHead
  rw [hs, hn, e0]
  simp only [Cu.got_app _ _ _ 1 l1, Cu.next_app _ _ _ 1 l1, Cu.got_app _ _ _ 1 l2, Cu.next_app _ _ _ 1 l2, Cu.got_app _ _ _ 2 l3, Cu.next_app _ _ _ 2 l3, Cu.got_app _ _ _ 1 l4, Cu.next_app _ _ _ 1 l4,
    Cu.got_app _ _ _ 2 l5, Cu.next_app _ _ _ 2 l5, g1, g2, g3, g4, g5, Cu.got_app p.high _ _ _ rfl, Cu.next_app p.high _ _ _ rfl]
  simp only [Prod.mk.injEq, Pg.mk.injEq, and_true]
  omega
theorem cutPage_body (s : List UInt8) (hs : (s.take 502).drop 6 = bodyB p) (hn : getB (s.take 6) = p.lsn.toNat) : cutPage s = (p, true) := by
  obtain ⟨h0, h1, h2, h3, h4, h5⟩ := rightB_spec hr
  unfold cutPage
  rw [cutHead_body hr hf s hs hn]
  simp only
  rw [cutEnts_entsB p.ents (fun e he => by have := h5 e he; omega)]
  rfl
end

/-- A page's bytes, of any body: their parts. -/
theorem buildB_parts (n : Nat) (b : List UInt8) (hb : b.length = 496) : (buildB n b).take 6 = putB 6 n ∧ ((buildB n b).take 502).drop 6 = b ∧ (buildB n b).take 508 = putB 6 n ++ b ++ putB 6 n := by
  have l6 := putB_length 6 n
  unfold buildB sealB
  have e : putB 6 n ++ b ++ putB 6 n ++ markB (putB 6 n ++ b ++ putB 6 n) = putB 6 n ++ (b ++ (putB 6 n ++ markB (putB 6 n ++ b ++ putB 6 n))) := by simp
  refine ⟨?_, ?_, ?_⟩
  · rw [e, List.take_left' l6]
  · rw [e, List.take_append, List.take_of_length_le (by omega), List.drop_left' l6, List.take_left' (by omega)]
  · rw [List.take_left' (by simp [l6, hb])]
theorem wholeB_buildB (n : Nat) (b : List UInt8) (hb : b.length = 496) : wholeB (buildB n b) = true := by
  have l6 := putB_length 6 n
  obtain ⟨h1, h2, h3⟩ := buildB_parts n b hb
  have ht : twiceB (buildB n b) = true := by
    unfold twiceB
    rw [h3, List.append_assoc, List.take_left' l6, ← List.append_assoc, List.drop_left' (by simp [l6, hb])]
    simp
  have hs : sealedB (buildB n b) = true := sealedB_sealB _
  simp [wholeB, ht, hs]
theorem noughts_not {l : List UInt8} {x : UInt8} (hx : x ∈ l) (h0 : x ≠ 0) : noughtsB l = false := by
  unfold noughtsB
  rw [List.all_eq_false]
  exact ⟨x, hx, by simpa using h0⟩
theorem buildB_noughts (n : Nat) {p : Pg} (hr : rightB p = true) : noughtsB (buildB n (bodyB p)) = false := by
  obtain ⟨_, h1, _⟩ := rightB_spec hr
  refine noughts_not (x := UInt8.ofNat (p.kind.toNat % 256)) ?_ ?_
  · have : UInt8.ofNat (p.kind.toNat % 256) ∈ putB 1 p.kind.toNat := by simp [putB]
    unfold buildB sealB bodyB headB
    simp only [List.mem_append]
    simp [this]
  · intro h
    have h2 := congrArg UInt8.toNat h
    simp at h2
    omega
end Go.Proofs.YtjlcbabnkhdgpaaGreatDoor
