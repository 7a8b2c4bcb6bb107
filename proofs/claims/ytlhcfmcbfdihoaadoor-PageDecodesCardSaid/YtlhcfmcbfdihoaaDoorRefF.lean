/-
  Plain Lean, no program: the document's cutting of a page's bytes, by places; it answers as the page's own.
-/
import Derived.Test.YtlhcfmcbfdihoaaDoorLawA
namespace Go.Proofs.YtlhcfmcbfdihoaaDoor
set_option linter.unusedSimpArgs false
set_option linter.unusedVariables false

def byteAt (l : List UInt8) (i : Nat) : Nat := (l.getD i 0).toNat
theorem byteAt_lt (l : List UInt8) (i : Nat) : byteAt l i < 256 := UInt8.toNat_lt _
/-- The first entry of what is left, by its places. -/
def rEnt (r : List UInt8) : Ent := ⟨(r.drop 3).take (byteAt r 1), (r.drop (3 + byteAt r 1)).take (byteAt r 2), r.getD 0 0 == 1⟩
def rcutEnts : Nat → List UInt8 → List Ent → Option (List Ent)
  | 0, _, acc => some acc
  | n + 1, r, acc => if r.length < 3 ∨ r.length < 3 + byteAt r 1 + byteAt r 2 then none else rcutEnts n (r.drop (3 + byteAt r 1 + byteAt r 2)) (acc ++ [rEnt r])
/-- The page, by its places. -/
def rcut (l : List UInt8) : Option Pg :=
  if 502 < 13 + byteAt l 10 then none
  else match rcutEnts (getB ((l.take 13).drop 11)) ((l.take 502).drop (13 + byteAt l 10)) [] with
    | some es => some ⟨getB (l.take 6), byteAt l 6, byteAt l 7, getB ((l.take 10).drop 8), (l.drop 13).take (byteAt l 10), es⟩
    | none => none

theorem putB1 (n : Nat) : putB 1 n = [UInt8.ofNat (n % 256)] := by simp [putB]
theorem putB2 (n : Nat) : putB 2 n = [UInt8.ofNat (n / 256 % 256), UInt8.ofNat (n % 256)] := by simp [putB]
theorem ofNat_toNat (n : Nat) (h : n < 256) : (UInt8.ofNat (n % 256)).toNat = n := by simp; omega

theorem entB_cons (e : Ent) (r : List UInt8) : entB e ++ r = (if e.marked then 1 else 0) :: UInt8.ofNat (e.key.length % 256) :: UInt8.ofNat (e.value.length % 256) :: (e.key ++ (e.value ++ r)) := by
  unfold entB
  rw [putB1, putB1, putB1]
  cases e.marked <;> simp
theorem rEnt_entB (e : Ent) (r : List UInt8) (hk : e.key.length < 256) (hv : e.value.length < 256) :
    byteAt (entB e ++ r) 1 = e.key.length ∧ byteAt (entB e ++ r) 2 = e.value.length ∧ rEnt (entB e ++ r) = e ∧ (entB e ++ r).drop (3 + e.key.length + e.value.length) = r ∧ (entB e ++ r).length = 3 + e.key.length + e.value.length + r.length := by
  have b1 : byteAt (entB e ++ r) 1 = e.key.length := by rw [entB_cons]; exact ofNat_toNat _ hk
  have b2 : byteAt (entB e ++ r) 2 = e.value.length := by rw [entB_cons]; exact ofNat_toNat _ hv
  refine ⟨b1, b2, ?_, ?_, ?_⟩
  · unfold rEnt
    rw [b1, b2, entB_cons]
    obtain ⟨key, value, m⟩ := e
    have d1 : (List.drop 3 ((if m then (1 : UInt8) else 0) :: UInt8.ofNat (key.length % 256) :: UInt8.ofNat (value.length % 256) :: (key ++ (value ++ r)))) = key ++ (value ++ r) := rfl
    have d2 : (List.drop (3 + key.length) ((if m then (1 : UInt8) else 0) :: UInt8.ofNat (key.length % 256) :: UInt8.ofNat (value.length % 256) :: (key ++ (value ++ r)))) = value ++ r := by
      rw [← List.drop_drop, d1, List.drop_left]
    dsimp only at *
    rw [d1, d2, List.take_left, List.take_left]
    cases m <;> rfl
  · rw [entB_cons, show 3 + e.key.length + e.value.length = 3 + (e.key.length + e.value.length) by omega, ← List.drop_drop]
    show List.drop _ (e.key ++ (e.value ++ r)) = r
    rw [← List.drop_drop, List.drop_left, List.drop_left]
  · rw [entB_cons]; simp; omega
theorem rcutEnts_entsB (l : List Ent) (hl : ∀ e ∈ l, e.key.length < 256 ∧ e.value.length < 256) (r : List UInt8) (acc : List Ent) : rcutEnts l.length (entsB l ++ r) acc = some (acc ++ l) := by
  induction l generalizing acc with
  | nil => simp [rcutEnts]
  | cons e l ih =>
    have h := hl e (by simp)
    have e0 : entsB (e :: l) ++ r = entB e ++ (entsB l ++ r) := by simp [entsB]
    obtain ⟨b1, b2, b3, b4, b5⟩ := rEnt_entB e (entsB l ++ r) h.1 h.2
    rw [e0, List.length_cons, rcutEnts, b1, b2, b3, b4, b5, if_neg (by omega), ih (fun x hx => hl x (by simp [hx]))]
    simp

theorem rcut_enc {p : Pg} (hr : rightB p = true) (hf : 0 ≤ freeOf p) : rcut (encB p) = some p := by
  obtain ⟨h0, h1, h2, h3, h4, h5⟩ := rightB_spec hr
  have hc := ents_count hr hf
  obtain ⟨a, ha⟩ : ∃ a, a = putB 6 p.lsn.toNat := ⟨_, rfl⟩
  have la : a.length = 6 := by rw [ha]; exact putB_length _ _
  obtain ⟨Z, hZ⟩ : ∃ Z, Z = List.replicate (496 - (headB p ++ entsB p.ents).length) (0 : UInt8) := ⟨_, rfl⟩
  have lZ : Z.length + (entsB p.ents).length + p.high.length = 489 := by
    have l1 := headB_length p
    have l2 := entsB_length p.ents
    unfold freeOf at hf
    rw [hZ, List.length_replicate, List.length_append, l1, l2]
    omega
  obtain ⟨T, hT⟩ : ∃ T, encB p = a ++ (putB 1 p.kind.toNat ++ (putB 1 p.level.toNat ++ (putB 2 p.right.toNat ++ (putB 1 p.high.length ++ (putB 2 p.ents.length ++ (p.high ++ (entsB p.ents ++ (Z ++ T)))))))) := by
    apply Exists.intro
    unfold encB buildB sealB bodyB headB
    rw [← ha]
    have : Z = List.replicate (496 - ((putB 1 p.kind.toNat ++ (putB 1 p.level.toNat ++ (putB 2 p.right.toNat ++ (putB 1 p.high.length ++ (putB 2 p.ents.length ++ p.high))))) ++ entsB p.ents).length) 0 := hZ
    rw [← this]
    simp only [List.append_assoc]
    rfl
  have hg : getB a = p.lsn.toNat := by rw [ha]; exact getB_putB _ _ (by omega)
  rw [putB1, putB1, putB2, putB1, putB2] at hT
  match a, la with
  | [a0, a1, a2, a3, a4, a5], _ =>
    simp only [List.cons_append, List.nil_append] at hT
    rw [hT]
    obtain ⟨R, hR⟩ : ∃ R, R = p.high ++ (entsB p.ents ++ (Z ++ T)) := ⟨_, rfl⟩
    rw [← hR]
    have eR : (List.take 489 R).drop p.high.length = entsB p.ents ++ Z := by
      rw [hR, List.drop_take, List.drop_left, ← List.append_assoc]
      exact List.take_left' (by simp; omega)
    unfold rcut
    have b10 : byteAt (a0 :: a1 :: a2 :: a3 :: a4 :: a5 :: UInt8.ofNat (p.kind.toNat % 256) :: UInt8.ofNat (p.level.toNat % 256) :: UInt8.ofNat (p.right.toNat / 256 % 256) :: UInt8.ofNat (p.right.toNat % 256) :: UInt8.ofNat (p.high.length % 256) :: UInt8.ofNat (p.ents.length / 256 % 256) :: UInt8.ofNat (p.ents.length % 256) :: R) 10 = p.high.length := ofNat_toNat _ (by omega)
    rw [b10, if_neg (by omega)]
    have e1 : ((a0 :: a1 :: a2 :: a3 :: a4 :: a5 :: UInt8.ofNat (p.kind.toNat % 256) :: UInt8.ofNat (p.level.toNat % 256) :: UInt8.ofNat (p.right.toNat / 256 % 256) :: UInt8.ofNat (p.right.toNat % 256) :: UInt8.ofNat (p.high.length % 256) :: UInt8.ofNat (p.ents.length / 256 % 256) :: UInt8.ofNat (p.ents.length % 256) :: R).take 502).drop (13 + p.high.length) = entsB p.ents ++ Z := by
      rw [← eR, ← List.drop_drop]
      rfl
    have e2 : getB (((a0 :: a1 :: a2 :: a3 :: a4 :: a5 :: UInt8.ofNat (p.kind.toNat % 256) :: UInt8.ofNat (p.level.toNat % 256) :: UInt8.ofNat (p.right.toNat / 256 % 256) :: UInt8.ofNat (p.right.toNat % 256) :: UInt8.ofNat (p.high.length % 256) :: UInt8.ofNat (p.ents.length / 256 % 256) :: UInt8.ofNat (p.ents.length % 256) :: R).take 13).drop 11) = p.ents.length := by
      show getB [UInt8.ofNat (p.ents.length / 256 % 256), UInt8.ofNat (p.ents.length % 256)] = _
      rw [← putB2]; exact getB_putB _ _ (by omega)
    have e3 : getB (((a0 :: a1 :: a2 :: a3 :: a4 :: a5 :: UInt8.ofNat (p.kind.toNat % 256) :: UInt8.ofNat (p.level.toNat % 256) :: UInt8.ofNat (p.right.toNat / 256 % 256) :: UInt8.ofNat (p.right.toNat % 256) :: UInt8.ofNat (p.high.length % 256) :: UInt8.ofNat (p.ents.length / 256 % 256) :: UInt8.ofNat (p.ents.length % 256) :: R).take 10).drop 8) = p.right.toNat := by
      show getB [UInt8.ofNat (p.right.toNat / 256 % 256), UInt8.ofNat (p.right.toNat % 256)] = _
      rw [← putB2]; exact getB_putB _ _ (by omega)
    rw [e1, e2, e3, rcutEnts_entsB p.ents (fun e he => by have := h5 e he; omega)]
    dsimp only
    have b6 : byteAt (a0 :: a1 :: a2 :: a3 :: a4 :: a5 :: UInt8.ofNat (p.kind.toNat % 256) :: UInt8.ofNat (p.level.toNat % 256) :: UInt8.ofNat (p.right.toNat / 256 % 256) :: UInt8.ofNat (p.right.toNat % 256) :: UInt8.ofNat (p.high.length % 256) :: UInt8.ofNat (p.ents.length / 256 % 256) :: UInt8.ofNat (p.ents.length % 256) :: R) 6 = p.kind.toNat := ofNat_toNat _ (by omega)
    have b7 : byteAt (a0 :: a1 :: a2 :: a3 :: a4 :: a5 :: UInt8.ofNat (p.kind.toNat % 256) :: UInt8.ofNat (p.level.toNat % 256) :: UInt8.ofNat (p.right.toNat / 256 % 256) :: UInt8.ofNat (p.right.toNat % 256) :: UInt8.ofNat (p.high.length % 256) :: UInt8.ofNat (p.ents.length / 256 % 256) :: UInt8.ofNat (p.ents.length % 256) :: R) 7 = p.level.toNat := ofNat_toNat _ (by omega)
    rw [b6, b7]
    have e4 : getB ((a0 :: a1 :: a2 :: a3 :: a4 :: a5 :: UInt8.ofNat (p.kind.toNat % 256) :: UInt8.ofNat (p.level.toNat % 256) :: UInt8.ofNat (p.right.toNat / 256 % 256) :: UInt8.ofNat (p.right.toNat % 256) :: UInt8.ofNat (p.high.length % 256) :: UInt8.ofNat (p.ents.length / 256 % 256) :: UInt8.ofNat (p.ents.length % 256) :: R).take 6) = p.lsn.toNat := hg
    have e5 : ((a0 :: a1 :: a2 :: a3 :: a4 :: a5 :: UInt8.ofNat (p.kind.toNat % 256) :: UInt8.ofNat (p.level.toNat % 256) :: UInt8.ofNat (p.right.toNat / 256 % 256) :: UInt8.ofNat (p.right.toNat % 256) :: UInt8.ofNat (p.high.length % 256) :: UInt8.ofNat (p.ents.length / 256 % 256) :: UInt8.ofNat (p.ents.length % 256) :: R).drop 13).take p.high.length = p.high := by
      show R.take _ = _
      rw [hR, List.take_left]
    rw [e4, e5]
    obtain ⟨lsn, kind, level, right, high, ents⟩ := p
    dsimp only at *
    congr 2 <;> omega

theorem decB_iff (l : List UInt8) (p : Pg) : decB l = some p ↔ encR p = (l, 0) := by
  constructor
  · intro h
    unfold decB at h
    split at h
    · rename_i hc
      simp only [Bool.and_eq_true, beq_iff_eq] at hc
      have := Option.some.inj h
      rw [← this]
      exact Prod.ext hc.2.2 hc.2.1
    · cases h
  · intro h
    have h2 : (encR p).2 = 0 := by rw [h]
    have : rightB p = true ∧ 0 ≤ freeOf p := by
      unfold encR at h2
      split at h2
      · rename_i hr
        split at h2
        · cases h2
        · exact ⟨hr, by omega⟩
      · cases h2
    have e : encR p = (encB p, 0) := by unfold encR; rw [if_pos this.1, if_neg (by omega)]
    rw [e] at h
    rw [← (Prod.mk.inj h).1]
    exact encB_dec this.1 this.2
/-- The document's answer is the page's own. -/
theorem rcut_dec (l : List UInt8) : decB l = match rcut l with | some q => if encR q = (l, 0) then some q else none | none => none := by
  cases h : decB l with
  | some p =>
    have he := (decB_iff l p).1 h
    have h2 : (encR p).2 = 0 := by rw [he]
    have hp : rightB p = true ∧ 0 ≤ freeOf p := by
      unfold encR at h2
      split at h2
      · rename_i hr
        split at h2
        · cases h2
        · exact ⟨hr, by omega⟩
      · cases h2
    have e : encR p = (encB p, 0) := by unfold encR; rw [if_pos hp.1, if_neg (by omega)]
    have hl : encB p = l := by rw [e] at he; exact (Prod.mk.inj he).1
    have hc := rcut_enc hp.1 hp.2
    rw [hl] at hc
    rw [hc]
    dsimp only
    rw [if_pos he]
  | none =>
    cases hc : rcut l with
    | none => rfl
    | some q =>
      dsimp only
      rw [if_neg (fun he => by rw [(decB_iff l q).2 he] at h; cases h)]
end Go.Proofs.YtlhcfmcbfdihoaaDoor
