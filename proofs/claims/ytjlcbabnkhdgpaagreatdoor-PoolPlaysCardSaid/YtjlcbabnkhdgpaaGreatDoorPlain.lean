/-
  Plain Lean, no program: numbers of fixed length, and sums (CRC-32), over lists of bytes.
-/
import Derived.Lib.Hide
namespace Go.Proofs.YtjlcbabnkhdgpaaGreatDoor
set_option linter.unusedSimpArgs false
set_option linter.unusedVariables false

theorem snoc_ind {α : Type} {P : List α → Prop} (h0 : P []) (h1 : ∀ l a, P l → P (l ++ [a])) (l : List α) : P l := by
  have h : ∀ m : List α, P m.reverse := by
    intro m
    induction m with
    | nil => exact h0
    | cons a m ih => rw [List.reverse_cons]; exact h1 _ _ ih
  have := h l.reverse
  rwa [List.reverse_reverse] at this

/-- A number in so many bytes, the greatest first. -/
def putB : Nat → Nat → List UInt8
  | 0, _ => []
  | k + 1, n => putB k (n / 256) ++ [UInt8.ofNat (n % 256)]

/-- The number of bytes. -/
def getB (l : List UInt8) : Nat := l.foldl (fun a b => a * 256 + b.toNat) 0

theorem putB_length (k n : Nat) : (putB k n).length = k := by
  induction k generalizing n with
  | zero => rfl
  | succ k ih => simp [putB, ih]

theorem getB_snoc (l : List UInt8) (b : UInt8) : getB (l ++ [b]) = getB l * 256 + b.toNat := by simp [getB]

theorem getB_putB (k n : Nat) (h : n < 256 ^ k) : getB (putB k n) = n := by
  induction k generalizing n with
  | zero => simp [putB, getB]; simp at h; omega
  | succ k ih =>
    rw [putB, getB_snoc, ih _ (by rw [Nat.pow_succ] at h; omega)]
    have : (UInt8.ofNat (n % 256)).toNat = n % 256 := by simp
    rw [this]; omega

theorem getB_lt (l : List UInt8) : getB l < 256 ^ l.length := by
  induction l using snoc_ind with
  | h0 => simp [getB]
  | h1 l b ih =>
    rw [getB_snoc, List.length_append, List.length_singleton, Nat.pow_succ]
    have := b.toNat_lt
    omega

theorem putB_getB (l : List UInt8) : putB l.length (getB l) = l := by
  induction l using snoc_ind with
  | h0 => rfl
  | h1 l b ih =>
    have hb := b.toNat_lt
    rw [getB_snoc, List.length_append, List.length_singleton, putB]
    have e1 : (getB l * 256 + b.toNat) / 256 = getB l := by omega
    have e2 : (getB l * 256 + b.toNat) % 256 = b.toNat := by omega
    rw [e1, e2, ih]; simp

theorem putB_cons (k n : Nat) : putB (k + 1) n = UInt8.ofNat (n / 256 ^ k % 256) :: putB k n := by
  induction k generalizing n with
  | zero => simp [putB]
  | succ k ih =>
    rw [putB, ih, List.cons_append, putB, Nat.pow_succ, Nat.mul_comm, Nat.div_div_eq_div_mul]

/-- One bit of the sum's register. -/
def crcBit (r : Nat) : Nat := if r % 2 = 1 then (r / 2) ^^^ 3988292384 else r / 2
/-- One byte of it. -/
def crcByte (r : Nat) (b : UInt8) : Nat := crcBit (crcBit (crcBit (crcBit (crcBit (crcBit (crcBit (crcBit (r ^^^ b.toNat))))))))
def crcReg (l : List UInt8) : Nat := l.foldl crcByte 4294967295
/-- The sum of bytes. -/
def crc (l : List UInt8) : Nat := 4294967295 - crcReg l

theorem crcReg_snoc (l : List UInt8) (b : UInt8) : crcReg (l ++ [b]) = crcByte (crcReg l) b := by simp [crcReg]

/-- The four bytes of a number, the least first. -/
def leB (n : Nat) : List UInt8 := [UInt8.ofNat (n % 256), UInt8.ofNat (n / 256 % 256), UInt8.ofNat (n / 65536 % 256), UInt8.ofNat (n / 16777216 % 256)]
def markB (l : List UInt8) : List UInt8 := leB (crc l)
def sealB (l : List UInt8) : List UInt8 := l ++ markB l

def turnsN : List Nat := [0x00000000, 0x1db71064, 0x3b6e20c8, 0x26d930ac, 0x76dc4190, 0x6b6b51f4, 0x4db26158, 0x5005713c,
  0xedb88320, 0xf00f9344, 0xd6d6a3e8, 0xcb61b38c, 0x9b64c2b0, 0x86d3d2d4, 0xa00ae278, 0xbdbdf21c]
def turnAt (i : Nat) : Nat := turnsN.getD i 0

theorem crcBit_xor (a b : Nat) : crcBit (a ^^^ b) = crcBit a ^^^ crcBit b := by
  unfold crcBit
  have h2 : (a ^^^ b) / 2 = (a / 2) ^^^ (b / 2) := by
    have := Nat.shiftRight_xor_distrib (a := a) (b := b) (i := 1)
    simpa [Nat.shiftRight_eq_div_pow] using this
  have hm : (a ^^^ b) % 2 = (a + b) % 2 := by
    have h := Nat.xor_mod_two_pow (a := a) (b := b) (n := 1)
    rw [show (2 : Nat) ^ 1 = 2 from rfl] at h
    rw [h]
    rcases Nat.mod_two_eq_zero_or_one a with ha | ha <;> rcases Nat.mod_two_eq_zero_or_one b with hb | hb <;> rw [ha, hb] <;> simp <;> omega
  rw [h2, hm]
  rcases Nat.mod_two_eq_zero_or_one a with ha | ha <;> rcases Nat.mod_two_eq_zero_or_one b with hb | hb
  · rw [if_neg (by omega), if_neg (by omega), if_neg (by omega)]
  · rw [if_pos (by omega), if_neg (by omega), if_pos (by omega), Nat.xor_assoc]
  · rw [if_pos (by omega), if_pos (by omega), if_neg (by omega)]; ac_rfl
  · rw [if_neg (by omega), if_pos (by omega), if_pos (by omega)]
    have e : (a / 2 ^^^ 3988292384) ^^^ (b / 2 ^^^ 3988292384) = (a / 2 ^^^ b / 2) ^^^ (3988292384 ^^^ 3988292384) := by ac_rfl
    rw [e, Nat.xor_self, Nat.xor_zero]

theorem crcBit_even (q : Nat) : crcBit (2 * q) = q := by unfold crcBit; rw [if_neg (by omega)]; omega

/-- Four bits at once, by the table. -/
theorem crcBit4 (r : Nat) : crcBit (crcBit (crcBit (crcBit r))) = (r / 16) ^^^ turnAt (r % 16) := by
  have e : r = (16 * (r / 16)) ^^^ (r % 16) := by
    have e1 : 16 * (r / 16) = (r >>> 4) <<< 4 := by rw [Nat.shiftLeft_eq, Nat.shiftRight_eq_div_pow]; omega
    rw [e1, show (16 : Nat) = 2 ^ 4 from rfl]
    apply Nat.eq_of_testBit_eq
    intro i
    rw [Nat.testBit_xor, Nat.testBit_shiftLeft, Nat.testBit_shiftRight, Nat.testBit_mod_two_pow]
    by_cases h : i < 4
    · simp [h, show ¬ 4 ≤ i from by omega]
    · simp [h, show 4 ≤ i from by omega, show 4 + (i - 4) = i from by omega]
  have hq : crcBit (crcBit (crcBit (crcBit (16 * (r / 16))))) = r / 16 := by
    rw [show 16 * (r / 16) = 2 * (8 * (r / 16)) from by omega, crcBit_even, show 8 * (r / 16) = 2 * (4 * (r / 16)) from by omega, crcBit_even,
      show 4 * (r / 16) = 2 * (2 * (r / 16)) from by omega, crcBit_even, crcBit_even]
  have hd : ∀ d, d < 16 → crcBit (crcBit (crcBit (crcBit d))) = turnAt d := by decide +kernel
  conv => lhs; rw [e]
  rw [crcBit_xor, crcBit_xor, crcBit_xor, crcBit_xor, hq, hd _ (by omega)]

theorem crcByte_eq (r : Nat) (b : UInt8) : crcByte r b = (((r ^^^ b.toNat) / 16 ^^^ turnAt ((r ^^^ b.toNat) % 16)) / 16) ^^^ turnAt (((r ^^^ b.toNat) / 16 ^^^ turnAt ((r ^^^ b.toNat) % 16)) % 16) := by
  unfold crcByte
  rw [crcBit4, crcBit4]

theorem crcBit_lt {r : Nat} (h : r < 4294967296) : crcBit r < 4294967296 := by
  unfold crcBit
  split
  · exact Nat.xor_lt_two_pow (n := 32) (by omega) (by decide)
  · omega
theorem crcByte_lt {r : Nat} (b : UInt8) (h : r < 4294967296) : crcByte r b < 4294967296 := by
  have := b.toNat_lt
  unfold crcByte
  repeat apply crcBit_lt
  exact Nat.xor_lt_two_pow (n := 32) h (by omega)
theorem foldl_crc_lt (l : List UInt8) : ∀ r, r < 4294967296 → l.foldl crcByte r < 4294967296 := by
  induction l with
  | nil => exact fun r h => h
  | cons b l ih => exact fun r h => ih _ (crcByte_lt b h)
theorem crcReg_lt (l : List UInt8) : crcReg l < 4294967296 := foldl_crc_lt l _ (by decide)
theorem crc_lt (l : List UInt8) : crc l < 4294967296 := by unfold crc; omega

theorem leB_length (n : Nat) : (leB n).length = 4 := rfl
theorem markB_length (l : List UInt8) : (markB l).length = 4 := rfl
theorem sealB_length (l : List UInt8) : (sealB l).length = l.length + 4 := by simp [sealB, markB_length]

/-- The document's way: the byte's bits are met one by one. -/
def refBit (r x : Nat) (b : Nat) : Nat := if (r ^^^ (x / 2 ^ b)) % 2 = 1 then (r / 2) ^^^ 3988292384 else r / 2
def refBits (r x : Nat) : Nat → Nat
  | 0 => r
  | b + 1 => refBit (refBits r x b) x b

def crcBits (r : Nat) : Nat → Nat
  | 0 => r
  | b + 1 => crcBit (crcBits r b)

theorem xor_div_two (a b : Nat) : (a ^^^ b) / 2 = (a / 2) ^^^ (b / 2) := by
  have := Nat.shiftRight_xor_distrib (a := a) (b := b) (i := 1)
  simpa [Nat.shiftRight_eq_div_pow] using this

theorem refBits_eq (r x : Nat) (b : Nat) : crcBits (r ^^^ x) b = refBits r x b ^^^ (x / 2 ^ b) := by
  induction b with
  | zero => simp [crcBits, refBits]
  | succ b ih =>
    rw [crcBits, ih, refBits, refBit, crcBit, xor_div_two, Nat.pow_succ, ← Nat.div_div_eq_div_mul]
    split
    · ac_rfl
    · rfl

theorem refByte_eq (r : Nat) (x : UInt8) : refBits r x.toNat 8 = crcByte r x := by
  have h := refBits_eq r x.toNat 8
  have hx := x.toNat_lt
  rw [show x.toNat / 2 ^ 8 = 0 from by omega, Nat.xor_zero] at h
  exact h.symm

/-- An entry of a page; a page. -/
structure Ent where
  key : List UInt8
  value : List UInt8
  marked : Bool
structure Pg where
  lsn : Int
  kind : Int
  level : Int
  right : Int
  high : List UInt8
  ents : List Ent

def entSize (e : Ent) : Nat := 3 + e.key.length + e.value.length
def sizes (l : List Ent) : Nat := (l.map entSize).sum
def freeOf (p : Pg) : Int := 489 - (p.high.length : Int) - (sizes p.ents : Int)
def withinB (n a b : Int) : Bool := decide (a ≤ n) && decide (n ≤ b)
def badE (e : Ent) : Bool := decide (64 < (e.key.length : Int)) || decide (100 < (e.value.length : Int))
def rightB (p : Pg) : Bool := withinB p.lsn 0 281474976710655 && (withinB p.kind 1 255 && (withinB p.level 0 255 && (withinB p.right 0 65535 && (decide ((p.high.length : Int) ≤ 64) && !p.ents.any badE))))
/-- Sizes that no page of the laws passes. -/
def SmallE (l : List Ent) : Prop := l.length ≤ 70000 ∧ ∀ e ∈ l, e.key.length ≤ 1000000 ∧ e.value.length ≤ 1000000
def Small (p : Pg) : Prop := p.high.length ≤ 1000000 ∧ SmallE p.ents

theorem sizes_snoc (l : List Ent) (e : Ent) : sizes (l ++ [e]) = sizes l + entSize e := by simp [sizes]
theorem sizes_le (l : List Ent) (h : ∀ e ∈ l, e.key.length ≤ 1000000 ∧ e.value.length ≤ 1000000) : sizes l ≤ l.length * 2000003 := by
  induction l with
  | nil => simp [sizes]
  | cons e l ih =>
    have h1 := h e (by simp)
    have h2 := ih (fun x hx => h x (by simp [hx]))
    have e1 : sizes (e :: l) = entSize e + sizes l := rfl
    have e2 : entSize e = 3 + e.key.length + e.value.length := rfl
    rw [List.length_cons, e1, e2]
    omega
theorem sizes_ge (l : List Ent) : l.length * 3 ≤ sizes l := by
  induction l with
  | nil => simp
  | cons e l ih =>
    have e1 : sizes (e :: l) = entSize e + sizes l := rfl
    have e2 : entSize e = 3 + e.key.length + e.value.length := rfl
    rw [List.length_cons, e1, e2]
    omega
theorem sizes_take_le {l : List Ent} (h : SmallE l) (k : Nat) (hk : k ≤ l.length) : sizes (l.take k) ≤ 70000 * 2000003 := by
  have h0 := sizes_le (l.take k) (fun e he => h.2 e (List.mem_of_mem_take he))
  have h1 := h.1
  rw [List.length_take, Nat.min_eq_left hk] at h0
  exact Nat.le_trans h0 (Nat.mul_le_mul_right _ (by omega))

/-- No other bytes than 00? -/
def noughtsB (l : List UInt8) : Bool := l.all (· == 0)
/-- The bytes are sealed: the last four are the others' sum. -/
def sealedB (l : List UInt8) : Bool := l.drop (l.length - 4) == markB (l.take (l.length - 4))
def twiceB (l : List UInt8) : Bool := (l.take 508).take 6 == (l.take 508).drop 502
/-- A page's bytes, or noughts (of 512 bytes). -/
def wholeB (l : List UInt8) : Bool := noughtsB l || (sealedB l && twiceB l)
/-- A page's bytes of a body. -/
def buildB (lsn : Nat) (body : List UInt8) : List UInt8 := sealB (putB 6 lsn ++ body ++ putB 6 lsn)

theorem sealedB_sealB (l : List UInt8) : sealedB (sealB l) = true := by
  have h : (sealB l).length - 4 = l.length := by rw [sealB_length]; omega
  unfold sealedB
  rw [h]
  unfold sealB
  rw [List.drop_left, List.take_left]
  simp
theorem sealedB_iff (l : List UInt8) (h4 : 4 ≤ l.length) : sealedB l = true ↔ sealB (l.take (l.length - 4)) = l := by
  unfold sealedB sealB
  constructor
  · intro h
    rw [← beq_iff_eq.1 h]
    exact List.take_append_drop _ _
  · intro h
    have : l.drop (l.length - 4) = markB (l.take (l.length - 4)) := by
      have h2 := congrArg (List.drop (l.length - 4)) h
      rw [List.drop_append_of_le_length (by simp), List.drop_eq_nil_of_le (by simp)] at h2
      simpa using h2.symm
    rw [this]; simp
theorem buildB_length (lsn : Nat) (body : List UInt8) (h : body.length = 496) : (buildB lsn body).length = 512 := by
  unfold buildB; rw [sealB_length]; simp [putB_length, h]

def headB (p : Pg) : List UInt8 := putB 1 p.kind.toNat ++ (putB 1 p.level.toNat ++ (putB 2 p.right.toNat ++ (putB 1 p.high.length ++ (putB 2 p.ents.length ++ p.high))))
def entB (e : Ent) : List UInt8 := putB 1 (if e.marked then 1 else 0) ++ (putB 1 e.key.length ++ (putB 1 e.value.length ++ (e.key ++ e.value)))
def entsB (l : List Ent) : List UInt8 := l.flatMap entB
def bodyB (p : Pg) : List UInt8 := headB p ++ entsB p.ents ++ List.replicate (496 - (headB p ++ entsB p.ents).length) 0
/-- A page's bytes. -/
def encB (p : Pg) : List UInt8 := buildB p.lsn.toNat (bodyB p)

theorem headB_length (p : Pg) : (headB p).length = 7 + p.high.length := by simp [headB, putB_length]; omega
theorem entB_length (e : Ent) : (entB e).length = entSize e := by simp [entB, entSize, putB_length]; omega
theorem entsB_length (l : List Ent) : (entsB l).length = sizes l := by
  induction l with
  | nil => rfl
  | cons e l ih => rw [entsB, List.flatMap_cons, List.length_append, entB_length]; show _ + (entsB l).length = _; rw [ih]; rfl
theorem entsB_snoc (l : List Ent) (e : Ent) : entsB (l ++ [e]) = entsB l ++ entB e := by simp [entsB]
theorem bodyB_length (p : Pg) (h : 0 ≤ freeOf p) : (bodyB p).length = 496 := by
  have h1 := headB_length p
  have h2 := entsB_length p.ents
  unfold freeOf at h
  rw [bodyB, List.length_append, List.length_append, List.length_replicate, h1, h2]
  omega
theorem encB_length (p : Pg) (h : 0 ≤ freeOf p) : (encB p).length = 512 := buildB_length _ _ (bodyB_length p h)

/-- What is left of a body that is cut; whether all could be cut. -/
structure Cu where
  rest : List UInt8
  ok : Bool
def Cu.got (c : Cu) (n : Nat) : List UInt8 := if c.rest.length < n then [] else c.rest.take n
def Cu.next (c : Cu) (n : Nat) : Cu := if c.rest.length < n then ⟨c.rest, false⟩ else ⟨c.rest.drop n, c.ok⟩
theorem Cu.got_le (c : Cu) (n : Nat) : (c.got n).length ≤ n := by
  unfold Cu.got; split <;> simp; omega
theorem Cu.next_le (c : Cu) (n : Nat) : (c.next n).rest.length ≤ c.rest.length := by
  unfold Cu.next; split <;> simp
theorem Cu.num_lt (c : Cu) : getB (c.got 1) < 256 := by
  have h := getB_lt (c.got 1)
  have h2 : 256 ^ (c.got 1).length ≤ 256 ^ 1 := Nat.pow_le_pow_right (by decide) (c.got_le 1)
  omega
/-- One entry is cut. -/
def cutEnt (c : Cu) : Ent × Cu :=
  let mark := getB (c.got 1)
  let key := getB ((c.next 1).got 1)
  let value := getB (((c.next 1).next 1).got 1)
  let c3 := ((c.next 1).next 1).next 1
  let c5 := (c3.next key).next value
  (⟨c3.got key, (c3.next key).got value, mark == 1⟩, ⟨c5.rest, c5.ok && decide (mark ≤ 1)⟩)
def cutEnts : Nat → Cu → List Ent → List Ent × Cu
  | 0, c, acc => (acc, c)
  | k + 1, c, acc => if c.ok then cutEnts k (cutEnt c).2 (acc ++ [(cutEnt c).1]) else (acc, c)

def pg0 : Pg := ⟨0, 0, 0, 0, [], []⟩
/-- A page's head is cut; how many entries follow; what is left. -/
def cutHead (l : List UInt8) : Pg × Nat × Cu :=
  let c0 : Cu := ⟨(l.take 502).drop 6, true⟩
  let c1 := c0.next 1
  let c2 := c1.next 1
  let c3 := c2.next 2
  let c4 := c3.next 1
  let c5 := c4.next 2
  (⟨getB (l.take 6), getB (c0.got 1), getB (c1.got 1), getB (c2.got 2), c5.got (getB (c3.got 1)), []⟩, getB (c4.got 2), c5.next (getB (c3.got 1)))
def cutPage (l : List UInt8) : Pg × Bool :=
  let h := cutHead l
  let r := cutEnts h.2.1 h.2.2 []
  ({ h.1 with ents := r.1 }, r.2.ok)
end Go.Proofs.YtjlcbabnkhdgpaaGreatDoor
