/- Plain words: how many bits; what is a part of what. -/
import Derived.Test.YtmhopljngkgidaaDoorEwSpecA
import Derived.Test.YtmhopljngkgidaaDoorEngP
namespace Go.Ew
set_option linter.unusedVariables false

/-- How many of the first k bits. -/
def cntN (x : Nat) : Nat → Nat
  | 0 => 0
  | k + 1 => cntN x k + (x.testBit k).toNat
def countW (x : BitVec 64) : Nat := cntN x.toNat 64
theorem cntN_le (x : Nat) : ∀ k, cntN x k ≤ k
  | 0 => Nat.le_refl _
  | k + 1 => by have := cntN_le x k; have : (x.testBit k).toNat ≤ 1 := Bool.toNat_le _; simp only [cntN]; omega
theorem countW_le (x : BitVec 64) : countW x ≤ 64 := cntN_le _ _
theorem testBit_low {a A k : Nat} (ha : a < 256) : (a + 256 * A).testBit k = if k < 8 then a.testBit k else A.testBit (k - 8) := by
  have h := Nat.testBit_two_pow_mul_add (i := 8) A (b := a) (by simpa using ha) k
  rw [show a + 256 * A = 2 ^ 8 * A + a from by omega]
  exact h
theorem cntN_low {a A : Nat} (ha : a < 256) : ∀ k, k ≤ 8 → cntN (a + 256 * A) k = cntN a k
  | 0, _ => rfl
  | k + 1, h => by
    simp only [cntN]
    rw [cntN_low ha k (by omega), testBit_low ha, if_pos (by omega)]
theorem cntN_split {a A : Nat} (ha : a < 256) : ∀ k, cntN (a + 256 * A) (8 + k) = cntN a 8 + cntN A k
  | 0 => cntN_low ha 8 (Nat.le_refl _)
  | k + 1 => by
    have h := cntN_split (A := A) ha k
    rw [show 8 + (k + 1) = (8 + k) + 1 from by omega]
    show cntN (a + 256 * A) (8 + k) + ((a + 256 * A).testBit (8 + k)).toNat = cntN a 8 + (cntN A k + (A.testBit k).toNat)
    rw [h, testBit_low ha, if_neg (by omega), show 8 + k - 8 = k from by omega]
    omega

/-! The library's reckoning, byte by byte. -/
theorem land_low {a A m M : Nat} (ha : a < 256) (hm : m < 256) : (a + 256 * A) &&& (m + 256 * M) = (a &&& m) + 256 * (A &&& M) := by
  have h1 : ((a + 256 * A) &&& (m + 256 * M)) % 2 ^ 8 = (a + 256 * A) % 2 ^ 8 &&& (m + 256 * M) % 2 ^ 8 := Nat.and_mod_two_pow
  have h2 : ((a + 256 * A) &&& (m + 256 * M)) / 2 ^ 8 = (a + 256 * A) / 2 ^ 8 &&& (m + 256 * M) / 2 ^ 8 := Nat.and_div_two_pow
  rw [show (a + 256 * A) % 2 ^ 8 = a from by omega, show (m + 256 * M) % 2 ^ 8 = m from by omega] at h1
  rw [show (a + 256 * A) / 2 ^ 8 = A from by omega, show (m + 256 * M) / 2 ^ 8 = M from by omega] at h2
  omega
def rep (m : Nat) : Nat → Nat
  | 0 => 0
  | n + 1 => m + 256 * rep m n
theorem rep_succ (m n : Nat) : rep m (n + 1) = m + 256 * rep m n := rfl
def s1 (n x : Nat) : Nat := (x / 2 &&& rep 0x55 n) + (x &&& rep 0x55 n)
def s2 (n x : Nat) : Nat := (x / 4 &&& rep 0x33 n) + (x &&& rep 0x33 n)
def s3 (n x : Nat) : Nat := (x / 16 + x) &&& rep 0x0f n
def byte1 (a : Nat) : Nat := (a / 2 &&& 0x55) + (a &&& 0x55)
def byte2 (a : Nat) : Nat := (a / 4 &&& 0x33) + (a &&& 0x33)
theorem b1_hi : ∀ c < 2, ∀ a < 256, (a / 2 + 128 * c) &&& 0x55 = a / 2 &&& 0x55 := by decide +kernel
theorem b2_hi : ∀ c < 4, ∀ a < 256, (a / 4 + 64 * c) &&& 0x33 = a / 4 &&& 0x33 := by decide +kernel
theorem b1_lt : ∀ a < 256, byte1 a < 256 := by decide +kernel
theorem b2_lt : ∀ a < 256, byte2 a < 256 := by decide +kernel
theorem b3 : ∀ a < 256, byte2 (byte1 a) < 69 ∧ byte2 (byte1 a) % 16 < 5 ∧ byte2 (byte1 a) % 16 + byte2 (byte1 a) / 16 = cntN a 8 := by decide +kernel
theorem b3_hi : ∀ c < 5, ∀ a < 69, a % 16 < 5 → a / 16 + 16 * c + a < 256 ∧ (a / 16 + 16 * c + a) &&& 15 = a % 16 + a / 16 := by decide +kernel
theorem s1_step {n a A : Nat} (ha : a < 256) : s1 (n + 1) (a + 256 * A) = byte1 a + 256 * s1 n A := by
  unfold s1 byte1
  rw [rep_succ]
  rw [show (a + 256 * A) / 2 = (a / 2 + 128 * (A % 2)) + 256 * (A / 2) from by omega, land_low (by omega) (by omega), land_low ha (by omega), b1_hi _ (by omega) _ ha]
  omega
theorem s2_step {n a A : Nat} (ha : a < 256) : s2 (n + 1) (a + 256 * A) = byte2 a + 256 * s2 n A := by
  unfold s2 byte2
  rw [rep_succ]
  rw [show (a + 256 * A) / 4 = (a / 4 + 64 * (A % 4)) + 256 * (A / 4) from by omega, land_low (by omega) (by omega), land_low ha (by omega), b2_hi _ (by omega) _ ha]
  omega
theorem s3_step {n a A : Nat} (ha : a < 69) (h1 : a % 16 < 5) (hA : A % 16 < 5) : s3 (n + 1) (a + 256 * A) = (a % 16 + a / 16) + 256 * s3 n A := by
  unfold s3
  rw [rep_succ]
  have hb := b3_hi (A % 16) hA a ha h1
  rw [show (a + 256 * A) / 16 + (a + 256 * A) = (a / 16 + 16 * (A % 16) + a) + 256 * (A / 16 + A) from by omega, land_low hb.1 (by omega), hb.2]
/-- A number, of its bytes. -/
def ofB : List Nat → Nat
  | [] => 0
  | a :: l => a + 256 * ofB l
theorem s1_of : ∀ l : List Nat, (∀ a ∈ l, a < 256) → s1 l.length (ofB l) = ofB (l.map byte1)
  | [], _ => rfl
  | a :: l, h => by
    simp only [ofB, List.length_cons, List.map_cons]
    rw [s1_step (h a (by simp)), s1_of l fun b hb => h b (by simp [hb])]
theorem s2_of : ∀ l : List Nat, (∀ a ∈ l, a < 256) → s2 l.length (ofB l) = ofB (l.map byte2)
  | [], _ => rfl
  | a :: l, h => by
    simp only [ofB, List.length_cons, List.map_cons]
    rw [s2_step (h a (by simp)), s2_of l fun b hb => h b (by simp [hb])]
theorem ofB_low {l : List Nat} (h : ∀ a ∈ l, a < 69 ∧ a % 16 < 5) : ofB l % 16 < 5 := by
  cases l with
  | nil => decide
  | cons a l => have := h a (by simp); simp only [ofB]; omega
theorem s3_of : ∀ l : List Nat, (∀ a ∈ l, a < 69 ∧ a % 16 < 5) → s3 l.length (ofB l) = ofB (l.map fun a => a % 16 + a / 16)
  | [], _ => rfl
  | a :: l, h => by
    simp only [ofB, List.length_cons, List.map_cons]
    rw [s3_step (h a (by simp)).1 (h a (by simp)).2 (ofB_low fun b hb => h b (by simp [hb])), s3_of l fun b hb => h b (by simp [hb])]
theorem cnt_of : ∀ l : List Nat, (∀ a ∈ l, a < 256) → cntN (ofB l) (8 * l.length) = (l.map fun a => cntN a 8).sum
  | [], _ => rfl
  | a :: l, h => by
    rw [List.length_cons, show 8 * (l.length + 1) = 8 + 8 * l.length from by omega, ofB, cntN_split (h a (by simp)), cnt_of l fun b hb => h b (by simp [hb])]
    simp
def bytesOf : Nat → Nat → List Nat
  | 0, _ => []
  | n + 1, x => x % 256 :: bytesOf n (x / 256)
theorem bytesOf_lt : ∀ n x, ∀ a ∈ bytesOf n x, a < 256
  | 0, _, a, h => by cases h
  | n + 1, x, a, h => by
    rcases List.mem_cons.1 h with rfl | h
    · omega
    · exact bytesOf_lt n _ a h
theorem bytesOf_len : ∀ n x, (bytesOf n x).length = n
  | 0, _ => rfl
  | n + 1, x => by simp [bytesOf, bytesOf_len n]
theorem ofB_bytesOf : ∀ n x, x < 256 ^ n → ofB (bytesOf n x) = x
  | 0, x, h => by simp at h; simp [bytesOf, ofB, h]
  | n + 1, x, h => by
    rw [bytesOf, ofB, ofB_bytesOf n _ (by rw [Nat.pow_succ] at h; omega)]; omega
theorem eight {l : List Nat} (h : l.length = 8) : ∃ a0 a1 a2 a3 a4 a5 a6 a7, l = [a0, a1, a2, a3, a4, a5, a6, a7] := by
  match l, h with
  | [a0, a1, a2, a3, a4, a5, a6, a7], _ => exact ⟨_, _, _, _, _, _, _, _, rfl⟩
theorem ofB8 (a0 a1 a2 a3 a4 a5 a6 a7 : Nat) : ofB [a0, a1, a2, a3, a4, a5, a6, a7] = a0 + 256 * (a1 + 256 * (a2 + 256 * (a3 + 256 * (a4 + 256 * (a5 + 256 * (a6 + 256 * a7)))))) := rfl
theorem ofB8_lt {l : List Nat} (h : l.length = 8) (hb : ∀ a ∈ l, a < 256) : ofB l < 18446744073709551616 := by
  obtain ⟨a0, a1, a2, a3, a4, a5, a6, a7, rfl⟩ := eight h
  have h0 := hb a0 (by simp)
  have h1 := hb a1 (by simp)
  have h2 := hb a2 (by simp)
  have h3 := hb a3 (by simp)
  have h4 := hb a4 (by simp)
  have h5 := hb a5 (by simp)
  have h6 := hb a6 (by simp)
  have h7 := hb a7 (by simp)
  rw [ofB8]; omega
theorem ofB8_lt' {l : List Nat} (h : l.length = 8) (hb : ∀ a ∈ l, a < 69) : ofB l < 5000000000000000000 := by
  obtain ⟨a0, a1, a2, a3, a4, a5, a6, a7, rfl⟩ := eight h
  have h0 := hb a0 (by simp)
  have h1 := hb a1 (by simp)
  have h2 := hb a2 (by simp)
  have h3 := hb a3 (by simp)
  have h4 := hb a4 (by simp)
  have h5 := hb a5 (by simp)
  have h6 := hb a6 (by simp)
  have h7 := hb a7 (by simp)
  rw [ofB8]; omega
theorem s321 (x : Nat) (h : x < 18446744073709551616) : ∃ l : List Nat, l.length = 8 ∧ (∀ a ∈ l, a ≤ 8) ∧
    s3 8 (s2 8 (s1 8 x)) = ofB l ∧ cntN x 64 = l.sum ∧ s1 8 x < 18446744073709551616 ∧ s2 8 (s1 8 x) < 5000000000000000000 := by
  have hx : ofB (bytesOf 8 x) = x := ofB_bytesOf 8 x (by simpa using h)
  have hlt := bytesOf_lt 8 x
  have hl := bytesOf_len 8 x
  generalize bytesOf 8 x = L at hx hlt hl
  have e1 : s1 8 x = ofB (L.map byte1) := by have := s1_of _ hlt; rwa [hl, hx] at this
  have hb1 : ∀ a ∈ L.map byte1, a < 256 := by intro a ha; obtain ⟨b, hb, rfl⟩ := List.mem_map.1 ha; exact b1_lt b (hlt b hb)
  have e2 : s2 8 (s1 8 x) = ofB ((L.map byte1).map byte2) := by
    have := s2_of (L.map byte1) hb1
    rwa [List.length_map, hl, ← e1] at this
  have hb2 : ∀ a ∈ (L.map byte1).map byte2, a < 69 ∧ a % 16 < 5 := by
    intro a ha; obtain ⟨c, hc, rfl⟩ := List.mem_map.1 ha; obtain ⟨b, hb, rfl⟩ := List.mem_map.1 hc
    have := b3 b (hlt b hb); exact ⟨this.1, this.2.1⟩
  have e3 : s3 8 (s2 8 (s1 8 x)) = ofB (((L.map byte1).map byte2).map fun a => a % 16 + a / 16) := by
    have := s3_of ((L.map byte1).map byte2) hb2
    rwa [List.length_map, List.length_map, hl, ← e2] at this
  have e4 : cntN x 64 = (L.map fun a => cntN a 8).sum := by have := cnt_of _ hlt; rwa [hl, hx] at this
  have e5 : (((L.map byte1).map byte2).map fun a => a % 16 + a / 16) = L.map fun a => cntN a 8 := by
    rw [List.map_map, List.map_map]
    exact List.map_congr_left fun a ha => (b3 a (hlt a ha)).2.2
  refine ⟨L.map fun a => cntN a 8, by simp [hl], ?_, e3.trans (by rw [e5]), e4, ?_, ?_⟩
  · intro a ha
    obtain ⟨b, hb, rfl⟩ := List.mem_map.1 ha
    exact cntN_le _ _
  · rw [e1]; exact ofB8_lt (by simp [hl]) hb1
  · rw [e2]; exact ofB8_lt' (by simp [hl]) fun a ha => (hb2 a ha).1
theorem d1 {a b : Nat} (h : a < 256) : (a + 256 * b) / 256 = b := by omega
theorem d2 {a b c : Nat} (h : a < 256) (h' : b < 256) : (a + 256 * (b + 256 * c)) / 65536 = c := by omega
theorem d4 {a b c d e : Nat} (h : a < 256) (h' : b < 256) (h2 : c < 256) (h3 : d < 256) : (a + 256 * (b + 256 * (c + 256 * (d + 256 * e)))) / 4294967296 = e := by omega
theorem e128 {a b : Nat} (h : a < 128) : (a + 256 * b) % 128 = a := by omega
theorem lin4 (a0 a1 a2 a3 a4 a5 a6 a7 : Nat) : a0 + 256 * (a1 + 256 * (a2 + 256 * (a3 + 256 * (a4 + 256 * (a5 + 256 * (a6 + 256 * a7)))))) + (a1 + 256 * (a2 + 256 * (a3 + 256 * (a4 + 256 * (a5 + 256 * (a6 + 256 * a7)))))) =
    (a0 + a1) + 256 * ((a1 + a2) + 256 * ((a2 + a3) + 256 * ((a3 + a4) + 256 * ((a4 + a5) + 256 * ((a5 + a6) + 256 * ((a6 + a7) + 256 * a7)))))) := by omega
theorem lin5 (c0 c1 c2 c3 c4 c5 c6 c7 : Nat) : c0 + 256 * (c1 + 256 * (c2 + 256 * (c3 + 256 * (c4 + 256 * (c5 + 256 * (c6 + 256 * c7)))))) + (c2 + 256 * (c3 + 256 * (c4 + 256 * (c5 + 256 * (c6 + 256 * c7))))) =
    (c0 + c2) + 256 * ((c1 + c3) + 256 * ((c2 + c4) + 256 * ((c3 + c5) + 256 * ((c4 + c6) + 256 * ((c5 + c7) + 256 * (c6 + 256 * c7)))))) := by omega
theorem lin6 (c0 c1 c2 c3 c4 c5 c6 c7 : Nat) : c0 + 256 * (c1 + 256 * (c2 + 256 * (c3 + 256 * (c4 + 256 * (c5 + 256 * (c6 + 256 * c7)))))) + (c4 + 256 * (c5 + 256 * (c6 + 256 * c7))) =
    (c0 + c4) + 256 * ((c1 + c5) + 256 * ((c2 + c6) + 256 * ((c3 + c7) + 256 * (c4 + 256 * (c5 + 256 * (c6 + 256 * c7)))))) := by omega
theorem lt2 {a b : Nat} (h : a ≤ 8) (h' : b ≤ 8) : a + b ≤ 16 := by omega
theorem lt4 {a b : Nat} (h : a ≤ 16) (h' : b ≤ 16) : a + b ≤ 32 := by omega
theorem lt8 {a b : Nat} (h : a ≤ 32) (h' : b ≤ 32) : a + b < 128 := by omega
theorem lt256 {a : Nat} (h : a ≤ 32) : a < 256 := by omega
theorem le16 {a : Nat} (h : a ≤ 16) : a ≤ 32 := by omega
theorem le8 {a : Nat} (h : a ≤ 8) : a ≤ 32 := by omega
theorem ones_tail {a0 a1 a2 a3 a4 a5 a6 a7 x3 x4 x5 x6 : Nat} (l0 : a0 ≤ 8) (l1 : a1 ≤ 8) (l2 : a2 ≤ 8) (l3 : a3 ≤ 8) (l4 : a4 ≤ 8) (l5 : a5 ≤ 8) (l6 : a6 ≤ 8) (l7 : a7 ≤ 8)
    (n3 : x3 = a0 + 256 * (a1 + 256 * (a2 + 256 * (a3 + 256 * (a4 + 256 * (a5 + 256 * (a6 + 256 * a7))))))) (n4 : x4 = x3 + x3 / 256) (n5 : x5 = x4 + x4 / 65536) (n6 : x6 = x5 + x5 / 4294967296) :
    x6 % 128 = a0 + (a1 + (a2 + (a3 + (a4 + (a5 + (a6 + (a7 + 0))))))) := by
  have m4 : x4 = _ := n4
  rw [n3, d1 (lt256 (le8 l0)), lin4] at m4
  have m5 : x5 = _ := n5
  rw [m4, d2 (lt256 (le16 (lt2 l0 l1))) (lt256 (le16 (lt2 l1 l2))), lin5] at m5
  have m6 : x6 = _ := n6
  rw [m5, d4 (lt256 (lt4 (lt2 l0 l1) (lt2 l2 l3))) (lt256 (lt4 (lt2 l1 l2) (lt2 l3 l4))) (lt256 (lt4 (lt2 l2 l3) (lt2 l4 l5))) (lt256 (lt4 (lt2 l3 l4) (lt2 l5 l6))), lin6] at m6
  rw [m6, e128 (lt8 (lt4 (lt2 l0 l1) (lt2 l2 l3)) (lt4 (lt2 l4 l5) (lt2 l6 l7)))]
  clear n3 n4 n5 n6 m4 m5 m6
  omega
theorem add_shr (a : BitVec 64) (k : Nat) (h : a.toNat + a.toNat / 2 ^ k < 18446744073709551616) : (a + a >>> k).toNat = a.toNat + a.toNat / 2 ^ k := by
  rw [BitVec.toNat_add, BitVec.toNat_ushiftRight, Nat.shiftRight_eq_div_pow]
  exact Nat.mod_eq_of_lt h
theorem ones_bound {a0 a1 a2 a3 a4 a5 a6 a7 x3 : Nat} (l0 : a0 ≤ 8) (l1 : a1 ≤ 8) (l2 : a2 ≤ 8) (l3 : a3 ≤ 8) (l4 : a4 ≤ 8) (l5 : a5 ≤ 8) (l6 : a6 ≤ 8) (l7 : a7 ≤ 8)
    (n3 : x3 = a0 + 256 * (a1 + 256 * (a2 + 256 * (a3 + 256 * (a4 + 256 * (a5 + 256 * (a6 + 256 * a7))))))) : x3 < 1000000000000000000 := by omega
/-- bits.OnesCount64's words, in the order of its text. -/
theorem ones_eq (x : BitVec 64) : ∀ x1 x2 x3 x4 x5 x6 : BitVec 64,
    x1 = (x >>> 1 &&& 6148914691236517205#64) + (x &&& 6148914691236517205#64) → x2 = (x1 >>> 2 &&& 3689348814741910323#64) + (x1 &&& 3689348814741910323#64) →
    x3 = ((x2 >>> 4 + x2) &&& 1085102592571150095#64) → x4 = x3 + x3 >>> 8 → x5 = x4 + x4 >>> 16 → x6 = x5 + x5 >>> 32 → x6.toNat % 128 = countW x ∧ x6.toNat < 9223372036854775808 := by
  intro x1 x2 x3 x4 x5 x6 h1 h2 h3 h4 h5 h6
  obtain ⟨l, hl, hle, e, ec, t1, t2⟩ := s321 x.toNat x.isLt
  obtain ⟨a0, a1, a2, a3, a4, a5, a6, a7, rfl⟩ := eight hl
  have l0 := hle a0 (by simp)
  have l1 := hle a1 (by simp)
  have l2 := hle a2 (by simp)
  have l3 := hle a3 (by simp)
  have l4 := hle a4 (by simp)
  have l5 := hle a5 (by simp)
  have l6 := hle a6 (by simp)
  have l7 := hle a7 (by simp)
  rw [ofB8] at e
  simp only [List.sum_cons, List.sum_nil] at ec
  have r1 : rep 0x55 8 = 6148914691236517205 := by decide
  have r2 : rep 0x33 8 = 3689348814741910323 := by decide
  have r3 : rep 0x0f 8 = 1085102592571150095 := by decide
  have n1 : x1.toNat = s1 8 x.toNat := by
    rw [h1]; unfold s1 at t1 ⊢; rw [r1] at t1 ⊢
    simp only [BitVec.toNat_add, BitVec.toNat_and, BitVec.toNat_ushiftRight, BitVec.toNat_ofNat, Nat.shiftRight_eq_div_pow, Nat.reducePow, Nat.reduceMod]
    omega
  have n2 : x2.toNat = s2 8 (s1 8 x.toNat) := by
    rw [h2, ← n1]; rw [← n1] at t2; unfold s2 at t2 ⊢; rw [r2] at t2 ⊢
    simp only [BitVec.toNat_add, BitVec.toNat_and, BitVec.toNat_ushiftRight, BitVec.toNat_ofNat, Nat.shiftRight_eq_div_pow, Nat.reducePow, Nat.reduceMod]
    omega
  have n3 : x3.toNat = s3 8 (s2 8 (s1 8 x.toNat)) := by
    rw [h3, ← n2]; rw [← n2] at t2; unfold s3; rw [r3]
    simp only [BitVec.toNat_add, BitVec.toNat_and, BitVec.toNat_ushiftRight, BitVec.toNat_ofNat, Nat.shiftRight_eq_div_pow, Nat.reducePow, Nat.reduceMod]
    congr 1
    omega
  rw [e] at n3
  have b3 : x3.toNat < 1000000000000000000 := ones_bound l0 l1 l2 l3 l4 l5 l6 l7 n3
  have n4 := add_shr x3 8 (by omega)
  rw [← h4] at n4
  have b4 : x4.toNat < 2000000000000000000 := by omega
  have n5 := add_shr x4 16 (by omega)
  rw [← h5] at n5
  have b5 : x5.toNat < 4000000000000000000 := by omega
  have n6 := add_shr x5 32 (by omega)
  rw [← h6] at n6
  unfold countW
  rw [ec]
  exact ⟨ones_tail l0 l1 l2 l3 l4 l5 l6 l7 n3 n4 n5 n6, by omega⟩
end Go.Ew
