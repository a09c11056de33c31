/- SHA-256 in plain Lean: words of 32 bits, lists of bytes; the laws of its blocks, its padding. No program, no memory. -/
namespace Go.Proofs.Ytapojpjmeadabaa
namespace Sha
abbrev W := BitVec 32
def rot (x : W) (n : Nat) : W := (x >>> n) ||| (x <<< (32 - n))
structure St where
  a : W
  b : W
  c : W
  d : W
  e : W
  f : W
  g : W
  h : W
def K : List W := [0x428a2f98, 0x71374491, 0xb5c0fbcf, 0xe9b5dba5, 0x3956c25b, 0x59f111f1, 0x923f82a4, 0xab1c5ed5, 0xd807aa98, 0x12835b01, 0x243185be, 0x550c7dc3, 0x72be5d74, 0x80deb1fe, 0x9bdc06a7, 0xc19bf174, 0xe49b69c1, 0xefbe4786, 0x0fc19dc6, 0x240ca1cc, 0x2de92c6f, 0x4a7484aa, 0x5cb0a9dc, 0x76f988da, 0x983e5152, 0xa831c66d, 0xb00327c8, 0xbf597fc7, 0xc6e00bf3, 0xd5a79147, 0x06ca6351, 0x14292967, 0x27b70a85, 0x2e1b2138, 0x4d2c6dfc, 0x53380d13, 0x650a7354, 0x766a0abb, 0x81c2c92e, 0x92722c85, 0xa2bfe8a1, 0xa81a664b, 0xc24b8b70, 0xc76c51a3, 0xd192e819, 0xd6990624, 0xf40e3585, 0x106aa070, 0x19a4c116, 0x1e376c08, 0x2748774c, 0x34b0bcb5, 0x391c0cb3, 0x4ed8aa4a, 0x5b9cca4f, 0x682e6ff3, 0x748f82ee, 0x78a5636f, 0x84c87814, 0x8cc70208, 0x90befffa, 0xa4506ceb, 0xbef9a3f7, 0xc67178f2]
theorem K_length : K.length = 64 := rfl
def init : St := ⟨0x6a09e667, 0xbb67ae85, 0x3c6ef372, 0xa54ff53a, 0x510e527f, 0x9b05688c, 0x1f83d9ab, 0x5be0cd19⟩
def b32 (b : UInt8) : W := BitVec.ofNat 32 b.toNat
def word (b : List UInt8) (i : Nat) : W :=
  (b32 (b.getD (4 * i) 0) <<< 24) ||| (b32 (b.getD (4 * i + 1) 0) <<< 16) ||| (b32 (b.getD (4 * i + 2) 0) <<< 8) ||| b32 (b.getD (4 * i + 3) 0)
def nextW (w16 w15 w7 w2 : W) : W :=
  w16 + (rot w15 7 ^^^ rot w15 18 ^^^ (w15 >>> 3)) + w7 + (rot w2 17 ^^^ rot w2 19 ^^^ (w2 >>> 10))
def nxt (b : List UInt8) (l : List W) (n : Nat) : W :=
  if n < 16 then word b n else nextW (l.getD (n - 16) 0) (l.getD (n - 15) 0) (l.getD (n - 7) 0) (l.getD (n - 2) 0)
/-- the words in order -/
def words (b : List UInt8) : Nat → List W
  | 0 => []
  | n + 1 => words b n ++ [nxt b (words b n) n]
theorem words_length (b : List UInt8) : ∀ n, (words b n).length = n
  | 0 => rfl
  | n + 1 => by simp [words, words_length b n]
theorem words_getD (b : List UInt8) (i : Nat) : ∀ n, i < n → (words b n).getD i 0 = nxt b (words b i) i
  | 0, h => by omega
  | n + 1, h => by
    by_cases e : i = n
    · subst e
      simp [words, List.getD, words_length]
    · have := words_getD b i n (by omega)
      rw [← this]
      simp only [words, List.getD]
      rw [List.getElem?_append_left (by rw [words_length]; omega)]
theorem words_stable (b : List UInt8) (i n m : Nat) (h : i < n) (h' : i < m) : (words b n).getD i 0 = (words b m).getD i 0 := by
  rw [words_getD b i n h, words_getD b i m h']
/-- one round -/
def t1 (s : St) (k w : W) : W := s.h + (rot s.e 6 ^^^ rot s.e 11 ^^^ rot s.e 25) + ((s.e &&& s.f) ^^^ (~~~ s.e &&& s.g)) + k + w
def t2 (s : St) : W := (rot s.a 2 ^^^ rot s.a 13 ^^^ rot s.a 22) + ((s.a &&& s.b) ^^^ (s.a &&& s.c) ^^^ (s.b &&& s.c))
def round (s : St) (k w : W) : St := ⟨t1 s k w + t2 s, s.a, s.b, s.c, s.d + t1 s k w, s.e, s.f, s.g⟩
def rounds (s : St) (w : List W) : Nat → St
  | 0 => s
  | n + 1 => round (rounds s w n) (K.getD n 0) (w.getD n 0)
def St.add (s x : St) : St := ⟨s.a + x.a, s.b + x.b, s.c + x.c, s.d + x.d, s.e + x.e, s.f + x.f, s.g + x.g, s.h + x.h⟩
def block (s : St) (b : List UInt8) : St := s.add (rounds s (words b 64) 64)
def foldN : Nat → St → List UInt8 → St
  | 0, s, _ => s
  | n + 1, s, m => foldN n (block s (m.take 64)) (m.drop 64)
theorem foldN_snoc : ∀ (n : Nat) (s : St) (p b : List UInt8), p.length = 64 * n → b.length = 64 → foldN (n + 1) s (p ++ b) = block (foldN n s p) b
  | 0, s, p, b, hp, hb => by
    have : p = [] := List.eq_nil_of_length_eq_zero (by omega)
    subst this
    simp [foldN, List.take_of_length_le (show b.length ≤ 64 by omega)]
  | n + 1, s, p, b, hp, hb => by
    show foldN (n + 1) (block s ((p ++ b).take 64)) ((p ++ b).drop 64) = _
    rw [List.take_append_of_le_length (by omega), List.drop_append_of_le_length (by omega)]
    exact foldN_snoc n _ _ b (by simp; omega) hb
def bytes4 (x : W) : List UInt8 := [UInt8.ofNat (x.toNat / 16777216), UInt8.ofNat (x.toNat / 65536), UInt8.ofNat (x.toNat / 256), UInt8.ofNat x.toNat]
def St.toList (s : St) : List W := [s.a, s.b, s.c, s.d, s.e, s.f, s.g, s.h]
def out (s : St) : List UInt8 := s.toList.flatMap bytes4
theorem out_length (s : St) : (out s).length = 32 := rfl
def bytes8 (n : Nat) : List UInt8 := [UInt8.ofNat (n / 72057594037927936), UInt8.ofNat (n / 281474976710656), UInt8.ofNat (n / 1099511627776), UInt8.ofNat (n / 4294967296), UInt8.ofNat (n / 16777216), UInt8.ofNat (n / 65536), UInt8.ofNat (n / 256), UInt8.ofNat n]
def padZ (n : Nat) : Nat := (119 - n % 64) % 64
def zeros (n : Nat) : List UInt8 := List.replicate n 0
def padded (m : List UInt8) : List UInt8 := m ++ [0x80] ++ zeros (padZ m.length) ++ bytes8 (8 * m.length)
theorem padded_length (m : List UInt8) : (padded m).length = m.length + 9 + padZ m.length := by simp [padded, bytes8, zeros]; omega
theorem padded_mod (m : List UInt8) : (padded m).length % 64 = 0 := by rw [padded_length]; unfold padZ; omega
def sum (m : List UInt8) : List UInt8 := out (foldN ((padded m).length / 64) init (padded m))
theorem sum_length (m : List UInt8) : (sum m).length = 32 := rfl
theorem sum_abc : sum [97, 98, 99] = [0xba, 0x78, 0x16, 0xbf, 0x8f, 0x01, 0xcf, 0xea, 0x41, 0x41, 0x40, 0xde, 0x5d, 0xae, 0x22, 0x23, 0xb0, 0x03, 0x61, 0xa3, 0x96, 0x17, 0x7a, 0x9c, 0xb4, 0x10, 0xff, 0x61, 0xf2, 0x00, 0x15, 0xad] := by decide +kernel
/-- HMAC -/
def keyOf (key : List UInt8) : List UInt8 := if key.length > 64 then sum key else key
def pad (key : List UInt8) (c : UInt8) : List UInt8 := (key ++ zeros (64 - key.length)).map (· ^^^ c)
def tag (key m : List UInt8) : List UInt8 := sum (pad (keyOf key) 0x5c ++ sum (pad (keyOf key) 0x36 ++ m))
theorem tag_length (key m : List UInt8) : (tag key m).length = 32 := rfl
end Sha
end Go.Proofs.Ytapojpjmeadabaa
