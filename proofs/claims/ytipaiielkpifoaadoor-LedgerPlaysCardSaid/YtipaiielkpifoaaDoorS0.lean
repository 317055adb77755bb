/- Digests of 32 bytes, in plain Lean: words, the schedule, the rounds, the filling, the digest; the code's and the document's steps are the same. No condition. -/
import Derived.Test.YtipaiielkpifoaaDoorAb30
set_option linter.unusedVariables false
set_option linter.unusedSimpArgs false
namespace Go.Proofs.YtipaiielkpifoaaDoor
open Go Go.Ab

/-! ### Words -/
def rotr (x : W32) (n : Nat) : W32 := x >>> n ||| x <<< (32 - n)
def w8 (c : UInt8) : W32 := BitVec.ofNat 32 c.toNat
/-- Four bytes, the highest first. -/
def be4 (a b c d : UInt8) : W32 := ((w8 a <<< 24 ||| w8 b <<< 16) ||| w8 c <<< 8) ||| w8 d
def by4 (v : W32) : List UInt8 := [UInt8.ofNat (v >>> 24).toNat, UInt8.ofNat (v >>> 16).toNat, UInt8.ofNat (v >>> 8).toNat, UInt8.ofNat v.toNat]
def sg0 (x : W32) : W32 := rotr x 7 ^^^ rotr x 18 ^^^ x >>> 3
def sg1 (x : W32) : W32 := rotr x 17 ^^^ rotr x 19 ^^^ x >>> 10
def up0 (x : W32) : W32 := rotr x 2 ^^^ rotr x 13 ^^^ rotr x 22
def up1 (x : W32) : W32 := rotr x 6 ^^^ rotr x 11 ^^^ rotr x 25
def chW (e f g : W32) : W32 := (e &&& f) ^^^ (~~~e &&& g)
def majW (a b c : W32) : W32 := (a &&& b) ^^^ (a &&& c) ^^^ (b &&& c)

theorem ch_or (e f g : W32) : (e &&& f) ||| ((4294967295#32 - e) &&& g) = chW e f g := by
  have h : 4294967295#32 - e = ~~~e := by
    have := BitVec.allOnes_sub_eq_not e
    rw [← this]
    rfl
  rw [h, chW]
  ext i hi
  simp only [BitVec.getElem_or, BitVec.getElem_and, BitVec.getElem_xor, BitVec.getElem_not]
  cases e[i] <;> cases f[i] <;> cases g[i] <;> rfl
theorem maj_or (a b c : W32) : ((a &&& b) ||| (a &&& c)) ||| (b &&& c) = majW a b c := by
  rw [majW]
  ext i hi
  simp only [BitVec.getElem_or, BitVec.getElem_and, BitVec.getElem_xor]
  cases a[i] <;> cases b[i] <;> cases c[i] <;> rfl
theorem w8_lt (c : UInt8) : (w8 c).toNat = c.toNat := by
  have := c.toNat_lt
  rw [w8, BitVec.toNat_ofNat, Nat.mod_eq_of_lt (by omega)]
theorem be4_nat (a b c d : UInt8) : (be4 a b c d).toNat = ((a.toNat * 256 + b.toNat) * 256 + c.toNat) * 256 + d.toNat := by
  have ha := a.toNat_lt
  have hb := b.toNat_lt
  have hc := c.toNat_lt
  have hd := d.toNat_lt
  rw [be4, BitVec.toNat_or, BitVec.toNat_or, BitVec.toNat_or, BitVec.toNat_shiftLeft, BitVec.toNat_shiftLeft, BitVec.toNat_shiftLeft, w8_lt, w8_lt, w8_lt, w8_lt]
  rw [Nat.mod_eq_of_lt (by rw [Nat.shiftLeft_eq]; omega), Nat.mod_eq_of_lt (by rw [Nat.shiftLeft_eq]; omega), Nat.mod_eq_of_lt (by rw [Nat.shiftLeft_eq]; omega)]
  have h1 : a.toNat <<< 24 ||| b.toNat <<< 16 = (a.toNat * 256 + b.toNat) <<< 16 := by
    rw [← Nat.shiftLeft_add_eq_or_of_lt (by rw [Nat.shiftLeft_eq]; omega)]
    simp only [Nat.shiftLeft_eq]
    omega
  have h2 : (a.toNat * 256 + b.toNat) <<< 16 ||| c.toNat <<< 8 = ((a.toNat * 256 + b.toNat) * 256 + c.toNat) <<< 8 := by
    rw [← Nat.shiftLeft_add_eq_or_of_lt (by rw [Nat.shiftLeft_eq]; omega)]
    simp only [Nat.shiftLeft_eq]
    omega
  rw [h1, h2, ← Nat.shiftLeft_add_eq_or_of_lt (by omega)]
  simp only [Nat.shiftLeft_eq]
theorem be4_mul (a b c d : UInt8) : ((w8 a * 256#32 + w8 b) * 256#32 + w8 c) * 256#32 + w8 d = be4 a b c d := by
  have ha := a.toNat_lt
  have hb := b.toNat_lt
  have hc := c.toNat_lt
  have hd := d.toNat_lt
  apply BitVec.eq_of_toNat_eq
  rw [be4_nat]
  simp only [BitVec.toNat_add, BitVec.toNat_mul, w8_lt, BitVec.toNat_ofNat]
  omega

/-! ### The schedule -/
def wNext (b : List UInt8) (w : List W32) (t : Nat) : W32 :=
  if t < 16 then be4 (b.getD (4 * t) 0) (b.getD (4 * t + 1) 0) (b.getD (4 * t + 2) 0) (b.getD (4 * t + 3) 0)
  else w.getD (t - 16) 0 + sg0 (w.getD (t - 15) 0) + w.getD (t - 7) 0 + sg1 (w.getD (t - 2) 0)
def wTo (b : List UInt8) : Nat → List W32
  | 0 => []
  | t + 1 => wTo b t ++ [wNext b (wTo b t) t]
theorem wTo_len (b : List UInt8) : ∀ t, (wTo b t).length = t
  | 0 => rfl
  | t + 1 => by rw [wTo, List.length_append, wTo_len b t]; rfl
/-! ### The rounds -/
structure S8 where
  a : W32
  b : W32
  c : W32
  d : W32
  e : W32
  f : W32
  g : W32
  h : W32
def S8.l (s : S8) : List W32 := [s.a, s.b, s.c, s.d, s.e, s.f, s.g, s.h]
def rndU (k w : W32) (s : S8) : W32 := s.h + up1 s.e + chW s.e s.f s.g + k + w
def rndV (s : S8) : W32 := up0 s.a + majW s.a s.b s.c
def rnd (k w : W32) (s : S8) : S8 := ⟨rndU k w s + rndV s, s.a, s.b, s.c, s.d + rndU k w s, s.e, s.f, s.g⟩
def kTab : List W32 := [
  0x428a2f98#32, 0x71374491#32, 0xb5c0fbcf#32, 0xe9b5dba5#32, 0x3956c25b#32, 0x59f111f1#32, 0x923f82a4#32, 0xab1c5ed5#32,
  0xd807aa98#32, 0x12835b01#32, 0x243185be#32, 0x550c7dc3#32, 0x72be5d74#32, 0x80deb1fe#32, 0x9bdc06a7#32, 0xc19bf174#32,
  0xe49b69c1#32, 0xefbe4786#32, 0x0fc19dc6#32, 0x240ca1cc#32, 0x2de92c6f#32, 0x4a7484aa#32, 0x5cb0a9dc#32, 0x76f988da#32,
  0x983e5152#32, 0xa831c66d#32, 0xb00327c8#32, 0xbf597fc7#32, 0xc6e00bf3#32, 0xd5a79147#32, 0x06ca6351#32, 0x14292967#32,
  0x27b70a85#32, 0x2e1b2138#32, 0x4d2c6dfc#32, 0x53380d13#32, 0x650a7354#32, 0x766a0abb#32, 0x81c2c92e#32, 0x92722c85#32,
  0xa2bfe8a1#32, 0xa81a664b#32, 0xc24b8b70#32, 0xc76c51a3#32, 0xd192e819#32, 0xd6990624#32, 0xf40e3585#32, 0x106aa070#32,
  0x19a4c116#32, 0x1e376c08#32, 0x2748774c#32, 0x34b0bcb5#32, 0x391c0cb3#32, 0x4ed8aa4a#32, 0x5b9cca4f#32, 0x682e6ff3#32,
  0x748f82ee#32, 0x78a5636f#32, 0x84c87814#32, 0x8cc70208#32, 0x90befffa#32, 0xa4506ceb#32, 0xbef9a3f7#32, 0xc67178f2#32]
def rTo (w : List W32) (s : S8) : Nat → S8
  | 0 => s
  | t + 1 => rnd (kTab.getD t 0) (w.getD t 0) (rTo w s t)
def addS (s x : S8) : S8 := ⟨s.a + x.a, s.b + x.b, s.c + x.c, s.d + x.d, s.e + x.e, s.f + x.f, s.g + x.g, s.h + x.h⟩
def step8 (s : S8) (b : List UInt8) : S8 := addS s (rTo (wTo b 64) s 64)
def first8 : S8 := ⟨0x6a09e667#32, 0xbb67ae85#32, 0x3c6ef372#32, 0xa54ff53a#32, 0x510e527f#32, 0x9b05688c#32, 0x1f83d9ab#32, 0x5be0cd19#32⟩
/-- The state behind n blocks. -/
def blksTo (b : List UInt8) (s : S8) : Nat → S8
  | 0 => s
  | n + 1 => step8 (blksTo b s n) ((b.drop (64 * n)).take 64)
def padZ (n : Nat) : Nat := (119 - n % 64) % 64
/-- Eight bytes of eight times a number, the highest first. -/
def len8 (n : Nat) : List UInt8 := [UInt8.ofNat (n * 8 / 72057594037927936), UInt8.ofNat (n * 8 / 281474976710656), UInt8.ofNat (n * 8 / 1099511627776), UInt8.ofNat (n * 8 / 4294967296),
  UInt8.ofNat (n * 8 / 16777216), UInt8.ofNat (n * 8 / 65536), UInt8.ofNat (n * 8 / 256), UInt8.ofNat (n * 8)]
def fillB (n : Nat) : List UInt8 := 128 :: (List.replicate (padZ n) 0 ++ len8 n)
def padB (b : List UInt8) : List UInt8 := b ++ fillB b.length
def dig8 (s : S8) : List UInt8 := s.l.flatMap by4
def shaB (b : List UInt8) : List UInt8 := dig8 (blksTo (padB b) first8 ((padB b).length / 64))
theorem shaB_len (b : List UInt8) : (shaB b).length = 32 := rfl
theorem fillB_len (n : Nat) : (fillB n).length = 9 + padZ n := by simp [fillB, len8]; omega
theorem padB_len (b : List UInt8) : (padB b).length % 64 = 0 := by
  rw [padB, List.length_append, fillB_len, padZ]
  omega
theorem blksTo_cat (b c : List UInt8) (s : S8) : ∀ n, 64 * n ≤ b.length → blksTo (b ++ c) s n = blksTo b s n
  | 0, _ => rfl
  | n + 1, h => by
    rw [blksTo, blksTo, blksTo_cat b c s n (by omega), List.drop_append_of_le_length (by omega), List.take_append_of_le_length (by rw [List.length_drop]; omega)]
theorem blksTo_from (b : List UInt8) (s : S8) (m : Nat) : ∀ n, blksTo b s (m + n) = blksTo (b.drop (64 * m)) (blksTo b s m) n
  | 0 => rfl
  | n + 1 => by
    rw [← Nat.add_assoc, blksTo, blksTo_from b s m n, blksTo, List.drop_drop, Nat.mul_add]
/-- The whole blocks first, the rest behind. -/
theorem shaB_parts (b : List UInt8) : shaB b = dig8 (blksTo (b.drop (b.length / 64 * 64) ++ fillB b.length) (blksTo b first8 (b.length / 64)) ((b.drop (b.length / 64 * 64) ++ fillB b.length).length / 64)) := by
  have h1 : 64 * (b.length / 64) ≤ b.length := by omega
  have h2 : (padB b).length / 64 = b.length / 64 + (b.drop (b.length / 64 * 64) ++ fillB b.length).length / 64 := by
    rw [padB, List.length_append, List.length_append, List.length_drop]
    omega
  rw [shaB, h2, blksTo_from, padB, blksTo_cat _ _ _ _ h1, List.drop_append_of_le_length (by omega), Nat.mul_comm 64]

/-! ### Lists of texts -/
/-- The values are slices of bytes that show these texts. -/
structure Lvs (H : Hp) (vs : List Value) (ls : List (List UInt8)) : Prop where
  len : vs.length = ls.length
  at_ : ∀ i, i < ls.length → ∃ A c, vs.getD i undef = .slice A (ls.getD i []).length c ∧ SLC H 1 A (ls.getD i []).length c ((ls.getD i []).map bv)
theorem Lvs.sub {H H' : Hp} {vs : List Value} {ls : List (List UInt8)} (h : Lvs H vs ls) (hs : Ab.Sub H H') : Lvs H' vs ls :=
  ⟨h.len, fun i hi => by
    obtain ⟨A, c, h1, h2⟩ := h.at_ i hi
    exact ⟨A, c, h1, h2.sub hs⟩⟩
theorem getD_el {α : Type} {l : List α} {d : α} {i : Nat} (h : i < l.length) : l.getD i d = l[i] := by
  rw [List.getD_eq_getElem?_getD, List.getElem?_eq_getElem h]; rfl
theorem take_el {α : Type} (l : List α) (d : α) {i : Nat} (h : i < l.length) : l.take (i + 1) = l.take i ++ [l.getD i d] := by
  rw [List.take_succ_eq_append_getElem h, getD_el h]
theorem flat_take {ls : List (List UInt8)} {i : Nat} (h : i < ls.length) : (ls.take (i + 1)).flatten = (ls.take i).flatten ++ ls.getD i [] := by
  rw [take_el ls [] h, List.flatten_append]
  simp
theorem flat_le (ls : List (List UInt8)) (i : Nat) : (ls.take i).flatten.length ≤ ls.flatten.length := by
  have := congrArg (fun l : List (List UInt8) => l.flatten.length) (List.take_append_drop i ls)
  simp only [List.flatten_append, List.length_append] at this
  omega
theorem tmod64 (a : Nat) : ((a : Int)).tmod 64 = ((a % 64 : Nat) : Int) := rfl
theorem tdiv64 (a : Nat) : ((a : Int)).tdiv 64 = ((a / 64 : Nat) : Int) := rfl
theorem len8_at (n : Nat) : ∀ i, i < 8 → byteI ((((n * 8 : Nat) : Int)).fdiv (2 ^ (min (((8 * (7 - i) : Nat) : Int)).toNat 64))) = (len8 n).getD i 0 := by
  have key : ∀ (m : Nat), byteI ((((n * 8 : Nat) : Int)).fdiv ((m : Nat) : Int)) = UInt8.ofNat (n * 8 / m) := fun m => by
    rw [Int.fdiv_eq_ediv_of_nonneg _ (by omega), ← byteI_nat]
    rfl
  intro i hi
  match i, hi with
  | 0, _ => exact key 72057594037927936
  | 1, _ => exact key 281474976710656
  | 2, _ => exact key 1099511627776
  | 3, _ => exact key 4294967296
  | 4, _ => exact key 16777216
  | 5, _ => exact key 65536
  | 6, _ => exact key 256
  | 7, _ =>
    have := key 1
    rw [Nat.div_one] at this
    exact this

/-! ### Digests -/
structure Dg where
  l : List UInt8
  h : l.length = 32
theorem Dg.ext_ {a b : Dg} (h : a.l = b.l) : a = b := by
  cases a; cases b; cases h; rfl
instance : DecidableEq Dg := fun a b => if h : a.l = b.l then .isTrue (Dg.ext_ h) else .isFalse (fun e => h (by rw [e]))
abbrev hv (d : Dg) : Value := .agg (d.l.map bv).toArray
theorem hv_size (d : Dg) : (hv d).cells.size = 32 := by show (d.l.map bv).toArray.size = 32; simp [d.h]
theorem bv_inj {a b : UInt8} (h : bv a = bv b) : a = b := by
  unfold bv at h
  injection h with _ h
  exact UInt8.toNat_inj.1 (by omega)
theorem map_bv_inj : ∀ {a b : List UInt8}, a.map bv = b.map bv → a = b
  | [], [], _ => rfl
  | [], _ :: _, h => by simp at h
  | _ :: _, [], h => by simp at h
  | x :: a, y :: b, h => by
    simp only [List.map_cons, List.cons.injEq] at h
    rw [bv_inj h.1, map_bv_inj h.2]
theorem hv_iff (a b : Dg) : decide (a = b) = true ↔ (a.l.map bv).toArray = (b.l.map bv).toArray := by
  rw [decide_eq_true_eq]
  constructor
  · rintro rfl; rfl
  · intro h
    exact Dg.ext_ (map_bv_inj (by simpa using congrArg Array.toList h))
theorem hv_sc (d : Dg) : (scals (List.replicate 32 (.int .u8)) (d.l.map bv).toArray.toList).isSome = true := by
  have := scals_bytes d.l
  rw [d.h] at this
  show (scals (List.replicate 32 (.int .u8)) (d.l.map bv)).isSome = true
  rw [this]
  rfl
def shaD (b : List UInt8) : Dg := ⟨shaB b, shaB_len b⟩
def hPart (s : S8) (i : Nat) : List UInt8 := (s.l.take i).flatMap by4 ++ List.replicate (32 - 4 * i) 0
theorem hPart_len (s : S8) : ∀ i, i ≤ 8 → (hPart s i).length = 32
  | 0, _ | 1, _ | 2, _ | 3, _ | 4, _ | 5, _ | 6, _ | 7, _ | 8, _ => rfl
theorem hPart_set (s : S8) : ∀ i, i < 8 → (((((hPart s i).set (4 * i) (UInt8.ofNat (s.l.getD i 0 >>> 24).toNat)).set (4 * i + 1) (UInt8.ofNat (s.l.getD i 0 >>> 16).toNat)).set (4 * i + 2) (UInt8.ofNat (s.l.getD i 0 >>> 8).toNat)).set (4 * i + 3) (UInt8.ofNat (s.l.getD i 0).toNat)) = hPart s (i + 1)
  | 0, _ | 1, _ | 2, _ | 3, _ | 4, _ | 5, _ | 6, _ | 7, _ => rfl
theorem take64 (b : List UInt8) (n : Nat) : ((b.map bv).drop (n * 1)).take (64 * 1) = ((b.drop n).take 64).map bv := by
  rw [Nat.mul_one, Nat.mul_one, ← List.map_drop, ← List.map_take]
theorem dropB (b : List UInt8) (n m : Nat) (h : b.length ≤ n + m) : ((b.map bv).drop (n * 1)).take (m * 1) = (b.drop n).map bv := by
  rw [Nat.mul_one, Nat.mul_one, ← List.map_drop, ← List.map_take, List.take_of_length_le (by rw [List.length_drop]; omega)]
theorem Lvs.nil {H : Hp} : Lvs H [] [] := ⟨rfl, fun i hi => by simp at hi⟩
theorem Lvs.cons {H : Hp} {A : Option Addr} {c : Nat} {l : List UInt8} {vs : List Value} {ls : List (List UInt8)} (h : SLC H 1 A l.length c (l.map bv)) (hr : Lvs H vs ls) : Lvs H (.slice A l.length c :: vs) (l :: ls) :=
  ⟨by simp [hr.len], fun i hi => by
    cases i with
    | zero => exact ⟨A, c, rfl, h⟩
    | succ i => exact hr.at_ i (by simpa using hi)⟩

/-- The document's bytes of a length, from the lowest on. -/
theorem len8_drop (n : Nat) : ∀ i, i < 8 → (len8 n).drop (8 - (i + 1)) = byteI (((n * 8 / 256 ^ i % 256 : Nat)) : Int) :: (len8 n).drop (8 - i) := by
  have key : ∀ m : Nat, byteI (((m % 256 : Nat)) : Int) = UInt8.ofNat m := fun m => by
    rw [byteI_nat]
    apply UInt8.toNat_inj.1
    simp
  intro i hi
  rw [key]
  match i, hi with
  | 0, _ => rw [Nat.pow_zero, Nat.div_one]; rfl
  | 1, _ | 2, _ | 3, _ | 4, _ | 5, _ | 6, _ | 7, _ => rfl
theorem div_pow256 (v i : Nat) : v / 256 ^ (i + 1) = v / 256 ^ i / 256 := by rw [Nat.pow_succ, Nat.div_div_eq_div_mul]

theorem rTo_succ (w : List W32) (s : S8) (t : Nat) : rTo w s (t + 1) = rnd (kTab.getD t 0) (w.getD t 0) (rTo w s t) := rfl
theorem add_take (s x : S8) : ∀ i, i < 8 → (addS s x).l.take (i + 1) = (addS s x).l.take i ++ [s.l.getD i 0 + x.l.getD i 0]
  | 0, _ | 1, _ | 2, _ | 3, _ | 4, _ | 5, _ | 6, _ | 7, _ => rfl
def hp2 (s : S8) (i : Nat) : Nat → List UInt8
  | 0 => hPart s i
  | j + 1 => (hp2 s i j).set (4 * i + (3 - j)) (byteI (((s.l.getD i 0).toNat / 256 ^ j % 256 : Nat) : Int))
theorem hp2_len (s : S8) (i : Nat) (hi : i ≤ 8) : ∀ j, (hp2 s i j).length = 32
  | 0 => hPart_len s i hi
  | j + 1 => by rw [hp2, List.length_set, hp2_len s i hi j]
theorem by4_bytes (x : W32) : byteI ((x.toNat / 256 ^ 0 % 256 : Nat) : Int) = UInt8.ofNat x.toNat ∧ byteI ((x.toNat / 256 ^ 1 % 256 : Nat) : Int) = UInt8.ofNat (x >>> 8).toNat ∧ byteI ((x.toNat / 256 ^ 2 % 256 : Nat) : Int) = UInt8.ofNat (x >>> 16).toNat ∧ byteI ((x.toNat / 256 ^ 3 % 256 : Nat) : Int) = UInt8.ofNat (x >>> 24).toNat := by
  have e : ∀ m : Nat, byteI (((m % 256 : Nat)) : Int) = UInt8.ofNat m := fun m => by
    rw [byteI_nat]
    apply UInt8.toNat_inj.1
    simp
  simp only [e, BitVec.toNat_ushiftRight, Nat.shiftRight_eq_div_pow]
  refine ⟨?_, ?_⟩
  · rw [Nat.pow_zero, Nat.div_one]
  · simp
theorem hp2_all (s : S8) (i : Nat) (hi : i < 8) : hp2 s i 4 = hPart s (i + 1) := by
  obtain ⟨h0, h1, h2, h3⟩ := by4_bytes (s.l.getD i 0)
  rw [show hp2 s i 4 = ((((hPart s i).set (4 * i + (3 - 0)) (byteI (((s.l.getD i 0).toNat / 256 ^ 0 % 256 : Nat) : Int))).set (4 * i + (3 - 1)) (byteI (((s.l.getD i 0).toNat / 256 ^ 1 % 256 : Nat) : Int))).set (4 * i + (3 - 2)) (byteI (((s.l.getD i 0).toNat / 256 ^ 2 % 256 : Nat) : Int))).set (4 * i + (3 - 3)) (byteI (((s.l.getD i 0).toNat / 256 ^ 3 % 256 : Nat) : Int)) from rfl, h0, h1, h2, h3]
  match i, hi with
  | 0, _ | 1, _ | 2, _ | 3, _ | 4, _ | 5, _ | 6, _ | 7, _ => rfl
end Go.Proofs.YtipaiielkpifoaaDoor
