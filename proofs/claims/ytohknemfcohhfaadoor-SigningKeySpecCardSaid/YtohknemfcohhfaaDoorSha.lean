/-
  What is proved here: the hash function in plain Lean, and its value at the two texts of the chapter.
-/
import Derived.Laws.Entries
namespace Go.VS
abbrev w32 (x : Int) : Int := x % 4294967296
def xr (x y : Int) : Int := bits .xor .u32 x y
def nd (x y : Int) : Int := bits .and .u32 x y
def orr (x y : Int) : Int := bits .or .u32 x y
def rotI (x : Int) (n : Nat) : Int := orr (w32 (x * 2 ^ (32 - n))) (x / 2 ^ n)
def sg0 (x : Int) : Int := xr (xr (rotI x 7) (rotI x 18)) (x / 8)
def sg1 (x : Int) : Int := xr (xr (rotI x 17) (rotI x 19)) (x / 1024)
/-- the round constants. -/
def kT : List Int := [1116352408, 1899447441, 3049323471, 3921009573, 961987163, 1508970993, 2453635748, 2870763221, 3624381080, 310598401, 607225278, 1426881987, 1925078388, 2162078206, 2614888103, 3248222580, 3835390401, 4022224774, 264347078, 604807628, 770255983, 1249150122, 1555081692, 1996064986, 2554220882, 2821834349, 2952996808, 3210313671, 3336571891, 3584528711, 113926993, 338241895, 666307205, 773529912, 1294757372, 1396182291, 1695183700, 1986661051, 2177026350, 2456956037, 2730485921, 2820302411, 3259730800, 3345764771, 3516065817, 3600352804, 4094571909, 275423344, 430227734, 506948616, 659060556, 883997877, 958139571, 1322822218, 1537002063, 1747873779, 1955562222, 2024104815, 2227730452, 2361852424, 2428436474, 2756734187, 3204031479, 3329325298]
/-- four bytes as a word. -/
def be4 (a b c d : UInt8) : Int := orr (orr (orr (w32 (a.toNat * 16777216)) (w32 (b.toNat * 65536))) (w32 (c.toNat * 256))) d.toNat
def at4 (b : List UInt8) (i : Nat) : Int := be4 (b.getD (4 * i) 0) (b.getD (4 * i + 1) 0) (b.getD (4 * i + 2) 0) (b.getD (4 * i + 3) 0)
/-- the first n words of the schedule. -/
def first16 (b : List UInt8) : List Int := (List.range 16).map (at4 b)
def nextW (w : List Int) : Int := w32 (w.getD (w.length - 16) 0 + sg0 (w.getD (w.length - 15) 0) + w.getD (w.length - 7) 0 + sg1 (w.getD (w.length - 2) 0))
def sched : Nat → List Int → List Int
  | 0, w => w
  | n + 1, w => sched n (w ++ [nextW w])
/-- the state: eight words. -/
structure St where
  a : Int
  b : Int
  c : Int
  d : Int
  e : Int
  f : Int
  g : Int
  h : Int
def t1F (s : St) (k w : Int) : Int := s.h + xr (xr (rotI s.e 6) (rotI s.e 11)) (rotI s.e 25) + xr (nd s.e s.f) (nd (xr 4294967295 s.e) s.g) + k + w
def t2F (s : St) : Int := xr (xr (rotI s.a 2) (rotI s.a 13)) (rotI s.a 22) + xr (xr (nd s.a s.b) (nd s.a s.c)) (nd s.b s.c)
def roundF (s : St) (k w : Int) : St := ⟨w32 (t1F s k w + t2F s), s.a, s.b, s.c, w32 (s.d + t1F s k w), s.e, s.f, s.g⟩
def rounds : List (Int × Int) → St → St
  | [], s => s
  | (k, w) :: r, s => rounds r (roundF s k w)
def addS (s t : St) : St := ⟨w32 (s.a + t.a), w32 (s.b + t.b), w32 (s.c + t.c), w32 (s.d + t.d), w32 (s.e + t.e), w32 (s.f + t.f), w32 (s.g + t.g), w32 (s.h + t.h)⟩
def mixF (s : St) (b : List UInt8) : St := addS s (rounds (kT.zip (sched 48 (first16 b))) s)
def be8 (n : Nat) : List UInt8 := [UInt8.ofNat (n / 2 ^ 56), UInt8.ofNat (n / 2 ^ 48), UInt8.ofNat (n / 2 ^ 40), UInt8.ofNat (n / 2 ^ 32), UInt8.ofNat (n / 2 ^ 24), UInt8.ofNat (n / 2 ^ 16), UInt8.ofNat (n / 2 ^ 8), UInt8.ofNat n]
def padF (b : List UInt8) : List UInt8 := b ++ [128] ++ List.replicate ((119 - b.length % 64) % 64) 0 ++ be8 (8 * b.length)
def blocksF : Nat → St → List UInt8 → St
  | 0, s, _ => s
  | n + 1, s, p => blocksF n (mixF s (p.take 64)) (p.drop 64)
def s0F : St := ⟨1779033703, 3144134277, 1013904242, 2773480762, 1359893119, 2600822924, 528734635, 1541459225⟩
def by1 (x : Int) (i : Nat) : UInt8 := UInt8.ofNat (x / 2 ^ i % 256).toNat
def out4 (x : Int) : List UInt8 := [by1 x 24, by1 x 16, by1 x 8, by1 x 0]
def outF (s : St) : List UInt8 := out4 s.a ++ out4 s.b ++ out4 s.c ++ out4 s.d ++ out4 s.e ++ out4 s.f ++ out4 s.g ++ out4 s.h
def shaF (b : List UInt8) : List UInt8 := outF (blocksF ((padF b).length / 64) s0F (padF b))
theorem sha_abc : shaF [97, 98, 99] = [0xba, 0x78, 0x16, 0xbf, 0x8f, 0x01, 0xcf, 0xea, 0x41, 0x41, 0x40, 0xde, 0x5d, 0xae, 0x22, 0x23, 0xb0, 0x03, 0x61, 0xa3, 0x96, 0x17, 0x7a, 0x9c, 0xb4, 0x10, 0xff, 0x61, 0xf2, 0x00, 0x15, 0xad] := by decide +kernel
theorem sha_nil : shaF [] = [0xe3, 0xb0, 0xc4, 0x42, 0x98, 0xfc, 0x1c, 0x14, 0x9a, 0xfb, 0xf4, 0xc8, 0x99, 0x6f, 0xb9, 0x24, 0x27, 0xae, 0x41, 0xe4, 0x64, 0x9b, 0x93, 0x4c, 0xa4, 0x95, 0x99, 0x1b, 0x78, 0x52, 0xb8, 0x55] := by decide +kernel
end Go.VS
