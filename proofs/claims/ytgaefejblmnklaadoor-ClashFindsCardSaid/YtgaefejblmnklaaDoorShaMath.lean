
/- SHA-256 by numbers; no Go in sight. -/
import Derived.Laws.BitsAllLaws
import Derived.RowKit
import Derived.WalkKit
namespace Go.Proofs.YtgaefejblmnklaaDoor
open Go.RowKit

/-- Turned to the right by n. -/
def rot (x n : Nat) : Nat := (x * 2 ^ (32 - n) % 4294967296) ||| (x / 2 ^ n)
def sg0 (x : Nat) : Nat := rot x 7 ^^^ rot x 18 ^^^ (x / 8)
def sg1 (x : Nat) : Nat := rot x 17 ^^^ rot x 19 ^^^ (x / 1024)
def by4 (b : List UInt8) (k : Nat) : Nat := (b.getD k 0).toNat * 16777216 + (b.getD (k + 1) 0).toNat * 65536 + (b.getD (k + 2) 0).toNat * 256 + (b.getD (k + 3) 0).toNat
def wfirst (b : List UInt8) (n : Nat) : List Nat := (List.range n).map fun i => by4 b (4 * i)
def wnext (W : List Nat) : Nat := (W.getD (W.length - 16) 0 + W.getD (W.length - 7) 0 + sg0 (W.getD (W.length - 15) 0) + sg1 (W.getD (W.length - 2) 0)) % 4294967296
def wmore (W : List Nat) : Nat → List Nat | 0 => W | k + 1 => wmore W k ++ [wnext (wmore W k)]
def sched (b : List UInt8) : List Nat := wmore (wfirst b 16) 48
def chF (e f g : Nat) : Nat := (e &&& f) ^^^ ((4294967295 - e) &&& g)
def majF (a b c : Nat) : Nat := (a &&& b) ^^^ (a &&& c) ^^^ (b &&& c)
def bs1 (e : Nat) : Nat := rot e 6 ^^^ rot e 11 ^^^ rot e 25
def bs0 (a : Nat) : Nat := rot a 2 ^^^ rot a 13 ^^^ rot a 22
def tF (e f g h k w : Nat) : Nat := (h + bs1 e + chF e f g + k + w) % 4294967296
def uF (a b c : Nat) : Nat := (bs0 a + majF a b c) % 4294967296
def step1 (v : List Nat) (k w : Nat) : List Nat :=
  match v with
  | [a, b, c, d, e, f, g, h] => [(tF e f g h k w + uF a b c) % 4294967296, a, b, c, (d + tF e f g h k w) % 4294967296, e, f, g]
  | _ => []
def rootL : List Nat := [
  1116352408, 1899447441, 3049323471, 3921009573, 961987163, 1508970993, 2453635748, 2870763221,
  3624381080, 310598401, 607225278, 1426881987, 1925078388, 2162078206, 2614888103, 3248222580,
  3835390401, 4022224774, 264347078, 604807628, 770255983, 1249150122, 1555081692, 1996064986,
  2554220882, 2821834349, 2952996808, 3210313671, 3336571891, 3584528711, 113926993, 338241895,
  666307205, 773529912, 1294757372, 1396182291, 1695183700, 1986661051, 2177026350, 2456956037,
  2730485921, 2820302411, 3259730800, 3345764771, 3516065817, 3600352804, 4094571909, 275423344,
  430227734, 506948616, 659060556, 883997877, 958139571, 1322822218, 1537002063, 1747873779,
  1955562222, 2024104815, 2227730452, 2361852424, 2428436474, 2756734187, 3204031479, 3329325298]
def beginL : List Nat := [1779033703, 3144134277, 1013904242, 2773480762, 1359893119, 2600822924, 528734635, 1541459225]
def roundsF (s W : List Nat) (n : Nat) : List Nat := ((rootL.zip W).take n).foldl (fun v x => step1 v x.1 x.2) s
def addF (s v : List Nat) : List Nat := (s.zip v).map fun x => (x.1 + x.2) % 4294967296
def moreF (s : List Nat) (b : List UInt8) : List Nat := addF s (roundsF s (sched b) 64)
def byN (n : Nat) : UInt8 := UInt8.ofNat (n % 256)
def len8 (n : Nat) : List UInt8 := (List.range 8).map fun i => byN (n / 2 ^ (56 - 8 * i))
def pads (n : Nat) : Nat := (119 - n % 64) % 64
def padL (l : List UInt8) : List UInt8 := l ++ 128 :: List.replicate (pads l.length) 0 ++ len8 (l.length * 8)
def chunk (b : List UInt8) (i : Nat) : List UInt8 := (b.drop (64 * i)).take 64
def foldF (b : List UInt8) (s : List Nat) (n : Nat) : List Nat := (List.range n).foldl (fun s i => moreF s (chunk b i)) s
def outL (s : List Nat) : List UInt8 := (List.range 32).map fun i => byN (s.getD (i / 4) 0 / 2 ^ (24 - 8 * (i % 4)))
/-- **The hash.** -/
def shaL (l : List UInt8) : List UInt8 := outL (foldF (padL l) beginL ((padL l).length / 64))
def dig (n : Nat) : UInt8 := if n < 10 then UInt8.ofNat (48 + n) else UInt8.ofNat (87 + n)
def textL (h : List UInt8) : List UInt8 := h.flatMap fun c => [dig (c.toNat / 16), dig (c.toNat % 16)]

def M32 : Nat := 4294967296
theorem or_lt32 {a b : Nat} (ha : a < 4294967296) (hb : b < 4294967296) : a ||| b < 4294967296 := Nat.or_lt_two_pow (n := 32) ha hb
theorem xr_lt32 {a b : Nat} (ha : a < 4294967296) (hb : b < 4294967296) : a ^^^ b < 4294967296 := Nat.xor_lt_two_pow (n := 32) ha hb
theorem rot_lt {x n : Nat} (h : x < 4294967296) : rot x n < 4294967296 := or_lt32 (Nat.mod_lt _ (by omega)) (Nat.lt_of_le_of_lt (Nat.div_le_self _ _) h)
theorem sg0_lt {x : Nat} (h : x < 4294967296) : sg0 x < 4294967296 := xr_lt32 (xr_lt32 (rot_lt h) (rot_lt h)) (by omega)
theorem sg1_lt {x : Nat} (h : x < 4294967296) : sg1 x < 4294967296 := xr_lt32 (xr_lt32 (rot_lt h) (rot_lt h)) (by omega)
theorem bs0_lt {x : Nat} (h : x < 4294967296) : bs0 x < 4294967296 := xr_lt32 (xr_lt32 (rot_lt h) (rot_lt h)) (rot_lt h)
theorem bs1_lt {x : Nat} (h : x < 4294967296) : bs1 x < 4294967296 := xr_lt32 (xr_lt32 (rot_lt h) (rot_lt h)) (rot_lt h)
theorem and_lt32 {a b : Nat} (ha : a < 4294967296) : a &&& b < 4294967296 := Nat.lt_of_le_of_lt Nat.and_le_left ha
theorem chF_lt {e f g : Nat} (h : e < 4294967296) : chF e f g < 4294967296 := xr_lt32 (and_lt32 h) (and_lt32 (by omega))
theorem majF_lt {a b c : Nat} (ha : a < 4294967296) (hb : b < 4294967296) : majF a b c < 4294967296 := xr_lt32 (xr_lt32 (and_lt32 ha) (and_lt32 ha)) (and_lt32 hb)
theorem pad_length (l : List UInt8) : (padL l).length = 64 * ((l.length + 72) / 64) := by
  unfold padL len8 pads
  simp only [List.length_append, List.length_cons, List.length_replicate, List.length_map, List.length_range]
  omega
theorem sha_empty : textL (shaL []) = [101, 51, 98, 48, 99, 52, 52, 50, 57, 56, 102, 99, 49, 99, 49, 52, 57, 97, 102, 98, 102, 52, 99, 56, 57, 57, 54, 102, 98, 57, 50, 52, 50, 55, 97, 101, 52, 49, 101, 52, 54, 52, 57, 98, 57, 51, 52, 99, 97, 52, 57, 53, 57, 57, 49, 98, 55, 56, 53, 50, 98, 56, 53, 53] := by kernel_rfl
theorem sha_abc : textL (shaL [97, 98, 99]) = [98, 97, 55, 56, 49, 54, 98, 102, 56, 102, 48, 49, 99, 102, 101, 97, 52, 49, 52, 49, 52, 48, 100, 101, 53, 100, 97, 101, 50, 50, 50, 51, 98, 48, 48, 51, 54, 49, 97, 51, 57, 54, 49, 55, 55, 97, 57, 99, 98, 52, 49, 48, 102, 102, 54, 49, 102, 50, 48, 48, 49, 53, 97, 100] := by kernel_rfl
end Go.Proofs.YtgaefejblmnklaaDoor
