
/- The document's hash, walked. -/
import Derived.Test.YtohkfnmggmlogaaDoorShaR
namespace Go.Proofs.YtohkfnmggmlogaaDoor
open Go.RowKit
set_option linter.unusedVariables false
theorem padTo_len (b : List UInt8) (j : Nat) : (padTo b j).length = b.length + 1 + j := by simp [padTo]; omega
theorem p256 (k : Nat) : 256 ^ k = 2 ^ (8 * k) := by rw [show (256 : Nat) = 2 ^ 8 from rfl, ← Nat.pow_mul]
def strLen : Value → Nat | .string s => s.size | _ => 0
/-- Two numbers in one: what a test of a remainder wants. -/
theorem mod_int (N : Nat) : ∃ r : Nat, (N : Int) % 64 = (r : Int) ∧ r = N % 64 := ⟨N % 64, by omega, rfl⟩
theorem len8_len (X : Nat) : (len8 X).length = 8 := by simp [len8]
def RelD (i : Nat) (v5 v6 : Value) : Prop := ∃ k : Nat, i ≤ k ∧ k ≤ 7 ∧ v5 = .int .u64 ((256 ^ (k - i) : Nat) : Int) ∧ v6 = .int .i64 (k : Int)
theorem u32e : ElT Tryd.prog 74 52 1 4 (Value.int .u32 0).cells := elT_of Tryd.underlying74 (by kernel_rfl) rfl (by decide)
theorem nil_ownS (w : World) (base : Nat) (e : TypeId) (size : Nat) : w.ownsRow base e size (.slice none 0 0) 0 [] := ⟨by simp, .inl ⟨rfl, rfl⟩⟩
theorem chunk_get {pb : List UInt8} {x m k : Nat} (hx : x < m) (hl : pb.length = 64 * m) (hk : k < 64) : pb[64 * x + k]? = some ((chunk pb x).getD k 0) := by
  have h1 : 64 * x + k < pb.length := by omega
  unfold chunk
  rw [List.getD_eq_getElem?_getD, List.getElem?_take, if_pos hk, List.getElem?_drop, List.getElem?_eq_getElem h1]
  rfl
theorem cut4 {pb : List UInt8} {x m j : Nat} (hx : x < m) (hl : pb.length = 64 * m) (hj : j < 16) : (pb.drop (64 * x + 4 * j)).take 4 = [(chunk pb x).getD (4 * j) 0, (chunk pb x).getD (4 * j + 1) 0, (chunk pb x).getD (4 * j + 2) 0, (chunk pb x).getD (4 * j + 3) 0] := by
  have h0 := chunk_get hx hl (k := 4 * j) (by omega)
  have h1 := chunk_get hx hl (k := 4 * j + 1) (by omega)
  have h2 := chunk_get hx hl (k := 4 * j + 2) (by omega)
  have h3 := chunk_get hx hl (k := 4 * j + 3) (by omega)
  apply List.ext_getElem?
  intro i
  rw [List.getElem?_take]
  by_cases hi : i < 4
  · rw [if_pos hi, List.getElem?_drop]
    match i, hi with
    | 0, _ => exact h0
    | 1, _ => exact h1
    | 2, _ => exact h2
    | 3, _ => exact h3
  · rw [if_neg hi, List.getElem?_eq_none]
    simp
    omega
theorem chunk_len {pb : List UInt8} {x m : Nat} (hx : x < m) (hl : pb.length = 64 * m) : (chunk pb x).length = 64 := by
  unfold chunk
  rw [List.length_take, List.length_drop]
  omega
theorem one_cwS (l : List Nat) : ∀ u ∈ l.map cw, u.oneCell' = true := by
  intro u hu
  obtain ⟨x, _, rfl⟩ := List.mem_map.1 hu
  rfl
theorem rd_cw {w : World} {B g : Nat} {W : List Nat} (h : Rd w B (some ⟨g, 0, none⟩) (W.map cw)) {k : Nat} (hk : k < W.length) : w.cell? ⟨g, k, none⟩ = some (.int .u32 ((W.getD k 0 : Nat) : Int)) := by
  obtain ⟨b, off, he, _, hc⟩ := h.at_ (k := k) (by rw [List.length_map]; exact hk)
  injection he with he
  injection he with h1 h2
  subst h1 h2
  have := hc k (cw (W.getD k 0)) (by rw [List.getElem?_map, List.getElem?_eq_getElem hk]; simp [List.getD, hk])
  rw [Nat.zero_add] at this
  exact this
theorem wmore_snoc (W : List Nat) (k : Nat) : wmore W (k + 1) = wmore W k ++ [wnext (wmore W k)] := rfl
theorem foldF_succ (b : List UInt8) (s : List Nat) (n : Nat) : foldF b s (n + 1) = moreF (foldF b s n) (chunk b n) := by
  unfold foldF
  rw [List.range_succ, List.foldl_append]
  rfl
theorem foldF_ok (b : List UInt8) : ∀ n, (foldF b beginL n).length = 8 ∧ Lt32 (foldF b beginL n)
  | 0 => ⟨rfl, beginL_lt⟩
  | n + 1 => by
    rw [foldF_succ]
    exact moreF_ok (foldF_ok b n).1 (foldF_ok b n).2 _
/-- The value is a slice of eight, in a block at B or above, whose cells read as these. -/
def FP.row8 (B : Nat) (xs : List Value) : FP := ⟨fun v w => ∃ g c, v = .slice (some ⟨g, 0, none⟩) 8 c ∧ B ≤ g ∧ g < w.heap.size ∧ ∀ j v, xs[j]? = some v → w.cell? ⟨g, j, none⟩ = some v, fun _ w _ hb h => by
  obtain ⟨g, c, h1, h2, h3, h4⟩ := h
  exact ⟨g, c, h1, h2, Nat.lt_of_lt_of_le h3 hb.size, fun j v hv => (hb.cell (p := ⟨g, j, none⟩) h3).trans (h4 j v hv)⟩⟩
theorem row8_new {w : World} {B : Nat} {cs : Array Value} {xs : List Value} {e : Nat} (hB : B ≤ w.heap.size) (h : cs.toList = xs) : Below w.heap.size w (w.alloc (.cells cs e)) ∧ (FP.row8 B xs).p (.slice (some ⟨w.heap.size, 0, none⟩) 8 8) (w.alloc (.cells cs e)) := by
  refine ⟨bx_alloc (Below.refl _ _) _, w.heap.size, 8, rfl, hB, by simp, fun j v hv => ?_⟩
  rw [(Blk.new w e cs).cell]
  subst h
  simpa using hv
/-- What the 64 rounds keep. -/
def VRel8 (B : Nat) (V : List Nat) (v15 : Value) (wr : World) : Prop := ∃ g c, v15 = .slice (some ⟨g, 0, none⟩) 8 c ∧ B ≤ g ∧ g < wr.heap.size ∧ ∀ j v, (V.map cw)[j]? = some v → wr.cell? ⟨g, j, none⟩ = some v
def SRel (w : World) (g2 g7 gs : Nat) (pb : List UInt8) (x : Nat) (wr : World) : Prop :=
  Blk wr gs 52 ((foldF pb beginL x).map cw).toArray ∧ Blk wr g7 52 (rootL.map cw).toArray ∧ Blk wr g2 tH (Value.agg (List.replicate 32 (cb 0)).toArray).cells ∧ Below w.heap.size w wr
set_option maxRecDepth 100000 in
set_option maxHeartbeats 20000000 in
theorem rOf_any (w : World) (b : List UInt8) (hb : b.length ≤ 100000) :
    Calls Tryd.prog 29 #[.string ⟨b.toArray⟩] w fun e w' => e = .returned (.agg ((shaL b).map cb).toArray) ∧ Below w.heap.size w w' := by
  have hz0 := szs b
  have hcat0 := strCat b [128]
  have hnov : ¬ 9223372036854775807 < b.length + 1 := by omega
  have hu64 : IntKind.u64.wrap (b.length : Int) = (b.length : Int) := by simp only [IntKind.wrap, IntKind.bits, IntKind.signed]; simp; omega
  have hu648 : IntKind.u64.wrap ((b.length : Int) * 8) = ((b.length * 8 : Nat) : Int) := u64_mul8 _ (by omega)
  obtain ⟨X, hX⟩ : ∃ X, X = b.length * 8 := ⟨_, rfl⟩
  rw [← hX] at hu648
  have hXl : X ≤ 800000 := by omega
  have HX := hid hX
  clear hX
  obtain ⟨R, hR⟩ : ∃ R, R = shaL b := ⟨_, rfl⟩
  rw [← hR]
  have HRES := hid hR
  clear hR
  have hp63 := pads_le b.length
  have hpl := padTo_len b
  obtain ⟨T, hT⟩ : ∃ T, T = b.length := ⟨_, rfl⟩
  rw [← hT] at hb hp63 hpl
  have HT := hid hT
  have HPL := hid hpl
  clear hpl hT
  go_enter Tryd.func29, Tryd.ntmps29
  go_wp2_with (refine wpList_alloc rfl _ rfl zeroH ?_; intro g2 w2 hg2 hg2' hblk2 hb2)
  clear hz0 hcat0 hnov hu64 hu648
  -- the noughts
  go_loop [0] (fun v0 => ∃ j : Nat, j ≤ pads T ∧ v0 = .string ⟨(padTo b j).toArray⟩) (fun v0 => T + 1 + pads T - strLen v0)
  case atStart => exact ⟨0, Nat.zero_le _, rfl⟩
  case round =>
    obtain ⟨j, hj, rfl⟩ := hrel
    have hz := szs (padTo b j)
    rw [HPL.out] at hz
    obtain ⟨N, hN⟩ : ∃ N, N = T + 1 + j := ⟨_, rfl⟩
    rw [← hN] at hz
    obtain ⟨r, hr, hr2⟩ := mod_int N
    by_cases hlt : j < pads T
    · have hne := pads_lt hlt
      rw [← hN, ← hr2] at hne
      have hn1 : ((r : Int) == 56) = false := by simp; omega
      have hn2 : ((r : Int) != 56) = true := by rw [bne, hn1]; rfl
      have hps := padTo_succ b j
      have hcat := strCat (padTo b j) [0]
      rw [← hps] at hcat
      have hnov : ¬ 9223372036854775807 < N + 1 := by omega
      have hz1 := szs (padTo b (j + 1))
      rw [HPL.out] at hz1
      have HZ1 := hid hz1
      have HZ := hid hz
      have HN := hid hN
      clear hps hne hr2 hz1 hN
      go_wp2
      go_round
      case rel => exact ⟨j + 1, by omega, rfl⟩
      case measure =>
        have h1 := HZ.out
        have h2 := HZ1.out
        have h3 := HN.out
        simp only [strLen]
        omega
    · have hjp : j = pads T := by omega
      subst hjp
      have hne := pads_eq T
      rw [← hN, ← hr2] at hne
      subst hne
      clear hr2 hlt
      have hL1 : (padTo b (pads T)).length = N := by rw [HPL.out, hN]
      have hNl : N ≤ 100100 := by omega
      have hpadL : padL b = padTo b (pads T) ++ len8 X := by rw [HX.out, HT.out]; exact padL_eq b
      generalize padTo b (pads T) = pt at *
      have HL1 := hid hL1
      have HPD := hid hpadL
      clear hL1 hpadL hN hj
      go_wp2
      clear hr hz
      -- the length, in eight bytes
      go_loopw [0, 4] (fun v0 v4 wr => ∃ i : Nat, i ≤ 8 ∧ v0 = .string ⟨(pt ++ (len8 X).take i).toArray⟩ ∧ v4 = .int .i64 (i : Int) ∧ Below w.heap.size w wr ∧ Blk wr g2 tH (Value.agg (List.replicate 32 (cb 0)).toArray).cells) (fun _ v4 _ => 8 - (intOf v4).toNat)
      case atStart => exact ⟨0, by omega, by rw [List.take_zero, List.append_nil], rfl, hb2, hblk2⟩
      case round =>
        obtain ⟨i, hi, rfl, rfl, hbr, hbk⟩ := hrel
        rename World => wo
        clear hb2 hblk2
        by_cases hlt : i < 8
        · go_wp2_with fail
          go_loop [5, 6] (fun v5 v6 => RelD i v5 v6) (fun _ v6 => 7 - (intOf v6).toNat)
          case atStart => exact ⟨i, Nat.le_refl _, by omega, by rw [Nat.sub_self]; rfl, rfl⟩
          case round =>
            obtain ⟨k, hk1, hk2, rfl, rfl⟩ := hrel
            by_cases hk : k < 7
            · have hpw : 256 ^ (k + 1 - i) = 256 ^ (k - i) * 256 := by rw [show k + 1 - i = (k - i) + 1 by omega, Nat.pow_succ]
              have hpl : 256 ^ (k - i) * 256 < 18446744073709551616 := by
                rw [← hpw, p256]
                exact Nat.lt_of_le_of_lt (Nat.pow_le_pow_right (by decide) (show 8 * (k + 1 - i) ≤ 56 by omega)) (by decide)
              have HPW := hid hpw
              clear hpw
              generalize 256 ^ (k - i) = d at *
              have hwr : IntKind.u64.wrap ((d : Int) * 256) = ((d * 256 : Nat) : Int) := by simp only [IntKind.wrap, IntKind.bits, IntKind.signed]; simp; omega
              go_wp2
              go_round
              case rel => exact ⟨k + 1, by omega, by omega, by rw [HPW.out, Int.natCast_mul]; rfl, by go_num⟩
              case measure => simp [intOf]; omega
            · have hk7 : k = 7 := by omega
              subst hk7
              have ht := len8_take X i hlt
              have hd2 : 256 ^ (7 - i) = 2 ^ (56 - 8 * i) := by rw [p256]; congr 1; omega
              rw [← hd2] at ht
              have hdp : 0 < 256 ^ (7 - i) := Nat.pow_pos (by decide)
              generalize 256 ^ (7 - i) = d at *
              have hdne : ¬ d = 0 := by omega
              obtain ⟨y, hy⟩ : ∃ y, y = X / d := ⟨_, rfl⟩
              have hyi : (X : Int) / (d : Int) = (y : Int) := by rw [hy]; rfl
              have hyl : y ≤ 800000 := by rw [hy]; exact Nat.le_trans (Nat.div_le_self _ _) hXl
              rw [← hy] at ht
              have hcv : IntKind.u8.wrap (y : Int) = ((byN y).toNat : Int) := by
                rw [byN_toNat]
                simp only [IntKind.wrap, IntKind.bits, IntKind.signed]
                simp
              generalize byN y = c at *
              have hst := strOne wo c
              have hcat := strCat (pt ++ (len8 X).take i) [c]
              rw [List.append_assoc, ← ht] at hcat
              have hlen : (pt ++ (len8 X).take i).length ≤ 100200 := by rw [List.length_append, HL1.out, List.length_take]; omega
              generalize hacc : pt ++ (len8 X).take i = acc at *
              have hacz := szs acc
              have hnov : ¬ 9223372036854775807 < acc.length + 1 := by omega
              have HT1 := hid ht
              clear hy hd2 ht hacc
              have hbk1 := hbk.alloc (.cells #[.int .u8 (c.toNat : Int)] 5)
              have hb1 := bx_alloc hbr (.cells #[.int .u8 (c.toNat : Int)] 5)
              have HB1 := hid hb1
              have HBK1 := hid hbk1
              clear hb1 hbk1
              go_wp2
              go_roundw
              case rel => exact ⟨i + 1, by omega, rfl, by go_num, HB1.out, HBK1.out⟩
              case measure => simp [intOf]; omega
        · have hi8 : i = 8 := by omega
          subst hi8
          have hpb : pt ++ (len8 X).take 8 = padL b := by rw [HPD.out, List.take_of_length_le (Nat.le_of_eq (len8_len X))]
          rw [hpb]
          have hml := pad_length b
          generalize hpbe : padL b = pb at *
          have HPB := hid hpbe
          obtain ⟨m, hm⟩ : ∃ m, m = (T + 72) / 64 := ⟨_, rfl⟩
          rw [← HT.out, ← hm] at hml
          have hm2 : m ≤ 2000 := by omega
          have HML := hid hml
          have HM := hid hm
          clear hpb hpbe hml hm hi hlt
          go_wp2_with fail
          refine (roots_any wo).mono ?_
          rintro e w3 ⟨g7, rfl, hb7, hb3⟩
          have hbk3 := hbk.below hb3 hbk.lt
          have hb03 := bx_trans hbr hb3
          have hs7 : g7 < w3.heap.size := hb7.lt
          clear hbk hbr hb3
          go_wp2_with fail
          have hrel0 : SRel w g2 g7 w3.heap.size pb 0 (w3.alloc (.cells (beginL.map cw).toArray 52)) := ⟨Blk.new w3 _ _, hb7.alloc _, hbk3.alloc _, bx_alloc hb03 _⟩
          have hg28 : g2 ≠ w3.heap.size := by have := hbk3.lt; omega
          have hg78 : g7 ≠ w3.heap.size := by omega
          have hw8 : w.heap.size ≤ w3.heap.size := hb03.size
          obtain ⟨gs, hgs⟩ : ∃ gs, gs = w3.heap.size := ⟨_, rfl⟩
          rw [← hgs] at hrel0 hg28 hg78 hw8 ⊢
          have HREL0 := hid hrel0
          clear hrel0 hgs hbk3 hb7 hb03 hs7
          go_loopw [9] (fun v9 wr => ∃ x at_ : Nat, x ≤ m ∧ at_ = 64 * x ∧ v9 = .int .i64 (at_ : Int) ∧ SRel w g2 g7 gs pb x wr) (fun v9 _ => 64 * m - (intOf v9).toNat)
          case atStart => exact ⟨0, 0, Nat.zero_le _, rfl, rfl, HREL0.out⟩
          case round =>
            obtain ⟨x, at_, hx, hat, rfl, hrs⟩ := hrel
            clear HREL0
            have hszp := szs pb
            rw [HML.out] at hszp
            obtain ⟨L, hL⟩ : ∃ L, L = 64 * m := ⟨_, rfl⟩
            rw [← hL] at hszp
            have hLl : L ≤ 200000 := by omega
            have HLL := hid hL
            have HAT := hid hat
            have HRS := hid hrs
            clear hL hat hrs
            rename World => wo
            by_cases hxm : x < m
            · have hck := chunk_len hxm HML.out
              have h4 := fun j hj => cut4 (j := j) hxm HML.out hj
              have hatL : at_ + 64 ≤ L := by have := HLL.out; have := HAT.out; omega
              rw [← HAT.out] at h4
              generalize hcke : chunk pb x = ck at *
              have HCKE := hid hcke
              have H4 := hid h4
              have HCK := hid hck
              clear h4 hck hcke
              have hatlt : (at_ : Int) < (L : Int) := by omega
              go_wp2_with fail
              go_loopw [10, 11] (fun v10 v11 wr => ∃ j : Nat, j ≤ 16 ∧ v11 = .int .i64 (j : Int) ∧ wr.ownsRow wo.heap.size 52 1 v10 j ((wfirst ck j).map cw) ∧ Below wo.heap.size wo wr) (fun _ v11 _ => 16 - (intOf v11).toNat)
              case atStart => exact ⟨0, by omega, rfl, nil_ownS _ _ _ _, Below.refl _ _⟩
              case round =>
                obtain ⟨j, hj, rfl, hown, hbr⟩ := hrel
                rename World => wp
                obtain ⟨Av, cv, rfl, _, _, _⟩ := own_form hown
                have HOWN := hid hown
                have HBR := hid hbr
                clear hown hbr
                by_cases hj16 : j < 16
                · -- <<A
                  have hc4 := H4.out j hj16
                  have hby : by4 ck (4 * j) = (ck.getD (4 * j) 0).toNat * 16777216 + (ck.getD (4 * j + 1) 0).toNat * 65536 + (ck.getD (4 * j + 2) 0).toNat * 256 + (ck.getD (4 * j + 3) 0).toNat := rfl
                  have hws := wfirst_succ ck j
                  have hbl := by4_lt ck (4 * j)
                  rw [hby] at hws hbl
                  generalize ck.getD (4 * j) 0 = b0 at *
                  generalize ck.getD (4 * j + 1) 0 = b1 at *
                  generalize ck.getD (4 * j + 2) 0 = b2 at *
                  generalize ck.getD (4 * j + 3) 0 = b3 at *
                  obtain ⟨p, hp⟩ : ∃ p : Nat, p = 4 * j := ⟨_, rfl⟩
                  obtain ⟨a, ha⟩ : ∃ a : Nat, a = at_ + p := ⟨_, rfl⟩
                  obtain ⟨a4, ha4⟩ : ∃ a4 : Nat, a4 = a + 4 := ⟨_, rfl⟩
                  have e1 : 4 * (j : Int) = (p : Int) := by omega
                  have e2 : (at_ : Int) + (p : Int) = (a : Int) := by omega
                  have e3 : (a : Int) + 4 = (a4 : Int) := by omega
                  have hcut : (⟨pb.toArray⟩ : ByteArray).extract a a4 = ⟨#[b0, b1, b2, b3]⟩ := by
                    rw [strCut, show a4 - a = 4 by omega, ha, hp, hc4]
                  have hp60 : p ≤ 60 := by omega
                  have haL : a4 ≤ L := by omega
                  have haa : a ≤ a4 := by omega
                  obtain ⟨y, hy⟩ : ∃ y : Nat, y = b0.toNat * 16777216 + b1.toNat * 65536 + b2.toNat * 256 + b3.toNat := ⟨_, rfl⟩
                  rw [← hy] at hws hbl
                  have HN := hid (fun w' => number_any w' b0 b1 b2 b3)
                  rw [← hy] at HN
                  have HWS := hid hws
                  clear hby hws hc4 hy hp ha ha4
                  go_wp2_with fail
                  refine (HN.out wp).mono ?_
                  rintro e w5 ⟨rfl, hb5⟩
                  have HOWN5 := hid (own_keep HOWN.out hb5)
                  have HB5 := hid (bx_trans HBR.out hb5)
                  have hown6 := own_keep HOWN5.out (bx_alloc (Below.refl _ w5) (.cells #[.int .u32 (y : Int)] 52))
                  have hb6 := bx_alloc HB5.out (.cells #[.int .u32 (y : Int)] 52)
                  have rd6 := rd_of_row (w := w5.alloc (.cells #[.int .u32 (y : Int)] 52)) (heap_new rfl) (xs := [y].map cw) rfl
                  have hbs6 := hb6.size
                  have HO6 := hid hown6
                  have HB6 := hid hb6
                  have HR6 := hid rd6
                  have h63 : j + 1 ≤ maxLen := by unfold maxLen; omega
                  have hby : (j + 1) * 4 ≤ 140737488355328 := by omega
                  clear hb5 hown6 hb6 rd6 HOWN HBR hcut e1 e2 e3 HN
                  go_wp2_with (at_builtin; refine wpList_app rfl _ _ _ rfl _ rfl _ _ _ rfl u32e HO6.out HR6.out rfl (one_cwS _) h63 hby hbs6 ?_; intro v7 w7 hown7 hg7 hat7)
                  have hb7' := own_below HB6.out HO6.out hg7
                  go_roundw
                  case rel => exact ⟨j + 1, by omega, by go_num, by rw [HWS.out, List.map_append]; exact hown7, hb7'⟩
                  case measure => simp [intOf]; omega
                  -- >>A
                · have hj2 : j = 16 := by omega
                  subst hj2
                  clear hj hj16
                  have hw0l : (wfirst ck 16).length = 16 := wfirst_length ck 16
                  have hw0t := wfirst_lt ck 16
                  obtain ⟨W0, hW0⟩ : ∃ W0, W0 = wfirst ck 16 := ⟨_, rfl⟩
                  rw [← hW0] at hw0l hw0t HOWN
                  have HW0L := hid hw0l
                  have HW0T := hid hw0t
                  have HW0 := hid hW0
                  clear hw0l hw0t hW0
                  go_wp2_with fail
                  go_loopw [10, 12] (fun v10 v12 wr => ∃ i : Nat, 16 ≤ i ∧ i ≤ 64 ∧ v12 = .int .i64 (i : Int) ∧ wr.ownsRow wo.heap.size 52 1 v10 i ((wmore W0 (i - 16)).map cw) ∧ Below wo.heap.size wo wr) (fun _ v12 _ => 64 - (intOf v12).toNat)
                  case atStart => exact ⟨16, Nat.le_refl _, by omega, rfl, HOWN.out, HBR.out⟩
                  case round =>
                    obtain ⟨i, hi1, hi2, rfl, hown, hbr⟩ := hrel
                    clear HOWN HBR
                    rename World => wq
                    by_cases hi64 : i < 64
                    · -- <<B
                      have hsn := wmore_snoc W0 (i - 16)
                      rw [show i - 16 + 1 = i + 1 - 16 by omega] at hsn
                      have hWl : (wmore W0 (i - 16)).length = i := by rw [wmore_length, HW0L.out]; omega
                      have hWt := wmore_lt HW0T.out (i - 16)
                      obtain ⟨W, hW⟩ : ∃ W, W = wmore W0 (i - 16) := ⟨_, rfl⟩
                      rw [← hW] at hsn hWl hWt hown
                      obtain ⟨g, cap, rfl, _, hgl, _, _⟩ := own_block hown (by omega)
                      have hrd := own_rd hown
                      obtain ⟨k15, hk15⟩ : ∃ k : Nat, k = i - 15 := ⟨_, rfl⟩
                      obtain ⟨k2, hk2⟩ : ∃ k : Nat, k = i - 2 := ⟨_, rfl⟩
                      obtain ⟨k16, hk16⟩ : ∃ k : Nat, k = i - 16 := ⟨_, rfl⟩
                      obtain ⟨k7, hk7⟩ : ∃ k : Nat, k = i - 7 := ⟨_, rfl⟩
                      have c15 := rd_cw hrd (k := k15) (by omega)
                      have c2 := rd_cw hrd (k := k2) (by omega)
                      have c16 := rd_cw hrd (k := k16) (by omega)
                      have c7 := rd_cw hrd (k := k7) (by omega)
                      have l15 := hWt.getD k15
                      have l2 := hWt.getD k2
                      have l16 := hWt.getD k16
                      have l7 := hWt.getD k7
                      have hwn : wnext W = (W.getD k16 0 + W.getD k7 0 + sg0 (W.getD k15 0) + sg1 (W.getD k2 0)) % 4294967296 := by
                        unfold wnext
                        rw [hWl, hk16, hk7, hk15, hk2]
                      generalize W.getD k15 0 = y15 at *
                      generalize W.getD k2 0 = y2 at *
                      generalize W.getD k16 0 = y16 at *
                      generalize W.getD k7 0 = y7 at *
                      have e15 : (i : Int) - 15 = (k15 : Int) := by omega
                      have e2 : (i : Int) - 2 = (k2 : Int) := by omega
                      have e16 : (i : Int) - 16 = (k16 : Int) := by omega
                      have e7 : (i : Int) - 7 = (k7 : Int) := by omega
                      have i15 : k15 < i := by omega
                      have i2 : k2 < i := by omega
                      have i16 : k16 < i := by omega
                      have i7 : k7 < i := by omega
                      obtain ⟨s1, hs1⟩ : ∃ s : Nat, s = (y16 + y7) % 4294967296 := ⟨_, rfl⟩
                      obtain ⟨s2, hs2⟩ : ∃ s : Nat, s = (s1 + sg0 y15) % 4294967296 := ⟨_, rfl⟩
                      obtain ⟨s3, hs3⟩ : ∃ s : Nat, s = (s2 + sg1 y2) % 4294967296 := ⟨_, rfl⟩
                      have hwn3 : wnext W = s3 := by rw [hwn, hs3, hs2, hs1]; omega
                      rw [hwn3] at hsn
                      have HS1 := hid hs1
                      have HS2 := hid hs2
                      have HS3 := hid hs3
                      have HSN := hid hsn
                      have HO := hid hown
                      have HB := hid hbr
                      have h63 : i + 1 ≤ maxLen := by unfold maxLen; omega
                      have hby : (i + 1) * 4 ≤ 140737488355328 := by omega
                      have hbs := hbr.size
                      have HC16 := hid c16
                      have HC7 := hid c7
                      have HE16 := hid e16
                      have HE7 := hid e7
                      have HI16 := hid i16
                      have HI7 := hid i7
                      clear e16 e7 i16 i7
                      clear hsn hwn hwn3 hs1 hs2 hs3 hk15 hk2 hk16 hk7 hW hWl hWt hrd hown hbr c16 c7
                      go_wp2_with fail
                      clear c15 c2
                      refine wp_flowQ (by kernel_rfl) [0, 0, 0, 4, 14, 30, 0, 0, 128, 448, 960, 2046, 0, 4096, 0, 28672, 61440, 0, 131072, 520192, 1048574, 0, 2158592, 0, 14741504, 31518720, 0, 67108864, 266399744, 536870910, 1073741822, 2147483647, 4294967295] 31 [false, false, false, false, false, false, false, false, false, false, false, false, false, false, false, false, false, false, false, false, false, false, false, false, false, false, false, false, false, false, false, false, false, false, false, false, false, false, false, false, false, false, false, false, false, false, false, false, false, false, false, false, false, false, false, false, false, false, false, false, false, false, false, false, false, false, false, false, false, false, false, false, false, false, false, false, false, false, false, false, false, false, false, false, false, false, false, false, false, false, false, false, false, false, false, false, true, true, true, true, true, true, true, true, true, true, true, true, true, true, true, true, true, true, true, true, true, true, true, true, true, true, true, true, true, true, true, true] (by kernel_rfl) (by decide) (by kernel_rfl) [FP.eq (.slice (some ⟨g, 0, none⟩) i cap), FP.eq (.slice (some ⟨g, 0, none⟩) i cap), FP.eq (.int .i64 (i : Int)), FP.eq (.int .i64 (k16 : Int)), FP.eq (.pointer (some ⟨g, k16, none⟩)), FP.eq (.int .u32 (y16 : Int)), FP.eq (.slice (some ⟨g, 0, none⟩) i cap), FP.eq (.int .i64 (i : Int)), FP.eq (.int .i64 (k7 : Int)), FP.eq (.pointer (some ⟨g, k7, none⟩)), FP.eq (.int .u32 (y7 : Int)), FP.eq (.int .u32 (s1 : Int)), FP.eq (.int .u32 (y15 : Int)), FP.eq (.int .u32 (rot y15 7 : Nat)), FP.eq (.int .u32 (y15 : Int)), FP.eq (.int .u32 (rot y15 18 : Nat)), FP.eq (.int .u32 (rot y15 7 ^^^ rot y15 18 : Nat)), FP.eq (.int .u32 (y15 : Int)), FP.eq (.int .u32 (y15 / 8 : Nat)), FP.eq (.int .u32 (sg0 y15 : Nat)), FP.eq (.int .u32 (s2 : Int)), FP.eq (.int .u32 (y2 : Int)), FP.eq (.int .u32 (rot y2 17 : Nat)), FP.eq (.int .u32 (y2 : Int)), FP.eq (.int .u32 (rot y2 19 : Nat)), FP.eq (.int .u32 (rot y2 17 ^^^ rot y2 19 : Nat)), FP.eq (.int .u32 (y2 : Int)), FP.eq (.int .u32 (y2 / 1024 : Nat)), FP.eq (.int .u32 (sg1 y2 : Nat)), FP.eq (.int .u32 (s3 : Int)), FP.sl 1 ([s3].map cw)] (fun v w2 => ∃ A' c', v = .slice A' (i + 1) c' ∧ w2.ownsRow wo.heap.size 52 1 (.slice A' (i + 1) c') (i + 1) ((W ++ [s3]).map cw) ∧ Below wo.heap.size wo w2) ?_ (q_of rfl ⟨rfl, ?_⟩) ?_
                      · refine allFrom_cons (stepQ_yes (by kernel_rfl) ?_) ?_
                        · intro a_ w_ hk_
                          have h10 : a_.eval (.tmp 10) = .slice (some ⟨g, 0, none⟩) i cap := hk_.old 10 (by kernel_rfl)
                          have hx_ := hk_.ext
                          clear hk_
                          refine flow_plain rfl ?_
                          exact gives_move rfl ⟨Below.refl _ _, h10⟩
                        refine allFrom_cons (stepQ_yes (by kernel_rfl) ?_) ?_
                        · intro a_ w_ hk_
                          have h10 : a_.eval (.tmp 10) = .slice (some ⟨g, 0, none⟩) i cap := hk_.old 10 (by kernel_rfl)
                          have hx_ := hk_.ext
                          clear hk_
                          refine flow_plain rfl ?_
                          exact gives_move rfl ⟨Below.refl _ _, h10⟩
                        refine allFrom_cons (stepQ_yes (by kernel_rfl) ?_) ?_
                        · intro a_ w_ hk_
                          have h12 : a_.eval (.tmp 12) = .int .i64 (i : Int) := hk_.old 12 (by kernel_rfl)
                          have hx_ := hk_.ext
                          clear hk_
                          refine flow_plain rfl ?_
                          exact gives_move rfl ⟨Below.refl _ _, h12⟩
                        refine allFrom_cons (stepQ_yes (by kernel_rfl) ?_) ?_
                        · intro a_ w_ hk_
                          have h98 : a_.eval (.tmp 98) = (.int .i64 (i : Int)) := hk_.got 2 98 _ (by kernel_rfl) rfl rfl
                          have hx_ := hk_.ext
                          clear hk_
                          refine flow_plain rfl ?_
                          unfold gives
                          have hc_ : ∀ v, a_.eval (.const v) = v := fun _ => rfl
                          have hn_ : ∀ f, a_.eval (.func f) = .func (.func f) #[] #[] := fun _ => rfl
                          generalize a_.eval = ρ_ at *
                          go_simp
                          exact ⟨Below.refl _ _, congrArg (Value.int _) ((wr_i64 _ (by omega) (by omega)).trans HE16.out)⟩
                        refine allFrom_cons (stepQ_yes (by kernel_rfl) ?_) ?_
                        · intro a_ w_ hk_
                          have h97 : a_.eval (.tmp 97) = (.slice (some ⟨g, 0, none⟩) i cap) := hk_.got 1 97 _ (by kernel_rfl) rfl rfl
                          have h99 : a_.eval (.tmp 99) = (.int .i64 (k16 : Int)) := hk_.got 3 99 _ (by kernel_rfl) rfl rfl
                          have hx_ := hk_.ext
                          clear hk_
                          refine flow_plain rfl ?_
                          unfold gives
                          have hc_ : ∀ v, a_.eval (.const v) = v := fun _ => rfl
                          have hn_ : ∀ f, a_.eval (.func f) = .func (.func f) #[] #[] := fun _ => rfl
                          have hlt_ := HI16.out
                          generalize a_.eval = ρ_ at *
                          go_simp
                          exact ⟨Below.refl _ _, rfl⟩
                        refine allFrom_cons (stepQ_yes (by kernel_rfl) ?_) ?_
                        · intro a_ w_ hk_
                          have h100 : a_.eval (.tmp 100) = (.pointer (some ⟨g, k16, none⟩)) := hk_.got 4 100 _ (by kernel_rfl) rfl rfl
                          have hx_ := hk_.ext
                          clear hk_
                          refine flow_plain rfl ?_
                          unfold gives
                          have hc_ : ∀ v, a_.eval (.const v) = v := fun _ => rfl
                          have hn_ : ∀ f, a_.eval (.func f) = .func (.func f) #[] #[] := fun _ => rfl
                          have hcell := (hx_.cell (p := ⟨g, k16, none⟩) hgl).trans HC16.out
                          generalize a_.eval = ρ_ at *
                          go_simp
                          exact ⟨Below.refl _ _, rfl⟩
                        refine allFrom_cons (stepQ_yes (by kernel_rfl) ?_) ?_
                        · intro a_ w_ hk_
                          have h10 : a_.eval (.tmp 10) = .slice (some ⟨g, 0, none⟩) i cap := hk_.old 10 (by kernel_rfl)
                          have hx_ := hk_.ext
                          clear hk_
                          refine flow_plain rfl ?_
                          exact gives_move rfl ⟨Below.refl _ _, h10⟩
                        refine allFrom_cons (stepQ_yes (by kernel_rfl) ?_) ?_
                        · intro a_ w_ hk_
                          have h12 : a_.eval (.tmp 12) = .int .i64 (i : Int) := hk_.old 12 (by kernel_rfl)
                          have hx_ := hk_.ext
                          clear hk_
                          refine flow_plain rfl ?_
                          exact gives_move rfl ⟨Below.refl _ _, h12⟩
                        refine allFrom_cons (stepQ_yes (by kernel_rfl) ?_) ?_
                        · intro a_ w_ hk_
                          have h103 : a_.eval (.tmp 103) = (.int .i64 (i : Int)) := hk_.got 7 103 _ (by kernel_rfl) rfl rfl
                          have hx_ := hk_.ext
                          clear hk_
                          refine flow_plain rfl ?_
                          unfold gives
                          have hc_ : ∀ v, a_.eval (.const v) = v := fun _ => rfl
                          have hn_ : ∀ f, a_.eval (.func f) = .func (.func f) #[] #[] := fun _ => rfl
                          generalize a_.eval = ρ_ at *
                          go_simp
                          exact ⟨Below.refl _ _, congrArg (Value.int _) ((wr_i64 _ (by omega) (by omega)).trans HE7.out)⟩
                        refine allFrom_cons (stepQ_yes (by kernel_rfl) ?_) ?_
                        · intro a_ w_ hk_
                          have h102 : a_.eval (.tmp 102) = (.slice (some ⟨g, 0, none⟩) i cap) := hk_.got 6 102 _ (by kernel_rfl) rfl rfl
                          have h104 : a_.eval (.tmp 104) = (.int .i64 (k7 : Int)) := hk_.got 8 104 _ (by kernel_rfl) rfl rfl
                          have hx_ := hk_.ext
                          clear hk_
                          refine flow_plain rfl ?_
                          unfold gives
                          have hc_ : ∀ v, a_.eval (.const v) = v := fun _ => rfl
                          have hn_ : ∀ f, a_.eval (.func f) = .func (.func f) #[] #[] := fun _ => rfl
                          have hlt_ := HI7.out
                          generalize a_.eval = ρ_ at *
                          go_simp
                          exact ⟨Below.refl _ _, rfl⟩
                        refine allFrom_cons (stepQ_yes (by kernel_rfl) ?_) ?_
                        · intro a_ w_ hk_
                          have h105 : a_.eval (.tmp 105) = (.pointer (some ⟨g, k7, none⟩)) := hk_.got 9 105 _ (by kernel_rfl) rfl rfl
                          have hx_ := hk_.ext
                          clear hk_
                          refine flow_plain rfl ?_
                          unfold gives
                          have hc_ : ∀ v, a_.eval (.const v) = v := fun _ => rfl
                          have hn_ : ∀ f, a_.eval (.func f) = .func (.func f) #[] #[] := fun _ => rfl
                          have hcell := (hx_.cell (p := ⟨g, k7, none⟩) hgl).trans HC7.out
                          generalize a_.eval = ρ_ at *
                          go_simp
                          exact ⟨Below.refl _ _, rfl⟩
                        refine allFrom_cons (stepQ_yes (by kernel_rfl) ?_) ?_
                        · intro a_ w_ hk_
                          have h101 : a_.eval (.tmp 101) = (.int .u32 (y16 : Int)) := hk_.got 5 101 _ (by kernel_rfl) rfl rfl
                          have h106 : a_.eval (.tmp 106) = (.int .u32 (y7 : Int)) := hk_.got 10 106 _ (by kernel_rfl) rfl rfl
                          have hx_ := hk_.ext
                          clear hk_
                          refine flow_plain rfl ?_
                          unfold gives
                          have hc_ : ∀ v, a_.eval (.const v) = v := fun _ => rfl
                          have hn_ : ∀ f, a_.eval (.func f) = .func (.func f) #[] #[] := fun _ => rfl
                          generalize a_.eval = ρ_ at *
                          go_simp
                          exact ⟨Below.refl _ _, congrArg (Value.int _) (add_w rfl rfl HS1.out)⟩
                        refine allFrom_cons (stepQ_yes (by kernel_rfl) ?_) ?_
                        · intro a_ w_ hk_
                          have h13 : a_.eval (.tmp 13) = .int .u32 (y15 : Int) := hk_.old 13 (by kernel_rfl)
                          have hx_ := hk_.ext
                          clear hk_
                          refine flow_plain rfl ?_
                          exact gives_move rfl ⟨Below.refl _ _, h13⟩
                        refine allFrom_cons (stepQ_yes (by kernel_rfl) ?_) ?_
                        · intro a_ w_ hk_
                          have h108 : a_.eval (.tmp 108) = (.int .u32 (y15 : Int)) := hk_.got 12 108 _ (by kernel_rfl) rfl rfl
                          have hx_ := hk_.ext
                          clear hk_
                          refine flow_plain rfl ?_
                          unfold gives
                          have hc_ : ∀ v, a_.eval (.const v) = v := fun _ => rfl
                          have hn_ : ∀ f, a_.eval (.func f) = .func (.func f) #[] #[] := fun _ => rfl
                          generalize a_.eval = ρ_ at *
                          go_simp
                          exact (rdown_any w_ y15 7 l15 (by decide) (by decide)).mono fun e w' hh => ⟨_, hh.1, hh.2, rfl⟩
                        refine allFrom_cons (stepQ_yes (by kernel_rfl) ?_) ?_
                        · intro a_ w_ hk_
                          have h13 : a_.eval (.tmp 13) = .int .u32 (y15 : Int) := hk_.old 13 (by kernel_rfl)
                          have hx_ := hk_.ext
                          clear hk_
                          refine flow_plain rfl ?_
                          exact gives_move rfl ⟨Below.refl _ _, h13⟩
                        refine allFrom_cons (stepQ_yes (by kernel_rfl) ?_) ?_
                        · intro a_ w_ hk_
                          have h110 : a_.eval (.tmp 110) = (.int .u32 (y15 : Int)) := hk_.got 14 110 _ (by kernel_rfl) rfl rfl
                          have hx_ := hk_.ext
                          clear hk_
                          refine flow_plain rfl ?_
                          unfold gives
                          have hc_ : ∀ v, a_.eval (.const v) = v := fun _ => rfl
                          have hn_ : ∀ f, a_.eval (.func f) = .func (.func f) #[] #[] := fun _ => rfl
                          generalize a_.eval = ρ_ at *
                          go_simp
                          exact (rdown_any w_ y15 18 l15 (by decide) (by decide)).mono fun e w' hh => ⟨_, hh.1, hh.2, rfl⟩
                        refine allFrom_cons (stepQ_yes (by kernel_rfl) ?_) ?_
                        · intro a_ w_ hk_
                          have h109 : a_.eval (.tmp 109) = (.int .u32 (rot y15 7 : Nat)) := hk_.got 13 109 _ (by kernel_rfl) rfl rfl
                          have h111 : a_.eval (.tmp 111) = (.int .u32 (rot y15 18 : Nat)) := hk_.got 15 111 _ (by kernel_rfl) rfl rfl
                          have hx_ := hk_.ext
                          clear hk_
                          refine flow_plain rfl ?_
                          unfold gives
                          have hc_ : ∀ v, a_.eval (.const v) = v := fun _ => rfl
                          have hn_ : ∀ f, a_.eval (.func f) = .func (.func f) #[] #[] := fun _ => rfl
                          generalize a_.eval = ρ_ at *
                          go_simp
                          exact ⟨Below.refl _ _, congrArg (Value.int _) (xor_w rfl rfl rfl (rot_lt l15) (rot_lt l15))⟩
                        refine allFrom_cons (stepQ_yes (by kernel_rfl) ?_) ?_
                        · intro a_ w_ hk_
                          have h13 : a_.eval (.tmp 13) = .int .u32 (y15 : Int) := hk_.old 13 (by kernel_rfl)
                          have hx_ := hk_.ext
                          clear hk_
                          refine flow_plain rfl ?_
                          exact gives_move rfl ⟨Below.refl _ _, h13⟩
                        refine allFrom_cons (stepQ_yes (by kernel_rfl) ?_) ?_
                        · intro a_ w_ hk_
                          have h113 : a_.eval (.tmp 113) = (.int .u32 (y15 : Int)) := hk_.got 17 113 _ (by kernel_rfl) rfl rfl
                          have hx_ := hk_.ext
                          clear hk_
                          refine flow_plain rfl ?_
                          unfold gives
                          have hc_ : ∀ v, a_.eval (.const v) = v := fun _ => rfl
                          have hn_ : ∀ f, a_.eval (.func f) = .func (.func f) #[] #[] := fun _ => rfl
                          generalize a_.eval = ρ_ at *
                          go_simp
                          exact ⟨Below.refl _ _, congrArg (Value.int _) (wr_u32 (y15 / 8) (by omega))⟩
                        refine allFrom_cons (stepQ_yes (by kernel_rfl) ?_) ?_
                        · intro a_ w_ hk_
                          have h112 : a_.eval (.tmp 112) = (.int .u32 (rot y15 7 ^^^ rot y15 18 : Nat)) := hk_.got 16 112 _ (by kernel_rfl) rfl rfl
                          have h114 : a_.eval (.tmp 114) = (.int .u32 (y15 / 8 : Nat)) := hk_.got 18 114 _ (by kernel_rfl) rfl rfl
                          have hx_ := hk_.ext
                          clear hk_
                          refine flow_plain rfl ?_
                          unfold gives
                          have hc_ : ∀ v, a_.eval (.const v) = v := fun _ => rfl
                          have hn_ : ∀ f, a_.eval (.func f) = .func (.func f) #[] #[] := fun _ => rfl
                          generalize a_.eval = ρ_ at *
                          go_simp
                          exact ⟨Below.refl _ _, congrArg (Value.int _) (xor_w (b := y15 / 8) rfl rfl rfl (xr_lt32 (rot_lt l15) (rot_lt l15)) (Nat.lt_of_le_of_lt (Nat.div_le_self _ _) l15))⟩
                        refine allFrom_cons (stepQ_yes (by kernel_rfl) ?_) ?_
                        · intro a_ w_ hk_
                          have h107 : a_.eval (.tmp 107) = (.int .u32 (s1 : Int)) := hk_.got 11 107 _ (by kernel_rfl) rfl rfl
                          have h115 : a_.eval (.tmp 115) = (.int .u32 (sg0 y15 : Nat)) := hk_.got 19 115 _ (by kernel_rfl) rfl rfl
                          have hx_ := hk_.ext
                          clear hk_
                          refine flow_plain rfl ?_
                          unfold gives
                          have hc_ : ∀ v, a_.eval (.const v) = v := fun _ => rfl
                          have hn_ : ∀ f, a_.eval (.func f) = .func (.func f) #[] #[] := fun _ => rfl
                          generalize a_.eval = ρ_ at *
                          go_simp
                          exact ⟨Below.refl _ _, congrArg (Value.int _) (add_w rfl rfl HS2.out)⟩
                        refine allFrom_cons (stepQ_yes (by kernel_rfl) ?_) ?_
                        · intro a_ w_ hk_
                          have h14 : a_.eval (.tmp 14) = .int .u32 (y2 : Int) := hk_.old 14 (by kernel_rfl)
                          have hx_ := hk_.ext
                          clear hk_
                          refine flow_plain rfl ?_
                          exact gives_move rfl ⟨Below.refl _ _, h14⟩
                        refine allFrom_cons (stepQ_yes (by kernel_rfl) ?_) ?_
                        · intro a_ w_ hk_
                          have h117 : a_.eval (.tmp 117) = (.int .u32 (y2 : Int)) := hk_.got 21 117 _ (by kernel_rfl) rfl rfl
                          have hx_ := hk_.ext
                          clear hk_
                          refine flow_plain rfl ?_
                          unfold gives
                          have hc_ : ∀ v, a_.eval (.const v) = v := fun _ => rfl
                          have hn_ : ∀ f, a_.eval (.func f) = .func (.func f) #[] #[] := fun _ => rfl
                          generalize a_.eval = ρ_ at *
                          go_simp
                          exact (rdown_any w_ y2 17 l2 (by decide) (by decide)).mono fun e w' hh => ⟨_, hh.1, hh.2, rfl⟩
                        refine allFrom_cons (stepQ_yes (by kernel_rfl) ?_) ?_
                        · intro a_ w_ hk_
                          have h14 : a_.eval (.tmp 14) = .int .u32 (y2 : Int) := hk_.old 14 (by kernel_rfl)
                          have hx_ := hk_.ext
                          clear hk_
                          refine flow_plain rfl ?_
                          exact gives_move rfl ⟨Below.refl _ _, h14⟩
                        refine allFrom_cons (stepQ_yes (by kernel_rfl) ?_) ?_
                        · intro a_ w_ hk_
                          have h119 : a_.eval (.tmp 119) = (.int .u32 (y2 : Int)) := hk_.got 23 119 _ (by kernel_rfl) rfl rfl
                          have hx_ := hk_.ext
                          clear hk_
                          refine flow_plain rfl ?_
                          unfold gives
                          have hc_ : ∀ v, a_.eval (.const v) = v := fun _ => rfl
                          have hn_ : ∀ f, a_.eval (.func f) = .func (.func f) #[] #[] := fun _ => rfl
                          generalize a_.eval = ρ_ at *
                          go_simp
                          exact (rdown_any w_ y2 19 l2 (by decide) (by decide)).mono fun e w' hh => ⟨_, hh.1, hh.2, rfl⟩
                        refine allFrom_cons (stepQ_yes (by kernel_rfl) ?_) ?_
                        · intro a_ w_ hk_
                          have h118 : a_.eval (.tmp 118) = (.int .u32 (rot y2 17 : Nat)) := hk_.got 22 118 _ (by kernel_rfl) rfl rfl
                          have h120 : a_.eval (.tmp 120) = (.int .u32 (rot y2 19 : Nat)) := hk_.got 24 120 _ (by kernel_rfl) rfl rfl
                          have hx_ := hk_.ext
                          clear hk_
                          refine flow_plain rfl ?_
                          unfold gives
                          have hc_ : ∀ v, a_.eval (.const v) = v := fun _ => rfl
                          have hn_ : ∀ f, a_.eval (.func f) = .func (.func f) #[] #[] := fun _ => rfl
                          generalize a_.eval = ρ_ at *
                          go_simp
                          exact ⟨Below.refl _ _, congrArg (Value.int _) (xor_w rfl rfl rfl (rot_lt l2) (rot_lt l2))⟩
                        refine allFrom_cons (stepQ_yes (by kernel_rfl) ?_) ?_
                        · intro a_ w_ hk_
                          have h14 : a_.eval (.tmp 14) = .int .u32 (y2 : Int) := hk_.old 14 (by kernel_rfl)
                          have hx_ := hk_.ext
                          clear hk_
                          refine flow_plain rfl ?_
                          exact gives_move rfl ⟨Below.refl _ _, h14⟩
                        refine allFrom_cons (stepQ_yes (by kernel_rfl) ?_) ?_
                        · intro a_ w_ hk_
                          have h122 : a_.eval (.tmp 122) = (.int .u32 (y2 : Int)) := hk_.got 26 122 _ (by kernel_rfl) rfl rfl
                          have hx_ := hk_.ext
                          clear hk_
                          refine flow_plain rfl ?_
                          unfold gives
                          have hc_ : ∀ v, a_.eval (.const v) = v := fun _ => rfl
                          have hn_ : ∀ f, a_.eval (.func f) = .func (.func f) #[] #[] := fun _ => rfl
                          generalize a_.eval = ρ_ at *
                          go_simp
                          exact ⟨Below.refl _ _, congrArg (Value.int _) (wr_u32 (y2 / 1024) (by omega))⟩
                        refine allFrom_cons (stepQ_yes (by kernel_rfl) ?_) ?_
                        · intro a_ w_ hk_
                          have h121 : a_.eval (.tmp 121) = (.int .u32 (rot y2 17 ^^^ rot y2 19 : Nat)) := hk_.got 25 121 _ (by kernel_rfl) rfl rfl
                          have h123 : a_.eval (.tmp 123) = (.int .u32 (y2 / 1024 : Nat)) := hk_.got 27 123 _ (by kernel_rfl) rfl rfl
                          have hx_ := hk_.ext
                          clear hk_
                          refine flow_plain rfl ?_
                          unfold gives
                          have hc_ : ∀ v, a_.eval (.const v) = v := fun _ => rfl
                          have hn_ : ∀ f, a_.eval (.func f) = .func (.func f) #[] #[] := fun _ => rfl
                          generalize a_.eval = ρ_ at *
                          go_simp
                          exact ⟨Below.refl _ _, congrArg (Value.int _) (xor_w (b := y2 / 1024) rfl rfl rfl (xr_lt32 (rot_lt l2) (rot_lt l2)) (Nat.lt_of_le_of_lt (Nat.div_le_self _ _) l2))⟩
                        refine allFrom_cons (stepQ_yes (by kernel_rfl) ?_) ?_
                        · intro a_ w_ hk_
                          have h116 : a_.eval (.tmp 116) = (.int .u32 (s2 : Int)) := hk_.got 20 116 _ (by kernel_rfl) rfl rfl
                          have h124 : a_.eval (.tmp 124) = (.int .u32 (sg1 y2 : Nat)) := hk_.got 28 124 _ (by kernel_rfl) rfl rfl
                          have hx_ := hk_.ext
                          clear hk_
                          refine flow_plain rfl ?_
                          unfold gives
                          have hc_ : ∀ v, a_.eval (.const v) = v := fun _ => rfl
                          have hn_ : ∀ f, a_.eval (.func f) = .func (.func f) #[] #[] := fun _ => rfl
                          generalize a_.eval = ρ_ at *
                          go_simp
                          exact ⟨Below.refl _ _, congrArg (Value.int _) (add_w rfl rfl HS3.out)⟩
                        refine allFrom_cons (stepQ_yes (by kernel_rfl) ?_) ?_
                        · intro a_ w_ hk_
                          have h125 : a_.eval (.tmp 125) = (.int .u32 (s3 : Int)) := hk_.got 29 125 _ (by kernel_rfl) rfl rfl
                          have hx_ := hk_.ext
                          clear hk_
                          refine flow_plain rfl ?_
                          unfold gives
                          have hc_ : ∀ v, a_.eval (.const v) = v := fun _ => rfl
                          have hn_ : ∀ f, a_.eval (.func f) = .func (.func f) #[] #[] := fun _ => rfl
                          generalize a_.eval = ρ_ at *
                          go_simp
                          exact sl_new rfl
                        exact allFrom_nil
                      · intro a_ w_ hk_
                        have h96 : a_.eval (.tmp 96) = (.slice (some ⟨g, 0, none⟩) i cap) := hk_.got 0 96 _ (by kernel_rfl) rfl rfl
                        have h126 : (FP.sl 1 ([s3].map cw)).p (a_.eval (.tmp 126)) w_ := hk_.got 30 126 _ (by kernel_rfl) rfl rfl
                        have hx_ := hk_.ext
                        clear hk_
                        obtain ⟨A126, c126, h126, r126⟩ := h126
                        have hb_ := bx_trans HB.out hx_
                        have ho_ := own_keep HO.out hx_
                        refine gives_appK _ _ _ rfl (.slice (some ⟨g, 0, none⟩) i cap) h96 A126 1 c126 h126 u32e ho_ r126 rfl (one_cwS _) h63 hby hb_.size fun v' w' hown2 hg2 _ => ?_
                        have hb2_ := own_below hb_ ho_ hg2
                        obtain ⟨A', c', rfl, _⟩ := own_form hown2
                        exact ⟨A', c', rfl, by rw [List.map_append]; exact hown2, hb2_⟩
                      intro f_ w_ hf_ ht_
                      have h96 : f_ 96 = (.slice (some ⟨g, 0, none⟩) i cap) := (hf_ 0 96 _ (by decide) rfl rfl).elim fun _ h => h
                      have h97 : f_ 97 = (.slice (some ⟨g, 0, none⟩) i cap) := (hf_ 1 97 _ (by decide) rfl rfl).elim fun _ h => h
                      have h98 : f_ 98 = (.int .i64 (i : Int)) := (hf_ 2 98 _ (by decide) rfl rfl).elim fun _ h => h
                      have h99 : f_ 99 = (.int .i64 (k16 : Int)) := (hf_ 3 99 _ (by decide) rfl rfl).elim fun _ h => h
                      have h100 : f_ 100 = (.pointer (some ⟨g, k16, none⟩)) := (hf_ 4 100 _ (by decide) rfl rfl).elim fun _ h => h
                      have h101 : f_ 101 = (.int .u32 (y16 : Int)) := (hf_ 5 101 _ (by decide) rfl rfl).elim fun _ h => h
                      have h102 : f_ 102 = (.slice (some ⟨g, 0, none⟩) i cap) := (hf_ 6 102 _ (by decide) rfl rfl).elim fun _ h => h
                      have h103 : f_ 103 = (.int .i64 (i : Int)) := (hf_ 7 103 _ (by decide) rfl rfl).elim fun _ h => h
                      have h104 : f_ 104 = (.int .i64 (k7 : Int)) := (hf_ 8 104 _ (by decide) rfl rfl).elim fun _ h => h
                      have h105 : f_ 105 = (.pointer (some ⟨g, k7, none⟩)) := (hf_ 9 105 _ (by decide) rfl rfl).elim fun _ h => h
                      have h106 : f_ 106 = (.int .u32 (y7 : Int)) := (hf_ 10 106 _ (by decide) rfl rfl).elim fun _ h => h
                      have h107 : f_ 107 = (.int .u32 (s1 : Int)) := (hf_ 11 107 _ (by decide) rfl rfl).elim fun _ h => h
                      have h108 : f_ 108 = (.int .u32 (y15 : Int)) := (hf_ 12 108 _ (by decide) rfl rfl).elim fun _ h => h
                      have h109 : f_ 109 = (.int .u32 (rot y15 7 : Nat)) := (hf_ 13 109 _ (by decide) rfl rfl).elim fun _ h => h
                      have h110 : f_ 110 = (.int .u32 (y15 : Int)) := (hf_ 14 110 _ (by decide) rfl rfl).elim fun _ h => h
                      have h111 : f_ 111 = (.int .u32 (rot y15 18 : Nat)) := (hf_ 15 111 _ (by decide) rfl rfl).elim fun _ h => h
                      have h112 : f_ 112 = (.int .u32 (rot y15 7 ^^^ rot y15 18 : Nat)) := (hf_ 16 112 _ (by decide) rfl rfl).elim fun _ h => h
                      have h113 : f_ 113 = (.int .u32 (y15 : Int)) := (hf_ 17 113 _ (by decide) rfl rfl).elim fun _ h => h
                      have h114 : f_ 114 = (.int .u32 (y15 / 8 : Nat)) := (hf_ 18 114 _ (by decide) rfl rfl).elim fun _ h => h
                      have h115 : f_ 115 = (.int .u32 (sg0 y15 : Nat)) := (hf_ 19 115 _ (by decide) rfl rfl).elim fun _ h => h
                      have h116 : f_ 116 = (.int .u32 (s2 : Int)) := (hf_ 20 116 _ (by decide) rfl rfl).elim fun _ h => h
                      have h117 : f_ 117 = (.int .u32 (y2 : Int)) := (hf_ 21 117 _ (by decide) rfl rfl).elim fun _ h => h
                      have h118 : f_ 118 = (.int .u32 (rot y2 17 : Nat)) := (hf_ 22 118 _ (by decide) rfl rfl).elim fun _ h => h
                      have h119 : f_ 119 = (.int .u32 (y2 : Int)) := (hf_ 23 119 _ (by decide) rfl rfl).elim fun _ h => h
                      have h120 : f_ 120 = (.int .u32 (rot y2 19 : Nat)) := (hf_ 24 120 _ (by decide) rfl rfl).elim fun _ h => h
                      have h121 : f_ 121 = (.int .u32 (rot y2 17 ^^^ rot y2 19 : Nat)) := (hf_ 25 121 _ (by decide) rfl rfl).elim fun _ h => h
                      have h122 : f_ 122 = (.int .u32 (y2 : Int)) := (hf_ 26 122 _ (by decide) rfl rfl).elim fun _ h => h
                      have h123 : f_ 123 = (.int .u32 (y2 / 1024 : Nat)) := (hf_ 27 123 _ (by decide) rfl rfl).elim fun _ h => h
                      have h124 : f_ 124 = (.int .u32 (sg1 y2 : Nat)) := (hf_ 28 124 _ (by decide) rfl rfl).elim fun _ h => h
                      have h125 : f_ 125 = (.int .u32 (s3 : Int)) := (hf_ 29 125 _ (by decide) rfl rfl).elim fun _ h => h
                      have ht := ht_ 127 _ rfl rfl
                      clear ht_
                      simp only [mix, List.drop_succ_cons, List.drop_zero, h96, h97, h98, h99, h100, h101, h102, h103, h104, h105, h106, h107, h108, h109, h110, h111, h112, h113, h114, h115, h116, h117, h118, h119, h120, h121, h122, h123, h124, h125]
                      clear h96 h97 h98 h99 h100 h101 h102 h103 h104 h105 h106 h107 h108 h109 h110 h111 h112 h113 h114 h115 h116 h117 h118 h119 h120 h121 h122 h123 h124 h125
                      clear hf_
                      obtain ⟨A', c', he, hown2, hb2_⟩ := ht
                      rw [he]
                      have HO2 := hid hown2
                      have HB2 := hid hb2_
                      clear hown2 hb2_ he HO HB
                      go_wp2
                      go_roundw
                      case rel => exact ⟨i + 1, by omega, by omega, by go_num, by rw [HSN.out]; exact HO2.out, HB2.out⟩
                      case measure => simp [intOf]; omega
                      -- >>B
                    · have hi3 : i = 64 := by omega
                      subst hi3
                      have hsc : wmore W0 (64 - 16) = sched ck := by rw [HW0.out]; rfl
                      rw [hsc] at hown
                      clear hsc hi1 hi2 hi64
                      obtain ⟨gW, capW, rfl, _, hgW, _, _⟩ := own_block hown (by omega)
                      have hrdW := own_rd hown
                      have hWl := sched_length ck
                      have hWlt : Lt32 (sched ck) := wmore_lt (wfirst_lt ck 16) 48
                      obtain ⟨W, hW⟩ : ∃ W, W = sched ck := ⟨_, rfl⟩
                      rw [← hW] at hrdW hWl hWlt
                      obtain ⟨hbs, hb7, hb2, hbw⟩ := HRS.out
                      have hs0 := foldF_ok pb x
                      have hfs := foldF_succ pb beginL x
                      have hmv : moreF (foldF pb beginL x) ck = addF (foldF pb beginL x) (roundsF (foldF pb beginL x) W 64) := by rw [hW]; rfl
                      rw [HCKE.out, hmv] at hfs
                      generalize foldF pb beginL x = s0 at *
                      have HFS := hid hfs
                      clear hfs hmv hown hW HW0 HW0L HW0T
                      have hbsq := hbs.below hbr hbs.lt
                      have hb7q := hb7.below hbr hb7.lt
                      have hb2q := hb2.below hbr hb2.lt
                      have hbwq := bx_trans hbw hbr
                      have hgswo : gs < wo.heap.size := hbs.lt
                      have hwoq := hbr.size
                      have hrs : Rd wq wq.heap.size (some ⟨gs, 0, none⟩) (s0.map cw) := rd_of_row hbsq rfl
                      have hls : (s0.map cw).length = 8 * 1 := by rw [List.length_map, hs0.1]
                      have hno := nil_ownS wq wq.heap.size 52 1
                      have HNO := hid hno
                      have HRS2 := hid hrs
                      have HLS := hid hls
                      have HRW := hid hrdW
                      clear hbs hb7 hb2 hbw hbr hrs hls hno hrdW HRS
                      have h63 : 0 + 8 ≤ maxLen := by unfold maxLen; omega
                      go_wp2_with (at_builtin; refine wpList_app rfl _ _ _ rfl (.slice none 0 0) rfl _ 8 8 rfl u32e HNO.out HRS2.out HLS.out (one_cwS _) h63 (by decide) (Nat.le_refl _) ?_; intro v15 w5 hown5 hg5 hat5; have hb5 := own_below (Below.refl _ wq) HNO.out hg5; simp only [Nat.zero_add, List.nil_append] at hown5; obtain ⟨gv, capv, rfl, hgv1, hgv2, hcv8, _⟩ := own_block hown5 (by decide))
                      have hv0 : VRel8 wo.heap.size (roundsF s0 W 0) (.slice (some ⟨gv, 0, none⟩) 8 capv) w5 := by
                        refine ⟨gv, capv, rfl, by omega, hgv2, fun j v hv => ?_⟩
                        have hr := own_rd hown5
                        obtain ⟨b', off', he, _, hc⟩ := hr.at_ (k := j) (List.getElem?_eq_some_iff.1 hv).1
                        injection he with he
                        injection he with h1 h2
                        subst h1 h2
                        have := hc j v hv
                        rwa [Nat.zero_add] at this
                      have HV0 := hid hv0
                      have hbs5 := hbsq.below hb5 hbsq.lt
                      have hb75 := hb7q.below hb5 hb7q.lt
                      have hb25 := hb2q.below hb5 hb2q.lt
                      have hbw5 := bx_trans hbwq hb5
                      have hrW5 := HRW.out.below hb5
                      have hgW5 : gW < w5.heap.size := Nat.lt_of_lt_of_le hgW hb5.size
                      have hwo5 : wo.heap.size ≤ w5.heap.size := Nat.le_trans hwoq hb5.size
                      have HRW5 := hid hrW5
                      clear hv0 hown5 hg5 hat5 hb5 hbsq hb7q hb2q hbwq hrW5 HRW HNO HRS2 HLS h63 hgv1 hgv2 hcv8
                      -- the 64 rounds
                      go_loopw [15, 16] (fun v15 v16 wr => ∃ k : Nat, k ≤ 64 ∧ v16 = .int .i64 (k : Int) ∧ VRel8 wo.heap.size (roundsF s0 W k) v15 wr ∧ Below w5.heap.size w5 wr) (fun _ v16 _ => 64 - (intOf v16).toNat)
                      case atStart => exact ⟨0, by omega, rfl, HV0.out, Below.refl _ _⟩
                      case round =>
                        obtain ⟨k, hk, rfl, hvr, hbr⟩ := hrel
                        clear HV0
                        rename World => wr
                        obtain ⟨gx, cx, rfl, hgx1, hgx2, hcx⟩ := hvr
                        by_cases hk64 : k < 64
                        · -- <<C
                          have hvo := rounds_ok hs0.1 hs0.2 hWl k hk
                          have hsucc := rounds_succ (s := s0) hWl hk64
                          obtain ⟨va, vb, vc, vd, ve, vf, vg, vh, hV⟩ := list8 hvo.1
                          rw [hV] at hsucc hcx hvo
                          have hlt := hvo.2
                          have la := hlt va (by simp)
                          have lb := hlt vb (by simp)
                          have lc := hlt vc (by simp)
                          have ld := hlt vd (by simp)
                          have le := hlt ve (by simp)
                          have lf := hlt vf (by simp)
                          have lg := hlt vg (by simp)
                          have lh := hlt vh (by simp)
                          have c0 : wr.cell? ⟨gx, 0, none⟩ = some (.int .u32 (va : Int)) := hcx 0 _ rfl
                          have C1 := hid (show wr.cell? ⟨gx, 1, none⟩ = some (.int .u32 (vb : Int)) from hcx 1 _ rfl)
                          have C2 := hid (show wr.cell? ⟨gx, 2, none⟩ = some (.int .u32 (vc : Int)) from hcx 2 _ rfl)
                          have C3 := hid (show wr.cell? ⟨gx, 3, none⟩ = some (.int .u32 (vd : Int)) from hcx 3 _ rfl)
                          have c4 : wr.cell? ⟨gx, 4, none⟩ = some (.int .u32 (ve : Int)) := hcx 4 _ rfl
                          have C5 := hid (show wr.cell? ⟨gx, 5, none⟩ = some (.int .u32 (vf : Int)) from hcx 5 _ rfl)
                          have C6 := hid (show wr.cell? ⟨gx, 6, none⟩ = some (.int .u32 (vg : Int)) from hcx 6 _ rfl)
                          have C7 := hid (show wr.cell? ⟨gx, 7, none⟩ = some (.int .u32 (vh : Int)) from hcx 7 _ rfl)
                          have CW := hid ((hbr.cell (p := ⟨gW, k, none⟩) hgW5).trans (rd_cw HRW5.out (k := k) (by rw [hWl]; exact hk64)))
                          have CK := hid ((hbr.cell (p := ⟨g7, k, none⟩) hb75.lt).trans (rd_cw (W := rootL) (rd_of_row hb75 rfl) (k := k) (by rw [rootL_length]; exact hk64)))
                          have lK : rootL.getD k 0 < 4294967296 := by
                            have : ∀ y ∈ rootL, y < 4294967296 := by decide
                            exact Lt32.getD this k
                          have lW := hWlt.getD k
                          generalize rootL.getD k 0 = K at *
                          generalize W.getD k 0 = wk at *
                          have hg7r : g7 < wr.heap.size := Nat.lt_of_lt_of_le hb75.lt hbr.size
                          have hgWr : gW < wr.heap.size := Nat.lt_of_lt_of_le hgW5 hbr.size
                          obtain ⟨u1, hu1⟩ : ∃ u : Nat, u = (vh + bs1 ve) % 4294967296 := ⟨_, rfl⟩
                          obtain ⟨u2, hu2⟩ : ∃ u : Nat, u = (u1 + chF ve vf vg) % 4294967296 := ⟨_, rfl⟩
                          obtain ⟨u3, hu3⟩ : ∃ u : Nat, u = (u2 + K) % 4294967296 := ⟨_, rfl⟩
                          obtain ⟨u4, hu4⟩ : ∃ u : Nat, u = (u3 + wk) % 4294967296 := ⟨_, rfl⟩
                          obtain ⟨u5, hu5⟩ : ∃ u : Nat, u = (bs0 va + majF va vb vc) % 4294967296 := ⟨_, rfl⟩
                          obtain ⟨u6, hu6⟩ : ∃ u : Nat, u = (u4 + u5) % 4294967296 := ⟨_, rfl⟩
                          obtain ⟨u7, hu7⟩ : ∃ u : Nat, u = (vd + u4) % 4294967296 := ⟨_, rfl⟩
                          have hstep : roundsF s0 W (k + 1) = [u6, va, vb, vc, u7, ve, vf, vg] := by
                            rw [hsucc]
                            have ht : tF ve vf vg vh K wk = u4 := by unfold tF; rw [hu4, hu3, hu2, hu1]; omega
                            have huF : uF va vb vc = u5 := by unfold uF; rw [hu5]
                            show [(tF ve vf vg vh K wk + uF va vb vc) % 4294967296, va, vb, vc, (vd + tF ve vf vg vh K wk) % 4294967296, ve, vf, vg] = _
                            rw [ht, huF, hu6, hu7]
                          have HU1 := hid hu1
                          have HU2 := hid hu2
                          have HU3 := hid hu3
                          have HU4 := hid hu4
                          have HU5 := hid hu5
                          have HU6 := hid hu6
                          have HU7 := hid hu7
                          have HSTEP := hid hstep
                          have HBR := hid hbr
                          have hwor : wo.heap.size ≤ wr.heap.size := Nat.le_trans hwo5 hbr.size
                          have hl4 : u4 < 4294967296 := by rw [hu4]; exact Nat.mod_lt _ (by omega)
                          clear hu1 hu2 hu3 hu4 hu5 hu6 hu7 hstep hsucc hV hvo hcx hlt hbr
                          go_wp2_with fail
                          clear c0 c4
                          refine wp_flow (by kernel_rfl) [0, 1, 3, 0, 8, 0, 56, 120, 0, 376, 1016, 2047, 0, 0, 8192, 24576, 61440, 0, 131072, 0, 524288, 1572864, 4063232, 8384512, 16777215, 0, 0, 100663296, 234881024, 536870911, 0, 0, 3221225472, 7516192768, 17179869183, 34359738367] 35 [false, false, false, false, false, false, false, false, false, false, false, false, false, false, false, false, false, false, false, false, false, false, false, false, false, false, false, false, false, false, false, false, false, false, false, false, false, false, false, false, false, false, false, false, false, false, false, false, false, false, false, false, false, false, false, false, false, false, false, false, false, false, false, false, false, false, false, false, false, false, false, false, false, false, false, false, false, false, false, false, false, false, false, false, false, false, false, false, false, false, false, false, false, false, false, false, false, false, false, false, false, false, false, false, false, false, false, false, false, false, false, false, false, false, false, false, false, false, false, false, false, false, false, false, false, false, false, false, false, false, false, false, false, false, false, false, false, false, false, false, false, true, true, true, true, true, true, true, true, true, true, true, true, true, true, true, true, true, true, true, true, true, true, true, true, true, true, true, true, true, true, true, true, true, true, true] (by kernel_rfl) (by decide) (by kernel_rfl) [FP.eq (.slice (some ⟨gx, 0, none⟩) 8 cx), FP.eq (.pointer (some ⟨gx, 7, none⟩)), FP.eq (.int .u32 (vh : Int)), FP.eq (.int .u32 (ve : Int)), FP.eq (.int .u32 (rot ve 6 : Nat)), FP.eq (.int .u32 (ve : Int)), FP.eq (.int .u32 (rot ve 11 : Nat)), FP.eq (.int .u32 (rot ve 6 ^^^ rot ve 11 : Nat)), FP.eq (.int .u32 (ve : Int)), FP.eq (.int .u32 (rot ve 25 : Nat)), FP.eq (.int .u32 (bs1 ve : Nat)), FP.eq (.int .u32 (u1 : Int)), FP.eq (.int .u32 (ve : Int)), FP.eq (.slice (some ⟨gx, 0, none⟩) 8 cx), FP.eq (.pointer (some ⟨gx, 5, none⟩)), FP.eq (.int .u32 (vf : Int)), FP.eq (.int .u32 (ve &&& vf : Nat)), FP.eq (.int .u32 (ve : Int)), FP.eq (.int .u32 (4294967295 - ve : Nat)), FP.eq (.slice (some ⟨gx, 0, none⟩) 8 cx), FP.eq (.pointer (some ⟨gx, 6, none⟩)), FP.eq (.int .u32 (vg : Int)), FP.eq (.int .u32 ((4294967295 - ve) &&& vg : Nat)), FP.eq (.int .u32 (chF ve vf vg : Nat)), FP.eq (.int .u32 (u2 : Int)), FP.eq (.slice (some ⟨g7, 0, none⟩) 64 64), FP.eq (.int .i64 (k : Int)), FP.eq (.pointer (some ⟨g7, k, none⟩)), FP.eq (.int .u32 (K : Int)), FP.eq (.int .u32 (u3 : Int)), FP.eq (.slice (some ⟨gW, 0, none⟩) 64 capW), FP.eq (.int .i64 (k : Int)), FP.eq (.pointer (some ⟨gW, k, none⟩)), FP.eq (.int .u32 (wk : Int)), FP.eq (.int .u32 (u4 : Int))] ?_ ?_
                          · refine allFrom_cons ?_ ?_
                            · intro a_ w_ hk_
                              have h15 : a_.eval (.tmp 15) = .slice (some ⟨gx, 0, none⟩) 8 cx := hk_.old 15 (by kernel_rfl)
                              have hx_ := hk_.ext
                              clear hk_
                              refine flow_plain rfl ?_
                              exact gives_move rfl ⟨Below.refl _ _, h15⟩
                            refine allFrom_cons ?_ ?_
                            · intro a_ w_ hk_
                              have h141 : a_.eval (.tmp 141) = (.slice (some ⟨gx, 0, none⟩) 8 cx) := hk_.got 0 141 _ (by kernel_rfl) rfl rfl
                              have hx_ := hk_.ext
                              clear hk_
                              refine flow_plain rfl ?_
                              unfold gives
                              have hc_ : ∀ v, a_.eval (.const v) = v := fun _ => rfl
                              have hn_ : ∀ f, a_.eval (.func f) = .func (.func f) #[] #[] := fun _ => rfl
                              generalize a_.eval = ρ_ at *
                              go_simp
                              exact ⟨Below.refl _ _, rfl⟩
                            refine allFrom_cons ?_ ?_
                            · intro a_ w_ hk_
                              have h142 : a_.eval (.tmp 142) = (.pointer (some ⟨gx, 7, none⟩)) := hk_.got 1 142 _ (by kernel_rfl) rfl rfl
                              have hx_ := hk_.ext
                              clear hk_
                              refine flow_plain rfl ?_
                              unfold gives
                              have hc_ : ∀ v, a_.eval (.const v) = v := fun _ => rfl
                              have hn_ : ∀ f, a_.eval (.func f) = .func (.func f) #[] #[] := fun _ => rfl
                              have hcell := (hx_.cell (p := ⟨gx, 7, none⟩) hgx2).trans C7.out
                              generalize a_.eval = ρ_ at *
                              go_simp
                              exact ⟨Below.refl _ _, rfl⟩
                            refine allFrom_cons ?_ ?_
                            · intro a_ w_ hk_
                              have h17 : a_.eval (.tmp 17) = .int .u32 (ve : Int) := hk_.old 17 (by kernel_rfl)
                              have hx_ := hk_.ext
                              clear hk_
                              refine flow_plain rfl ?_
                              exact gives_move rfl ⟨Below.refl _ _, h17⟩
                            refine allFrom_cons ?_ ?_
                            · intro a_ w_ hk_
                              have h144 : a_.eval (.tmp 144) = (.int .u32 (ve : Int)) := hk_.got 3 144 _ (by kernel_rfl) rfl rfl
                              have hx_ := hk_.ext
                              clear hk_
                              refine flow_plain rfl ?_
                              unfold gives
                              have hc_ : ∀ v, a_.eval (.const v) = v := fun _ => rfl
                              have hn_ : ∀ f, a_.eval (.func f) = .func (.func f) #[] #[] := fun _ => rfl
                              generalize a_.eval = ρ_ at *
                              go_simp
                              exact (rdown_any w_ ve 6 le (by decide) (by decide)).mono fun e w' hh => ⟨_, hh.1, hh.2, rfl⟩
                            refine allFrom_cons ?_ ?_
                            · intro a_ w_ hk_
                              have h17 : a_.eval (.tmp 17) = .int .u32 (ve : Int) := hk_.old 17 (by kernel_rfl)
                              have hx_ := hk_.ext
                              clear hk_
                              refine flow_plain rfl ?_
                              exact gives_move rfl ⟨Below.refl _ _, h17⟩
                            refine allFrom_cons ?_ ?_
                            · intro a_ w_ hk_
                              have h146 : a_.eval (.tmp 146) = (.int .u32 (ve : Int)) := hk_.got 5 146 _ (by kernel_rfl) rfl rfl
                              have hx_ := hk_.ext
                              clear hk_
                              refine flow_plain rfl ?_
                              unfold gives
                              have hc_ : ∀ v, a_.eval (.const v) = v := fun _ => rfl
                              have hn_ : ∀ f, a_.eval (.func f) = .func (.func f) #[] #[] := fun _ => rfl
                              generalize a_.eval = ρ_ at *
                              go_simp
                              exact (rdown_any w_ ve 11 le (by decide) (by decide)).mono fun e w' hh => ⟨_, hh.1, hh.2, rfl⟩
                            refine allFrom_cons ?_ ?_
                            · intro a_ w_ hk_
                              have h145 : a_.eval (.tmp 145) = (.int .u32 (rot ve 6 : Nat)) := hk_.got 4 145 _ (by kernel_rfl) rfl rfl
                              have h147 : a_.eval (.tmp 147) = (.int .u32 (rot ve 11 : Nat)) := hk_.got 6 147 _ (by kernel_rfl) rfl rfl
                              have hx_ := hk_.ext
                              clear hk_
                              refine flow_plain rfl ?_
                              unfold gives
                              have hc_ : ∀ v, a_.eval (.const v) = v := fun _ => rfl
                              have hn_ : ∀ f, a_.eval (.func f) = .func (.func f) #[] #[] := fun _ => rfl
                              generalize a_.eval = ρ_ at *
                              go_simp
                              exact ⟨Below.refl _ _, congrArg (Value.int _) (xor_w rfl rfl rfl (rot_lt le) (rot_lt le))⟩
                            refine allFrom_cons ?_ ?_
                            · intro a_ w_ hk_
                              have h17 : a_.eval (.tmp 17) = .int .u32 (ve : Int) := hk_.old 17 (by kernel_rfl)
                              have hx_ := hk_.ext
                              clear hk_
                              refine flow_plain rfl ?_
                              exact gives_move rfl ⟨Below.refl _ _, h17⟩
                            refine allFrom_cons ?_ ?_
                            · intro a_ w_ hk_
                              have h149 : a_.eval (.tmp 149) = (.int .u32 (ve : Int)) := hk_.got 8 149 _ (by kernel_rfl) rfl rfl
                              have hx_ := hk_.ext
                              clear hk_
                              refine flow_plain rfl ?_
                              unfold gives
                              have hc_ : ∀ v, a_.eval (.const v) = v := fun _ => rfl
                              have hn_ : ∀ f, a_.eval (.func f) = .func (.func f) #[] #[] := fun _ => rfl
                              generalize a_.eval = ρ_ at *
                              go_simp
                              exact (rdown_any w_ ve 25 le (by decide) (by decide)).mono fun e w' hh => ⟨_, hh.1, hh.2, rfl⟩
                            refine allFrom_cons ?_ ?_
                            · intro a_ w_ hk_
                              have h148 : a_.eval (.tmp 148) = (.int .u32 (rot ve 6 ^^^ rot ve 11 : Nat)) := hk_.got 7 148 _ (by kernel_rfl) rfl rfl
                              have h150 : a_.eval (.tmp 150) = (.int .u32 (rot ve 25 : Nat)) := hk_.got 9 150 _ (by kernel_rfl) rfl rfl
                              have hx_ := hk_.ext
                              clear hk_
                              refine flow_plain rfl ?_
                              unfold gives
                              have hc_ : ∀ v, a_.eval (.const v) = v := fun _ => rfl
                              have hn_ : ∀ f, a_.eval (.func f) = .func (.func f) #[] #[] := fun _ => rfl
                              generalize a_.eval = ρ_ at *
                              go_simp
                              exact ⟨Below.refl _ _, congrArg (Value.int _) (xor_w rfl rfl rfl (xr_lt32 (rot_lt le) (rot_lt le)) (rot_lt le))⟩
                            refine allFrom_cons ?_ ?_
                            · intro a_ w_ hk_
                              have h143 : a_.eval (.tmp 143) = (.int .u32 (vh : Int)) := hk_.got 2 143 _ (by kernel_rfl) rfl rfl
                              have h151 : a_.eval (.tmp 151) = (.int .u32 (bs1 ve : Nat)) := hk_.got 10 151 _ (by kernel_rfl) rfl rfl
                              have hx_ := hk_.ext
                              clear hk_
                              refine flow_plain rfl ?_
                              unfold gives
                              have hc_ : ∀ v, a_.eval (.const v) = v := fun _ => rfl
                              have hn_ : ∀ f, a_.eval (.func f) = .func (.func f) #[] #[] := fun _ => rfl
                              generalize a_.eval = ρ_ at *
                              go_simp
                              exact ⟨Below.refl _ _, congrArg (Value.int _) (add_w rfl rfl HU1.out)⟩
                            refine allFrom_cons ?_ ?_
                            · intro a_ w_ hk_
                              have h17 : a_.eval (.tmp 17) = .int .u32 (ve : Int) := hk_.old 17 (by kernel_rfl)
                              have hx_ := hk_.ext
                              clear hk_
                              refine flow_plain rfl ?_
                              exact gives_move rfl ⟨Below.refl _ _, h17⟩
                            refine allFrom_cons ?_ ?_
                            · intro a_ w_ hk_
                              have h15 : a_.eval (.tmp 15) = .slice (some ⟨gx, 0, none⟩) 8 cx := hk_.old 15 (by kernel_rfl)
                              have hx_ := hk_.ext
                              clear hk_
                              refine flow_plain rfl ?_
                              exact gives_move rfl ⟨Below.refl _ _, h15⟩
                            refine allFrom_cons ?_ ?_
                            · intro a_ w_ hk_
                              have h154 : a_.eval (.tmp 154) = (.slice (some ⟨gx, 0, none⟩) 8 cx) := hk_.got 13 154 _ (by kernel_rfl) rfl rfl
                              have hx_ := hk_.ext
                              clear hk_
                              refine flow_plain rfl ?_
                              unfold gives
                              have hc_ : ∀ v, a_.eval (.const v) = v := fun _ => rfl
                              have hn_ : ∀ f, a_.eval (.func f) = .func (.func f) #[] #[] := fun _ => rfl
                              generalize a_.eval = ρ_ at *
                              go_simp
                              exact ⟨Below.refl _ _, rfl⟩
                            refine allFrom_cons ?_ ?_
                            · intro a_ w_ hk_
                              have h155 : a_.eval (.tmp 155) = (.pointer (some ⟨gx, 5, none⟩)) := hk_.got 14 155 _ (by kernel_rfl) rfl rfl
                              have hx_ := hk_.ext
                              clear hk_
                              refine flow_plain rfl ?_
                              unfold gives
                              have hc_ : ∀ v, a_.eval (.const v) = v := fun _ => rfl
                              have hn_ : ∀ f, a_.eval (.func f) = .func (.func f) #[] #[] := fun _ => rfl
                              have hcell := (hx_.cell (p := ⟨gx, 5, none⟩) hgx2).trans C5.out
                              generalize a_.eval = ρ_ at *
                              go_simp
                              exact ⟨Below.refl _ _, rfl⟩
                            refine allFrom_cons ?_ ?_
                            · intro a_ w_ hk_
                              have h153 : a_.eval (.tmp 153) = (.int .u32 (ve : Int)) := hk_.got 12 153 _ (by kernel_rfl) rfl rfl
                              have h156 : a_.eval (.tmp 156) = (.int .u32 (vf : Int)) := hk_.got 15 156 _ (by kernel_rfl) rfl rfl
                              have hx_ := hk_.ext
                              clear hk_
                              refine flow_plain rfl ?_
                              unfold gives
                              have hc_ : ∀ v, a_.eval (.const v) = v := fun _ => rfl
                              have hn_ : ∀ f, a_.eval (.func f) = .func (.func f) #[] #[] := fun _ => rfl
                              generalize a_.eval = ρ_ at *
                              go_simp
                              exact ⟨Below.refl _ _, congrArg (Value.int _) (and_w rfl rfl rfl le lf)⟩
                            refine allFrom_cons ?_ ?_
                            · intro a_ w_ hk_
                              have h17 : a_.eval (.tmp 17) = .int .u32 (ve : Int) := hk_.old 17 (by kernel_rfl)
                              have hx_ := hk_.ext
                              clear hk_
                              refine flow_plain rfl ?_
                              exact gives_move rfl ⟨Below.refl _ _, h17⟩
                            refine allFrom_cons ?_ ?_
                            · intro a_ w_ hk_
                              have h158 : a_.eval (.tmp 158) = (.int .u32 (ve : Int)) := hk_.got 17 158 _ (by kernel_rfl) rfl rfl
                              have hx_ := hk_.ext
                              clear hk_
                              refine flow_plain rfl ?_
                              unfold gives
                              have hc_ : ∀ v, a_.eval (.const v) = v := fun _ => rfl
                              have hn_ : ∀ f, a_.eval (.func f) = .func (.func f) #[] #[] := fun _ => rfl
                              generalize a_.eval = ρ_ at *
                              go_simp
                              exact ⟨Below.refl _ _, congrArg (Value.int _) ((wr32 _ (by omega) (by omega)).trans (by omega))⟩
                            refine allFrom_cons ?_ ?_
                            · intro a_ w_ hk_
                              have h15 : a_.eval (.tmp 15) = .slice (some ⟨gx, 0, none⟩) 8 cx := hk_.old 15 (by kernel_rfl)
                              have hx_ := hk_.ext
                              clear hk_
                              refine flow_plain rfl ?_
                              exact gives_move rfl ⟨Below.refl _ _, h15⟩
                            refine allFrom_cons ?_ ?_
                            · intro a_ w_ hk_
                              have h160 : a_.eval (.tmp 160) = (.slice (some ⟨gx, 0, none⟩) 8 cx) := hk_.got 19 160 _ (by kernel_rfl) rfl rfl
                              have hx_ := hk_.ext
                              clear hk_
                              refine flow_plain rfl ?_
                              unfold gives
                              have hc_ : ∀ v, a_.eval (.const v) = v := fun _ => rfl
                              have hn_ : ∀ f, a_.eval (.func f) = .func (.func f) #[] #[] := fun _ => rfl
                              generalize a_.eval = ρ_ at *
                              go_simp
                              exact ⟨Below.refl _ _, rfl⟩
                            refine allFrom_cons ?_ ?_
                            · intro a_ w_ hk_
                              have h161 : a_.eval (.tmp 161) = (.pointer (some ⟨gx, 6, none⟩)) := hk_.got 20 161 _ (by kernel_rfl) rfl rfl
                              have hx_ := hk_.ext
                              clear hk_
                              refine flow_plain rfl ?_
                              unfold gives
                              have hc_ : ∀ v, a_.eval (.const v) = v := fun _ => rfl
                              have hn_ : ∀ f, a_.eval (.func f) = .func (.func f) #[] #[] := fun _ => rfl
                              have hcell := (hx_.cell (p := ⟨gx, 6, none⟩) hgx2).trans C6.out
                              generalize a_.eval = ρ_ at *
                              go_simp
                              exact ⟨Below.refl _ _, rfl⟩
                            refine allFrom_cons ?_ ?_
                            · intro a_ w_ hk_
                              have h159 : a_.eval (.tmp 159) = (.int .u32 (4294967295 - ve : Nat)) := hk_.got 18 159 _ (by kernel_rfl) rfl rfl
                              have h162 : a_.eval (.tmp 162) = (.int .u32 (vg : Int)) := hk_.got 21 162 _ (by kernel_rfl) rfl rfl
                              have hx_ := hk_.ext
                              clear hk_
                              refine flow_plain rfl ?_
                              unfold gives
                              have hc_ : ∀ v, a_.eval (.const v) = v := fun _ => rfl
                              have hn_ : ∀ f, a_.eval (.func f) = .func (.func f) #[] #[] := fun _ => rfl
                              generalize a_.eval = ρ_ at *
                              go_simp
                              exact ⟨Below.refl _ _, congrArg (Value.int _) (and_w rfl rfl rfl (by omega) lg)⟩
                            refine allFrom_cons ?_ ?_
                            · intro a_ w_ hk_
                              have h157 : a_.eval (.tmp 157) = (.int .u32 (ve &&& vf : Nat)) := hk_.got 16 157 _ (by kernel_rfl) rfl rfl
                              have h163 : a_.eval (.tmp 163) = (.int .u32 ((4294967295 - ve) &&& vg : Nat)) := hk_.got 22 163 _ (by kernel_rfl) rfl rfl
                              have hx_ := hk_.ext
                              clear hk_
                              refine flow_plain rfl ?_
                              unfold gives
                              have hc_ : ∀ v, a_.eval (.const v) = v := fun _ => rfl
                              have hn_ : ∀ f, a_.eval (.func f) = .func (.func f) #[] #[] := fun _ => rfl
                              generalize a_.eval = ρ_ at *
                              go_simp
                              exact ⟨Below.refl _ _, congrArg (Value.int _) (xor_w rfl rfl rfl (and_lt32 le) (and_lt32 (by omega)))⟩
                            refine allFrom_cons ?_ ?_
                            · intro a_ w_ hk_
                              have h152 : a_.eval (.tmp 152) = (.int .u32 (u1 : Int)) := hk_.got 11 152 _ (by kernel_rfl) rfl rfl
                              have h164 : a_.eval (.tmp 164) = (.int .u32 (chF ve vf vg : Nat)) := hk_.got 23 164 _ (by kernel_rfl) rfl rfl
                              have hx_ := hk_.ext
                              clear hk_
                              refine flow_plain rfl ?_
                              unfold gives
                              have hc_ : ∀ v, a_.eval (.const v) = v := fun _ => rfl
                              have hn_ : ∀ f, a_.eval (.func f) = .func (.func f) #[] #[] := fun _ => rfl
                              generalize a_.eval = ρ_ at *
                              go_simp
                              exact ⟨Below.refl _ _, congrArg (Value.int _) (add_w rfl rfl HU2.out)⟩
                            refine allFrom_cons ?_ ?_
                            · intro a_ w_ hk_
                              have h7 : a_.eval (.tmp 7) = .slice (some ⟨g7, 0, none⟩) 64 64 := hk_.old 7 (by kernel_rfl)
                              have hx_ := hk_.ext
                              clear hk_
                              refine flow_plain rfl ?_
                              exact gives_move rfl ⟨Below.refl _ _, h7⟩
                            refine allFrom_cons ?_ ?_
                            · intro a_ w_ hk_
                              have h16 : a_.eval (.tmp 16) = .int .i64 (k : Int) := hk_.old 16 (by kernel_rfl)
                              have hx_ := hk_.ext
                              clear hk_
                              refine flow_plain rfl ?_
                              exact gives_move rfl ⟨Below.refl _ _, h16⟩
                            refine allFrom_cons ?_ ?_
                            · intro a_ w_ hk_
                              have h166 : a_.eval (.tmp 166) = (.slice (some ⟨g7, 0, none⟩) 64 64) := hk_.got 25 166 _ (by kernel_rfl) rfl rfl
                              have h167 : a_.eval (.tmp 167) = (.int .i64 (k : Int)) := hk_.got 26 167 _ (by kernel_rfl) rfl rfl
                              have hx_ := hk_.ext
                              clear hk_
                              refine flow_plain rfl ?_
                              unfold gives
                              have hc_ : ∀ v, a_.eval (.const v) = v := fun _ => rfl
                              have hn_ : ∀ f, a_.eval (.func f) = .func (.func f) #[] #[] := fun _ => rfl
                              generalize a_.eval = ρ_ at *
                              go_simp
                              exact ⟨Below.refl _ _, rfl⟩
                            refine allFrom_cons ?_ ?_
                            · intro a_ w_ hk_
                              have h168 : a_.eval (.tmp 168) = (.pointer (some ⟨g7, k, none⟩)) := hk_.got 27 168 _ (by kernel_rfl) rfl rfl
                              have hx_ := hk_.ext
                              clear hk_
                              refine flow_plain rfl ?_
                              unfold gives
                              have hc_ : ∀ v, a_.eval (.const v) = v := fun _ => rfl
                              have hn_ : ∀ f, a_.eval (.func f) = .func (.func f) #[] #[] := fun _ => rfl
                              have hcell := (hx_.cell (p := ⟨g7, k, none⟩) hg7r).trans CK.out
                              generalize a_.eval = ρ_ at *
                              go_simp
                              exact ⟨Below.refl _ _, rfl⟩
                            refine allFrom_cons ?_ ?_
                            · intro a_ w_ hk_
                              have h165 : a_.eval (.tmp 165) = (.int .u32 (u2 : Int)) := hk_.got 24 165 _ (by kernel_rfl) rfl rfl
                              have h169 : a_.eval (.tmp 169) = (.int .u32 (K : Int)) := hk_.got 28 169 _ (by kernel_rfl) rfl rfl
                              have hx_ := hk_.ext
                              clear hk_
                              refine flow_plain rfl ?_
                              unfold gives
                              have hc_ : ∀ v, a_.eval (.const v) = v := fun _ => rfl
                              have hn_ : ∀ f, a_.eval (.func f) = .func (.func f) #[] #[] := fun _ => rfl
                              generalize a_.eval = ρ_ at *
                              go_simp
                              exact ⟨Below.refl _ _, congrArg (Value.int _) (add_w rfl rfl HU3.out)⟩
                            refine allFrom_cons ?_ ?_
                            · intro a_ w_ hk_
                              have h10 : a_.eval (.tmp 10) = .slice (some ⟨gW, 0, none⟩) 64 capW := hk_.old 10 (by kernel_rfl)
                              have hx_ := hk_.ext
                              clear hk_
                              refine flow_plain rfl ?_
                              exact gives_move rfl ⟨Below.refl _ _, h10⟩
                            refine allFrom_cons ?_ ?_
                            · intro a_ w_ hk_
                              have h16 : a_.eval (.tmp 16) = .int .i64 (k : Int) := hk_.old 16 (by kernel_rfl)
                              have hx_ := hk_.ext
                              clear hk_
                              refine flow_plain rfl ?_
                              exact gives_move rfl ⟨Below.refl _ _, h16⟩
                            refine allFrom_cons ?_ ?_
                            · intro a_ w_ hk_
                              have h171 : a_.eval (.tmp 171) = (.slice (some ⟨gW, 0, none⟩) 64 capW) := hk_.got 30 171 _ (by kernel_rfl) rfl rfl
                              have h172 : a_.eval (.tmp 172) = (.int .i64 (k : Int)) := hk_.got 31 172 _ (by kernel_rfl) rfl rfl
                              have hx_ := hk_.ext
                              clear hk_
                              refine flow_plain rfl ?_
                              unfold gives
                              have hc_ : ∀ v, a_.eval (.const v) = v := fun _ => rfl
                              have hn_ : ∀ f, a_.eval (.func f) = .func (.func f) #[] #[] := fun _ => rfl
                              generalize a_.eval = ρ_ at *
                              go_simp
                              exact ⟨Below.refl _ _, rfl⟩
                            refine allFrom_cons ?_ ?_
                            · intro a_ w_ hk_
                              have h173 : a_.eval (.tmp 173) = (.pointer (some ⟨gW, k, none⟩)) := hk_.got 32 173 _ (by kernel_rfl) rfl rfl
                              have hx_ := hk_.ext
                              clear hk_
                              refine flow_plain rfl ?_
                              unfold gives
                              have hc_ : ∀ v, a_.eval (.const v) = v := fun _ => rfl
                              have hn_ : ∀ f, a_.eval (.func f) = .func (.func f) #[] #[] := fun _ => rfl
                              have hcell := (hx_.cell (p := ⟨gW, k, none⟩) hgWr).trans CW.out
                              generalize a_.eval = ρ_ at *
                              go_simp
                              exact ⟨Below.refl _ _, rfl⟩
                            refine allFrom_cons ?_ ?_
                            · intro a_ w_ hk_
                              have h170 : a_.eval (.tmp 170) = (.int .u32 (u3 : Int)) := hk_.got 29 170 _ (by kernel_rfl) rfl rfl
                              have h174 : a_.eval (.tmp 174) = (.int .u32 (wk : Int)) := hk_.got 33 174 _ (by kernel_rfl) rfl rfl
                              have hx_ := hk_.ext
                              clear hk_
                              refine flow_plain rfl ?_
                              unfold gives
                              have hc_ : ∀ v, a_.eval (.const v) = v := fun _ => rfl
                              have hn_ : ∀ f, a_.eval (.func f) = .func (.func f) #[] #[] := fun _ => rfl
                              generalize a_.eval = ρ_ at *
                              go_simp
                              exact ⟨Below.refl _ _, congrArg (Value.int _) (add_w rfl rfl HU4.out)⟩
                            exact allFrom_nil
                          intro f_ w_ hx_ hf_
                          have h141 : f_ 141 = (.slice (some ⟨gx, 0, none⟩) 8 cx) := hf_ 0 141 _ (by decide) rfl rfl
                          have h142 : f_ 142 = (.pointer (some ⟨gx, 7, none⟩)) := hf_ 1 142 _ (by decide) rfl rfl
                          have h143 : f_ 143 = (.int .u32 (vh : Int)) := hf_ 2 143 _ (by decide) rfl rfl
                          have h144 : f_ 144 = (.int .u32 (ve : Int)) := hf_ 3 144 _ (by decide) rfl rfl
                          have h145 : f_ 145 = (.int .u32 (rot ve 6 : Nat)) := hf_ 4 145 _ (by decide) rfl rfl
                          have h146 : f_ 146 = (.int .u32 (ve : Int)) := hf_ 5 146 _ (by decide) rfl rfl
                          have h147 : f_ 147 = (.int .u32 (rot ve 11 : Nat)) := hf_ 6 147 _ (by decide) rfl rfl
                          have h148 : f_ 148 = (.int .u32 (rot ve 6 ^^^ rot ve 11 : Nat)) := hf_ 7 148 _ (by decide) rfl rfl
                          have h149 : f_ 149 = (.int .u32 (ve : Int)) := hf_ 8 149 _ (by decide) rfl rfl
                          have h150 : f_ 150 = (.int .u32 (rot ve 25 : Nat)) := hf_ 9 150 _ (by decide) rfl rfl
                          have h151 : f_ 151 = (.int .u32 (bs1 ve : Nat)) := hf_ 10 151 _ (by decide) rfl rfl
                          have h152 : f_ 152 = (.int .u32 (u1 : Int)) := hf_ 11 152 _ (by decide) rfl rfl
                          have h153 : f_ 153 = (.int .u32 (ve : Int)) := hf_ 12 153 _ (by decide) rfl rfl
                          have h154 : f_ 154 = (.slice (some ⟨gx, 0, none⟩) 8 cx) := hf_ 13 154 _ (by decide) rfl rfl
                          have h155 : f_ 155 = (.pointer (some ⟨gx, 5, none⟩)) := hf_ 14 155 _ (by decide) rfl rfl
                          have h156 : f_ 156 = (.int .u32 (vf : Int)) := hf_ 15 156 _ (by decide) rfl rfl
                          have h157 : f_ 157 = (.int .u32 (ve &&& vf : Nat)) := hf_ 16 157 _ (by decide) rfl rfl
                          have h158 : f_ 158 = (.int .u32 (ve : Int)) := hf_ 17 158 _ (by decide) rfl rfl
                          have h159 : f_ 159 = (.int .u32 (4294967295 - ve : Nat)) := hf_ 18 159 _ (by decide) rfl rfl
                          have h160 : f_ 160 = (.slice (some ⟨gx, 0, none⟩) 8 cx) := hf_ 19 160 _ (by decide) rfl rfl
                          have h161 : f_ 161 = (.pointer (some ⟨gx, 6, none⟩)) := hf_ 20 161 _ (by decide) rfl rfl
                          have h162 : f_ 162 = (.int .u32 (vg : Int)) := hf_ 21 162 _ (by decide) rfl rfl
                          have h163 : f_ 163 = (.int .u32 ((4294967295 - ve) &&& vg : Nat)) := hf_ 22 163 _ (by decide) rfl rfl
                          have h164 : f_ 164 = (.int .u32 (chF ve vf vg : Nat)) := hf_ 23 164 _ (by decide) rfl rfl
                          have h165 : f_ 165 = (.int .u32 (u2 : Int)) := hf_ 24 165 _ (by decide) rfl rfl
                          have h166 : f_ 166 = (.slice (some ⟨g7, 0, none⟩) 64 64) := hf_ 25 166 _ (by decide) rfl rfl
                          have h167 : f_ 167 = (.int .i64 (k : Int)) := hf_ 26 167 _ (by decide) rfl rfl
                          have h168 : f_ 168 = (.pointer (some ⟨g7, k, none⟩)) := hf_ 27 168 _ (by decide) rfl rfl
                          have h169 : f_ 169 = (.int .u32 (K : Int)) := hf_ 28 169 _ (by decide) rfl rfl
                          have h170 : f_ 170 = (.int .u32 (u3 : Int)) := hf_ 29 170 _ (by decide) rfl rfl
                          have h171 : f_ 171 = (.slice (some ⟨gW, 0, none⟩) 64 capW) := hf_ 30 171 _ (by decide) rfl rfl
                          have h172 : f_ 172 = (.int .i64 (k : Int)) := hf_ 31 172 _ (by decide) rfl rfl
                          have h173 : f_ 173 = (.pointer (some ⟨gW, k, none⟩)) := hf_ 32 173 _ (by decide) rfl rfl
                          have h174 : f_ 174 = (.int .u32 (wk : Int)) := hf_ 33 174 _ (by decide) rfl rfl
                          have h175 : f_ 175 = (.int .u32 (u4 : Int)) := hf_ 34 175 _ (by decide) rfl rfl
                          simp only [mix, List.drop_succ_cons, List.drop_zero, h141, h142, h143, h144, h145, h146, h147, h148, h149, h150, h151, h152, h153, h154, h155, h156, h157, h158, h159, h160, h161, h162, h163, h164, h165, h166, h167, h168, h169, h170, h171, h172, h173, h174, h175]
                          clear h141 h142 h143 h144 h145 h146 h147 h148 h149 h150 h151 h152 h153 h154 h155 h156 h157 h158 h159 h160 h161 h162 h163 h164 h165 h166 h167 h168 h169 h170 h171 h172 h173 h174 h175
                          clear hf_
                          rename World => wr2
                          have hx1 := hx_
                          clear hx_
                          go_wp2_with fail
                          refine wp_flow (by kernel_rfl) [0, 1, 0, 7, 15, 0, 47, 127, 0, 0, 512, 1536, 3840, 0, 0, 16384, 49152, 122880, 261888, 0, 524288, 1572864, 0, 4194304, 12582912, 33030144, 67108608, 134217727, 268435455] 28 [false, false, false, false, false, false, false, false, false, false, false, false, false, false, false, false, false, false, false, false, false, false, false, false, false, false, false, false, false, false, false, false, false, false, false, false, false, false, false, false, false, false, false, false, false, false, false, false, false, false, false, false, false, false, false, false, false, false, false, false, false, false, false, false, false, false, false, false, false, false, false, false, false, false, false, false, false, false, false, false, false, false, false, false, false, false, false, false, false, false, false, false, false, false, false, false, false, false, false, false, false, false, false, false, false, false, false, false, false, false, false, false, false, false, false, false, false, false, false, false, false, false, false, false, false, false, false, false, false, false, false, false, false, false, false, false, false, false, false, false, false, false, false, false, false, false, false, false, false, false, false, false, false, false, false, false, false, false, false, false, false, false, false, false, false, false, false, false, false, false, false, false, false, false, false, false, true, true, true, true, true, true, true, true, true, true, true, true, true, true, true, true, true, true, true, true, true, true, true, true, true, true, true, true] (by kernel_rfl) (by decide) (by kernel_rfl) [FP.eq (.int .u32 (va : Int)), FP.eq (.int .u32 (rot va 2 : Nat)), FP.eq (.int .u32 (va : Int)), FP.eq (.int .u32 (rot va 13 : Nat)), FP.eq (.int .u32 (rot va 2 ^^^ rot va 13 : Nat)), FP.eq (.int .u32 (va : Int)), FP.eq (.int .u32 (rot va 22 : Nat)), FP.eq (.int .u32 (bs0 va : Nat)), FP.eq (.int .u32 (va : Int)), FP.eq (.slice (some ⟨gx, 0, none⟩) 8 cx), FP.eq (.pointer (some ⟨gx, 1, none⟩)), FP.eq (.int .u32 (vb : Int)), FP.eq (.int .u32 (va &&& vb : Nat)), FP.eq (.int .u32 (va : Int)), FP.eq (.slice (some ⟨gx, 0, none⟩) 8 cx), FP.eq (.pointer (some ⟨gx, 2, none⟩)), FP.eq (.int .u32 (vc : Int)), FP.eq (.int .u32 (va &&& vc : Nat)), FP.eq (.int .u32 ((va &&& vb) ^^^ (va &&& vc) : Nat)), FP.eq (.slice (some ⟨gx, 0, none⟩) 8 cx), FP.eq (.pointer (some ⟨gx, 1, none⟩)), FP.eq (.int .u32 (vb : Int)), FP.eq (.slice (some ⟨gx, 0, none⟩) 8 cx), FP.eq (.pointer (some ⟨gx, 2, none⟩)), FP.eq (.int .u32 (vc : Int)), FP.eq (.int .u32 (vb &&& vc : Nat)), FP.eq (.int .u32 (majF va vb vc : Nat)), FP.eq (.int .u32 (u5 : Int))] ?_ ?_
                          · refine allFrom_cons ?_ ?_
                            · intro a_ w_ hk_
                              have h18 : a_.eval (.tmp 18) = .int .u32 (va : Int) := hk_.old 18 (by kernel_rfl)
                              have hx_ := hk_.ext
                              clear hk_
                              refine flow_plain rfl ?_
                              exact gives_move rfl ⟨Below.refl _ _, h18⟩
                            refine allFrom_cons ?_ ?_
                            · intro a_ w_ hk_
                              have h176 : a_.eval (.tmp 176) = (.int .u32 (va : Int)) := hk_.got 0 176 _ (by kernel_rfl) rfl rfl
                              have hx_ := hk_.ext
                              clear hk_
                              refine flow_plain rfl ?_
                              unfold gives
                              have hc_ : ∀ v, a_.eval (.const v) = v := fun _ => rfl
                              have hn_ : ∀ f, a_.eval (.func f) = .func (.func f) #[] #[] := fun _ => rfl
                              generalize a_.eval = ρ_ at *
                              go_simp
                              exact (rdown_any w_ va 2 la (by decide) (by decide)).mono fun e w' hh => ⟨_, hh.1, hh.2, rfl⟩
                            refine allFrom_cons ?_ ?_
                            · intro a_ w_ hk_
                              have h18 : a_.eval (.tmp 18) = .int .u32 (va : Int) := hk_.old 18 (by kernel_rfl)
                              have hx_ := hk_.ext
                              clear hk_
                              refine flow_plain rfl ?_
                              exact gives_move rfl ⟨Below.refl _ _, h18⟩
                            refine allFrom_cons ?_ ?_
                            · intro a_ w_ hk_
                              have h178 : a_.eval (.tmp 178) = (.int .u32 (va : Int)) := hk_.got 2 178 _ (by kernel_rfl) rfl rfl
                              have hx_ := hk_.ext
                              clear hk_
                              refine flow_plain rfl ?_
                              unfold gives
                              have hc_ : ∀ v, a_.eval (.const v) = v := fun _ => rfl
                              have hn_ : ∀ f, a_.eval (.func f) = .func (.func f) #[] #[] := fun _ => rfl
                              generalize a_.eval = ρ_ at *
                              go_simp
                              exact (rdown_any w_ va 13 la (by decide) (by decide)).mono fun e w' hh => ⟨_, hh.1, hh.2, rfl⟩
                            refine allFrom_cons ?_ ?_
                            · intro a_ w_ hk_
                              have h177 : a_.eval (.tmp 177) = (.int .u32 (rot va 2 : Nat)) := hk_.got 1 177 _ (by kernel_rfl) rfl rfl
                              have h179 : a_.eval (.tmp 179) = (.int .u32 (rot va 13 : Nat)) := hk_.got 3 179 _ (by kernel_rfl) rfl rfl
                              have hx_ := hk_.ext
                              clear hk_
                              refine flow_plain rfl ?_
                              unfold gives
                              have hc_ : ∀ v, a_.eval (.const v) = v := fun _ => rfl
                              have hn_ : ∀ f, a_.eval (.func f) = .func (.func f) #[] #[] := fun _ => rfl
                              generalize a_.eval = ρ_ at *
                              go_simp
                              exact ⟨Below.refl _ _, congrArg (Value.int _) (xor_w rfl rfl rfl (rot_lt la) (rot_lt la))⟩
                            refine allFrom_cons ?_ ?_
                            · intro a_ w_ hk_
                              have h18 : a_.eval (.tmp 18) = .int .u32 (va : Int) := hk_.old 18 (by kernel_rfl)
                              have hx_ := hk_.ext
                              clear hk_
                              refine flow_plain rfl ?_
                              exact gives_move rfl ⟨Below.refl _ _, h18⟩
                            refine allFrom_cons ?_ ?_
                            · intro a_ w_ hk_
                              have h181 : a_.eval (.tmp 181) = (.int .u32 (va : Int)) := hk_.got 5 181 _ (by kernel_rfl) rfl rfl
                              have hx_ := hk_.ext
                              clear hk_
                              refine flow_plain rfl ?_
                              unfold gives
                              have hc_ : ∀ v, a_.eval (.const v) = v := fun _ => rfl
                              have hn_ : ∀ f, a_.eval (.func f) = .func (.func f) #[] #[] := fun _ => rfl
                              generalize a_.eval = ρ_ at *
                              go_simp
                              exact (rdown_any w_ va 22 la (by decide) (by decide)).mono fun e w' hh => ⟨_, hh.1, hh.2, rfl⟩
                            refine allFrom_cons ?_ ?_
                            · intro a_ w_ hk_
                              have h180 : a_.eval (.tmp 180) = (.int .u32 (rot va 2 ^^^ rot va 13 : Nat)) := hk_.got 4 180 _ (by kernel_rfl) rfl rfl
                              have h182 : a_.eval (.tmp 182) = (.int .u32 (rot va 22 : Nat)) := hk_.got 6 182 _ (by kernel_rfl) rfl rfl
                              have hx_ := hk_.ext
                              clear hk_
                              refine flow_plain rfl ?_
                              unfold gives
                              have hc_ : ∀ v, a_.eval (.const v) = v := fun _ => rfl
                              have hn_ : ∀ f, a_.eval (.func f) = .func (.func f) #[] #[] := fun _ => rfl
                              generalize a_.eval = ρ_ at *
                              go_simp
                              exact ⟨Below.refl _ _, congrArg (Value.int _) (xor_w rfl rfl rfl (xr_lt32 (rot_lt la) (rot_lt la)) (rot_lt la))⟩
                            refine allFrom_cons ?_ ?_
                            · intro a_ w_ hk_
                              have h18 : a_.eval (.tmp 18) = .int .u32 (va : Int) := hk_.old 18 (by kernel_rfl)
                              have hx_ := hk_.ext
                              clear hk_
                              refine flow_plain rfl ?_
                              exact gives_move rfl ⟨Below.refl _ _, h18⟩
                            refine allFrom_cons ?_ ?_
                            · intro a_ w_ hk_
                              have h15 : a_.eval (.tmp 15) = .slice (some ⟨gx, 0, none⟩) 8 cx := hk_.old 15 (by kernel_rfl)
                              have hx_ := hk_.ext
                              clear hk_
                              refine flow_plain rfl ?_
                              exact gives_move rfl ⟨Below.refl _ _, h15⟩
                            refine allFrom_cons ?_ ?_
                            · intro a_ w_ hk_
                              have h185 : a_.eval (.tmp 185) = (.slice (some ⟨gx, 0, none⟩) 8 cx) := hk_.got 9 185 _ (by kernel_rfl) rfl rfl
                              have hx_ := hk_.ext
                              clear hk_
                              refine flow_plain rfl ?_
                              unfold gives
                              have hc_ : ∀ v, a_.eval (.const v) = v := fun _ => rfl
                              have hn_ : ∀ f, a_.eval (.func f) = .func (.func f) #[] #[] := fun _ => rfl
                              generalize a_.eval = ρ_ at *
                              go_simp
                              exact ⟨Below.refl _ _, rfl⟩
                            refine allFrom_cons ?_ ?_
                            · intro a_ w_ hk_
                              have h186 : a_.eval (.tmp 186) = (.pointer (some ⟨gx, 1, none⟩)) := hk_.got 10 186 _ (by kernel_rfl) rfl rfl
                              have hx_ := hk_.ext
                              clear hk_
                              refine flow_plain rfl ?_
                              unfold gives
                              have hc_ : ∀ v, a_.eval (.const v) = v := fun _ => rfl
                              have hn_ : ∀ f, a_.eval (.func f) = .func (.func f) #[] #[] := fun _ => rfl
                              have hcell := ((bx_trans hx1 hx_).cell (p := ⟨gx, 1, none⟩) hgx2).trans C1.out
                              generalize a_.eval = ρ_ at *
                              go_simp
                              exact ⟨Below.refl _ _, rfl⟩
                            refine allFrom_cons ?_ ?_
                            · intro a_ w_ hk_
                              have h184 : a_.eval (.tmp 184) = (.int .u32 (va : Int)) := hk_.got 8 184 _ (by kernel_rfl) rfl rfl
                              have h187 : a_.eval (.tmp 187) = (.int .u32 (vb : Int)) := hk_.got 11 187 _ (by kernel_rfl) rfl rfl
                              have hx_ := hk_.ext
                              clear hk_
                              refine flow_plain rfl ?_
                              unfold gives
                              have hc_ : ∀ v, a_.eval (.const v) = v := fun _ => rfl
                              have hn_ : ∀ f, a_.eval (.func f) = .func (.func f) #[] #[] := fun _ => rfl
                              generalize a_.eval = ρ_ at *
                              go_simp
                              exact ⟨Below.refl _ _, congrArg (Value.int _) (and_w rfl rfl rfl la lb)⟩
                            refine allFrom_cons ?_ ?_
                            · intro a_ w_ hk_
                              have h18 : a_.eval (.tmp 18) = .int .u32 (va : Int) := hk_.old 18 (by kernel_rfl)
                              have hx_ := hk_.ext
                              clear hk_
                              refine flow_plain rfl ?_
                              exact gives_move rfl ⟨Below.refl _ _, h18⟩
                            refine allFrom_cons ?_ ?_
                            · intro a_ w_ hk_
                              have h15 : a_.eval (.tmp 15) = .slice (some ⟨gx, 0, none⟩) 8 cx := hk_.old 15 (by kernel_rfl)
                              have hx_ := hk_.ext
                              clear hk_
                              refine flow_plain rfl ?_
                              exact gives_move rfl ⟨Below.refl _ _, h15⟩
                            refine allFrom_cons ?_ ?_
                            · intro a_ w_ hk_
                              have h190 : a_.eval (.tmp 190) = (.slice (some ⟨gx, 0, none⟩) 8 cx) := hk_.got 14 190 _ (by kernel_rfl) rfl rfl
                              have hx_ := hk_.ext
                              clear hk_
                              refine flow_plain rfl ?_
                              unfold gives
                              have hc_ : ∀ v, a_.eval (.const v) = v := fun _ => rfl
                              have hn_ : ∀ f, a_.eval (.func f) = .func (.func f) #[] #[] := fun _ => rfl
                              generalize a_.eval = ρ_ at *
                              go_simp
                              exact ⟨Below.refl _ _, rfl⟩
                            refine allFrom_cons ?_ ?_
                            · intro a_ w_ hk_
                              have h191 : a_.eval (.tmp 191) = (.pointer (some ⟨gx, 2, none⟩)) := hk_.got 15 191 _ (by kernel_rfl) rfl rfl
                              have hx_ := hk_.ext
                              clear hk_
                              refine flow_plain rfl ?_
                              unfold gives
                              have hc_ : ∀ v, a_.eval (.const v) = v := fun _ => rfl
                              have hn_ : ∀ f, a_.eval (.func f) = .func (.func f) #[] #[] := fun _ => rfl
                              have hcell := ((bx_trans hx1 hx_).cell (p := ⟨gx, 2, none⟩) hgx2).trans C2.out
                              generalize a_.eval = ρ_ at *
                              go_simp
                              exact ⟨Below.refl _ _, rfl⟩
                            refine allFrom_cons ?_ ?_
                            · intro a_ w_ hk_
                              have h189 : a_.eval (.tmp 189) = (.int .u32 (va : Int)) := hk_.got 13 189 _ (by kernel_rfl) rfl rfl
                              have h192 : a_.eval (.tmp 192) = (.int .u32 (vc : Int)) := hk_.got 16 192 _ (by kernel_rfl) rfl rfl
                              have hx_ := hk_.ext
                              clear hk_
                              refine flow_plain rfl ?_
                              unfold gives
                              have hc_ : ∀ v, a_.eval (.const v) = v := fun _ => rfl
                              have hn_ : ∀ f, a_.eval (.func f) = .func (.func f) #[] #[] := fun _ => rfl
                              generalize a_.eval = ρ_ at *
                              go_simp
                              exact ⟨Below.refl _ _, congrArg (Value.int _) (and_w rfl rfl rfl la lc)⟩
                            refine allFrom_cons ?_ ?_
                            · intro a_ w_ hk_
                              have h188 : a_.eval (.tmp 188) = (.int .u32 (va &&& vb : Nat)) := hk_.got 12 188 _ (by kernel_rfl) rfl rfl
                              have h193 : a_.eval (.tmp 193) = (.int .u32 (va &&& vc : Nat)) := hk_.got 17 193 _ (by kernel_rfl) rfl rfl
                              have hx_ := hk_.ext
                              clear hk_
                              refine flow_plain rfl ?_
                              unfold gives
                              have hc_ : ∀ v, a_.eval (.const v) = v := fun _ => rfl
                              have hn_ : ∀ f, a_.eval (.func f) = .func (.func f) #[] #[] := fun _ => rfl
                              generalize a_.eval = ρ_ at *
                              go_simp
                              exact ⟨Below.refl _ _, congrArg (Value.int _) (xor_w rfl rfl rfl (and_lt32 la) (and_lt32 la))⟩
                            refine allFrom_cons ?_ ?_
                            · intro a_ w_ hk_
                              have h15 : a_.eval (.tmp 15) = .slice (some ⟨gx, 0, none⟩) 8 cx := hk_.old 15 (by kernel_rfl)
                              have hx_ := hk_.ext
                              clear hk_
                              refine flow_plain rfl ?_
                              exact gives_move rfl ⟨Below.refl _ _, h15⟩
                            refine allFrom_cons ?_ ?_
                            · intro a_ w_ hk_
                              have h195 : a_.eval (.tmp 195) = (.slice (some ⟨gx, 0, none⟩) 8 cx) := hk_.got 19 195 _ (by kernel_rfl) rfl rfl
                              have hx_ := hk_.ext
                              clear hk_
                              refine flow_plain rfl ?_
                              unfold gives
                              have hc_ : ∀ v, a_.eval (.const v) = v := fun _ => rfl
                              have hn_ : ∀ f, a_.eval (.func f) = .func (.func f) #[] #[] := fun _ => rfl
                              generalize a_.eval = ρ_ at *
                              go_simp
                              exact ⟨Below.refl _ _, rfl⟩
                            refine allFrom_cons ?_ ?_
                            · intro a_ w_ hk_
                              have h196 : a_.eval (.tmp 196) = (.pointer (some ⟨gx, 1, none⟩)) := hk_.got 20 196 _ (by kernel_rfl) rfl rfl
                              have hx_ := hk_.ext
                              clear hk_
                              refine flow_plain rfl ?_
                              unfold gives
                              have hc_ : ∀ v, a_.eval (.const v) = v := fun _ => rfl
                              have hn_ : ∀ f, a_.eval (.func f) = .func (.func f) #[] #[] := fun _ => rfl
                              have hcell := ((bx_trans hx1 hx_).cell (p := ⟨gx, 1, none⟩) hgx2).trans C1.out
                              generalize a_.eval = ρ_ at *
                              go_simp
                              exact ⟨Below.refl _ _, rfl⟩
                            refine allFrom_cons ?_ ?_
                            · intro a_ w_ hk_
                              have h15 : a_.eval (.tmp 15) = .slice (some ⟨gx, 0, none⟩) 8 cx := hk_.old 15 (by kernel_rfl)
                              have hx_ := hk_.ext
                              clear hk_
                              refine flow_plain rfl ?_
                              exact gives_move rfl ⟨Below.refl _ _, h15⟩
                            refine allFrom_cons ?_ ?_
                            · intro a_ w_ hk_
                              have h198 : a_.eval (.tmp 198) = (.slice (some ⟨gx, 0, none⟩) 8 cx) := hk_.got 22 198 _ (by kernel_rfl) rfl rfl
                              have hx_ := hk_.ext
                              clear hk_
                              refine flow_plain rfl ?_
                              unfold gives
                              have hc_ : ∀ v, a_.eval (.const v) = v := fun _ => rfl
                              have hn_ : ∀ f, a_.eval (.func f) = .func (.func f) #[] #[] := fun _ => rfl
                              generalize a_.eval = ρ_ at *
                              go_simp
                              exact ⟨Below.refl _ _, rfl⟩
                            refine allFrom_cons ?_ ?_
                            · intro a_ w_ hk_
                              have h199 : a_.eval (.tmp 199) = (.pointer (some ⟨gx, 2, none⟩)) := hk_.got 23 199 _ (by kernel_rfl) rfl rfl
                              have hx_ := hk_.ext
                              clear hk_
                              refine flow_plain rfl ?_
                              unfold gives
                              have hc_ : ∀ v, a_.eval (.const v) = v := fun _ => rfl
                              have hn_ : ∀ f, a_.eval (.func f) = .func (.func f) #[] #[] := fun _ => rfl
                              have hcell := ((bx_trans hx1 hx_).cell (p := ⟨gx, 2, none⟩) hgx2).trans C2.out
                              generalize a_.eval = ρ_ at *
                              go_simp
                              exact ⟨Below.refl _ _, rfl⟩
                            refine allFrom_cons ?_ ?_
                            · intro a_ w_ hk_
                              have h197 : a_.eval (.tmp 197) = (.int .u32 (vb : Int)) := hk_.got 21 197 _ (by kernel_rfl) rfl rfl
                              have h200 : a_.eval (.tmp 200) = (.int .u32 (vc : Int)) := hk_.got 24 200 _ (by kernel_rfl) rfl rfl
                              have hx_ := hk_.ext
                              clear hk_
                              refine flow_plain rfl ?_
                              unfold gives
                              have hc_ : ∀ v, a_.eval (.const v) = v := fun _ => rfl
                              have hn_ : ∀ f, a_.eval (.func f) = .func (.func f) #[] #[] := fun _ => rfl
                              generalize a_.eval = ρ_ at *
                              go_simp
                              exact ⟨Below.refl _ _, congrArg (Value.int _) (and_w rfl rfl rfl lb lc)⟩
                            refine allFrom_cons ?_ ?_
                            · intro a_ w_ hk_
                              have h194 : a_.eval (.tmp 194) = (.int .u32 ((va &&& vb) ^^^ (va &&& vc) : Nat)) := hk_.got 18 194 _ (by kernel_rfl) rfl rfl
                              have h201 : a_.eval (.tmp 201) = (.int .u32 (vb &&& vc : Nat)) := hk_.got 25 201 _ (by kernel_rfl) rfl rfl
                              have hx_ := hk_.ext
                              clear hk_
                              refine flow_plain rfl ?_
                              unfold gives
                              have hc_ : ∀ v, a_.eval (.const v) = v := fun _ => rfl
                              have hn_ : ∀ f, a_.eval (.func f) = .func (.func f) #[] #[] := fun _ => rfl
                              generalize a_.eval = ρ_ at *
                              go_simp
                              exact ⟨Below.refl _ _, congrArg (Value.int _) (xor_w rfl rfl rfl (xr_lt32 (and_lt32 la) (and_lt32 la)) (and_lt32 lb))⟩
                            refine allFrom_cons ?_ ?_
                            · intro a_ w_ hk_
                              have h183 : a_.eval (.tmp 183) = (.int .u32 (bs0 va : Nat)) := hk_.got 7 183 _ (by kernel_rfl) rfl rfl
                              have h202 : a_.eval (.tmp 202) = (.int .u32 (majF va vb vc : Nat)) := hk_.got 26 202 _ (by kernel_rfl) rfl rfl
                              have hx_ := hk_.ext
                              clear hk_
                              refine flow_plain rfl ?_
                              unfold gives
                              have hc_ : ∀ v, a_.eval (.const v) = v := fun _ => rfl
                              have hn_ : ∀ f, a_.eval (.func f) = .func (.func f) #[] #[] := fun _ => rfl
                              generalize a_.eval = ρ_ at *
                              go_simp
                              exact ⟨Below.refl _ _, congrArg (Value.int _) (add_w rfl rfl HU5.out)⟩
                            exact allFrom_nil
                          intro f_ w_ hx_ hf_
                          have h176 : f_ 176 = (.int .u32 (va : Int)) := hf_ 0 176 _ (by decide) rfl rfl
                          have h177 : f_ 177 = (.int .u32 (rot va 2 : Nat)) := hf_ 1 177 _ (by decide) rfl rfl
                          have h178 : f_ 178 = (.int .u32 (va : Int)) := hf_ 2 178 _ (by decide) rfl rfl
                          have h179 : f_ 179 = (.int .u32 (rot va 13 : Nat)) := hf_ 3 179 _ (by decide) rfl rfl
                          have h180 : f_ 180 = (.int .u32 (rot va 2 ^^^ rot va 13 : Nat)) := hf_ 4 180 _ (by decide) rfl rfl
                          have h181 : f_ 181 = (.int .u32 (va : Int)) := hf_ 5 181 _ (by decide) rfl rfl
                          have h182 : f_ 182 = (.int .u32 (rot va 22 : Nat)) := hf_ 6 182 _ (by decide) rfl rfl
                          have h183 : f_ 183 = (.int .u32 (bs0 va : Nat)) := hf_ 7 183 _ (by decide) rfl rfl
                          have h184 : f_ 184 = (.int .u32 (va : Int)) := hf_ 8 184 _ (by decide) rfl rfl
                          have h185 : f_ 185 = (.slice (some ⟨gx, 0, none⟩) 8 cx) := hf_ 9 185 _ (by decide) rfl rfl
                          have h186 : f_ 186 = (.pointer (some ⟨gx, 1, none⟩)) := hf_ 10 186 _ (by decide) rfl rfl
                          have h187 : f_ 187 = (.int .u32 (vb : Int)) := hf_ 11 187 _ (by decide) rfl rfl
                          have h188 : f_ 188 = (.int .u32 (va &&& vb : Nat)) := hf_ 12 188 _ (by decide) rfl rfl
                          have h189 : f_ 189 = (.int .u32 (va : Int)) := hf_ 13 189 _ (by decide) rfl rfl
                          have h190 : f_ 190 = (.slice (some ⟨gx, 0, none⟩) 8 cx) := hf_ 14 190 _ (by decide) rfl rfl
                          have h191 : f_ 191 = (.pointer (some ⟨gx, 2, none⟩)) := hf_ 15 191 _ (by decide) rfl rfl
                          have h192 : f_ 192 = (.int .u32 (vc : Int)) := hf_ 16 192 _ (by decide) rfl rfl
                          have h193 : f_ 193 = (.int .u32 (va &&& vc : Nat)) := hf_ 17 193 _ (by decide) rfl rfl
                          have h194 : f_ 194 = (.int .u32 ((va &&& vb) ^^^ (va &&& vc) : Nat)) := hf_ 18 194 _ (by decide) rfl rfl
                          have h195 : f_ 195 = (.slice (some ⟨gx, 0, none⟩) 8 cx) := hf_ 19 195 _ (by decide) rfl rfl
                          have h196 : f_ 196 = (.pointer (some ⟨gx, 1, none⟩)) := hf_ 20 196 _ (by decide) rfl rfl
                          have h197 : f_ 197 = (.int .u32 (vb : Int)) := hf_ 21 197 _ (by decide) rfl rfl
                          have h198 : f_ 198 = (.slice (some ⟨gx, 0, none⟩) 8 cx) := hf_ 22 198 _ (by decide) rfl rfl
                          have h199 : f_ 199 = (.pointer (some ⟨gx, 2, none⟩)) := hf_ 23 199 _ (by decide) rfl rfl
                          have h200 : f_ 200 = (.int .u32 (vc : Int)) := hf_ 24 200 _ (by decide) rfl rfl
                          have h201 : f_ 201 = (.int .u32 (vb &&& vc : Nat)) := hf_ 25 201 _ (by decide) rfl rfl
                          have h202 : f_ 202 = (.int .u32 (majF va vb vc : Nat)) := hf_ 26 202 _ (by decide) rfl rfl
                          have h203 : f_ 203 = (.int .u32 (u5 : Int)) := hf_ 27 203 _ (by decide) rfl rfl
                          simp only [mix, List.drop_succ_cons, List.drop_zero, h176, h177, h178, h179, h180, h181, h182, h183, h184, h185, h186, h187, h188, h189, h190, h191, h192, h193, h194, h195, h196, h197, h198, h199, h200, h201, h202, h203]
                          clear h176 h177 h178 h179 h180 h181 h182 h183 h184 h185 h186 h187 h188 h189 h190 h191 h192 h193 h194 h195 h196 h197 h198 h199 h200 h201 h202 h203
                          clear hf_
                          rename World => wr3
                          have hx2 := bx_trans hx1 hx_
                          clear hx_ hx1
                          go_wp2_with fail
                          refine wp_flow (by kernel_rfl) [0, 0, 3, 0, 0, 16, 48, 0, 128, 384, 0, 1024, 3072, 0, 15360, 0, 0, 65536, 196608, 0, 524288, 1572864, 4194303, 8388607] 23 [false, false, false, false, false, false, false, false, false, false, false, false, false, false, false, false, false, false, false, false, false, false, false, false, false, false, false, false, false, false, false, false, false, false, false, false, false, false, false, false, false, false, false, false, false, false, false, false, false, false, false, false, false, false, false, false, false, false, false, false, false, false, false, false, false, false, false, false, false, false, false, false, false, false, false, false, false, false, false, false, false, false, false, false, false, false, false, false, false, false, false, false, false, false, false, false, false, false, false, false, false, false, false, false, false, false, false, false, false, false, false, false, false, false, false, false, false, false, false, false, false, false, false, false, false, false, false, false, false, false, false, false, false, false, false, false, false, false, false, false, false, false, false, false, false, false, false, false, false, false, false, false, false, false, false, false, false, false, false, false, false, false, false, false, false, false, false, false, false, false, false, false, false, false, false, false, false, false, false, false, false, false, false, false, false, false, false, false, false, false, false, false, false, false, false, false, false, false, false, false, false, false, false, false, true, true, true, true, true, true, true, true, true, true, true, true, true, true, true, true, true, true, true, true, true, true, true] (by kernel_rfl) (by decide) (by kernel_rfl) [FP.eq (.int .u32 (u4 : Int)), FP.eq (.int .u32 (u5 : Int)), FP.eq (.int .u32 (u6 : Int)), FP.eq (.int .u32 (va : Int)), FP.eq (.slice (some ⟨gx, 0, none⟩) 8 cx), FP.eq (.pointer (some ⟨gx, 1, none⟩)), FP.eq (.int .u32 (vb : Int)), FP.eq (.slice (some ⟨gx, 0, none⟩) 8 cx), FP.eq (.pointer (some ⟨gx, 2, none⟩)), FP.eq (.int .u32 (vc : Int)), FP.eq (.slice (some ⟨gx, 0, none⟩) 8 cx), FP.eq (.pointer (some ⟨gx, 3, none⟩)), FP.eq (.int .u32 (vd : Int)), FP.eq (.int .u32 (u4 : Int)), FP.eq (.int .u32 (u7 : Int)), FP.eq (.int .u32 (ve : Int)), FP.eq (.slice (some ⟨gx, 0, none⟩) 8 cx), FP.eq (.pointer (some ⟨gx, 5, none⟩)), FP.eq (.int .u32 (vf : Int)), FP.eq (.slice (some ⟨gx, 0, none⟩) 8 cx), FP.eq (.pointer (some ⟨gx, 6, none⟩)), FP.eq (.int .u32 (vg : Int)), FP.row8 wo.heap.size ([u6, va, vb, vc, u7, ve, vf, vg].map cw)] ?_ ?_
                          · refine allFrom_cons ?_ ?_
                            · intro a_ w_ hk_
                              have h19 : a_.eval (.tmp 19) = .int .u32 (u4 : Int) := hk_.old 19 (by kernel_rfl)
                              have hx_ := hk_.ext
                              clear hk_
                              refine flow_plain rfl ?_
                              exact gives_move rfl ⟨Below.refl _ _, h19⟩
                            refine allFrom_cons ?_ ?_
                            · intro a_ w_ hk_
                              have h20 : a_.eval (.tmp 20) = .int .u32 (u5 : Int) := hk_.old 20 (by kernel_rfl)
                              have hx_ := hk_.ext
                              clear hk_
                              refine flow_plain rfl ?_
                              exact gives_move rfl ⟨Below.refl _ _, h20⟩
                            refine allFrom_cons ?_ ?_
                            · intro a_ w_ hk_
                              have h204 : a_.eval (.tmp 204) = (.int .u32 (u4 : Int)) := hk_.got 0 204 _ (by kernel_rfl) rfl rfl
                              have h205 : a_.eval (.tmp 205) = (.int .u32 (u5 : Int)) := hk_.got 1 205 _ (by kernel_rfl) rfl rfl
                              have hx_ := hk_.ext
                              clear hk_
                              refine flow_plain rfl ?_
                              unfold gives
                              have hc_ : ∀ v, a_.eval (.const v) = v := fun _ => rfl
                              have hn_ : ∀ f, a_.eval (.func f) = .func (.func f) #[] #[] := fun _ => rfl
                              generalize a_.eval = ρ_ at *
                              go_simp
                              exact ⟨Below.refl _ _, congrArg (Value.int _) (add_w rfl rfl HU6.out)⟩
                            refine allFrom_cons ?_ ?_
                            · intro a_ w_ hk_
                              have h18 : a_.eval (.tmp 18) = .int .u32 (va : Int) := hk_.old 18 (by kernel_rfl)
                              have hx_ := hk_.ext
                              clear hk_
                              refine flow_plain rfl ?_
                              exact gives_move rfl ⟨Below.refl _ _, h18⟩
                            refine allFrom_cons ?_ ?_
                            · intro a_ w_ hk_
                              have h15 : a_.eval (.tmp 15) = .slice (some ⟨gx, 0, none⟩) 8 cx := hk_.old 15 (by kernel_rfl)
                              have hx_ := hk_.ext
                              clear hk_
                              refine flow_plain rfl ?_
                              exact gives_move rfl ⟨Below.refl _ _, h15⟩
                            refine allFrom_cons ?_ ?_
                            · intro a_ w_ hk_
                              have h208 : a_.eval (.tmp 208) = (.slice (some ⟨gx, 0, none⟩) 8 cx) := hk_.got 4 208 _ (by kernel_rfl) rfl rfl
                              have hx_ := hk_.ext
                              clear hk_
                              refine flow_plain rfl ?_
                              unfold gives
                              have hc_ : ∀ v, a_.eval (.const v) = v := fun _ => rfl
                              have hn_ : ∀ f, a_.eval (.func f) = .func (.func f) #[] #[] := fun _ => rfl
                              generalize a_.eval = ρ_ at *
                              go_simp
                              exact ⟨Below.refl _ _, rfl⟩
                            refine allFrom_cons ?_ ?_
                            · intro a_ w_ hk_
                              have h209 : a_.eval (.tmp 209) = (.pointer (some ⟨gx, 1, none⟩)) := hk_.got 5 209 _ (by kernel_rfl) rfl rfl
                              have hx_ := hk_.ext
                              clear hk_
                              refine flow_plain rfl ?_
                              unfold gives
                              have hc_ : ∀ v, a_.eval (.const v) = v := fun _ => rfl
                              have hn_ : ∀ f, a_.eval (.func f) = .func (.func f) #[] #[] := fun _ => rfl
                              have hcell := ((bx_trans hx2 hx_).cell (p := ⟨gx, 1, none⟩) hgx2).trans C1.out
                              generalize a_.eval = ρ_ at *
                              go_simp
                              exact ⟨Below.refl _ _, rfl⟩
                            refine allFrom_cons ?_ ?_
                            · intro a_ w_ hk_
                              have h15 : a_.eval (.tmp 15) = .slice (some ⟨gx, 0, none⟩) 8 cx := hk_.old 15 (by kernel_rfl)
                              have hx_ := hk_.ext
                              clear hk_
                              refine flow_plain rfl ?_
                              exact gives_move rfl ⟨Below.refl _ _, h15⟩
                            refine allFrom_cons ?_ ?_
                            · intro a_ w_ hk_
                              have h211 : a_.eval (.tmp 211) = (.slice (some ⟨gx, 0, none⟩) 8 cx) := hk_.got 7 211 _ (by kernel_rfl) rfl rfl
                              have hx_ := hk_.ext
                              clear hk_
                              refine flow_plain rfl ?_
                              unfold gives
                              have hc_ : ∀ v, a_.eval (.const v) = v := fun _ => rfl
                              have hn_ : ∀ f, a_.eval (.func f) = .func (.func f) #[] #[] := fun _ => rfl
                              generalize a_.eval = ρ_ at *
                              go_simp
                              exact ⟨Below.refl _ _, rfl⟩
                            refine allFrom_cons ?_ ?_
                            · intro a_ w_ hk_
                              have h212 : a_.eval (.tmp 212) = (.pointer (some ⟨gx, 2, none⟩)) := hk_.got 8 212 _ (by kernel_rfl) rfl rfl
                              have hx_ := hk_.ext
                              clear hk_
                              refine flow_plain rfl ?_
                              unfold gives
                              have hc_ : ∀ v, a_.eval (.const v) = v := fun _ => rfl
                              have hn_ : ∀ f, a_.eval (.func f) = .func (.func f) #[] #[] := fun _ => rfl
                              have hcell := ((bx_trans hx2 hx_).cell (p := ⟨gx, 2, none⟩) hgx2).trans C2.out
                              generalize a_.eval = ρ_ at *
                              go_simp
                              exact ⟨Below.refl _ _, rfl⟩
                            refine allFrom_cons ?_ ?_
                            · intro a_ w_ hk_
                              have h15 : a_.eval (.tmp 15) = .slice (some ⟨gx, 0, none⟩) 8 cx := hk_.old 15 (by kernel_rfl)
                              have hx_ := hk_.ext
                              clear hk_
                              refine flow_plain rfl ?_
                              exact gives_move rfl ⟨Below.refl _ _, h15⟩
                            refine allFrom_cons ?_ ?_
                            · intro a_ w_ hk_
                              have h214 : a_.eval (.tmp 214) = (.slice (some ⟨gx, 0, none⟩) 8 cx) := hk_.got 10 214 _ (by kernel_rfl) rfl rfl
                              have hx_ := hk_.ext
                              clear hk_
                              refine flow_plain rfl ?_
                              unfold gives
                              have hc_ : ∀ v, a_.eval (.const v) = v := fun _ => rfl
                              have hn_ : ∀ f, a_.eval (.func f) = .func (.func f) #[] #[] := fun _ => rfl
                              generalize a_.eval = ρ_ at *
                              go_simp
                              exact ⟨Below.refl _ _, rfl⟩
                            refine allFrom_cons ?_ ?_
                            · intro a_ w_ hk_
                              have h215 : a_.eval (.tmp 215) = (.pointer (some ⟨gx, 3, none⟩)) := hk_.got 11 215 _ (by kernel_rfl) rfl rfl
                              have hx_ := hk_.ext
                              clear hk_
                              refine flow_plain rfl ?_
                              unfold gives
                              have hc_ : ∀ v, a_.eval (.const v) = v := fun _ => rfl
                              have hn_ : ∀ f, a_.eval (.func f) = .func (.func f) #[] #[] := fun _ => rfl
                              have hcell := ((bx_trans hx2 hx_).cell (p := ⟨gx, 3, none⟩) hgx2).trans C3.out
                              generalize a_.eval = ρ_ at *
                              go_simp
                              exact ⟨Below.refl _ _, rfl⟩
                            refine allFrom_cons ?_ ?_
                            · intro a_ w_ hk_
                              have h19 : a_.eval (.tmp 19) = .int .u32 (u4 : Int) := hk_.old 19 (by kernel_rfl)
                              have hx_ := hk_.ext
                              clear hk_
                              refine flow_plain rfl ?_
                              exact gives_move rfl ⟨Below.refl _ _, h19⟩
                            refine allFrom_cons ?_ ?_
                            · intro a_ w_ hk_
                              have h216 : a_.eval (.tmp 216) = (.int .u32 (vd : Int)) := hk_.got 12 216 _ (by kernel_rfl) rfl rfl
                              have h217 : a_.eval (.tmp 217) = (.int .u32 (u4 : Int)) := hk_.got 13 217 _ (by kernel_rfl) rfl rfl
                              have hx_ := hk_.ext
                              clear hk_
                              refine flow_plain rfl ?_
                              unfold gives
                              have hc_ : ∀ v, a_.eval (.const v) = v := fun _ => rfl
                              have hn_ : ∀ f, a_.eval (.func f) = .func (.func f) #[] #[] := fun _ => rfl
                              generalize a_.eval = ρ_ at *
                              go_simp
                              exact ⟨Below.refl _ _, congrArg (Value.int _) (add_w rfl rfl HU7.out)⟩
                            refine allFrom_cons ?_ ?_
                            · intro a_ w_ hk_
                              have h17 : a_.eval (.tmp 17) = .int .u32 (ve : Int) := hk_.old 17 (by kernel_rfl)
                              have hx_ := hk_.ext
                              clear hk_
                              refine flow_plain rfl ?_
                              exact gives_move rfl ⟨Below.refl _ _, h17⟩
                            refine allFrom_cons ?_ ?_
                            · intro a_ w_ hk_
                              have h15 : a_.eval (.tmp 15) = .slice (some ⟨gx, 0, none⟩) 8 cx := hk_.old 15 (by kernel_rfl)
                              have hx_ := hk_.ext
                              clear hk_
                              refine flow_plain rfl ?_
                              exact gives_move rfl ⟨Below.refl _ _, h15⟩
                            refine allFrom_cons ?_ ?_
                            · intro a_ w_ hk_
                              have h220 : a_.eval (.tmp 220) = (.slice (some ⟨gx, 0, none⟩) 8 cx) := hk_.got 16 220 _ (by kernel_rfl) rfl rfl
                              have hx_ := hk_.ext
                              clear hk_
                              refine flow_plain rfl ?_
                              unfold gives
                              have hc_ : ∀ v, a_.eval (.const v) = v := fun _ => rfl
                              have hn_ : ∀ f, a_.eval (.func f) = .func (.func f) #[] #[] := fun _ => rfl
                              generalize a_.eval = ρ_ at *
                              go_simp
                              exact ⟨Below.refl _ _, rfl⟩
                            refine allFrom_cons ?_ ?_
                            · intro a_ w_ hk_
                              have h221 : a_.eval (.tmp 221) = (.pointer (some ⟨gx, 5, none⟩)) := hk_.got 17 221 _ (by kernel_rfl) rfl rfl
                              have hx_ := hk_.ext
                              clear hk_
                              refine flow_plain rfl ?_
                              unfold gives
                              have hc_ : ∀ v, a_.eval (.const v) = v := fun _ => rfl
                              have hn_ : ∀ f, a_.eval (.func f) = .func (.func f) #[] #[] := fun _ => rfl
                              have hcell := ((bx_trans hx2 hx_).cell (p := ⟨gx, 5, none⟩) hgx2).trans C5.out
                              generalize a_.eval = ρ_ at *
                              go_simp
                              exact ⟨Below.refl _ _, rfl⟩
                            refine allFrom_cons ?_ ?_
                            · intro a_ w_ hk_
                              have h15 : a_.eval (.tmp 15) = .slice (some ⟨gx, 0, none⟩) 8 cx := hk_.old 15 (by kernel_rfl)
                              have hx_ := hk_.ext
                              clear hk_
                              refine flow_plain rfl ?_
                              exact gives_move rfl ⟨Below.refl _ _, h15⟩
                            refine allFrom_cons ?_ ?_
                            · intro a_ w_ hk_
                              have h223 : a_.eval (.tmp 223) = (.slice (some ⟨gx, 0, none⟩) 8 cx) := hk_.got 19 223 _ (by kernel_rfl) rfl rfl
                              have hx_ := hk_.ext
                              clear hk_
                              refine flow_plain rfl ?_
                              unfold gives
                              have hc_ : ∀ v, a_.eval (.const v) = v := fun _ => rfl
                              have hn_ : ∀ f, a_.eval (.func f) = .func (.func f) #[] #[] := fun _ => rfl
                              generalize a_.eval = ρ_ at *
                              go_simp
                              exact ⟨Below.refl _ _, rfl⟩
                            refine allFrom_cons ?_ ?_
                            · intro a_ w_ hk_
                              have h224 : a_.eval (.tmp 224) = (.pointer (some ⟨gx, 6, none⟩)) := hk_.got 20 224 _ (by kernel_rfl) rfl rfl
                              have hx_ := hk_.ext
                              clear hk_
                              refine flow_plain rfl ?_
                              unfold gives
                              have hc_ : ∀ v, a_.eval (.const v) = v := fun _ => rfl
                              have hn_ : ∀ f, a_.eval (.func f) = .func (.func f) #[] #[] := fun _ => rfl
                              have hcell := ((bx_trans hx2 hx_).cell (p := ⟨gx, 6, none⟩) hgx2).trans C6.out
                              generalize a_.eval = ρ_ at *
                              go_simp
                              exact ⟨Below.refl _ _, rfl⟩
                            refine allFrom_cons ?_ ?_
                            · intro a_ w_ hk_
                              have h206 : a_.eval (.tmp 206) = (.int .u32 (u6 : Int)) := hk_.got 2 206 _ (by kernel_rfl) rfl rfl
                              have h207 : a_.eval (.tmp 207) = (.int .u32 (va : Int)) := hk_.got 3 207 _ (by kernel_rfl) rfl rfl
                              have h210 : a_.eval (.tmp 210) = (.int .u32 (vb : Int)) := hk_.got 6 210 _ (by kernel_rfl) rfl rfl
                              have h213 : a_.eval (.tmp 213) = (.int .u32 (vc : Int)) := hk_.got 9 213 _ (by kernel_rfl) rfl rfl
                              have h218 : a_.eval (.tmp 218) = (.int .u32 (u7 : Int)) := hk_.got 14 218 _ (by kernel_rfl) rfl rfl
                              have h219 : a_.eval (.tmp 219) = (.int .u32 (ve : Int)) := hk_.got 15 219 _ (by kernel_rfl) rfl rfl
                              have h222 : a_.eval (.tmp 222) = (.int .u32 (vf : Int)) := hk_.got 18 222 _ (by kernel_rfl) rfl rfl
                              have h225 : a_.eval (.tmp 225) = (.int .u32 (vg : Int)) := hk_.got 21 225 _ (by kernel_rfl) rfl rfl
                              have hx_ := hk_.ext
                              clear hk_
                              refine flow_plain rfl ?_
                              unfold gives
                              have hc_ : ∀ v, a_.eval (.const v) = v := fun _ => rfl
                              have hn_ : ∀ f, a_.eval (.func f) = .func (.func f) #[] #[] := fun _ => rfl
                              generalize a_.eval = ρ_ at *
                              go_simp
                              exact row8_new (Nat.le_trans hwor (bx_trans hx2 hx_).size) rfl
                            exact allFrom_nil
                          intro f_ w_ hx_ hf_
                          have h204 : f_ 204 = (.int .u32 (u4 : Int)) := hf_ 0 204 _ (by decide) rfl rfl
                          have h205 : f_ 205 = (.int .u32 (u5 : Int)) := hf_ 1 205 _ (by decide) rfl rfl
                          have h206 : f_ 206 = (.int .u32 (u6 : Int)) := hf_ 2 206 _ (by decide) rfl rfl
                          have h207 : f_ 207 = (.int .u32 (va : Int)) := hf_ 3 207 _ (by decide) rfl rfl
                          have h208 : f_ 208 = (.slice (some ⟨gx, 0, none⟩) 8 cx) := hf_ 4 208 _ (by decide) rfl rfl
                          have h209 : f_ 209 = (.pointer (some ⟨gx, 1, none⟩)) := hf_ 5 209 _ (by decide) rfl rfl
                          have h210 : f_ 210 = (.int .u32 (vb : Int)) := hf_ 6 210 _ (by decide) rfl rfl
                          have h211 : f_ 211 = (.slice (some ⟨gx, 0, none⟩) 8 cx) := hf_ 7 211 _ (by decide) rfl rfl
                          have h212 : f_ 212 = (.pointer (some ⟨gx, 2, none⟩)) := hf_ 8 212 _ (by decide) rfl rfl
                          have h213 : f_ 213 = (.int .u32 (vc : Int)) := hf_ 9 213 _ (by decide) rfl rfl
                          have h214 : f_ 214 = (.slice (some ⟨gx, 0, none⟩) 8 cx) := hf_ 10 214 _ (by decide) rfl rfl
                          have h215 : f_ 215 = (.pointer (some ⟨gx, 3, none⟩)) := hf_ 11 215 _ (by decide) rfl rfl
                          have h216 : f_ 216 = (.int .u32 (vd : Int)) := hf_ 12 216 _ (by decide) rfl rfl
                          have h217 : f_ 217 = (.int .u32 (u4 : Int)) := hf_ 13 217 _ (by decide) rfl rfl
                          have h218 : f_ 218 = (.int .u32 (u7 : Int)) := hf_ 14 218 _ (by decide) rfl rfl
                          have h219 : f_ 219 = (.int .u32 (ve : Int)) := hf_ 15 219 _ (by decide) rfl rfl
                          have h220 : f_ 220 = (.slice (some ⟨gx, 0, none⟩) 8 cx) := hf_ 16 220 _ (by decide) rfl rfl
                          have h221 : f_ 221 = (.pointer (some ⟨gx, 5, none⟩)) := hf_ 17 221 _ (by decide) rfl rfl
                          have h222 : f_ 222 = (.int .u32 (vf : Int)) := hf_ 18 222 _ (by decide) rfl rfl
                          have h223 : f_ 223 = (.slice (some ⟨gx, 0, none⟩) 8 cx) := hf_ 19 223 _ (by decide) rfl rfl
                          have h224 : f_ 224 = (.pointer (some ⟨gx, 6, none⟩)) := hf_ 20 224 _ (by decide) rfl rfl
                          have h225 : f_ 225 = (.int .u32 (vg : Int)) := hf_ 21 225 _ (by decide) rfl rfl
                          have h226 : (FP.row8 wo.heap.size ([u6, va, vb, vc, u7, ve, vf, vg].map cw)).p (f_ 226) w_ := hf_ 22 226 _ (by decide) rfl rfl
                          simp only [mix, List.drop_succ_cons, List.drop_zero, h204, h205, h206, h207, h208, h209, h210, h211, h212, h213, h214, h215, h216, h217, h218, h219, h220, h221, h222, h223, h224, h225]
                          clear h204 h205 h206 h207 h208 h209 h210 h211 h212 h213 h214 h215 h216 h217 h218 h219 h220 h221 h222 h223 h224 h225
                          clear hf_
                          have h226' : (FP.row8 wo.heap.size ([u6, va, vb, vc, u7, ve, vf, vg].map cw)).p (f_ 226) w_ := h226
                          obtain ⟨gy, cy, he, hy1, hy2, hy3⟩ := h226'
                          rw [he]
                          have HY := hid hy3
                          have HB9 := hid (HBR.out.trans ((bx_trans hx2 hx_).mono HBR.out.size))
                          clear hx_ hx2 h226 hy3 he HBR
                          go_wp2_with fail
                          go_roundw
                          case rel => exact ⟨k + 1, by omega, by go_num, ⟨gy, cy, rfl, hy1, hy2, by rw [HSTEP.out]; exact HY.out⟩, HB9.out⟩
                          case measure => simp [intOf]; omega
                          -- >>C
                        · have hk3 : k = 64 := by omega
                          subst hk3
                          clear hk hk64
                          have hvl := (rounds_ok hs0.1 hs0.2 hWl 64 (Nat.le_refl _)).1
                          have hvt := (rounds_ok hs0.1 hs0.2 hWl 64 (Nat.le_refl _)).2
                          obtain ⟨V, hV⟩ : ∃ V, V = roundsF s0 W 64 := ⟨_, rfl⟩
                          rw [← hV] at hvl hvt hcx HFS
                          have hbs6 := hbs5.below hbr hbs5.lt
                          have hb76 := hb75.below hbr hb75.lt
                          have hb26 := hb25.below hbr hb25.lt
                          have hbw6 := bx_trans hbw5 hbr
                          have hrel6 : Blk wr gs 52 ((addTo s0 V 0).map cw).toArray := by
                            have : addTo s0 V 0 = s0 := by unfold addTo; simp
                            rw [this]
                            exact hbs6
                          have HCX := hid hcx
                          have hgxs : gx ≠ gs := by omega
                          clear hV hbr hbs5 hb75 hb25 hbw5 HRW5 hcx hbs6
                          go_wp2_with fail
                          go_loopw [21] (fun v21 wz => ∃ i : Nat, i ≤ 8 ∧ v21 = .int .i64 (i : Int) ∧ Blk wz gs 52 ((addTo s0 V i).map cw).toArray ∧ (∀ j v, (V.map cw)[j]? = some v → wz.cell? ⟨gx, j, none⟩ = some v) ∧ Blk wz g7 52 (rootL.map cw).toArray ∧ Blk wz g2 tH (Value.agg (List.replicate 32 (cb 0)).toArray).cells ∧ Below w.heap.size w wz) (fun v21 _ => 8 - (intOf v21).toNat)
                          case atStart => exact ⟨0, by omega, rfl, hrel6, HCX.out, hb76, hb26, hbw6⟩
                          case round =>
                            obtain ⟨i, hi, rfl, hbs, hcv, hb7, hb2, hbw⟩ := hrel
                            clear hrel6 HCX hb76 hb26 hbw6
                            rename World => wz
                            by_cases hi8 : i < 8
                            · -- <<D
                              have hst := addTo_step hs0.1 hvl hi8
                              have hget := addTo_get hs0.1 hvl hi8
                              have hl8 := addTo_length hs0.1 hvl (Nat.le_of_lt hi8)
                              have cs := rd_cw (rd_of_row hbs rfl) (k := i) (by rw [hl8]; exact hi8)
                              have cv := hcv i (cw (V.getD i 0)) (by rw [List.getElem?_map, List.getElem?_eq_getElem (by omega)]; simp [List.getD, hvl, hi8])
                              rw [hget] at cs
                              have l1 := hs0.2.getD i
                              have l2 := hvt.getD i
                              generalize s0.getD i 0 = p1 at *
                              generalize V.getD i 0 = p2 at *
                              obtain ⟨q, hq⟩ : ∃ q, q = (p1 + p2) % 4294967296 := ⟨_, rfl⟩
                              rw [← hq] at hst
                              have HQ := hid hq
                              have HST := hid hst
                              have CS := hid cs
                              have CV := hid (show wz.cell? ⟨gx, i, none⟩ = some (.int .u32 (p2 : Int)) from cv)
                              have HCV := hid hcv
                              have hgsl := hbs.lt
                              have hgxl : gx < wz.heap.size := Nat.lt_of_lt_of_le (World.block_lt_of_cell? wz _ cv) (Nat.le_refl _)
                              clear hq hst cs cv hget hl8 hcv
                              go_wp2_with fail
                              refine wp_flow (by kernel_rfl) [0, 0, 3, 7, 0, 0, 48, 112, 255, 511, 1023] 10 [false, false, false, false, false, false, false, false, false, false, false, false, false, false, false, false, false, false, false, false, false, false, false, false, false, false, false, false, false, false, false, false, false, false, false, false, false, false, false, false, false, false, false, false, false, false, false, false, false, false, false, false, false, false, false, false, false, false, false, false, false, false, false, false, false, false, false, false, false, false, false, false, false, false, false, false, false, false, false, false, false, false, false, false, false, false, false, false, false, false, false, false, false, false, false, false, false, false, false, false, false, false, false, false, false, false, false, false, false, false, false, false, false, false, false, false, false, false, false, false, false, false, false, false, false, false, false, false, false, false, false, false, false, false, false, false, false, false, false, false, false, false, false, false, false, false, false, false, false, false, false, false, false, false, false, false, false, false, false, false, false, false, false, false, false, false, false, false, false, false, false, false, false, false, false, false, false, false, false, false, false, false, false, false, false, false, false, false, false, false, false, false, false, false, false, false, false, false, false, false, false, false, false, false, false, false, false, false, false, false, false, false, false, false, false, false, false, false, false, false, false, false, false, false, false, false, false, false, false, false, false, true, true, true, true, true, true, true, true, true, true] (by kernel_rfl) (by decide) (by kernel_rfl) [FP.eq (.slice (some ⟨gs, 0, none⟩) 8 8), FP.eq (.int .i64 (i : Int)), FP.eq (.pointer (some ⟨gs, i, none⟩)), FP.eq (.int .u32 (p1 : Int)), FP.eq (.slice (some ⟨gx, 0, none⟩) 8 cx), FP.eq (.int .i64 (i : Int)), FP.eq (.pointer (some ⟨gx, i, none⟩)), FP.eq (.int .u32 (p2 : Int)), FP.eq (.int .u32 (q : Int)), FP.eq (.pointer (some ⟨gs, i, none⟩))] ?_ ?_
                              · refine allFrom_cons ?_ ?_
                                · intro a_ w_ hk_
                                  have h8 : a_.eval (.tmp 8) = .slice (some ⟨gs, 0, none⟩) 8 8 := hk_.old 8 (by kernel_rfl)
                                  have hx_ := hk_.ext
                                  clear hk_
                                  refine flow_plain rfl ?_
                                  exact gives_move rfl ⟨Below.refl _ _, h8⟩
                                refine allFrom_cons ?_ ?_
                                · intro a_ w_ hk_
                                  have h21 : a_.eval (.tmp 21) = .int .i64 (i : Int) := hk_.old 21 (by kernel_rfl)
                                  have hx_ := hk_.ext
                                  clear hk_
                                  refine flow_plain rfl ?_
                                  exact gives_move rfl ⟨Below.refl _ _, h21⟩
                                refine allFrom_cons ?_ ?_
                                · intro a_ w_ hk_
                                  have h231 : a_.eval (.tmp 231) = (.slice (some ⟨gs, 0, none⟩) 8 8) := hk_.got 0 231 _ (by kernel_rfl) rfl rfl
                                  have h232 : a_.eval (.tmp 232) = (.int .i64 (i : Int)) := hk_.got 1 232 _ (by kernel_rfl) rfl rfl
                                  have hx_ := hk_.ext
                                  clear hk_
                                  refine flow_plain rfl ?_
                                  unfold gives
                                  have hc_ : ∀ v, a_.eval (.const v) = v := fun _ => rfl
                                  have hn_ : ∀ f, a_.eval (.func f) = .func (.func f) #[] #[] := fun _ => rfl
                                  generalize a_.eval = ρ_ at *
                                  go_simp
                                  exact ⟨Below.refl _ _, rfl⟩
                                refine allFrom_cons ?_ ?_
                                · intro a_ w_ hk_
                                  have h233 : a_.eval (.tmp 233) = (.pointer (some ⟨gs, i, none⟩)) := hk_.got 2 233 _ (by kernel_rfl) rfl rfl
                                  have hx_ := hk_.ext
                                  clear hk_
                                  refine flow_plain rfl ?_
                                  unfold gives
                                  have hc_ : ∀ v, a_.eval (.const v) = v := fun _ => rfl
                                  have hn_ : ∀ f, a_.eval (.func f) = .func (.func f) #[] #[] := fun _ => rfl
                                  have hcell := (hx_.cell (p := ⟨gs, i, none⟩) hgsl).trans CS.out
                                  generalize a_.eval = ρ_ at *
                                  go_simp
                                  exact ⟨Below.refl _ _, rfl⟩
                                refine allFrom_cons ?_ ?_
                                · intro a_ w_ hk_
                                  have h15 : a_.eval (.tmp 15) = .slice (some ⟨gx, 0, none⟩) 8 cx := hk_.old 15 (by kernel_rfl)
                                  have hx_ := hk_.ext
                                  clear hk_
                                  refine flow_plain rfl ?_
                                  exact gives_move rfl ⟨Below.refl _ _, h15⟩
                                refine allFrom_cons ?_ ?_
                                · intro a_ w_ hk_
                                  have h21 : a_.eval (.tmp 21) = .int .i64 (i : Int) := hk_.old 21 (by kernel_rfl)
                                  have hx_ := hk_.ext
                                  clear hk_
                                  refine flow_plain rfl ?_
                                  exact gives_move rfl ⟨Below.refl _ _, h21⟩
                                refine allFrom_cons ?_ ?_
                                · intro a_ w_ hk_
                                  have h235 : a_.eval (.tmp 235) = (.slice (some ⟨gx, 0, none⟩) 8 cx) := hk_.got 4 235 _ (by kernel_rfl) rfl rfl
                                  have h236 : a_.eval (.tmp 236) = (.int .i64 (i : Int)) := hk_.got 5 236 _ (by kernel_rfl) rfl rfl
                                  have hx_ := hk_.ext
                                  clear hk_
                                  refine flow_plain rfl ?_
                                  unfold gives
                                  have hc_ : ∀ v, a_.eval (.const v) = v := fun _ => rfl
                                  have hn_ : ∀ f, a_.eval (.func f) = .func (.func f) #[] #[] := fun _ => rfl
                                  generalize a_.eval = ρ_ at *
                                  go_simp
                                  exact ⟨Below.refl _ _, rfl⟩
                                refine allFrom_cons ?_ ?_
                                · intro a_ w_ hk_
                                  have h237 : a_.eval (.tmp 237) = (.pointer (some ⟨gx, i, none⟩)) := hk_.got 6 237 _ (by kernel_rfl) rfl rfl
                                  have hx_ := hk_.ext
                                  clear hk_
                                  refine flow_plain rfl ?_
                                  unfold gives
                                  have hc_ : ∀ v, a_.eval (.const v) = v := fun _ => rfl
                                  have hn_ : ∀ f, a_.eval (.func f) = .func (.func f) #[] #[] := fun _ => rfl
                                  have hcell := (hx_.cell (p := ⟨gx, i, none⟩) hgxl).trans CV.out
                                  generalize a_.eval = ρ_ at *
                                  go_simp
                                  exact ⟨Below.refl _ _, rfl⟩
                                refine allFrom_cons ?_ ?_
                                · intro a_ w_ hk_
                                  have h234 : a_.eval (.tmp 234) = (.int .u32 (p1 : Int)) := hk_.got 3 234 _ (by kernel_rfl) rfl rfl
                                  have h238 : a_.eval (.tmp 238) = (.int .u32 (p2 : Int)) := hk_.got 7 238 _ (by kernel_rfl) rfl rfl
                                  have hx_ := hk_.ext
                                  clear hk_
                                  refine flow_plain rfl ?_
                                  unfold gives
                                  have hc_ : ∀ v, a_.eval (.const v) = v := fun _ => rfl
                                  have hn_ : ∀ f, a_.eval (.func f) = .func (.func f) #[] #[] := fun _ => rfl
                                  generalize a_.eval = ρ_ at *
                                  go_simp
                                  exact ⟨Below.refl _ _, congrArg (Value.int _) (add_w rfl rfl HQ.out)⟩
                                refine allFrom_cons ?_ ?_
                                · intro a_ w_ hk_
                                  have h231 : a_.eval (.tmp 231) = (.slice (some ⟨gs, 0, none⟩) 8 8) := hk_.got 0 231 _ (by kernel_rfl) rfl rfl
                                  have h232 : a_.eval (.tmp 232) = (.int .i64 (i : Int)) := hk_.got 1 232 _ (by kernel_rfl) rfl rfl
                                  have hx_ := hk_.ext
                                  clear hk_
                                  refine flow_plain rfl ?_
                                  unfold gives
                                  have hc_ : ∀ v, a_.eval (.const v) = v := fun _ => rfl
                                  have hn_ : ∀ f, a_.eval (.func f) = .func (.func f) #[] #[] := fun _ => rfl
                                  generalize a_.eval = ρ_ at *
                                  go_simp
                                  exact ⟨Below.refl _ _, rfl⟩
                                exact allFrom_nil
                              intro f_ w_ hx_ hf_
                              have h231 : f_ 231 = (.slice (some ⟨gs, 0, none⟩) 8 8) := hf_ 0 231 _ (by decide) rfl rfl
                              have h232 : f_ 232 = (.int .i64 (i : Int)) := hf_ 1 232 _ (by decide) rfl rfl
                              have h233 : f_ 233 = (.pointer (some ⟨gs, i, none⟩)) := hf_ 2 233 _ (by decide) rfl rfl
                              have h234 : f_ 234 = (.int .u32 (p1 : Int)) := hf_ 3 234 _ (by decide) rfl rfl
                              have h235 : f_ 235 = (.slice (some ⟨gx, 0, none⟩) 8 cx) := hf_ 4 235 _ (by decide) rfl rfl
                              have h236 : f_ 236 = (.int .i64 (i : Int)) := hf_ 5 236 _ (by decide) rfl rfl
                              have h237 : f_ 237 = (.pointer (some ⟨gx, i, none⟩)) := hf_ 6 237 _ (by decide) rfl rfl
                              have h238 : f_ 238 = (.int .u32 (p2 : Int)) := hf_ 7 238 _ (by decide) rfl rfl
                              have h239 : f_ 239 = (.int .u32 (q : Int)) := hf_ 8 239 _ (by decide) rfl rfl
                              have h240 : f_ 240 = (.pointer (some ⟨gs, i, none⟩)) := hf_ 9 240 _ (by decide) rfl rfl
                              simp only [mix, List.drop_succ_cons, List.drop_zero, h231, h232, h233, h234, h235, h236, h237, h238, h239, h240]
                              clear h231 h232 h233 h234 h235 h236 h237 h238 h239 h240
                              clear hf_
                              rename World => wy
                              have hbsy := hbs.below hx_ hbs.lt
                              have cy := hbsy.cell i
                              rw [hbs.cell] at CS
                              rw [CS.out] at cy
                              have fy := hbsy.frozen i
                              have hput := setCell_put hbsy (i := i) (.int .u32 (q : Int))
                              rw [HST.out] at hput
                              have HP := hid hput.blk
                              have HC2 : Hid (∀ j v, (V.map cw)[j]? = some v → (wy.setCell ⟨gs, i, none⟩ (.int .u32 (q : Int))).cell? ⟨gx, j, none⟩ = some v) := hid fun j v hv => (World.cell?_of_block (hput.oth gx hgxs)).trans ((hx_.cell (p := ⟨gx, j, none⟩) hgxl).trans (HCV.out j v hv))
                              have H7 := hid (hput.other (hb7.below hx_ hb7.lt) hg78)
                              have H2 := hid (hput.other (hb2.below hx_ hb2.lt) hg28)
                              have HW := hid (bx_put (bx_trans hbw hx_) hput hw8)
                              clear hput hbs hbsy hb7 hb2 hbw hx_
                              go_wp2
                              go_roundw
                              case rel => exact ⟨i + 1, by omega, by go_num, HP.out, HC2.out, H7.out, H2.out, HW.out⟩
                              case measure => simp [intOf]; omega
                              -- >>D
                            · have hi3 : i = 8 := by omega
                              subst hi3
                              rw [addTo_all hs0.1 hvl] at hbs
                              have HSR : Hid (SRel w g2 g7 gs pb (x + 1) wz) := hid ⟨by rw [HFS.out]; exact hbs, hb7, hb2, hbw⟩
                              clear hbs hcv hb7 hb2 hbw
                              go_wp2
                              go_roundw
                              case rel => exact ⟨x + 1, at_ + 64, by omega, by have := HAT.out; omega, by go_num, HSR.out⟩
                              case measure => have := HAT.out; simp [intOf]; omega
            · have hxm2 : x = m := by omega
              subst hxm2
              have hatL : ¬ (at_ : Int) < (L : Int) := by have := HAT.out; have := HLL.out; omega
              obtain ⟨hbs, hb7, hb2, hbw⟩ := HRS.out
              have hs0 := foldF_ok pb x
              have hsh : shaL b = outL (foldF pb beginL x) := by
                unfold shaL
                rw [HPB.out, HML.out, Nat.mul_div_cancel_left _ (by decide : 0 < 64)]
              generalize foldF pb beginL x = S at *
              have hol : (outL S).length = 32 := by simp [outL]
              have HRES2 : Hid (R = outL S) := hid (by rw [HRES.out, hsh])
              clear hsh HRS hxm hx hb7 HRES
              go_wp2_with (refine wpList_alloc rfl _ rfl zeroH ?_; intro g22 w22 hg22 hg22' hblk22 hb22)
              have hf0 : Blk w22 g22 tH (fillTo (outL S) 0) := by
                rw [fillTo_zero, hol]
                exact hblk22
              have hbs22 := hbs.below hb22 hbs.lt
              have hb222 := hb2.below hb22 hb2.lt
              have hbw22 := bx_trans hbw hb22
              have hne1 : gs ≠ g22 := by have := hbs.lt; omega
              have hne2 : g2 ≠ g22 := by have := hb2.lt; omega
              have hw22 : w.heap.size ≤ g22 := Nat.le_trans hbw.size hg22
              clear hblk22 hbs hb2 hbw hb22
              go_loopw [23] (fun v23 wz => ∃ i : Nat, i ≤ 8 ∧ v23 = .int .i64 (i : Int) ∧ Blk wz g22 tH (fillTo (outL S) (4 * i)) ∧ Blk wz gs 52 (S.map cw).toArray ∧ Blk wz g2 tH (Value.agg (List.replicate 32 (cb 0)).toArray).cells ∧ Below w.heap.size w wz) (fun v23 _ => 8 - (intOf v23).toNat)
              case atStart => exact ⟨0, by omega, rfl, hf0, hbs22, hb222, hbw22⟩
              case round =>
                obtain ⟨i, hi, rfl, hbf, hbs, hb2, hbw⟩ := hrel
                clear hf0 hbs22 hb222 hbw22
                rename World => wz
                by_cases hi8 : i < 8
                · -- <<E
                  have cs := rd_cw (rd_of_row hbs rfl) (k := i) (by rw [hs0.1]; exact hi8)
                  have lsv := hs0.2.getD i
                  have key : ∀ r, r < 4 → ∀ d : UInt8, d = byN (S.getD i 0 / 2 ^ (24 - 8 * r)) → (fillTo (outL S) (4 * i + r)).setIfInBounds (4 * i + r) (.int .u8 (d.toNat : Int)) = fillTo (outL S) (4 * i + r + 1) := by
                    intro r hr d hd
                    have hk : 4 * i + r < (outL S).length := by omega
                    have hv : (outL S)[4 * i + r] = d := by
                      rw [hd]
                      simp only [outL, List.getElem_map, List.getElem_range]
                      rw [show (4 * i + r) / 4 = i by omega, show (4 * i + r) % 4 = r by omega]
                    rw [← hv]
                    exact fillTo_step (outL S) (4 * i + r) hk
                  have keyg : ∀ r, r < 4 → (fillTo (outL S) (4 * i + r))[4 * i + r]? = some (.int .u8 0) := fun r hr => fillTo_get (outL S) (4 * i + r) (by omega)
                  have hu : ∀ e : Nat, IntKind.u8.wrap ((S.getD i 0 : Int) / 2 ^ e) = (((byN (S.getD i 0 / 2 ^ e)).toNat : Nat) : Int) := fun e => u8_shr (S.getD i 0) e
                  have hu0 := hu 24
                  have hu1 := hu 16
                  have hu2 := hu 8
                  have hu3 := hu 0
                  have k0 := key 0 (by omega) _ rfl
                  have k1 := key 1 (by omega) _ rfl
                  have k2 := key 2 (by omega) _ rfl
                  have k3 := key 3 (by omega) _ rfl
                  have n0 := keyg 0 (by omega)
                  have n1 := keyg 1 (by omega)
                  have n2 := keyg 2 (by omega)
                  have n3 := keyg 3 (by omega)
                  clear key keyg hu
                  rw [show (24 - 8 * 0) = 24 from rfl] at k0
                  rw [show (24 - 8 * 1) = 16 from rfl] at k1
                  rw [show (24 - 8 * 2) = 8 from rfl] at k2
                  rw [show (24 - 8 * 3) = 0 from rfl] at k3
                  generalize byN (S.getD i 0 / 2 ^ 24) = d0 at *
                  generalize byN (S.getD i 0 / 2 ^ 16) = d1 at *
                  generalize byN (S.getD i 0 / 2 ^ 8) = d2 at *
                  generalize byN (S.getD i 0 / 2 ^ 0) = d3 at *
                  generalize S.getD i 0 = sv at *
                  have hv0 : IntKind.u8.wrap ((sv : Int) / 16777216) = (d0.toNat : Int) := hu0
                  have hv1 : IntKind.u8.wrap ((sv : Int) / 65536) = (d1.toNat : Int) := hu1
                  have hv2 : IntKind.u8.wrap ((sv : Int) / 256) = (d2.toNat : Int) := hu2
                  have hv3 : IntKind.u8.wrap (sv : Int) = (d3.toNat : Int) := by rw [← hu3]; simp
                  obtain ⟨p0, hp0⟩ : ∃ p : Nat, p = 4 * i := ⟨_, rfl⟩
                  obtain ⟨p1, hp1⟩ : ∃ p : Nat, p = 4 * i + 1 := ⟨_, rfl⟩
                  obtain ⟨p2, hp2⟩ : ∃ p : Nat, p = 4 * i + 2 := ⟨_, rfl⟩
                  obtain ⟨p3, hp3⟩ : ∃ p : Nat, p = 4 * i + 3 := ⟨_, rfl⟩
                  have e0 : 4 * (i : Int) = (p0 : Int) := by omega
                  have e1 : (p0 : Int) + 1 = (p1 : Int) := by omega
                  have e2 : (p0 : Int) + 2 = (p2 : Int) := by omega
                  have e3 : (p0 : Int) + 3 = (p3 : Int) := by omega
                  have i0 : (p0 : Int) < 32 := by omega
                  have i1 : (p1 : Int) < 32 := by omega
                  have i2 : (p2 : Int) < 32 := by omega
                  have i3 : (p3 : Int) < 32 := by omega
                  have hq : 4 * (i + 1) = 4 * i + 3 + 1 := by omega
                  rw [show 4 * i + 0 = 4 * i from rfl, show 4 * i + 0 + 1 = 4 * i + 1 from rfl] at k0
                  rw [show 4 * i + 0 = 4 * i from rfl] at n0
                  rw [show 4 * i + 1 + 1 = 4 * i + 2 from rfl] at k1
                  rw [show 4 * i + 2 + 1 = 4 * i + 3 from rfl] at k2
                  rw [← hp1] at k0 k1 n1
                  rw [← hp2] at k1 k2 n2
                  rw [← hp3] at k2 k3 n3
                  rw [← hp0] at hbf n0 k0
                  have q0 := setCell_put hbf (i := p0) (.int .u8 (d0.toNat : Int))
                  rw [k0] at q0
                  have q1 := setCell_put q0.blk (i := p1) (.int .u8 (d1.toNat : Int))
                  rw [k1] at q1
                  have q2 := setCell_put q1.blk (i := p2) (.int .u8 (d2.toNat : Int))
                  rw [k2] at q2
                  have q3 := setCell_put q2.blk (i := p3) (.int .u8 (d3.toNat : Int))
                  rw [k3] at q3
                  have s1 := q0.other hbs hne1
                  have s2 := q1.other s1 hne1
                  have s3 := q2.other s2 hne1
                  have s4 := q3.other s3 hne1
                  have z1 := q0.other hb2 hne2
                  have z2 := q1.other z1 hne2
                  have z3 := q2.other z2 hne2
                  have z4 := q3.other z3 hne2
                  have b1 := bx_put hbw q0 hw22
                  have b2 := bx_put b1 q1 hw22
                  have b3 := bx_put b2 q2 hw22
                  have b4 := bx_put b3 q3 hw22
                  have c0 := (hbf.cell p0).trans n0
                  have c1 := (q0.blk.cell p1).trans n1
                  have c2 := (q1.blk.cell p2).trans n2
                  have c3 := (q2.blk.cell p3).trans n3
                  have f0 := hbf.frozen p0
                  have f1 := q0.blk.frozen p1
                  have f2 := q1.blk.frozen p2
                  have f3 := q2.blk.frozen p3
                  have g0 := cs
                  rw [hbs.cell] at cs
                  have g1 := (s1.cell i).trans cs
                  have g2' := (s2.cell i).trans cs
                  have g3 := (s3.cell i).trans cs
                  have HZ := hid (⟨q3.blk, s4, z4, b4⟩ : _ ∧ _ ∧ _ ∧ _)
                  have HQ4 := hid hq
                  have HP3 := hid hp3
                  clear q0 q1 q2 q3 s1 s2 s3 s4 z1 z2 z3 z4 b1 b2 b3 b4 k0 k1 k2 k3 n0 n1 n2 n3 hq hu0 hu1 hu2 hu3 cs hbf hbs hb2 hbw hp0 hp1 hp2 hp3
                  go_wp2
                  go_roundw
                  case rel => exact ⟨i + 1, by omega, by go_num, by rw [HQ4.out, ← HP3.out]; exact HZ.out.1, HZ.out.2.1, HZ.out.2.2.1, HZ.out.2.2.2⟩
                  case measure => simp [intOf]; omega
                  -- >>E
                · have hi3 : i = 8 := by omega
                  subst hi3
                  have hall : fillTo (outL S) (4 * 8) = ((outL S).map cb).toArray := by
                    have := fillTo_all (outL S)
                    rwa [hol] at this
                  rw [hall] at hbf
                  generalize outL S = O at *
                  have hT := aggHL hol
                  have hcf := blk_cells hbf
                  clear hall
                  go_wp2_with (first
                    | (refine wpList_load_agg rfl _ _ rfl _ _ rfl (O.map cb) hT hcf ?_)
                    | (refine wpList_store_agg rfl _ _ _ rfl _ _ rfl (O.map cb).toArray rfl (aggHS hol) hb2 (szH hol) (one_cbA O) ?_; intro w30 hput))
                  rw [splH hol] at hput
                  exact bodyPost_ret (results_agg (cs := O.map cb) rfl rfl hT (blk_cells hput.blk)) rfl ⟨by rw [HRES2.out], bx_put hbw hput hg2⟩
end Go.Proofs.YtohkfnmggmlogaaDoor
