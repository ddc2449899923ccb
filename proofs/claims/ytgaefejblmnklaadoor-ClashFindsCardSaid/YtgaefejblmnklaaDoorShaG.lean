
/- SHA-256: Of. -/
import Derived.Test.YtgaefejblmnklaaDoorShaF
import Derived.Shelf.Abstract
namespace Go.Proofs.YtgaefejblmnklaaDoor
open Go.RowKit
set_option linter.unusedVariables false
attribute [local go_sem] Oper.semAt_some

theorem semAt_exec {r : Option Nat} {o : Oper} (ρ : Operand → Value) (h : ∀ c, o.op ≠ .defer c) : o.semAt r ρ = execOp ρ o := by
  cases r with
  | none => rfl
  | some l => exact Oper.semAt_some l ρ o h
theorem wpListIn_load_agg {F : Fence} (hF : ∀ f, F.fn f) {n : Nat} {P : Program} {ops : Array Oper} {rest : List Oper} {o : Oper} {a : Act} {w : World} {Q : Exit → Act → World → Prop} (hgd : o.guard = none) (ty : TypeId) (x : Operand) (ho : o.op = .load ty x)
    (g off : Nat) (hx : a.eval x = .pointer (some ⟨g, off, none⟩)) (cs : List Value) (hT : AggT P ty cs.length) (hc : ∀ j v, cs[j]? = some v → w.cell? ⟨g, off + j, none⟩ = some v)
    (h : wpListIn F n P ops Q rest (a.put o.dst (.agg cs.toArray)) w) : wpListIn F n P ops Q (o :: rest) a w :=
  wpListIn_plain hgd fun _ hK => by
    refine ⟨fun f _ => hF f, ?_⟩
    rw [semAt_exec _ (by rw [ho]; intro c; exact nofun)]
    unfold execOp
    simp only [ho, hx, Instr.loadAt, Instr.sureAddr, Sem.run_bind, Sem.run_pure, Result.andThen_ok, run_load_agg hT hc]
    exact hK _ _ h
theorem wpListIn_store_agg {F : Fence} (hF : ∀ f, F.fn f) {n : Nat} {P : Program} {ops : Array Oper} {rest : List Oper} {o : Oper} {a : Act} {w : World} {Q : Exit → Act → World → Prop} (hgd : o.guard = none) (ty : TypeId) (x y : Operand) (ho : o.op = .store ty x y)
    (g off : Nat) (hx : a.eval x = .pointer (some ⟨g, off, none⟩)) (vs : Array Value) (hy : a.eval y = .agg vs) (hT : AggT P ty vs.size) {t : TypeId} {cur : Array Value} (hb : Blk w g t cur) (hl : off + vs.size ≤ cur.size)
    (h1 : ∀ v ∈ vs.toList, v.oneCell' = true) (h : ∀ w1, Put w w1 g t (spl cur off vs.toList) → wpListIn F n P ops Q rest (a.put o.dst undef) w1) : wpListIn F n P ops Q (o :: rest) a w :=
  wpListIn_plain hgd fun _ hK => by
    refine ⟨fun f _ => hF f, ?_⟩
    rw [semAt_exec _ (by rw [ho]; intro c; exact nofun)]
    unfold execOp
    simp only [ho, hx, hy, Instr.storeAt, Instr.sureAddr, Sem.run_bind, Sem.run_pure, Result.andThen_ok, run_store_agg hT hb hl h1]
    exact hK _ _ (h _ (setRow_put hb _))
/-- A list of bytes under way. -/
def padTo (l : List UInt8) (j : Nat) : List UInt8 := l ++ 128 :: List.replicate j 0
theorem padTo_succ (l : List UInt8) (j : Nat) : padTo l (j + 1) = padTo l j ++ [0] := by simp [padTo, List.replicate_succ']
theorem padL_eq (l : List UInt8) : padL l = padTo l (pads l.length) ++ len8 (l.length * 8) := rfl
theorem rd_chunk {w : World} {B gb x m : Nat} {b : List UInt8} (h : Rd w B (some ⟨gb, 0, none⟩) (b.map cb)) (hx : x < m) (hm : b.length = 64 * m) : Rd w B (some ⟨gb, 64 * x, none⟩) ((chunk b x).map cb) ∧ (chunk b x).length = 64 := by
  have hl : (chunk b x).length = 64 := by unfold chunk; rw [List.length_take, List.length_drop]; omega
  refine ⟨?_, hl⟩
  obtain ⟨g, off, hA, hB, hc⟩ := h.at_ (k := 0) (by rw [List.length_map]; omega)
  injection hA with hA
  injection hA with h1 h2
  subst h1 h2
  refine .inr ⟨gb, 64 * x, rfl, hB, fun i v hv => ?_⟩
  have hi : i < 64 := by
    have := (List.getElem?_eq_some_iff.1 hv).1
    rwa [List.length_map, hl] at this
  have := hc (64 * x + i) v (by
    rw [← hv, List.getElem?_map, List.getElem?_map]
    congr 1
    unfold chunk
    rw [List.getElem?_take, if_pos hi, List.getElem?_drop])
  rwa [Nat.zero_add] at this
theorem addF_lt' (s v : List Nat) : Lt32 (addF s v) := addF_lt s v
def stF {m : Nat} (b : List UInt8) (pre : List (Fin m)) : List Nat := pre.foldl (fun s i => moreF s (chunk b i.val)) beginL
theorem stF_snoc {m : Nat} (b : List UInt8) (pre : List (Fin m)) (x : Fin m) : stF b (pre ++ [x]) = moreF (stF b pre) (chunk b x.val) := by simp [stF]
theorem moreF_ok {s : List Nat} (hs : s.length = 8) (hl : Lt32 s) (b : List UInt8) : (moreF s b).length = 8 ∧ Lt32 (moreF s b) := by
  have h := rounds_ok hs hl (sched_length b) 64 (Nat.le_refl _)
  exact ⟨addF_length hs h.1, addF_lt _ _⟩
theorem foldl_ok {m : Nat} (b : List UInt8) : ∀ (pre : List (Fin m)) (s : List Nat), s.length = 8 → Lt32 s → (pre.foldl (fun s i => moreF s (chunk b i.val)) s).length = 8 ∧ Lt32 (pre.foldl (fun s i => moreF s (chunk b i.val)) s)
  | [], s, h1, h2 => ⟨h1, h2⟩
  | x :: pre, s, h1, h2 => by
    have h := moreF_ok h1 h2 (chunk b x.val)
    exact foldl_ok b pre _ h.1 h.2
theorem beginL_lt : Lt32 beginL := by
  intro x hx
  simp only [beginL, List.mem_cons, List.not_mem_nil, or_false] at hx
  rcases hx with rfl | rfl | rfl | rfl | rfl | rfl | rfl | rfl <;> decide
theorem stF_ok {m : Nat} (b : List UInt8) (pre : List (Fin m)) : (stF b pre).length = 8 ∧ Lt32 (stF b pre) := foldl_ok b pre _ rfl beginL_lt
theorem stF_all {m : Nat} (b : List UInt8) {ys : List (Fin m)} (h : ys.map Fin.val = List.range m) : stF b ys = foldF b beginL m := by
  unfold stF foldF
  rw [← h, List.foldl_map]
theorem wide_round (l : Nat) : ∀ f, (Fence.wide.inRound l).fn f := fun _ => trivial
set_option maxRecDepth 100000 in
set_option maxHeartbeats 1000000 in
theorem Of_any (w : World) (hL : Laid w) {A : Option Addr} {c B' : Nat} {ls : List (List UInt8)} (hr : RdBB w B' A ls) (hB' : B' ≤ w.heap.size) (hn : ls.length ≤ 1000000000) (ht : ls.flatten.length ≤ 900000000) :
    Calls Tryd.prog 26 #[.slice A ls.length c] w fun e w' => e = .returned (.agg ((shaL ls.flatten).map cb).toArray) ∧ Below w.heap.size w w' := by
  have HL := hid hL
  have HR := hid hr
  clear hL hr
  obtain ⟨l, hl⟩ : ∃ l, l = ls.flatten := ⟨_, rfl⟩
  rw [← hl] at ht
  have HLF := hid hl
  clear hl
  refine callsIn_wide.1 (callsIn_of_wp_marks (n := 10) Tryd.func26 rfl trivial (wpIn_wide.2 ?_) rfl)
  simp only [Tryd.ntmps26, List.size_toArray, List.length_cons, List.length_nil, Nat.reduceAdd, Nat.reduceSub, Array.replicate_succ, Array.replicate_zero, List.push_toArray, List.append_toArray, List.nil_append, List.cons_append]
  go_wp2_with (refine wpList_alloc rfl _ rfl zeroH ?_; intro g2 w2 hg2 hg2' hblk2 hb2)
  refine (Concat_any w2 (HR.out.below (hb2.mono hB')) (Nat.le_trans hB' hb2.size) hn (by rw [← HLF.out]; omega)).mono ?_
  rintro e w3 ⟨v, rfl, hown, hb3⟩
  rw [← HLF.out] at hown
  obtain ⟨A3, c3, rfl, hc3, hm3, hrd3⟩ := own_form hown
  have hpush := push_own hown (.cells #[.int .u8 (((128 : UInt8).toNat : Nat) : Int)] 5)
  have hprd := push_rd w3 128
  have hs3 := hb3.size
  have hx8 := u64_mul8 l.length (by omega)
  have h8 : (l.length : Int) * 8 = ((l.length * 8 : Nat) : Int) := by omega
  obtain ⟨X, hX⟩ : ∃ X, X = l.length * 8 := ⟨_, rfl⟩
  rw [← hX] at h8 hx8
  obtain ⟨T, hT⟩ : ∃ T, T = l.length := ⟨_, rfl⟩
  rw [← hT] at h8 hx8 hown hc3 ht
  have hT1 : IntKind.u64.wrap (T : Int) = (T : Int) := by
    simp [IntKind.wrap, IntKind.bits, IntKind.signed]
    omega
  have HX := hid hX
  have HT := hid hT
  clear hX
  have hb4 : Below w2.heap.size w2 (w3.alloc (.cells #[.int .u8 (((128 : UInt8).toNat : Nat) : Int)] 5)) := bx_alloc hb3 _
  rw [← hT] at hpush ⊢
  clear hT
  have h63 : T + 1 ≤ maxLen := by unfold maxLen; omega
  have hby : (T + 1) * 1 ≤ 140737488355328 := by omega
  have hsz : w2.heap.size ≤ (w3.alloc (.cells #[.int .u8 (((128 : UInt8).toNat : Nat) : Int)] 5)).heap.size := hb4.size
  have h128 : (((128 : UInt8).toNat : Nat) : Int) = 128 := rfl
  rw [h128] at hpush hprd hsz hb4
  clear h128
  go_wp2_with (at_builtin; refine wpList_app rfl _ _ _ rfl _ rfl _ 1 1 rfl elB8 hpush hprd rfl (one_cb [128]) h63 hby hsz ?_; intro v5 w5 hown5 hg5 hat5)
  have hB5 : Below w2.heap.size w2 w5 := own_below hb4 hpush hg5
  have hown5' : w5.ownsRow w2.heap.size 5 1 v5 (T + 1 + 0) ((padTo l 0).map cb) := by
    rw [show padTo l 0 = l ++ [128] from rfl, List.map_append]
    exact hown5
  clear hg5 hat5 hown5 hpush hprd hb4 h63 hby hsz hown hc3 hrd3 hm3 hs3 hb3 hT1 hx8 h8
  go_loopw [3] (fun s wr => ∃ j : Nat, j ≤ pads T ∧ wr.ownsRow w2.heap.size 5 1 s (T + 1 + j) ((padTo l j).map cb) ∧ Below w2.heap.size w2 wr) (fun s _ => T + 1 + pads T - sliceLen s)
  case atStart => exact ⟨0, Nat.zero_le _, hown5', hB5⟩
  case round =>
    obtain ⟨j, hj, hown, hbr⟩ := hrel
    clear hown5' hB5
    have hpl := pads_le T
    obtain ⟨q, hq⟩ : ∃ q, q = T + 1 + j := ⟨_, rfl⟩
    rw [← hq] at hown
    obtain ⟨A4, c4, rfl, hc4, hm4, hrd4⟩ := own_form hown
    obtain ⟨r, hr⟩ : ∃ r, r = q % 64 := ⟨_, rfl⟩
    have hqm : (q : Int).tmod 64 = (r : Int) := (Int.tmod_eq_emod_of_nonneg (by omega)).trans (by omega)
    by_cases hlt : j < pads T
    · have hne := pads_lt hlt
      have hr56 : ((r : Int) == 56) = false := by simp; omega
      have hps := padTo_succ l j
      have HPS := hid hps
      have HQ := hid hq
      have HPL := hid hlt
      have hq9 : q ≤ 900000100 := by omega
      clear hps hq hr hne hlt hpl hrd4
      have hpush := push_own hown (.cells #[.int .u8 (((0 : UInt8).toNat : Nat) : Int)] 5)
      have hprd := push_rd wr 0
      have hb4 : Below w2.heap.size w2 (wr.alloc (.cells #[.int .u8 (((0 : UInt8).toNat : Nat) : Int)] 5)) := bx_alloc hbr _
      have hsz : w2.heap.size ≤ (wr.alloc (.cells #[.int .u8 (((0 : UInt8).toNat : Nat) : Int)] 5)).heap.size := hb4.size
      have h63 : q + 1 ≤ maxLen := by unfold maxLen; omega
      have hby : (q + 1) * 1 ≤ 140737488355328 := by omega
      have h000 : (((0 : UInt8).toNat : Nat) : Int) = 0 := rfl
      rw [h000] at hpush hprd hsz hb4
      have HP := hid hpush
      have HB4 := hid hb4
      clear h000 hown hpush hb4
      go_wp2_with (at_builtin; refine wpList_app rfl _ _ _ rfl _ rfl _ 1 1 rfl elB8 HP.out hprd rfl (one_cb [0]) h63 hby hsz ?_; intro v6 w6 hown6 hg6 hat6)
      have hB6 : Below w2.heap.size w2 w6 := own_below HB4.out HP.out hg6
      clear hg6 hat6
      have hown7 : w6.ownsRow w2.heap.size 5 1 v6 (T + 1 + (j + 1)) ((padTo l (j + 1)).map cb) := by
        rw [HPS.out, List.map_append, show T + 1 + (j + 1) = q + 1 from by have := HQ.out; omega]
        exact hown6
      clear hown6
      go_roundw
      case rel => exact ⟨j + 1, HPL.out, hown7, hB6⟩
      case measure =>
        obtain ⟨A6, c6, rfl, _⟩ := own_form hown7
        have := HQ.out
        have := HPL.out
        show T + 1 + pads T - (T + 1 + (j + 1)) < T + 1 + pads T - q
        omega
    · obtain rfl : j = pads T := by omega
      have h56 := pads_eq T
      have hr56 : ((r : Int) == 56) = true := by simp; omega
      have hr56' : r = 56 := by omega
      subst hr56'
      have HQ := hid hq
      have hq9 : q ≤ 900000100 := by omega
      clear hr h56 hq hlt hr56 hpl hj
      obtain ⟨Lp, hLp⟩ : ∃ Lp, Lp = padTo l (pads T) := ⟨_, rfl⟩
      rw [← hLp] at hown hrd4
      have HLP := hid hLp
      have hown0 : wr.ownsRow w2.heap.size 5 1 (.slice A4 q c4) (q + 0) ((Lp ++ (len8 X).take 0).map cb) := by simpa using hown
      clear hLp hown hrd4 hc4 hm4
      go_wp2
      clear hqm
      go_loopw [3, 5] (fun s j wq => ∃ t : Nat, t ≤ 8 ∧ j = .int .i64 (56 - 8 * (t : Int)) ∧ wq.ownsRow w2.heap.size 5 1 s (q + t) ((Lp ++ (len8 X).take t).map cb) ∧ Below w2.heap.size w2 wq) (fun s _ _ => q + 8 - sliceLen s)
      case atStart => exact ⟨0, Nat.zero_le _, rfl, hown0, hbr⟩
      case round =>
        clear hown0 hbr
        obtain ⟨t, ht8, rfl, hown, hbr⟩ := hrel
        obtain ⟨q2, hq2⟩ : ∃ q2, q2 = q + t := ⟨_, rfl⟩
        rw [← hq2] at hown
        obtain ⟨A5, c5, rfl, hc5, hm5, hrd5⟩ := own_form hown
        by_cases hlt : t < 8
        · obtain ⟨ii, hii⟩ : ∃ ii : Nat, ii = 56 - 8 * t := ⟨_, rfl⟩
          have hie : (56 : Int) - 8 * (t : Int) = (ii : Int) := by omega
          have hi64 : ii ≤ 64 := by omega
          have hlen := len8_take X t hlt
          rw [← hii] at hlen
          have hu8 := u8_shr X ii
          obtain ⟨cc, hcc⟩ : ∃ cc, cc = byN (X / 2 ^ ii) := ⟨_, rfl⟩
          rw [← hcc] at hlen hu8
          have HII := hid hii
          have HLEN := hid hlen
          have HQ2 := hid hq2
          have HT8 := hid hlt
          have hq29 : q2 ≤ 900000200 := by omega
          rw [hie]
          clear hii hlen hq2 hcc hrd5 hlt hie
          have hpush := push_own hown (.cells #[.int .u8 (cc.toNat : Int)] 5)
          have hprd := push_rd wr cc
          have hb4 : Below w2.heap.size w2 (wr.alloc (.cells #[.int .u8 (cc.toNat : Int)] 5)) := bx_alloc hbr _
          have hsz : w2.heap.size ≤ (wr.alloc (.cells #[.int .u8 (cc.toNat : Int)] 5)).heap.size := hb4.size
          have h63 : q2 + 1 ≤ maxLen := by unfold maxLen; omega
          have hby : (q2 + 1) * 1 ≤ 140737488355328 := by omega
          have HP := hid hpush
          have HB4 := hid hb4
          clear hown hpush hb4
          go_wp2_with (at_builtin; refine wpList_app rfl _ _ _ rfl _ rfl _ 1 1 rfl elB8 HP.out hprd rfl (one_cb [cc]) h63 hby hsz ?_; intro v6 w6 hown6 hg6 hat6)
          have hB6 : Below w2.heap.size w2 w6 := own_below HB4.out HP.out hg6
          clear hg6 hat6
          have hown7 : w6.ownsRow w2.heap.size 5 1 v6 (q + (t + 1)) ((Lp ++ (len8 X).take (t + 1)).map cb) := by
            rw [HLEN.out, ← List.append_assoc, List.map_append, show q + (t + 1) = q2 + 1 from by have := HQ2.out; omega]
            exact hown6
          have hin : (ii : Int) - 8 = 56 - 8 * ((t + 1 : Nat) : Int) := by have := HII.out; have := HT8.out; omega
          clear hown6
          go_roundw
          case rel => exact ⟨t + 1, HT8.out, by rw [← hin], hown7, hB6⟩
          case measure =>
            obtain ⟨A6, c6, rfl, _⟩ := own_form hown7
            have := HQ2.out
            have := HT8.out
            show q + 8 - (q + (t + 1)) < q + 8 - q2
            omega
        · obtain rfl : t = 8 := by omega
          have h88 : (len8 X).take 8 = len8 X := List.take_of_length_le (by simp [len8])
          rw [h88] at hown
          have hpl : Lp ++ len8 X = padL l := by rw [padL_eq, HLP.out, HX.out, ← HT.out]
          rw [hpl] at hown
          have hM := pad_length l
          obtain ⟨m, hm⟩ : ∃ m, m = (l.length + 72) / 64 := ⟨_, rfl⟩
          rw [← hm] at hM
          have hq2m : q2 = 64 * m := by have := hown.1; simp at this; omega
          have hm1 : 1 ≤ m := by omega
          have hm9 : m ≤ 100000000 := by omega
          have HMM := hid hm
          have HM := hid hM
          obtain ⟨gb, cap, hv, hgb, hgbl, hncap, hcap⟩ := own_block hown (by omega)
          injection hv with hA hn' hc'
          subst hA hc'
          have hrd := own_rd hown
          have HRD := hid hrd
          have hLS := HL.out.below (bx_trans hb2 hbr)
          have hb0 := hid (bx_trans hb2 hbr)
          have hsz8 : 0 + (beginL.map cw).toArray.size ≤ ((List.replicate 8 (cw 0)).toArray).size := by decide
          have hlb := hLS.b
          subst hq2m
          have HQ2 := hid hq2
          clear hrd5 hrd hm hM hn' hown h88 hpl hq2 ht8
          go_wp2_with (first
            | (refine wpList_load_agg rfl _ _ rfl _ _ rfl (beginL.map cw) (aggSL rfl) hlb ?_)
            | (refine wpList_alloc rfl _ rfl zeroS ?_; intro gs w8 hgs hgs' hblks hb8)
            | (refine wpList_store_agg rfl _ _ _ rfl _ _ rfl (beginL.map cw).toArray rfl (aggSS rfl) hblks hsz8 (one_cw _) ?_; intro w9 hput9))
          refine (Chunk_any w9 _ _ _).mono ?_
          rintro e w10 ⟨rfl, hw10⟩
          have hblk9 : Blk w9 gs tS (beginL.map cw).toArray := by
            have := hput9.blk
            rwa [splS rfl] at this
          have hB9 : Below wr.heap.size wr w9 := bx_put hb8 hput9 hgs
          have hgs9 : gs < w9.heap.size := hblk9.lt
          have hcs : w10.cell? ⟨w9.heap.size, 0, none⟩ = some (.slice (some ⟨gb, 0, none⟩) (64 * m) c5) := by
            rw [hw10]
            have := ((Blk.new w9 29 #[.slice (some ⟨gb, 0, none⟩) (64 * m) c5]).alloc (.cells #[.int .i64 64] 3)).cell 0
            exact this
          have hcn : w10.cell? ⟨w9.heap.size + 1, 0, none⟩ = some (.int .i64 64) := by
            rw [hw10]
            have := (Blk.new (w9.alloc (.cells #[.slice (some ⟨gb, 0, none⟩) (64 * m) c5] 29)) 3 #[.int .i64 64]).cell 0
            rwa [World.size_alloc] at this
          have hblk10 : Blk w10 gs tS (beginL.map cw).toArray := by
            rw [hw10]
            exact (hblk9.alloc _).alloc _
          have hB10 : Below wr.heap.size wr w10 := by
            rw [hw10]
            exact bx_alloc (bx_alloc hB9 _) _
          have hs10 : w9.heap.size + 1 < w10.heap.size := by rw [hw10]; simp
          have HW := hid hw10
          clear hput9 hblks hb8 hgs' hw10 hlb
          have hBsl : w9.heap.size < w10.heap.size := by omega
          have hKb : ∀ (W : World) (k : Nat) (o o' : Obj), w10.heap.size ≤ k → W.heap[k]? = some o → o.isCells = false → o.isWalk = false → KpB w9.heap.size (w9.heap.size + 1) W (W.putObj k o') := by
            intro W k o o' hk ho _ _
            have hkl := (Array.getElem?_eq_some_iff.1 ho).1
            exact ⟨(grownBy_putObj' W k o').block _ (by omega) (by intro e; injection e with e; omega), (grownBy_putObj' W k o').block _ (by omega) (by intro e; injection e with e; omega)⟩
          have hseq : SeqStopsK Fence.wide (10 - 1) Tryd.prog 37 #[.pointer (some ⟨w9.heap.size, 0, none⟩), .pointer (some ⟨w9.heap.size + 1, 0, none⟩)] (fun x : Fin m => #[.slice (some ⟨gb, 64 * x.val, none⟩) 64 64]) (KpB w9.heap.size (w9.heap.size + 1)) (fun ys => ys.map Fin.val = List.range m) (fun _ => True) m w10 :=
            fun k J Jx W hW hJ _ hY h0 => chunk1_in 9 (by decide) m k w9.heap.size (w9.heap.size + 1) gb c5 hm9 hncap hcap W J Jx W.heap.size hJ hY ((hW.cell (p := ⟨w9.heap.size, 0, none⟩) hBsl).trans hcs) ((hW.cell (p := ⟨w9.heap.size + 1, 0, none⟩) hs10).trans hcn) h0
          have hgs10 : gs < w10.heap.size := by omega
          have HS := hid hseq
          have HKB := hid hKb
          clear hseq hKb
          go_wp2_with fail
          refine wpIn_wide.1 (wpIn_rangeFunc_ownF (n := 10) (F := Fence.wide) rfl (by decide) (gf := 37) (lb := #[.pointer (some ⟨w9.heap.size, 0, none⟩), .pointer (some ⟨w9.heap.size + 1, 0, none⟩)]) rfl trivial (enters_of Tryd.func37 (by kernel_rfl) rfl) HS.out KpB.trans HKB.out (Below.refl _ _) (fun _ => rfl)
            (fun pre W => Blk W gs tS ((stF (padL l) pre).map cw).toArray ∧ Below wr.heap.size wr W ∧ w10.heap.size ≤ W.heap.size) (fun _ _ _ => False) ?hI (fun _ _ _ _ _ h _ _ => h) ⟨hblk10, hB10, Nat.le_refl _⟩ ?a1 ?assign ?body ?done ?stop)
          case assign =>
            intro k x W K hK
            gi_wp2
            exact hK
          case stop =>
            intro D cc pre W _ _ h _
            exact h.elim
          case hI =>
            intro s X Y row hs hg hr
            refine ⟨(hg.block gs hs.1.lt (fun e => ?_)).trans hs.1, hs.2.1.grown hg hs.2.1.size (fun k e => ?_), Nat.le_trans hs.2.2 hg.size⟩
            · obtain ⟨_, o, ho, hc⟩ := hr gs e.symm
              have := hs.1
              unfold Blk at this
              rw [ho] at this
              cases this
              cases hc
            · have := (hr k e).1
              have := hB10.size
              omega
          case body =>
            rintro k pre x W ⟨hbk, hbw, h10W⟩ hlen
            obtain ⟨hst8, hst32⟩ := stF_ok (padL l) pre
            have hsn := stF_snoc (padL l) pre x
            obtain ⟨hrc, hcl⟩ := rd_chunk (HRD.out.below hbw) x.isLt HM.out
            have hLW := hLS.below hbw
            have hm8 := (moreF_ok hst8 hst32 (chunk (padL l) x.val)).1
            have HSN := hid hsn
            clear hsn
            generalize stF (padL l) pre = S at *
            have hszm : 0 + ((moreF S (chunk (padL l) x.val)).map cw).toArray.size ≤ (S.map cw).toArray.size := by simp [hm8, hst8]
            have HSZ := hid hszm
            clear hszm
            gi_wp2_with (first
              | (refine wpListIn_load_agg (wide_round k) rfl _ _ rfl _ _ rfl (S.map cw) (aggSL hst8) (blk_cells hbk) ?_)
              | (refine ⟨trivial, ?_⟩; gi_at_call 33; refine (CallsIn.inRound k (callsIn_wide.2 (more_any W hLW hst8 hst32 hrc hbw.size hcl))).mono ?_; rintro e W1 ⟨rfl, hb1⟩; have hbk1 := hbk.below hb1 hbk.lt)
              | (refine wpListIn_store_agg (wide_round k) rfl _ _ _ rfl _ _ rfl ((moreF S (chunk (padL l) x.val)).map cw).toArray rfl (aggSS hm8) hbk1 HSZ.out (one_cw _) ?_; intro W2 hput))
            have hsp : spl (S.map cw).toArray 0 ((moreF S (chunk (padL l) x.val)).map cw).toArray.toList = ((moreF S (chunk (padL l) x.val)).map cw).toArray := spl_whole (by simp [hm8, hst8])
            rw [hsp, ← HSN.out] at hput
            have hgsW := hbk.lt
            refine ⟨⟨by rw [hput.size]; exact hb1.size, fun q o hq ho => ?_⟩, ⟨?_, ?_⟩, hput.blk, (hbw.trans (hb1.mono hbw.size)).trans (hput.below hgs), by rw [hput.size]; have := hb1.size; omega⟩
            · have hqW := (Array.getElem?_eq_some_iff.1 hq).1
              have hne : q ≠ gs := by
                intro e
                subst e
                have := hbk
                unfold Blk at this
                rw [hq] at this
                cases this
                cases ho
              exact (hput.oth q hne).trans ((hb1.block q hqW).trans hq)
            · exact (hput.oth _ (by omega)).trans (hb1.block _ (by omega))
            · exact (hput.oth _ (by omega)).trans (hb1.block _ (by omega))
          case done =>
            rintro D ys W hD hys ⟨hbk, hbw, h10W⟩ hK
            obtain ⟨hst8, hst32⟩ := stF_ok (padL l) ys
            have hsh : shaL l = outL (stF (padL l) ys) := by
              unfold shaL
              rw [stF_all _ hys, HM.out, Nat.mul_div_cancel_left m (by decide)]
            generalize stF (padL l) ys = S at *
            have HSH := hid hsh
            have hol : (outL S).length = 32 := by simp [outL]
            have hblk2W := (hblk2.below hbr hg2').below hbw (by have := hbr.size; omega)
            have HB0 := hid (hb0.out.trans (hbw.mono (bx_trans hb2 hbr).size))
            have hDl := (Array.getElem?_eq_some_iff.1 hK).1
            have h2W := hblk2W.lt
            have hgW := hbk.lt
            have hwW := HB0.out.size
            clear hsh hblk10 hB10 hcs hcn hs10 hblk9 hB9 hgs9 hLS HRD hblk2 hbr hbw hb2 hys
            go_wp2_with (refine wpList_alloc rfl _ rfl zeroH ?_; intro gh w11 hgh hgh' hblkh hb11)
            have hF0 : Blk w11 gh 23 (fillTo (outL S) 0) := by
              rw [fillTo_zero, hol]
              exact hblkh
            clear hblkh
            go_loopw [44] (fun j wq => ∃ i : Nat, i ≤ 32 ∧ j = .int .i64 i ∧ Blk wq gh 23 (fillTo (outL S) i) ∧ Below W.heap.size W wq) (fun j _ => 32 - (intOf j).toNat)
            case atStart => exact ⟨0, by omega, rfl, hF0, hb11⟩
            case round =>
              obtain ⟨i, hi, rfl, hFi, hbq⟩ := hrel
              clear hF0
              have hbS := hbk.below hbq hgW
              by_cases hlti : i < 32
              · obtain ⟨a, ha⟩ : ∃ a, a = i / 4 := ⟨_, rfl⟩
                obtain ⟨b, hb⟩ : ∃ b, b = i % 4 := ⟨_, rfl⟩
                obtain ⟨d, hd⟩ : ∃ d, d = 8 * b := ⟨_, rfl⟩
                obtain ⟨e, he⟩ : ∃ e, e = 24 - d := ⟨_, rfl⟩
                have hqa : (i : Int).tdiv 4 = (a : Int) := (Int.tdiv_eq_ediv_of_nonneg (by omega)).trans (by omega)
                have hrb : (i : Int).tmod 4 = (b : Int) := (Int.tmod_eq_emod_of_nonneg (by omega)).trans (by omega)
                have h8d : 8 * (b : Int) = (d : Int) := by omega
                have h24 : (24 : Int) - (d : Int) = (e : Int) := by omega
                have he24 : e ≤ 24 := by omega
                have ha8 : (a : Int) < 8 := by omega
                have hi32 : (i : Int) < 32 := by omega
                have hcell := cellsS_cell hbS (k := a) (by omega)
                have hstep := fillTo_step (outL S) i (by omega)
                have hval : (outL S)[i]'(by omega) = byN (S.getD a 0 / 2 ^ e) := by
                  subst he hd hb ha
                  simp [outL]
                rw [hval] at hstep
                have hu8 := u8_shr (S.getD a 0) e
                obtain ⟨cc, hcc⟩ : ∃ cc, cc = byN (S.getD a 0 / 2 ^ e) := ⟨_, rfl⟩
                rw [← hcc] at hstep hu8
                have hgz := (hFi.cell i).trans (fillTo_get (outL S) i (by omega))
                have hfz := hFi.frozen i
                have hput := setCell_put hFi (i := i) (.int .u8 (cc.toNat : Int))
                rw [hstep] at hput
                have hbn := hput.blk
                have hBn := bx_put hbq hput hgh
                generalize S.getD a 0 = sv at *
                clear ha hb hd he hval hcc hstep hput hFi hbS
                go_wp2
                go_roundw
                case rel => exact ⟨i + 1, by omega, by go_num, hbn, hBn⟩
                case measure => simp [intOf]; omega
              · obtain rfl : i = 32 := by omega
                have hall : fillTo (outL S) 32 = ((outL S).map cb).toArray := by
                  have := fillTo_all (outL S)
                  rwa [hol] at this
                rw [hall] at hFi
                have h2q := hblk2W.below hbq h2W
                have hKq : wr.heap[D]? = some (.deferred (some [])) := (hbq.block D hDl).trans hK
                have hlc : ((outL S).map cb).length = 32 := by rw [List.length_map, hol]
                have hT : AggT Tryd.prog 23 ((outL S).map cb).length := by rw [hlc]; exact aggH
                have hTs : AggT Tryd.prog 23 ((outL S).map cb).toArray.size := by rw [List.size_toArray]; exact hT
                have hsz : 0 + ((outL S).map cb).toArray.size ≤ ((List.replicate 32 (cb 0)).toArray).size := by simp [hol]
                clear hall
                generalize outL S = O at *
                go_wp2_with (first
                  | (refine wpList_load_agg rfl _ _ rfl _ _ rfl (O.map cb) hT (blk_cells hFi) ?_)
                  | (refine wpList_store_agg rfl _ _ _ rfl _ _ rfl (O.map cb).toArray rfl hTs h2q hsz (by simpa using one_cb O) ?_; intro w13 hput))
                have hsp : spl (Value.agg (List.replicate 32 (cb 0)).toArray).cells 0 (O.map cb).toArray.toList = (O.map cb).toArray := spl_whole (by
                  show (List.replicate 32 (cb 0)).toArray.size = _
                  simp [hol])
                rw [hsp] at hput
                have hne : D ≠ g2 := by
                  intro e
                  subst e
                  unfold Blk at h2q
                  rw [hKq] at h2q
                  cases h2q
                have hK13 : w13.heap[D]? = some (.deferred (some [])) := (hput.oth D hne).trans hKq
                have hg := grownBy_putObj' w13 D (.deferred none)
                have hsz13 : wr.heap.size = w13.heap.size := hput.size.symm
                have hbk2 : Blk (w13.putObj D (.deferred none)) g2 23 (O.map cb).toArray := (hg.block g2 hput.blk.lt (by intro e; injection e with e; exact hne e.symm)).trans hput.blk
                have hfin : Below w.heap.size w (w13.putObj D (.deferred none)) := (bx_put (HB0.out.trans (hbq.mono hwW)) hput hg2).grown hg (by have := hbq.size; omega) (fun k e => by cases e; have := hb0.out.size; omega)
                refine ⟨by simp, .inl ⟨_, _, rfl, run_takeDeferred hK13, ?_⟩⟩
                refine ⟨_, results_agg (cs := O.map cb) rfl rfl hT (blk_cells hbk2), ?_, hfin⟩
                rw [← HLF.out, HSH.out]
end Go.Proofs.YtgaefejblmnklaaDoor
