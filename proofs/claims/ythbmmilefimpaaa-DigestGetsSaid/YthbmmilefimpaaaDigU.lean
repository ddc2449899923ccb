
/- The document's Get of a digest, walked. -/
import Derived.Test.YthbmmilefimpaaaDigT
namespace Go.Proofs.Ythbmmilefimpaaa
open Go.RowKit Go.Maps
set_option linter.unusedVariables false
abbrev nilS : Value := .slice none 0 0
/-- Where the reading stands: the reader's block, the digest's, the result's. -/
structure QS (wb W : World) (g gd gr : Nat) (s : RS) (v v' u u' : Value) (kl : List Key) (hl : List (List UInt8)) : Prop where
  rr : Blk W g tR (rcs s.b s.e).toArray
  bd : Blk W gd tDr #[v, u]
  ok : W.ownsRow wb.heap.size 54 33 v' kl.length (kl.map kc).flatten
  oh : W.ownsRow wb.heap.size 52 32 u' hl.length (hl.map hc).flatten
  br : Blk W gr tDr #[nilS, nilS]
  be : Below wb.heap.size wb W
  h1 : gd ≠ g
  h2 : gr ≠ g
  h3 : gr ≠ gd
  hg : wb.heap.size ≤ g
  hd : wb.heap.size ≤ gd
  hr : wb.heap.size ≤ gr
section
variable {wb W W1 : World} {g gd gr : Nat} {s : RS} {v v' u u' : Value} {kl : List Key} {hl : List (List UInt8)}
theorem QS.below (h : QS wb W g gd gr s v v' u u' kl hl) (hb : Below W.heap.size W W1) : QS wb W1 g gd gr s v v' u u' kl hl :=
  ⟨h.rr.below hb h.rr.lt, h.bd.below hb h.bd.lt, own_keep h.ok hb, own_keep h.oh hb, h.br.below hb h.br.lt, bx_trans h.be hb, h.h1, h.h2, h.h3, h.hg, h.hd, h.hr⟩
theorem QS.putR (h : QS wb W g gd gr s v v' u u' kl hl) {t : RS} (hp : Put W W1 g tR (rcs t.b t.e).toArray) : QS wb W1 g gd gr t v v' u u' kl hl :=
  ⟨hp.blk, hp.other h.bd h.h1, own_put h.ok h.rr hp (by decide), own_put h.oh h.rr hp (by decide), hp.other h.br h.h2, bx_put h.be hp h.hg, h.h1, h.h2, h.h3, h.hg, h.hd, h.hr⟩
theorem QS.putK (h : QS wb W g gd gr s v v' u u' kl hl) {gk : Nat} {cs cs' : Array Value} (hb : Blk W gk 54 cs) (hp : Put W W1 gk 54 cs') (k1 : g ≠ gk) (k2 : gd ≠ gk) (k3 : gr ≠ gk) (k4 : wb.heap.size ≤ gk) (k5 : v'.ownBlock ≠ some gk) : QS wb W1 g gd gr s v v' u u' kl hl :=
  ⟨hp.other h.rr k1, hp.other h.bd k2, own_putne h.ok k5 hp, own_put h.oh hb hp (by decide), hp.other h.br k3, bx_put h.be hp k4, h.h1, h.h2, h.h3, h.hg, h.hd, h.hr⟩
theorem QS.appK (h : QS wb W g gd gr s v v' u u' kl hl) {v1 : Value} {kl' : List Key} (hg : W.grownBy W1 v'.ownBlock) (hown : W1.ownsRow wb.heap.size 54 33 v1 kl'.length (kl'.map kc).flatten) : QS wb W1 g gd gr s v v1 u u' kl' hl := by
  refine ⟨blk_app h.rr h.ok hg (by decide), blk_app h.bd h.ok hg (by decide), hown, ?_, blk_app h.br h.ok hg (by decide), own_below h.be h.ok hg, h.h1, h.h2, h.h3, h.hg, h.hd, h.hr⟩
  refine ⟨h.oh.1, h.oh.2.imp id ?_⟩
  rintro ⟨g', cap, cur, rfl, h2, h3, h4⟩
  exact ⟨g', cap, cur, rfl, h2, blk_app (w1 := W1) (show Blk W g' _ cur from h3) h.ok hg (by decide), h4⟩
theorem QS.appH (h : QS wb W g gd gr s v v' u u' kl hl) {u1 : Value} {hl' : List (List UInt8)} (hg : W.grownBy W1 u'.ownBlock) (hown : W1.ownsRow wb.heap.size 52 32 u1 hl'.length (hl'.map hc).flatten) : QS wb W1 g gd gr s v v' u u1 kl hl' := by
  refine ⟨blk_app h.rr h.oh hg (by decide), blk_app h.bd h.oh hg (by decide), ?_, hown, blk_app h.br h.oh hg (by decide), own_below h.be h.oh hg, h.h1, h.h2, h.h3, h.hg, h.hd, h.hr⟩
  refine ⟨h.ok.1, h.ok.2.imp id ?_⟩
  rintro ⟨g', cap, cur, rfl, h2, h3, h4⟩
  exact ⟨g', cap, cur, rfl, h2, blk_app (w1 := W1) (show Blk W g' _ cur from h3) h.oh hg (by decide), h4⟩
theorem QS.putD (h : QS wb W g gd gr s v v' u u' kl hl) (hp : Put W W1 gd tDr #[v', u']) : QS wb W1 g gd gr s v' v' u' u' kl hl :=
  ⟨hp.other h.rr (Ne.symm h.h1), hp.blk, own_put h.ok h.bd hp (by decide), own_put h.oh h.bd hp (by decide), hp.other h.br h.h3, bx_put h.be hp h.hd, h.h1, h.h2, h.h3, h.hg, h.hd, h.hr⟩
end
theorem builtRd (b : List UInt8) : Try.prog.built tR [(0, .string ⟨b.toArray⟩)] = some (rcs b 0).toArray := by kernel_rfl
def kZ : Key := (0, List.replicate 32 0)
theorem okKZ : kOk kZ := ⟨by decide, by unfold kZ; simp⟩
theorem kZ_set (x : Value) : (kc kZ).toArray.setIfInBounds 0 x = (x :: List.replicate 32 (cb 0)).toArray := by simp [kZ, kc]
theorem kZ_zero : (kc kZ).toArray[0]? = some (.int .u64 0) := rfl
theorem rawS32 (s : RS) : rawS s 32 = takeS s 32 := by unfold rawS; rw [if_neg (by decide)]; rfl
theorem rawV32 (s : RS) : rawV s 32 = takeV s 32 := by unfold rawV; rw [if_neg (by decide)]; rfl
theorem builtKZ : Try.prog.built 54 [] = some (kc kZ).toArray := by kernel_rfl
theorem buildRd {ops : Array Oper} {rest : List Oper} {o : Oper} {a : Act} {w : World} {Q : Exit → Act → World → Prop} (hgd : o.guard = none) {x : Operand} {b : List UInt8} (ho : o.op = .build tR #[(0, x)]) (hx : a.eval x = .string ⟨b.toArray⟩)
    (h : wpList Try.prog ops Q rest (a.put o.dst (.agg (rcs b 0).toArray)) w) : wpList Try.prog ops Q (o :: rest) a w := by
  refine wpList_val hgd ?_ h
  unfold execOp
  have hp : (#[(0, x)] : Array (Nat × Operand)).map (fun (i, x) => (i, a.eval x)) = #[(0, .string ⟨b.toArray⟩)] := by simp [hx]
  simp only [ho, Sem.run_bind, hp, run_build w _ #[(0, .string ⟨b.toArray⟩)] _ (builtRd b), Result.andThen_ok, Sem.run_pure]
theorem buildKZ {ops : Array Oper} {rest : List Oper} {o : Oper} {a : Act} {w : World} {Q : Exit → Act → World → Prop} (hgd : o.guard = none) (ho : o.op = .build 54 #[])
    (h : wpList Try.prog ops Q rest (a.put o.dst (.agg (kc kZ).toArray)) w) : wpList Try.prog ops Q (o :: rest) a w := by
  refine wpList_val hgd ?_ h
  unfold execOp
  have hp : (#[] : Array (Nat × Operand)).map (fun (i, x) => (i, a.eval x)) = #[] := by simp
  simp only [ho, Sem.run_bind, hp, run_build w _ #[] _ builtKZ, Result.andThen_ok, Sem.run_pure]
theorem storeRd {ops : Array Oper} {rest : List Oper} {o : Oper} {a : Act} {w : World} {Q : Exit → Act → World → Prop} (hgd : o.guard = none) {x y : Operand} (ho : o.op = .store tR x y) {g : Nat} (hx : a.eval x = .pointer (some ⟨g, 0, none⟩)) {b b' : List UInt8} {e e' : Int} (hy : a.eval y = .agg (rcs b e).toArray)
    (hz : Blk w g tR (rcs b' e').toArray) (h : ∀ w1, Put w w1 g tR (rcs b e).toArray → wpList Try.prog ops Q rest (a.put o.dst undef) w1) : wpList Try.prog ops Q (o :: rest) a w :=
  wpList_store_agg hgd _ _ _ ho g 0 hx (rcs b e).toArray hy (aggR _ _) hz (Nat.le_refl 2) (oneR _ _) (fun w1 hp => h w1 hp)
theorem loadRd {ops : Array Oper} {rest : List Oper} {o : Oper} {a : Act} {w : World} {Q : Exit → Act → World → Prop} (hgd : o.guard = none) {x : Operand} (ho : o.op = .load tR x) {g : Nat} (hx : a.eval x = .pointer (some ⟨g, 0, none⟩)) {b : List UInt8} {e : Int} (hb : Blk w g tR (rcs b e).toArray)
    (h : wpList Try.prog ops Q rest (a.put o.dst (.agg (rcs b e).toArray)) w) : wpList Try.prog ops Q (o :: rest) a w :=
  wpList_load_agg hgd _ _ ho g 0 hx (rcs b e) (aggR _ _) (blk_cells hb) h
theorem loadDr {ops : Array Oper} {rest : List Oper} {o : Oper} {a : Act} {w : World} {Q : Exit → Act → World → Prop} (hgd : o.guard = none) {x : Operand} (ho : o.op = .load tDr x) {g : Nat} (hx : a.eval x = .pointer (some ⟨g, 0, none⟩)) {u v : Value} (hb : Blk w g tDr #[u, v])
    (h : wpList Try.prog ops Q rest (a.put o.dst (.agg #[u, v])) w) : wpList Try.prog ops Q (o :: rest) a w :=
  wpList_load_agg hgd _ _ ho g 0 hx [u, v] aggDr (blk_cells hb) h
theorem storeRz {ops : Array Oper} {rest : List Oper} {o : Oper} {a : Act} {w : World} {Q : Exit → Act → World → Prop} (hgd : o.guard = none) {x y : Operand} (ho : o.op = .store tDr x y) {g : Nat} (hx : a.eval x = .pointer (some ⟨g, 0, none⟩)) {A B : Option Addr} {n m c d : Nat} (hy : a.eval y = .agg #[.slice A n c, .slice B m d])
    (hz : Blk w g tDr #[nilS, nilS]) (h : ∀ w1, Put w w1 g tDr #[.slice A n c, .slice B m d] → wpList Try.prog ops Q rest (a.put o.dst undef) w1) : wpList Try.prog ops Q (o :: rest) a w := storeR hgd ho hx hy hz h
theorem many_le {s : RS} (h : ¬ ((numS s 1).e = 0 ∧ 32 < numV s 1)) : numV s 1 ≤ 32 := by
  by_cases he : (numS s 1).e = 0
  · have : ¬ 32 < numV s 1 := fun x => h ⟨he, x⟩
    omega
  · rw [num_bad he]
    omega
/-- The end of a walk: the result's block holds what is told. -/
theorem QS.fin {wb W W1 : World} {g gd gr : Nat} {s : RS} {v v' u u' : Value} {kl : List Key} {hl : List (List UInt8)} (h : QS wb W g gd gr s v v' u u' kl hl) (hp : Put W W1 gr tDr #[v', u']) :
    W1.ownsRow wb.heap.size 54 33 v' kl.length (kl.map kc).flatten ∧ W1.ownsRow wb.heap.size 52 32 u' hl.length (hl.map hc).flatten ∧ Below wb.heap.size wb W1 :=
  ⟨own_put h.ok h.br hp (by decide), own_put h.oh h.br hp (by decide), bx_put h.be hp h.hr⟩
set_option maxRecDepth 10000 in
set_option maxHeartbeats 2000000 in
theorem refGet2_any (w : World) {b : List UInt8} (hl : b.length ≤ 1000000) :
    Calls Try.prog 23 #[.string ⟨b.toArray⟩] w fun e w' => ∃ v u, e = .returned (.tuple #[.agg #[v, u], .int .i64 (refOut b).1]) ∧ w'.ownsRow w.heap.size 54 33 v (refOut b).2.1.length ((refOut b).2.1.map kc).flatten ∧ w'.ownsRow w.heap.size 52 32 u (refOut b).2.2.length ((refOut b).2.2.map hc).flatten ∧ Below w.heap.size w w' := by
  obtain ⟨n, hn⟩ : ∃ n, n = numV ⟨b, 0⟩ 1 := ⟨_, rfl⟩
  obtain ⟨s0, hs0⟩ : ∃ s0, s0 = numS ⟨b, 0⟩ 1 := ⟨_, rfl⟩
  have hout : refOut b = if s0.e = 0 ∧ 32 < n then (13, [], []) else refMid (kList n s0) (kRun n s0) := by rw [hn, hs0]; rfl
  have hn256 : n < 256 := by rw [hn]; exact numV1_lt _
  have hmany : ¬ (s0.e = 0 ∧ 32 < n) → n ≤ 32 := by rw [hn, hs0]; exact many_le
  have hsl : s0.b.length ≤ 1000000 := by rw [hs0]; exact Nat.le_trans (numS_len' _ _) hl
  have HO := hid hout
  have HN := hid hn
  have HS := hid hs0
  clear hn hs0 hout
  have hn64 : IntKind.i64.wrap (n : Int) = (n : Int) := wr_i64 _ (by omega) (by omega)
  go_enter Try.func23, Try.ntmps23
  go_wp2_with (first
    | ((with_reducible refine wpAt ?_); refine wpList_alloc (w := w) rfl _ rfl zDr ?_; intro gr w2 hgr hgr' hz2 hb2; simp only [Act.put, List.setIfInBounds_toArray, List.set_cons_succ, List.set_cons_zero])
    | ((with_reducible refine wpAt ?_); refine wpList_alloc (w := w2) rfl _ rfl zDr ?_; intro gd w3 hgd hgd' hz3 hb3; simp only [Act.put, List.setIfInBounds_toArray, List.set_cons_succ, List.set_cons_zero])
    | ((with_reducible refine wpAt ?_); refine storeR rfl rfl rfl rfl hz3 ?_; intro w4 hp4; simp only [Act.put])
    | ((with_reducible refine wpAt ?_); refine buildRd rfl rfl rfl ?_; simp only [Act.put, List.setIfInBounds_toArray, List.set_cons_succ, List.set_cons_zero]))
  have hrd : gr < gd := Nat.lt_of_lt_of_le hgr' hgd
  have hbr4 : Blk w4 gr tDr #[nilS, nilS] := hp4.other (hz2.below hb3 hgr') (by omega)
  have hbd4 : Blk w4 gd tDr #[nilS, nilS] := hp4.blk
  have hb4 := bx_put (bx_trans hb2 hb3) hp4 (by omega)
  clear hz2 hz3 hp4 hb2 hb3
  refine (refNumR_any w4 b 0 1 (by decide) hl).mono ?_
  rintro x w5 ⟨rfl, hb5⟩
  rw [← HN.out, ← HS.out]
  have hgd4 := hbd4.lt
  have hbr5 := hbr4.below hb5 hbr4.lt
  have hbd5 := hbd4.below hb5 hbd4.lt
  have hb05 := bx_trans hb4 hb5
  have hz5 := hb5.size
  clear hbr4 hbd4 hb4 hb5
  by_cases hbig : s0.e = 0 ∧ 32 < n
  · obtain ⟨he0, hn32⟩ := hbig
    have hn32' : (32 : Int) < (n : Int) := by omega
    rcases s0 with ⟨b0, e0⟩
    obtain rfl : e0 = 0 := he0
    have ho := HO.out
    rw [if_pos ⟨rfl, hn32⟩] at ho
    have HOb := hid ho
    clear ho HO
    go_wp2_with (first
      | ((with_reducible refine wpAt ?_); refine wpList_alloc rfl _ rfl zeroR ?_; intro g w6 hg hg' hz6 hb6; simp only [Act.put, List.setIfInBounds_toArray, List.set_cons_succ, List.set_cons_zero])
      | ((with_reducible refine wpAt ?_); refine storeRd rfl rfl rfl rfl hz6 ?_; intro w7 hp7; simp only [Act.put]; have c1 := cellR1 hp7.blk; have hst : QS w w7 g gd gr ⟨b0, 0⟩ nilS nilS nilS nilS [] [] := ⟨hp7.blk, hp7.other (hbd5.below hb6 hbd5.lt) (by omega), World.ownsRow_nil _ _ _ _, World.ownsRow_nil _ _ _ _, hp7.other (hbr5.below hb6 hbr5.lt) (by omega), bx_put (bx_trans hb05 hb6) hp7 (by omega), by omega, by omega, by omega, by omega, by omega, by omega⟩)
      | ((with_reducible refine wpAt ?_); refine storeRz rfl rfl rfl rfl hst.br ?_; intro w8 hp8; simp only [Act.put]))
    refine bodyPost_ret (results_agg2' (cs := [nilS, nilS]) rfl rfl aggDr (blk_cells hp8.blk)) rfl ?_
    obtain ⟨f1, f2, f3⟩ := hst.fin hp8
    rw [HOb.out]
    exact ⟨nilS, nilS, rfl, f1, f2, f3⟩
  · have hn32 := hmany hbig
    have hn32' : ¬ (32 : Int) < (n : Int) := by omega
    have ho := HO.out
    rw [if_neg hbig] at ho
    have HOb := hid ho
    clear hbig ho hmany HO
    go_wp2_with (first
      | ((with_reducible refine wpAt ?_); refine wpList_alloc rfl _ rfl zeroR ?_; intro g w6 hg hg' hz6 hb6; simp only [Act.put, List.setIfInBounds_toArray, List.set_cons_succ, List.set_cons_zero])
      | ((with_reducible refine wpAt ?_); refine storeRd rfl rfl rfl rfl hz6 ?_; intro w7 hp7; simp only [Act.put]; have c1 := cellR1 hp7.blk; have hst : QS w w7 g gd gr s0 nilS nilS nilS nilS [] [] := ⟨hp7.blk, hp7.other (hbd5.below hb6 hbd5.lt) (by omega), World.ownsRow_nil _ _ _ _, World.ownsRow_nil _ _ _ _, hp7.other (hbr5.below hb6 hbr5.lt) (by omega), bx_put (bx_trans hb05 hb6) hp7 (by omega), by omega, by omega, by omega, by omega, by omega, by omega⟩))
    all_goals
      clear hbr5 hbd5 hb05 hz6 hb6 hp7 c1
      go_loopw [8] (fun j wr => ∃ (i : Nat) (v : Value), i ≤ n ∧ j = .int .i64 i ∧ QS w wr g gd gr (kRun i s0) v v nilS nilS (kList i s0) []) (fun j _ => n - (intOf j).toNat)
      case atStart => exact ⟨0, nilS, by omega, rfl, hst⟩
      case round =>
        obtain ⟨i, v, hi, rfl, hst1⟩ := hrel
        obtain ⟨A9, c9, rfl, _, _, _⟩ := own_form hst1.ok
        rename World => wo
        clear hst
        by_cases hlt : i < n
        · have hkl := kRun_len s0 i
          have hll := kList_len s0 i
          have hx : kOk (kOne (kRun i s0)) := kOne_ok _
          have hks : kList (i + 1) s0 = kList i s0 ++ [(numV (kRun i s0) 8, hashV (numS (kRun i s0) 8))] := rfl
          have hrs : kRun (i + 1) s0 = takeS (numS (kRun i s0) 8) 32 := rfl
          have hxd : kOne (kRun i s0) = (numV (kRun i s0) 8, hashV (numS (kRun i s0) 8)) := rfl
          have HKS := hid hks
          have HRS := hid hrs
          rw [hxd] at hx
          clear hks hrs hxd
          generalize kRun i s0 = s at *
          have hll2 : (kList i s0).length ≤ 32 := by omega
          have HLL := hid hll
          clear hll
          rcases s with ⟨sb, se⟩
          go_wp2_with (first
            | ((with_reducible refine wpAt ?_); refine buildKZ rfl rfl ?_; simp only [Act.put, List.setIfInBounds_toArray, List.set_cons_succ, List.set_cons_zero])
            | ((with_reducible refine wpAt ?_); refine wpList_alloc (w := wo) rfl _ rfl zrDK ?_; intro g9 w5 hg9 hg9' hz9 hb5; simp only [Act.put, List.setIfInBounds_toArray, List.set_cons_succ, List.set_cons_zero])
            | ((with_reducible refine wpAt ?_); refine storeK rfl rfl rfl rfl okKZ hz9 ?_; intro w6 hp6; simp only [Act.put]; have hst2 := (hst1.below hb5).putK hz9 hp6 (by have := hst1.rr.lt; omega) (by have := hst1.bd.lt; omega) (by have := hst1.br.lt; omega) (by have := hst1.be.size; omega) (fun e => Nat.lt_irrefl _ (Nat.lt_of_lt_of_le (hst1.ok.lt _ e).2 hg9)); have hk6 := hp6.blk)
            | ((with_reducible refine wpAt ?_); refine loadRd rfl rfl rfl hst2.rr ?_; simp only [Act.put, List.setIfInBounds_toArray, List.set_cons_succ, List.set_cons_zero]))
          refine (refNumR_any w6 sb se 8 (by decide) (by omega)).mono ?_
          rintro x w8 ⟨rfl, hb8⟩
          have hst3 := hst2.below hb8
          have hk8 := hk6.below hb8 hk6.lt
          have hgk : g ≠ g9 := by have := hst1.rr.lt; omega
          have hdk : gd ≠ g9 := by have := hst1.bd.lt; omega
          have hrk : gr ≠ g9 := by have := hst1.br.lt; omega
          have hwk : w.heap.size ≤ g9 := by have := hst1.be.size; omega
          have hok9 : (Value.slice A9 (kList i s0).length c9).ownBlock ≠ some g9 := fun e => Nat.lt_irrefl _ (Nat.lt_of_lt_of_le (hst1.ok.lt _ e).2 hg9)
          have htl : (numS ⟨sb, se⟩ 8).b.length ≤ 1000000 := by have := numS_len' ⟨sb, se⟩ 8; have : (⟨sb, se⟩ : RS).b.length = sb.length := rfl; omega
          clear hst1 hst2 hz9 hp6 hk6 hb5 hb8
          generalize numV ⟨sb, se⟩ 8 = x at *
          generalize numS ⟨sb, se⟩ 8 = t at *
          rcases t with ⟨tb, te⟩
          go_wp2_with (first
            | ((with_reducible refine wpAt ?_); refine storeRd rfl rfl rfl rfl hst3.rr ?_; intro w9 hp9; simp only [Act.put]; have hst4 := hst3.putR (t := ⟨tb, te⟩) hp9; have hk9 := hp9.other hk8 (Ne.symm hgk); have cz := hk9.cell 0; rw [kZ_zero] at cz; have fz := hk9.frozen 0; have hp10 := setCell_put hk9 (i := 0) (.int .u64 (x : Int)); have hst5 := hst4.putK hk9 hp10 hgk hdk hrk hwk hok9)
            | ((with_reducible refine wpAt ?_); refine loadRd rfl rfl rfl hst5.rr ?_; simp only [Act.put, List.setIfInBounds_toArray, List.set_cons_succ, List.set_cons_zero]))
          rw [kZ_set] at hp10
          clear hst3 hst4 hk8 hk9 hp9 cz fz
          generalize w9.setCell ⟨g9, 0, none⟩ (.int .u64 (x : Int)) = w10 at *
          have hk10 := hp10.blk
          clear hp10
          refine (refRaw_any w10 tb te 32 (by decide) htl).mono ?_
          rintro x1 w11 ⟨rfl, hb11⟩
          rw [rawS32, rawV32]
          have hst6 := hst5.below hb11
          have hk11 := hk10.below hb11 hk10.lt
          have hvl : (takeV ⟨tb, te⟩ 32).length ≤ 1000000 := Nat.le_trans (takeV_len _ _) (by decide)
          have hhp := hpad_take ⟨tb, te⟩
          have hx2 : hOk (hashV ⟨tb, te⟩) := hashV_len _
          have HHP := hid hhp
          clear hst5 hk10 hb11 hhp
          generalize hashV ⟨tb, te⟩ = h at *
          generalize takeV ⟨tb, te⟩ 32 = y at *
          generalize takeS ⟨tb, te⟩ 32 = q at *
          rcases q with ⟨qb, qe⟩
          go_wp2_with (first
            | ((with_reducible refine wpAt ?_); refine storeRd rfl rfl rfl rfl hst6.rr ?_; intro w12 hp12; simp only [Act.put]; have hst7 := hst6.putR (t := ⟨qb, qe⟩) hp12; have hk12 := hp12.other hk11 (Ne.symm hgk)))
          refine (refHash_any w12 y hvl).mono ?_
          rintro x2 w13 ⟨rfl, hb13⟩
          rw [HHP.out]
          have hst8 := hst7.below hb13
          have hk13 := hk12.below hb13 hk12.lt
          have cd := hst8.bd.cell 0
          rw [← HRS.out] at hst8
          clear hst6 hst7 hk11 hk12 hp12 hb13 HHP
          go_wp2_with (first
            | ((with_reducible refine wpAt ?_); refine wpList_store_agg rfl _ _ _ rfl g9 1 rfl (hc h).toArray rfl (aggSH hx2) hk13 (by rw [List.size_toArray, hc_len hx2]; simp) (oneAH h) ?_; intro w14 hp14; simp only [Act.put]; have hst9 := hst8.putK hk13 hp14 hgk hdk hrk hwk hok9; have hk14 : Blk w14 g9 54 (kc (x, h)).toArray := splK9 hx2 hp14; have cd9 := hst9.bd.cell 0)
            | ((with_reducible refine wpAt ?_); refine loadK rfl rfl rfl hk14 hx ?_; simp only [Act.put, List.setIfInBounds_toArray, List.set_cons_succ, List.set_cons_zero])
            | ((with_reducible refine wpAt ?_); refine sl1K rfl _ rfl hx rfl ?_; intro g15 w15 hg15 hblk15 hb15; have hr15 := rd_blk hblk15; have hst10 := hst9.below hb15; simp only [Act.put, List.setIfInBounds_toArray, List.set_cons_succ, List.set_cons_zero])
            | (at_builtin; refine wpList_app rfl _ _ _ rfl (Value.slice A9 (kList i s0).length c9) rfl _ _ _ rfl elK hst10.ok hr15 (by rw [kc_len hx]) (kc_one _) (by unfold maxLen; omega) (by omega) hst10.be.size ?_; intro v16 w16 hown16 hgr16 hv16; have hst11 := hst10.appK (kl' := kList (i + 1) s0) hgr16 (by rw [HKS.out, List.length_append, List.map_append, List.flatten_append]; simpa using hown16); obtain ⟨A16, c16, rfl, _, _, _⟩ := own_form hown16; have cd16 := hst11.bd.cell 0; have fd16 := hst11.bd.frozen 0))
          have hp17 : Put _ _ gd tDr #[.slice A16 ((kList i s0).length + 1) c16, nilS] := setCell_put hst11.bd (i := 0) (.slice A16 ((kList i s0).length + 1) c16)
          exact ⟨⟨i + 1, .slice A16 ((kList i s0).length + 1) c16, by omega, by go_num, hst11.putD hp17⟩, by simp [intOf]; omega⟩
        · obtain rfl : i = n := by omega
          have hkl := kRun_len s0 i
          generalize kRun i s0 = s1 at *
          generalize kList i s0 = kl at *
          rcases s1 with ⟨sb, se⟩
          have hsb : sb.length ≤ 1000000 := by have : (⟨sb, se⟩ : RS).b.length = sb.length := rfl; omega
          have hmid : refMid kl ⟨sb, se⟩ = if (numS ⟨sb, se⟩ 1).e = 0 ∧ 32 < numV ⟨sb, se⟩ 1 then (13, [], []) else refFin kl (numV ⟨sb, se⟩ 1) (numS ⟨sb, se⟩ 1) := rfl
          rw [hmid] at HOb
          have hm256 := numV1_lt ⟨sb, se⟩
          have hmm := many_le (s := ⟨sb, se⟩)
          have htl : (numS ⟨sb, se⟩ 1).b.length ≤ 1000000 := by have := numS_len' ⟨sb, se⟩ 1; have : (⟨sb, se⟩ : RS).b.length = sb.length := rfl; omega
          clear hmid hkl hn64 hn32' hi hlt hn32 hn256 HN HS hsl
          go_wp2_with ((with_reducible refine wpAt ?_); refine loadRd rfl rfl rfl hst1.rr ?_; simp only [Act.put, List.setIfInBounds_toArray, List.set_cons_succ, List.set_cons_zero])
          refine (refNumR_any wo sb se 1 (by decide) hsb).mono ?_
          rintro x w8 ⟨rfl, hb8⟩
          have hst2 := hst1.below hb8
          clear hst1 hb8
          generalize numV ⟨sb, se⟩ 1 = m at *
          generalize numS ⟨sb, se⟩ 1 = t at *
          rcases t with ⟨tb, te⟩
          have hm64 : IntKind.i64.wrap (m : Int) = (m : Int) := wr_i64 _ (by omega) (by omega)
          by_cases hbig : te = 0 ∧ 32 < m
          · obtain ⟨rfl, hm32⟩ := hbig
            rw [if_pos ⟨rfl, hm32⟩] at HOb
            have hm32' : (32 : Int) < (m : Int) := by omega
            go_wp2_with (first
              | ((with_reducible refine wpAt ?_); refine storeRd rfl rfl rfl rfl hst2.rr ?_; intro w9 hp9; simp only [Act.put]; have hst3 := hst2.putR (t := ⟨tb, 0⟩) hp9; have c1 := cellR1 hst3.rr; simp only [] at c1)
              | ((with_reducible refine wpAt ?_); refine storeRz rfl rfl rfl rfl hst3.br ?_; intro w10 hp10; simp only [Act.put]))
            refine bodyPost_ret (results_agg2' (cs := [nilS, nilS]) rfl rfl aggDr (blk_cells hp10.blk)) rfl ?_
            have hbe := bx_put hst3.be hp10 hst3.hr
            rw [HOb.out]
            exact ⟨nilS, nilS, rfl, World.ownsRow_nil _ _ _ _, World.ownsRow_nil _ _ _ _, hbe⟩
          · rw [if_neg hbig] at HOb
            have hm32 := hmm hbig
            have hm32' : ¬ (32 : Int) < (m : Int) := by omega
            clear hbig hmm hm256
            go_wp2_with ((with_reducible refine wpAt ?_); refine storeRd rfl rfl rfl rfl hst2.rr ?_; intro w9 hp9; simp only [Act.put]; have hst3 := hst2.putR (t := ⟨tb, te⟩) hp9; have c1 := cellR1 hst3.rr; simp only [] at c1)
            all_goals
              clear hst2 c1 hp9
              obtain ⟨t, ht⟩ : ∃ t : RS, t = ⟨tb, te⟩ := ⟨_, rfl⟩
              have htl : t.b.length ≤ 1000000 := by rw [ht]; exact htl
              rw [← ht] at hst3 HOb
              clear ht
              go_loopw [12] (fun j wr => ∃ (k : Nat) (u : Value), k ≤ m ∧ j = .int .i64 k ∧ QS w wr g gd gr (hRun k t) (.slice A9 kl.length c9) (.slice A9 kl.length c9) u u kl (hList k t)) (fun j _ => m - (intOf j).toNat)
              case atStart => exact ⟨0, nilS, by omega, rfl, hst3⟩
              case round =>
                obtain ⟨k, u, hk, rfl, hst4⟩ := hrel
                obtain ⟨A8, c8, rfl, _, _, _⟩ := own_form hst4.oh
                rename World => wp
                clear hst3
                by_cases hlk : k < m
                · have hrl2 := hRun_len t k
                  have hks : hList (k + 1) t = hList k t ++ [hashV (hRun k t)] := rfl
                  have hrs : hRun (k + 1) t = takeS (hRun k t) 32 := rfl
                  have hll : (hList k t).length ≤ 32 := by rw [hList_len]; omega
                  have HKS := hid hks
                  have HRS := hid hrs
                  generalize hRun k t = s at *
                  rcases s with ⟨qb, qe⟩
                  have hql : qb.length ≤ 1000000 := by have : (⟨qb, qe⟩ : RS).b.length = qb.length := rfl; omega
                  have hx : hOk (hashV ⟨qb, qe⟩) := hashV_len _
                  have hvl : (takeV ⟨qb, qe⟩ 32).length ≤ 1000000 := Nat.le_trans (takeV_len _ _) (by decide)
                  have hhp := hpad_take ⟨qb, qe⟩
                  have HHP := hid hhp
                  clear hks hrs hrl2 hhp
                  go_wp2_with ((with_reducible refine wpAt ?_); refine loadRd rfl rfl rfl hst4.rr ?_; simp only [Act.put, List.setIfInBounds_toArray, List.set_cons_succ, List.set_cons_zero])
                  refine (refRaw_any wp qb qe 32 (by decide) hql).mono ?_
                  rintro x1 w11 ⟨rfl, hb11⟩
                  rw [rawS32, rawV32]
                  have hst5 := hst4.below hb11
                  clear hst4 hb11
                  generalize hashV ⟨qb, qe⟩ = h at *
                  generalize takeV ⟨qb, qe⟩ 32 = y at *
                  generalize takeS ⟨qb, qe⟩ 32 = z at *
                  rcases z with ⟨zb, ze⟩
                  go_wp2_with ((with_reducible refine wpAt ?_); refine storeRd rfl rfl rfl rfl hst5.rr ?_; intro w12 hp12; simp only [Act.put]; have hst6 := hst5.putR (t := ⟨zb, ze⟩) hp12)
                  rw [← HRS.out] at hst6
                  have hstd := hst6.below (bx_drew (Below.refl w12.heap.size w12))
                  clear hst5 hst6 hp12
                  refine wp_flowK (by kernel_rfl) [0, 1, 0, 4, 12, 31, 63, 127] 7 [false, false, false, false, false, false, false, false, false, false, false, false, false, false, false, false, false, false, false, false, false, false, false, false, false, false, false, false, false, false, false, false, false, false, false, false, false, false, false, false, false, false, false, false, false, false, false, false, false, false, false, false, false, false, false, false, false, false, false, false, false, false, false, false, false, false, false, false, false, false, false, false, false, false, false, false, false, false, false, false, false, false, false, false, true, true, true, true, true, true, true] (by kernel_rfl) (by decide) (by kernel_rfl) [KP.eq (.pointer (some ⟨gd, 1, none⟩)), KP.eq (.slice A8 (hList k t).length c8), KP.eq (.string ⟨y.toArray⟩), KP.any, KP.any, KP.any, KP.eq (.pointer (some ⟨gd, 1, none⟩))] [3, 4, 5] (fun ks w' => match ks with | [some _, some _, some v5] => ∃ A' c', v5 = .slice A' ((hList k t).length + 1) c' ∧ QS w w' g gd gr (hRun (k + 1) t) (.slice A9 kl.length c9) (.slice A9 kl.length c9) (.slice A8 (hList k t).length c8) v5 kl (hList (k + 1) t) | [some v3, some v4, none] => v3 = .agg (hc h).toArray ∧ (∃ g7, v4 = .slice (some ⟨g7, 0, none⟩) 1 1 ∧ Blk w' g7 52 (hc h).toArray) ∧ QS w w' g gd gr (hRun (k + 1) t) (.slice A9 kl.length c9) (.slice A9 kl.length c9) (.slice A8 (hList k t).length c8) (.slice A8 (hList k t).length c8) kl (hList k t) | [some v3, none, none] => v3 = .agg (hc h).toArray ∧ QS w w' g gd gr (hRun (k + 1) t) (.slice A9 kl.length c9) (.slice A9 kl.length c9) (.slice A8 (hList k t).length c8) (.slice A8 (hList k t).length c8) kl (hList k t) | _ => w' = w12.drew) ?_ ?_ ?_
                  · exact rfl
                  · refine allFrom_cons ?_ ?_
                    · refine stepK_by (by decide) ?_
                      intro f_ a_ w_ hM_ hk_
                      have h4 : a_.eval (.tmp 4) = .pointer (some ⟨gd, 0, none⟩) := hk_.old 4 (by kernel_rfl)
                      have k5 := hk_.later 5 _ (by kernel_rfl) rfl
                      clear hk_
                      refine flow_plain rfl ?_
                      refine gives_keep hM_ ?_
                      unfold gives
                      have hc_ : ∀ v, a_.eval (.const v) = v := fun _ => rfl
                      have hn_ : ∀ f, a_.eval (.func f) = .func (.func f) #[] #[] := fun _ => rfl
                      generalize a_.eval = ρ_ at *
                      go_simp
                      exact ⟨rfl, rfl⟩
                    refine allFrom_cons ?_ ?_
                    · refine stepK_by (by decide) ?_
                      intro f_ a_ w_ hM_ hk_
                      have h84 : a_.eval (.tmp 84) = (.pointer (some ⟨gd, 1, none⟩)) := hk_.got 0 84 _ (by kernel_rfl) rfl rfl
                      have k5 := hk_.later 5 _ (by kernel_rfl) rfl
                      clear hk_
                      refine flow_plain rfl ?_
                      have hM := hM_
                      simp only [List.map_cons, List.map_nil, k5] at hM
                      refine gives_keep hM_ ?_
                      unfold gives
                      have hc_ : ∀ v, a_.eval (.const v) = v := fun _ => rfl
                      have hn_ : ∀ f, a_.eval (.func f) = .func (.func f) #[] #[] := fun _ => rfl
                      have hbd_ : Blk w_ gd tDr #[.slice A9 kl.length c9, .slice A8 (hList k t).length c8] := by
                        revert hM
                        cases f_ 3 with
                        | none => exact fun hM => (by rw [show w_ = w12.drew from hM]; exact hstd.bd)
                        | some v3 =>
                          cases f_ 4 with
                          | none => exact fun ⟨_, hG⟩ => hG.bd
                          | some v4 => exact fun ⟨_, _, hG⟩ => hG.bd
                      have hcell := hbd_.cell 1
                      generalize a_.eval = ρ_ at *
                      go_simp
                      exact ⟨rfl, rfl⟩
                    refine allFrom_cons ?_ ?_
                    · refine stepK_by (by decide) ?_
                      intro f_ a_ w_ hM_ hk_
                      have h13 : a_.eval (.tmp 13) = .string ⟨y.toArray⟩ := hk_.old 13 (by kernel_rfl)
                      have k3 := hk_.later 3 _ (by kernel_rfl) rfl
                      have k4 := hk_.later 4 _ (by kernel_rfl) rfl
                      have k5 := hk_.later 5 _ (by kernel_rfl) rfl
                      clear hk_
                      refine flow_plain rfl ?_
                      exact gives_move rfl ⟨hM_, h13⟩
                    refine allFrom_cons ?_ ?_
                    · intro f_ a_ w_ hM_ hk_
                      have h86 : a_.eval (.tmp 86) = (.string ⟨y.toArray⟩) := hk_.got 2 86 _ (by kernel_rfl) rfl rfl
                      have k3 : f_ 3 = none := hk_.un
                      have k4 := hk_.later 4 _ (by kernel_rfl) rfl
                      have k5 := hk_.later 5 _ (by kernel_rfl) rfl
                      clear hk_
                      simp only [List.map_cons, List.map_nil, k3, k4, k5] at hM_
                      simp only [List.map_cons, List.map_nil, upd_same, upd_ne f_ _ (show (4 : Nat) ≠ 3 by decide), upd_ne f_ _ (show (5 : Nat) ≠ 3 by decide), k4, k5]
                      refine flow_plain rfl ?_
                      unfold gives
                      have hc_ : ∀ v, a_.eval (.const v) = v := fun _ => rfl
                      have hn_ : ∀ f, a_.eval (.func f) = .func (.func f) #[] #[] := fun _ => rfl
                      generalize a_.eval = ρ_ at *
                      go_simp
                      subst hM_
                      exact (refHash_any _ y hvl).mono fun e w' ⟨h1, h2⟩ => ⟨_, h1, by rw [HHP.out], hstd.below h2⟩
                    refine allFrom_cons ?_ ?_
                    · intro f_ a_ w_ hM_ hk_
                      have k3 := hk_.val 3 87 _ (by kernel_rfl) rfl rfl
                      have k4 : f_ 4 = none := hk_.un
                      have k5 := hk_.later 5 _ (by kernel_rfl) rfl
                      clear hk_
                      simp only [List.map_cons, List.map_nil, k3, k4, k5] at hM_
                      simp only [List.map_cons, List.map_nil, upd_same, upd_ne f_ _ (show (3 : Nat) ≠ 4 by decide), upd_ne f_ _ (show (5 : Nat) ≠ 4 by decide), k3, k5]
                      refine flow_plain rfl ?_
                      obtain ⟨he, hG⟩ := hM_
                      exact gives_sl1H rfl hx he (fun g7 w7 h1 h2 => ⟨⟨he, ⟨g7, rfl, h1⟩, hG.below h2⟩, trivial⟩)
                    refine allFrom_cons ?_ ?_
                    · intro f_ a_ w_ hM_ hk_
                      have h85 : a_.eval (.tmp 85) = (.slice A8 (hList k t).length c8) := hk_.got 1 85 _ (by kernel_rfl) rfl rfl
                      have k3 := hk_.val 3 87 _ (by kernel_rfl) rfl rfl
                      have k4 := hk_.val 4 88 _ (by kernel_rfl) rfl rfl
                      have k5 : f_ 5 = none := hk_.un
                      clear hk_
                      simp only [List.map_cons, List.map_nil, k3, k4, k5] at hM_
                      simp only [List.map_cons, List.map_nil, upd_same, upd_ne f_ _ (show (3 : Nat) ≠ 5 by decide), upd_ne f_ _ (show (4 : Nat) ≠ 5 by decide), k3, k4]
                      refine flow_plain rfl ?_
                      obtain ⟨he, ⟨g7, he4, hb7⟩, hG⟩ := hM_
                      refine gives_appK _ _ _ rfl (.slice A8 (hList k t).length c8) h85 _ _ _ he4 elH hG.oh (rd_blk hb7) (by rw [hc_len hx]) (hc_one h) (by unfold maxLen; omega) (by omega) hG.be.size (fun v' w' h1 h2 h3 => ?_)
                      obtain ⟨A', c', rfl, _, _, _⟩ := own_form h1
                      refine ⟨⟨A', c', rfl, hG.appH h2 ?_⟩, trivial⟩
                      rw [HKS.out, List.length_append, List.map_append, List.flatten_append]
                      simpa using h1
                    refine allFrom_cons ?_ ?_
                    · refine stepK_by (by decide) ?_
                      intro f_ a_ w_ hM_ hk_
                      have h4 : a_.eval (.tmp 4) = .pointer (some ⟨gd, 0, none⟩) := hk_.old 4 (by kernel_rfl)
                      have k3 := hk_.val 3 87 _ (by kernel_rfl) rfl rfl
                      have k4 := hk_.val 4 88 _ (by kernel_rfl) rfl rfl
                      have k5 := hk_.val 5 89 _ (by kernel_rfl) rfl rfl
                      clear hk_
                      refine flow_plain rfl ?_
                      refine gives_keep hM_ ?_
                      unfold gives
                      have hc_ : ∀ v, a_.eval (.const v) = v := fun _ => rfl
                      have hn_ : ∀ f, a_.eval (.func f) = .func (.func f) #[] #[] := fun _ => rfl
                      generalize a_.eval = ρ_ at *
                      go_simp
                      exact ⟨rfl, rfl⟩
                    exact allFrom_nil
                  intro f_ y_ w_ hM_ hf_ hd_
                  have h84 : f_ 84 = (.pointer (some ⟨gd, 1, none⟩)) := (hf_ 0 84 _ (by decide) rfl rfl).1
                  have h85 : f_ 85 = (.slice A8 (hList k t).length c8) := (hf_ 1 85 _ (by decide) rfl rfl).1
                  have h86 : f_ 86 = (.string ⟨y.toArray⟩) := (hf_ 2 86 _ (by decide) rfl rfl).1
                  have k3 := (hf_ 3 87 _ (by decide) rfl rfl).2
                  have k4 := (hf_ 4 88 _ (by decide) rfl rfl).2
                  have k5 := (hf_ 5 89 _ (by decide) rfl rfl).2
                  have h90 : f_ 90 = (.pointer (some ⟨gd, 1, none⟩)) := (hf_ 6 90 _ (by decide) rfl rfl).1
                  simp only [List.map_cons, List.map_nil, k3, k4, k5] at hM_
                  simp only [mix, List.drop_succ_cons, List.drop_zero, h84, h85, h86, h90]
                  clear hf_ hd_ h84 h85 h86 h90 k3 k4 k5
                  obtain ⟨A', c', he5, hG⟩ := hM_
                  rw [he5] at hG
                  have cd := hG.bd.cell 1
                  have fd := hG.bd.frozen 1
                  simp only [he5]
                  go_wp2
                  have hp : Put _ _ gd tDr #[.slice A9 kl.length c9, .slice A' ((hList k t).length + 1) c'] := setCell_put hG.bd (i := 1) (.slice A' ((hList k t).length + 1) c')
                  exact ⟨⟨k + 1, .slice A' ((hList k t).length + 1) c', by omega, by go_num, hG.putD hp⟩, by simp [intOf]; omega⟩
                · obtain rfl : k = m := by omega
                  have hfin : refFin kl k t = if endE (hRun k t) ≠ 0 then (endE (hRun k t), [], []) else (0, kl, hList k t) := rfl
                  rw [hfin] at HOb
                  clear hfin hm64 hm32' hm32 hk hlk htl
                  generalize hRun k t = s at *
                  generalize hList k t = hh at *
                  rcases s with ⟨qb, qe⟩
                  go_wp2_with ((with_reducible refine wpAt ?_); refine loadRd rfl rfl rfl hst4.rr ?_; simp only [Act.put, List.setIfInBounds_toArray, List.set_cons_succ, List.set_cons_zero])
                  refine (refEnd_any wp qb qe).mono ?_
                  rintro x1 w11 ⟨rfl, hb11⟩
                  have hst5 := hst4.below hb11
                  clear hst4 hb11
                  generalize endE ⟨qb, qe⟩ = ee at *
                  by_cases hee : ee = 0
                  · subst hee
                    rw [if_neg (fun h => h rfl)] at HOb
                    go_wp2_with (first
                      | ((with_reducible refine wpAt ?_); refine loadDr rfl rfl rfl hst5.bd ?_; simp only [Act.put, List.setIfInBounds_toArray, List.set_cons_succ, List.set_cons_zero])
                      | ((with_reducible refine wpAt ?_); refine storeRz rfl rfl rfl rfl hst5.br ?_; intro w12 hp12; simp only [Act.put]))
                    refine bodyPost_ret (results_agg2' (cs := [.slice A9 kl.length c9, .slice A8 hh.length c8]) rfl rfl aggDr (blk_cells hp12.blk)) rfl ?_
                    obtain ⟨f1, f2, f3⟩ := hst5.fin hp12
                    rw [HOb.out]
                    exact ⟨.slice A9 kl.length c9, .slice A8 hh.length c8, rfl, f1, f2, f3⟩
                  · rw [if_pos hee] at HOb
                    go_wp2_with ((with_reducible refine wpAt ?_); refine storeRz rfl rfl rfl rfl hst5.br ?_; intro w12 hp12; simp only [Act.put])
                    refine bodyPost_ret (results_agg2' (cs := [nilS, nilS]) rfl rfl aggDr (blk_cells hp12.blk)) rfl ?_
                    have hbe := bx_put hst5.be hp12 hst5.hr
                    rw [HOb.out]
                    exact ⟨nilS, nilS, rfl, World.ownsRow_nil _ _ _ _, World.ownsRow_nil _ _ _ _, hbe⟩
/-- The document's Get of a digest. -/
theorem refGet_any (w : World) {b : List UInt8} (hl : b.length ≤ 1000000) :
    Calls Try.prog 23 #[.string ⟨b.toArray⟩] w fun e w' => ∃ v u, e = .returned (.tuple #[.agg #[v, u], .int .i64 (getOut b).1]) ∧ w'.ownsRow w.heap.size 54 33 v (getOut b).2.1.length ((getOut b).2.1.map kc).flatten ∧ w'.ownsRow w.heap.size 52 32 u (getOut b).2.2.length ((getOut b).2.2.map hc).flatten ∧ Below w.heap.size w w' := by
  rw [← refOut_eq]
  exact refGet2_any w hl
end Go.Proofs.Ythbmmilefimpaaa
