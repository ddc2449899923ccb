
/- The digest of bytes. -/
import Derived.Test.YthbmmilefimpaaaDigH
namespace Go.Proofs.Ythbmmilefimpaaa
open Go.RowKit Go.Maps
set_option linter.unusedVariables false
/-- What is read, key by key, hash by hash. -/
def kStep (s : RS) : RS := takeS (numS s 8) 32
def kOne (s : RS) : Key := (numV s 8, hashV (numS s 8))
def kRun : Nat → RS → RS
  | 0, s => s
  | n + 1, s => kStep (kRun n s)
def kList : Nat → RS → List Key
  | 0, _ => []
  | n + 1, s => kList n s ++ [kOne (kRun n s)]
def hRun : Nat → RS → RS
  | 0, s => s
  | n + 1, s => takeS (hRun n s) 32
def hList : Nat → RS → List (List UInt8)
  | 0, _ => []
  | n + 1, s => hList n s ++ [hashV (hRun n s)]
theorem kList_len (s : RS) : ∀ n, (kList n s).length = n
  | 0 => rfl
  | n + 1 => by rw [kList, List.length_append, kList_len s n]; rfl
theorem hList_len (s : RS) : ∀ n, (hList n s).length = n
  | 0 => rfl
  | n + 1 => by rw [hList, List.length_append, hList_len s n]; rfl
theorem hashV_len (s : RS) : (hashV s).length = 32 := by
  unfold hashV
  split
  · assumption
  · simp
theorem numV8_lt (s : RS) : numV s 8 < 18446744073709551616 := by
  unfold numV
  rw [if_pos (by decide)]
  have := foldV_lt (takeV s 8)
  have hl := takeV_len s 8
  have : 256 ^ (takeV s 8).length ≤ 256 ^ 8 := Nat.pow_le_pow_right (by decide) hl
  have e : (256 : Nat) ^ 8 = 18446744073709551616 := by decide
  show foldV (takeV s 8) < _
  omega
theorem kOne_ok (s : RS) : kOk (kOne s) := ⟨numV8_lt s, hashV_len _⟩
theorem kList_ok (s : RS) : ∀ n, ∀ k ∈ kList n s, kOk k
  | 0, _, h => by simp [kList] at h
  | n + 1, k, h => by
    rw [kList] at h
    rcases List.mem_append.1 h with h | h
    · exact kList_ok s n k h
    · rw [List.mem_singleton] at h
      rw [h]
      exact kOne_ok _
theorem hList_ok (s : RS) : ∀ n, ∀ k ∈ hList n s, hOk k
  | 0, _, h => by simp [hList] at h
  | n + 1, k, h => by
    rw [hList] at h
    rcases List.mem_append.1 h with h | h
    · exact hList_ok s n k h
    · rw [List.mem_singleton] at h
      rw [h]
      exact hashV_len _
theorem numS_len' (s : RS) (n : Int) : (numS s n).b.length ≤ s.b.length := by
  unfold numS
  split
  · exact takeS_len _ _
  · unfold argS
    split <;> exact Nat.le_refl _
theorem kRun_len (s : RS) : ∀ n, (kRun n s).b.length ≤ s.b.length
  | 0 => Nat.le_refl _
  | n + 1 => Nat.le_trans (takeS_len _ _) (Nat.le_trans (numS_len' _ _) (kRun_len s n))
theorem hRun_len (s : RS) : ∀ n, (hRun n s).b.length ≤ s.b.length
  | 0 => Nat.le_refl _
  | n + 1 => Nat.le_trans (takeS_len _ _) (hRun_len s n)
/-- What comes of bytes: the error, the keys, the hashes. -/
def getOut (b : List UInt8) : Int × List Key × List (List UInt8) :=
  if countE ⟨b, 0⟩ ≠ 0 then (countE ⟨b, 0⟩, [], [])
  else if countE (kRun (countV ⟨b, 0⟩) (numS ⟨b, 0⟩ 1)) ≠ 0 then (countE (kRun (countV ⟨b, 0⟩) (numS ⟨b, 0⟩ 1)), [], [])
  else if endE (hRun (countV (kRun (countV ⟨b, 0⟩) (numS ⟨b, 0⟩ 1))) (numS (kRun (countV ⟨b, 0⟩) (numS ⟨b, 0⟩ 1)) 1)) ≠ 0 then (endE (hRun (countV (kRun (countV ⟨b, 0⟩) (numS ⟨b, 0⟩ 1))) (numS (kRun (countV ⟨b, 0⟩) (numS ⟨b, 0⟩ 1)) 1)), [], [])
  else (0, kList (countV ⟨b, 0⟩) (numS ⟨b, 0⟩ 1), hList (countV (kRun (countV ⟨b, 0⟩) (numS ⟨b, 0⟩ 1))) (numS (kRun (countV ⟨b, 0⟩) (numS ⟨b, 0⟩ 1)) 1))
theorem splRoot (x : Nat) {h : List UInt8} (hl : hOk h) (zs : List Value) (hz : zs.length = 32) : spl (Value.int .u64 (x : Int) :: zs).toArray 1 (hc h) = (kc (x, h)).toArray := by
  unfold spl
  have : (Value.int .u64 (x : Int) :: zs).toArray.toList.drop (1 + (hc h).length) = [] := by
    rw [hc_len hl]
    apply List.drop_eq_nil_of_le
    simp [hz]
  rw [this]
  simp [kc, hc]
theorem aggZ {vs : List Value} (h : vs.length = 33) : AggT Try.prog 54 vs.length := by rw [h]; exact aggT_of Try.underlying54 rfl (by kernel_rfl)
abbrev tDg : TypeId := 26
theorem zDg : ZeroT Try.prog tDg (.agg #[.slice none 0 0, .slice none 0 0]) := zeroT_of (by kernel_rfl)
theorem splK9 {w w1 : World} {g : Nat} {t : TypeId} {x : Nat} {h : List UInt8} (hl : hOk h) (hp : Put w w1 g t (spl (Value.int .u64 (x : Int) :: List.replicate 32 (cb 0)).toArray 1 (hc h).toArray.toList)) : Blk w1 g t (kc (x, h)).toArray := by
  have := hp.blk
  rw [show (hc h).toArray.toList = hc h from rfl, splRoot x hl _ (by simp)] at this
  exact this
theorem getOut_eq {b : List UInt8} {n : Nat} {e0 : Int} {s0 : RS} (hn : n = countV ⟨b, 0⟩) (he : e0 = countE ⟨b, 0⟩) (hs : s0 = numS ⟨b, 0⟩ 1) :
    getOut b = if e0 ≠ 0 then (e0, [], []) else if countE (kRun n s0) ≠ 0 then (countE (kRun n s0), [], []) else if endE (hRun (countV (kRun n s0)) (numS (kRun n s0) 1)) ≠ 0 then (endE (hRun (countV (kRun n s0)) (numS (kRun n s0) 1)), [], []) else (0, kList n s0, hList (countV (kRun n s0)) (numS (kRun n s0) 1)) := by
  subst hn he hs
  rfl
theorem results_agg2' {P : Program} {fn : Func} {p q : Tmp} {ty : TypeId} (h : fn.results = #[.cell p ty, .tmp q]) {tmps : Array Value} {w : World} {g off : Nat} {cs : List Value}
    (hp : tmps.getD p undef = .pointer (some ⟨g, off, none⟩)) (hT : AggT P ty cs.length) (hc : ∀ j v, cs[j]? = some v → w.cell? ⟨g, off + j, none⟩ = some v) :
    (results fn tmps).run P w = .ok (.tuple #[.agg cs.toArray, tmps.getD q undef]) w := by
  have hp' : tmps[p]?.getD undef = .pointer (some ⟨g, off, none⟩) := by simpa using hp
  simp [results, h, hp', asAddr, run_load_agg hT hc]
theorem gives_sl1H {o : Oper} {a : Act} {w : World} {S : Value → World → Prop} {x : Operand} (ho : o.op = .buildSlice 23 1 #[(0, x)]) {k : List UInt8} (hk : hOk k) (hx : a.eval x = .agg (hc k).toArray)
    (h : ∀ g w1, Blk w1 g 52 (hc k).toArray → Below w.heap.size w w1 → S (.slice (some ⟨g, 0, none⟩) 1 1) w1) : gives Try.prog o a w S := by
  have hrun := run_slN (P := Try.prog) elH [.agg (hc k).toArray] (fun u hu => by
    rw [List.mem_singleton] at hu
    subst hu
    show (hc k).toArray.size = 32
    rw [List.size_toArray]
    exact hc_len hk) (by simp) (by simp) w #[(0, .agg (hc k).toArray)] (by simp) 1 rfl
  refine gives_val ?_ (h w.heap.size _ (slBH (Blk.new w _ _)) (bx_alloc (Below.refl _ _) _))
  unfold execOp
  have e1 : (#[(0, x)] : Array (Nat × Operand)).map (fun (i, x) => (i, a.eval x)) = #[(0, .agg (hc k).toArray)] := by simp [hx]
  simp only [ho, Sem.run_bind, e1, hrun, Result.andThen_ok, Sem.run_pure]
/-- Where the reading of hashes stands. -/
structure GS (wb W : World) (g gd gr : Nat) (s : RS) (vk u u' : Value) (kl : List Key) (hl : List (List UInt8)) : Prop where
  rr : Rr W g s
  bd : Blk W gd tDg #[vk, u]
  ok : W.ownsRow wb.heap.size 54 33 vk kl.length (kl.map kc).flatten
  oh : W.ownsRow wb.heap.size 52 32 u' hl.length (hl.map hc).flatten
  br : Blk W gr tDg #[.slice none 0 0, .slice none 0 0]
  be : Below wb.heap.size wb W
theorem GS.below {wb W W1 : World} {g gd gr : Nat} {s : RS} {vk u u' : Value} {kl : List Key} {hl : List (List UInt8)} (h : GS wb W g gd gr s vk u u' kl hl) (hb : Below W.heap.size W W1) : GS wb W1 g gd gr s vk u u' kl hl :=
  ⟨h.rr.below hb, h.bd.below hb h.bd.lt, own_keep h.ok hb, own_keep h.oh hb, h.br.below hb h.br.lt, bx_trans h.be hb⟩
theorem GS.rg {wb W W1 : World} {g gd gr : Nat} {s s' : RS} {vk u u' : Value} {kl : List Key} {hl : List (List UInt8)} (h : GS wb W g gd gr s vk u u' kl hl) (hR : Rr W1 g s') (hg : W.grownBy W1 (some g)) (h1 : gd ≠ g) (h2 : gr ≠ g) (hw : wb.heap.size ≤ g) : GS wb W1 g gd gr s' vk u u' kl hl := by
  obtain ⟨A, c, hb⟩ := h.rr
  exact ⟨hR, blk_rg h.bd hg h1, own_rg h.ok hb.blk hg (by decide), own_rg h.oh hb.blk hg (by decide), blk_rg h.br hg h2, h.be.trans (below_rg hg hw h.be.size)⟩
theorem GS.app {wb W W1 : World} {g gd gr : Nat} {s : RS} {vk u u1 : Value} {kl : List Key} {hl hl' : List (List UInt8)} (h : GS wb W g gd gr s vk u u kl hl) (hg : W.grownBy W1 u.ownBlock) (hown : W1.ownsRow wb.heap.size 52 32 u1 hl'.length (hl'.map hc).flatten) : GS wb W1 g gd gr s vk u u1 kl hl' := by
  obtain ⟨A, c, hb⟩ := h.rr
  refine ⟨⟨A, c, hb.app h.oh hg (by decide) (by decide)⟩, blk_app h.bd h.oh hg (by decide), ?_, hown, blk_app h.br h.oh hg (by decide), own_below h.be h.oh hg⟩
  refine ⟨h.ok.1, h.ok.2.imp id ?_⟩
  rintro ⟨g', cap, cur, rfl, h2, h3, h4⟩
  exact ⟨g', cap, cur, rfl, h2, blk_app (w1 := W1) (show Blk W g' _ cur from h3) h.oh hg (by decide), h4⟩
theorem GS.put {wb W W1 : World} {g gd gr : Nat} {s : RS} {vk u u1 : Value} {kl : List Key} {hl : List (List UInt8)} (h : GS wb W g gd gr s vk u u1 kl hl) (hp : Put W W1 gd tDg #[vk, u1]) (h1 : gd ≠ g) (h2 : gr ≠ gd) (hw : wb.heap.size ≤ gd) : GS wb W1 g gd gr s vk u1 u1 kl hl :=
  ⟨Rr.other h.rr h.bd hp (by decide) (fun e => h1 e.symm), hp.blk, own_put h.ok h.bd hp (by decide), own_put h.oh h.bd hp (by decide), hp.other h.br h2, bx_put h.be hp hw⟩
theorem zset (x : Value) : (Value.agg (kc (0, List.replicate 32 0)).toArray).cells.setIfInBounds 0 x = (x :: List.replicate 32 (cb 0)).toArray := by simp [Value.cells, kc]
theorem own_putne {w w1 : World} {base e size n g t : Nat} {v : Value} {xs : List Value} {cs : Array Value} (h : w.ownsRow base e size v n xs) (hne : v.ownBlock ≠ some g) (hp : Put w w1 g t cs) : w1.ownsRow base e size v n xs := by
  refine ⟨h.1, h.2.imp id ?_⟩
  rintro ⟨g', cap, cur, rfl, h2, h3, h4⟩
  exact ⟨g', cap, cur, rfl, h2, (hp.oth g' (fun e1 => hne (by rw [← e1]; rfl))).trans h3, h4⟩
set_option maxRecDepth 10000 in
set_option maxHeartbeats 1000000 in
theorem Get_any (w : World) {A0 : Option Addr} {c0 B0 : Nat} {b : List UInt8} (hr : Rd w B0 A0 (b.map cb)) (hl : b.length ≤ 1000000) :
    Calls Try.prog 22 #[.slice A0 b.length c0] w fun e w' => ∃ v u, e = .returned (.tuple #[.agg #[v, u], .int .i64 (getOut b).1]) ∧ w'.ownsRow w.heap.size 54 33 v (getOut b).2.1.length ((getOut b).2.1.map kc).flatten ∧ w'.ownsRow w.heap.size 52 32 u (getOut b).2.2.length ((getOut b).2.2.map hc).flatten ∧ Below w.heap.size w w' := by
  have HR := hid hr
  clear hr
  go_enter Try.func22, Try.ntmps22
  go_wp2_with fail
  have hg := Blk.new w tDg #[.slice none 0 0, .slice none 0 0]
  have hb1 : Below w.heap.size w (w.alloc (.cells #[.slice none 0 0, .slice none 0 0] tDg)) := bx_alloc (Below.refl _ _) _
  have hrd1 : Rd (w.alloc (.cells #[.slice none 0 0, .slice none 0 0] tDg)) B0 A0 (b.map cb) := by
    rcases HR.out with h | ⟨b', off, h1, h2, h3⟩
    · exact .inl h
    · refine .inr ⟨b', off, h1, h2, fun i v hv => ?_⟩
      have := h3 i v hv
      exact (World.cell?_alloc_lt w _ _ (World.block_lt_of_cell? w _ this)).trans this
  obtain ⟨gr, hgd⟩ : ∃ gr, gr = w.heap.size := ⟨_, rfl⟩
  have hgr : w.heap.size ≤ gr := by omega
  rw [← hgd] at hg
  rw [← hgd]
  clear hgd
  generalize w.alloc (.cells #[.slice none 0 0, .slice none 0 0] tDg) = w1 at *
  refine (NewReader_any w1 hrd1 (by omega)).mono ?_
  rintro e w2 ⟨g, rfl, ⟨AR, cR, hR2⟩, hg2, hb2⟩
  have hblr2 := hg.below hb2 hg.lt
  have hb02 := bx_trans hb1 hb2
  have hgw : w.heap.size ≤ g := Nat.le_trans hb1.size hg2
  have hrg : gr < g := Nat.lt_of_lt_of_le hg.lt hg2
  clear hg hb1 hb2 hrd1
  go_wp2_with (refine wpList_alloc rfl _ rfl zDg ?_; intro gd w3 hgd hgd' hblk3' hb3; have hblk3 : Blk w3 gd tDg #[.slice none 0 0, .slice none 0 0] := hblk3'; clear hblk3'; have hR3 := hR2.below hb3; have hblr3 := hblr2.below hb3 hblr2.lt; have hb03 := bx_trans hb02 hb3; have hgdg : g < gd := Nat.lt_of_lt_of_le hR2.blk.lt hgd; have hwd : w.heap.size ≤ gd := Nat.le_trans hb02.size hgd)
  clear hb02 hR2 hblr2 hb3
  refine (count_any w3 hR3).mono ?_
  rintro e w4 ⟨rfl, ⟨A4, c4, hR4⟩, hG4⟩
  have hblk4 : Blk w4 gd tDg #[.slice none 0 0, .slice none 0 0] := blk_rg hblk3 hG4 (by omega)
  have hblr4 := blk_rg hblr3 hG4 (by omega)
  have hb4 := hb03.trans (below_rg hG4 hgw hb03.size)
  have hcv := countV_le ⟨b, 0⟩
  have hsl : (numS ⟨b, 0⟩ 1).b.length ≤ 1000000 := Nat.le_trans (numS_len' _ _) hl
  obtain ⟨n, hn⟩ : ∃ n, n = countV ⟨b, 0⟩ := ⟨_, rfl⟩
  obtain ⟨e0, he0⟩ : ∃ e0, e0 = countE ⟨b, 0⟩ := ⟨_, rfl⟩
  obtain ⟨s0, hs0⟩ : ∃ s0, s0 = numS ⟨b, 0⟩ 1 := ⟨_, rfl⟩
  rw [← hn] at hcv
  rw [← hs0] at hR4 hsl
  rw [← hn, ← he0]
  have HN := hid hn
  have HE := hid he0
  have HS := hid hs0
  clear hn he0 hs0 hR3 hblk3 hblr3 hG4 hb03
  go_wp2
  go_loopw [18] (fun j wr => ∃ (i : Nat) (v : Value), i ≤ n ∧ j = .int .i64 i ∧ Rr wr g (kRun i s0) ∧ Blk wr gd tDg #[v, .slice none 0 0] ∧ wr.ownsRow w.heap.size 54 33 v (kList i s0).length ((kList i s0).map kc).flatten ∧ Blk wr gr tDg #[.slice none 0 0, .slice none 0 0] ∧ Below w.heap.size w wr) (fun j _ => n - (intOf j).toNat)
  case atStart => exact ⟨0, .slice none 0 0, by omega, rfl, ⟨A4, c4, hR4⟩, hblk4, World.ownsRow_nil _ _ _ _, hblr4, hb4⟩
  case round =>
    obtain ⟨i, v, hi, rfl, ⟨A, c, hR⟩, hblk, hown, hblr, hbr⟩ := hrel
    obtain ⟨A9, c9, rfl, _, _, _⟩ := own_form hown
    rename World => wo
    clear hR4 hblk4 hblr4 hb4
    by_cases hlt : i < n
    · have hkl := kRun_len s0 i
      have hll := kList_len s0 i
      have hx : kOk (kOne (kRun i s0)) := kOne_ok _
      have hks : kList (i + 1) s0 = kList i s0 ++ [(numV (kRun i s0) 8, hashV (numS (kRun i s0) 8))] := rfl
      have hrs : kRun (i + 1) s0 = takeS (numS (kRun i s0) 8) 32 := rfl
      have hxd : kOne (kRun i s0) = (numV (kRun i s0) 8, hashV (numS (kRun i s0) 8)) := rfl
      have HKS := hid hks
      have HRS := hid hrs
      rw [hxd] at hx
      clear hks hrs hxd
      generalize kRun i s0 = s at *
      have hll2 : (kList i s0).length ≤ 32 := by omega
      have HLL := hid hll
      clear hll
      go_wp2_with (refine wpList_alloc rfl _ rfl zrDK ?_; intro g5 w5 hg5 hg5' hblk5 hb5)
      have hgs : g < wo.heap.size := hR.blk.lt
      have hds : gd < wo.heap.size := hblk.lt
      have hrs := hblr.lt
      have hv5 : (Value.slice A9 (kList i s0).length c9).ownBlock ≠ some g5 := fun e => Nat.lt_irrefl _ (Nat.lt_of_lt_of_le (hown.lt _ e).2 hg5)
      have hR5 := hR.below hb5
      have hb05 := bx_trans hbr hb5
      refine (RNum_any w5 hR5 8).mono ?_
      rintro e w6 ⟨rfl, hR6, hG6⟩
      have hblk6 := blk_rg hblk5 hG6 (by omega)
      have hown6 := own_rg (own_keep hown hb5) hR5.blk hG6 (by decide)
      have hbd6 := blk_rg (hblk.below hb5 hblk.lt) hG6 (by omega)
      have hbr6 := blk_rg (hblr.below hb5 hblr.lt) hG6 (by omega)
      have hb06 := hb05.trans (below_rg hG6 hgw hb05.size)
      have cz := hblk6.cell 0
      have fz := hblk6.frozen 0
      rw [show (Value.agg (kc (0, List.replicate 32 0)).toArray).cells[0]? = some (.int .u64 0) from rfl] at cz
      go_wp2_with fail
      have hp7 := setCell_put hblk6 (i := 0) (.int .u64 (numV s 8 : Int))
      rw [zset] at hp7
      clear cz fz
      generalize w6.setCell ⟨g5, 0, none⟩ (.int .u64 (numV s 8 : Int)) = w7 at *
      have hblk7 := hp7.blk
      obtain ⟨A7, c7, hR7⟩ := Rr.other hR6 hblk6 hp7 (by decide) (by omega)
      have hown7 := own_putne hown6 hv5 hp7
      have hbd7 := hp7.other hbd6 (by omega)
      have hbr7 := hp7.other hbr6 (by omega)
      have hb07 := bx_put hb06 hp7 (by have := hbr.size; omega)
      clear hblk6 hR6 hown6 hbd6 hbr6 hb06 hp7 hG6
      refine (RHash_any w7 hR7 (by have := numS_len' s 8; omega)).mono ?_
      rintro e w8 ⟨rfl, hR8, hG8⟩
      have hblk8 := blk_rg hblk7 hG8 (by omega)
      have hown8 := own_rg hown7 hR7.blk hG8 (by decide)
      have hbd8 := blk_rg hbd7 hG8 (by omega)
      have hbr8 := blk_rg hbr7 hG8 (by omega)
      have hb08 := hb07.trans (below_rg hG8 hgw hb07.size)
      have hx2 : hOk (hashV (numS s 8)) := hashV_len _
      rw [← HRS.out] at hR8
      clear hblk7 hR7 hown7 hbd7 hbr7 hb07 hG8
      generalize hashV (numS s 8) = h at *
      generalize numV s 8 = x at *
      have cd := hbd8.cell 0
      go_wp2_with (first
        | (refine wpList_store_agg rfl _ _ _ rfl g5 1 rfl (hc h).toArray rfl (aggSH hx2) hblk8 (by rw [List.size_toArray, hc_len hx2]; simp) (oneAH h) ?_; intro w9 hp9; have hblk9 : Blk w9 g5 54 (kc (x, h)).toArray := splK9 hx2 hp9; have hR9 := Rr.other hR8 hblk8 hp9 (by decide) (by omega); have hown9 := own_putne hown8 hv5 hp9; have hbd9 := hp9.other hbd8 (by omega); have hbr9 := hp9.other hbr8 (by omega); have hb09 := bx_put hb08 hp9 (by have := hbr.size; omega); have cd9 := hbd9.cell 0)
        | (refine wpList_load_agg rfl _ _ rfl _ _ rfl (kc (x, h)) (aggKc hx) (blk_cells hblk9) ?_)
        | (refine sl1K rfl _ rfl hx rfl ?_; intro g10 w10 hg10 hblk10 hb10; have hr10 := rd_blk hblk10; have hown10 := own_keep hown9 hb10; have hR10 := hR9.below hb10; have hbd10 := hbd9.below hb10 hbd9.lt; have hbr10 := hbr9.below hb10 hbr9.lt; have hb010 := bx_trans hb09 hb10)
        | (at_builtin; refine wpList_app rfl _ _ _ rfl (Value.slice A9 (kList i s0).length c9) rfl _ _ _ rfl elK hown10 hr10 (by rw [kc_len hx]) (kc_one _) (by unfold maxLen; omega) (by omega) hb010.size ?_; intro v11 w11 hown11 hgr11 hv11; obtain ⟨A10, c10, hR10⟩ := hR10; have hR11 := hR10.app hown10 hgr11 (by decide) (by decide); have hbd11 := blk_app hbd10 hown10 hgr11 (by decide); have hbr11 := blk_app hbr10 hown10 hgr11 (by decide); have hb011 := own_below hb010 hown10 hgr11; obtain ⟨A11, c11, rfl, _, _, _⟩ := own_form hown11; have cd11 := hbd11.cell 0; have fd11 := hbd11.frozen 0))
      have hp12 := setCell_put hbd11 (i := 0) (.slice A11 ((kList i s0).length + 1) c11)
      have hbd12 : Blk _ gd tDg #[.slice A11 ((kList i s0).length + 1) c11, .slice none 0 0] := hp12.blk
      have hown12 := own_put hown11 hbd11 hp12 (by decide)
      have hR12 := Rr.other ⟨A10, c10, hR11⟩ hbd11 hp12 (by decide) (by omega)
      have hbr12 := hp12.other hbr11 (by omega)
      have hb012 := bx_put hb011 hp12 hwd
      refine ⟨⟨i + 1, .slice A11 ((kList i s0).length + 1) c11, by omega, by go_num, hR12, hbd12, ?_, hbr12, hb012⟩, by simp [intOf]; omega⟩
      rw [HKS.out, List.length_append, List.map_append, List.flatten_append]
      simpa using hown12
    · obtain rfl : i = n := by omega
      have hgo := getOut_eq HN.out HE.out HS.out
      have HGO := hid hgo
      clear hgo
      have hrl := kRun_len s0 i
      by_cases he0 : e0 = 0
      · subst he0
        rw [if_neg (by simp)] at HGO
        go_wp2_with fail
        refine (count_any wo hR).mono ?_
        rintro e w5 ⟨rfl, hR5, hG5⟩
        have hds : gd ≠ g := by omega
        have hrs : gr ≠ g := by omega
        have hst : GS w wo g gd gr (kRun i s0) (.slice A9 (kList i s0).length c9) (.slice none 0 0) (.slice none 0 0) (kList i s0) [] := ⟨⟨A, c, hR⟩, hblk, hown, World.ownsRow_nil _ _ _ _, hblr, hbr⟩
        have hst5 := hst.rg hR5 hG5 hds hrs hgw
        have hcv2 := countV_le (kRun i s0)
        have hsl2 : (numS (kRun i s0) 1).b.length ≤ 1000000 := Nat.le_trans (numS_len' _ _) (Nat.le_trans hrl hsl)
        have hkl := kList_len s0 i
        have HKL := hid hkl
        clear hst hR hblk hown hblr hbr hR5 hG5 hkl
        generalize countV (kRun i s0) = n2 at *
        generalize countE (kRun i s0) = e2 at *
        generalize numS (kRun i s0) 1 = s2 at *
        generalize kList i s0 = kl at *
        by_cases he2 : e2 = 0
        · subst he2
          rw [if_neg (by simp)] at HGO
          go_wp2
          go_loopw [45] (fun j wr => ∃ (k : Nat) (u : Value), k ≤ n2 ∧ j = .int .i64 k ∧ GS w wr g gd gr (hRun k s2) (.slice A9 kl.length c9) u u kl (hList k s2)) (fun j _ => n2 - (intOf j).toNat)
          case atStart => exact ⟨0, .slice none 0 0, by omega, rfl, hst5⟩
          case round =>
            obtain ⟨k, u, hk, rfl, hst⟩ := hrel
            obtain ⟨A8, c8, rfl, _, _, _⟩ := own_form hst.oh
            clear hst5
            by_cases hlk : k < n2
            · have hrl2 := hRun_len s2 k
              have hks : hList (k + 1) s2 = hList k s2 ++ [hashV (hRun k s2)] := rfl
              have hrs2 : hRun (k + 1) s2 = takeS (hRun k s2) 32 := rfl
              have hx : hOk (hashV (hRun k s2)) := hashV_len _
              have hll : (hList k s2).length ≤ 32 := by rw [hList_len]; omega
              have hlen : (hRun k s2).b.length ≤ 1000000000 := by omega
              have HKS := hid hks
              have HRS := hid hrs2
              have hstd : GS w wr.drew g gd gr (hRun k s2) (.slice A9 kl.length c9) (.slice A8 (hList k s2).length c8) (.slice A8 (hList k s2).length c8) kl (hList k s2) := hst.below (bx_drew (Below.refl _ _))
              obtain ⟨AR, cR', hRd⟩ := hstd.rr
              have HRD := hid hRd
              clear hks hrs2 hRd
              generalize hsn : hRun (k + 1) s2 = sn at *
              have HSN := hid hsn
              clear hsn
              generalize hRun k s2 = sk at *
              generalize hhv : hashV sk = h at *
              have HHV := hid hhv
              clear hhv
              go_wp2
              refine wp_flowK (by kernel_rfl) [0, 1, 0, 4, 12, 31, 63, 127] 7 [false, false, false, false, false, false, false, false, false, false, false, false, false, false, false, false, false, false, false, false, false, false, false, false, false, false, false, false, false, false, false, false, false, false, false, false, false, false, false, false, false, false, false, false, false, false, false, true, true, true, true, true, true, true] (by kernel_rfl) (by decide) (by kernel_rfl) [KP.eq (.pointer (some ⟨gd, 1, none⟩)), KP.eq (.slice A8 (hList k s2).length c8), KP.eq (.pointer (some ⟨g, 0, none⟩)), KP.any, KP.any, KP.any, KP.eq (.pointer (some ⟨gd, 1, none⟩))] [3, 4, 5] (fun ks w' => match ks with | [some _, some _, some v5] => ∃ A' c', v5 = .slice A' ((hList k s2).length + 1) c' ∧ GS w w' g gd gr sn (.slice A9 kl.length c9) (.slice A8 (hList k s2).length c8) v5 kl (hList (k + 1) s2) | [some v3, some v4, none] => v3 = .agg (hc h).toArray ∧ (∃ g7, v4 = .slice (some ⟨g7, 0, none⟩) 1 1 ∧ Blk w' g7 52 (hc h).toArray) ∧ GS w w' g gd gr sn (.slice A9 kl.length c9) (.slice A8 (hList k s2).length c8) (.slice A8 (hList k s2).length c8) kl (hList k s2) | [some v3, none, none] => v3 = .agg (hc h).toArray ∧ GS w w' g gd gr sn (.slice A9 kl.length c9) (.slice A8 (hList k s2).length c8) (.slice A8 (hList k s2).length c8) kl (hList k s2) | _ => w' = wr.drew) ?_ ?_ ?_
              · exact rfl
              · refine allFrom_cons ?_ ?_
                · refine stepK_by (by decide) ?_
                  intro f_ a_ w_ hM_ hk_
                  have h5 : a_.eval (.tmp 5) = .pointer (some ⟨gd, 0, none⟩) := hk_.old 5 (by kernel_rfl)
                  have k5 := hk_.later 5 _ (by kernel_rfl) rfl
                  clear hk_
                  refine flow_plain rfl ?_
                  refine gives_keep hM_ ?_
                  unfold gives
                  have hc_ : ∀ v, a_.eval (.const v) = v := fun _ => rfl
                  have hn_ : ∀ f, a_.eval (.func f) = .func (.func f) #[] #[] := fun _ => rfl
                  generalize a_.eval = ρ_ at *
                  go_simp
                  exact ⟨rfl, rfl⟩
                refine allFrom_cons ?_ ?_
                · refine stepK_by (by decide) ?_
                  intro f_ a_ w_ hM_ hk_
                  have h47 : a_.eval (.tmp 47) = (.pointer (some ⟨gd, 1, none⟩)) := hk_.got 0 47 _ (by kernel_rfl) rfl rfl
                  have k5 := hk_.later 5 _ (by kernel_rfl) rfl
                  clear hk_
                  refine flow_plain rfl ?_
                  have hM := hM_
                  simp only [List.map_cons, List.map_nil, k5] at hM
                  refine gives_keep hM_ ?_
                  unfold gives
                  have hc_ : ∀ v, a_.eval (.const v) = v := fun _ => rfl
                  have hn_ : ∀ f, a_.eval (.func f) = .func (.func f) #[] #[] := fun _ => rfl
                  have hbd_ : Blk w_ gd tDg #[.slice A9 kl.length c9, .slice A8 (hList k s2).length c8] := by
                    revert hM
                    cases f_ 3 with
                    | none => exact fun hM => (by rw [show w_ = wr.drew from hM]; exact hstd.bd)
                    | some v3 =>
                      cases f_ 4 with
                      | none => exact fun ⟨_, hG⟩ => hG.bd
                      | some v4 => exact fun ⟨_, _, hG⟩ => hG.bd
                  have hcell := hbd_.cell 1
                  generalize a_.eval = ρ_ at *
                  go_simp
                  exact ⟨rfl, rfl⟩
                refine allFrom_cons ?_ ?_
                · refine stepK_by (by decide) ?_
                  intro f_ a_ w_ hM_ hk_
                  have h4 : a_.eval (.tmp 4) = .pointer (some ⟨g, 0, none⟩) := hk_.old 4 (by kernel_rfl)
                  have k3 := hk_.later 3 _ (by kernel_rfl) rfl
                  have k4 := hk_.later 4 _ (by kernel_rfl) rfl
                  have k5 := hk_.later 5 _ (by kernel_rfl) rfl
                  clear hk_
                  refine flow_plain rfl ?_
                  exact gives_move rfl ⟨hM_, h4⟩
                refine allFrom_cons ?_ ?_
                · intro f_ a_ w_ hM_ hk_
                  have h49 : a_.eval (.tmp 49) = (.pointer (some ⟨g, 0, none⟩)) := hk_.got 2 49 _ (by kernel_rfl) rfl rfl
                  have k3 : f_ 3 = none := hk_.un
                  have k4 := hk_.later 4 _ (by kernel_rfl) rfl
                  have k5 := hk_.later 5 _ (by kernel_rfl) rfl
                  clear hk_
                  simp only [List.map_cons, List.map_nil, k3, k4, k5] at hM_
                  simp only [List.map_cons, List.map_nil, upd_same, upd_ne f_ _ (show (4 : Nat) ≠ 3 by decide), upd_ne f_ _ (show (5 : Nat) ≠ 3 by decide), k4, k5]
                  refine flow_plain rfl ?_
                  unfold gives
                  have hc_ : ∀ v, a_.eval (.const v) = v := fun _ => rfl
                  have hn_ : ∀ f, a_.eval (.func f) = .func (.func f) #[] #[] := fun _ => rfl
                  generalize a_.eval = ρ_ at *
                  go_simp
                  subst hM_
                  exact (RHash_any _ HRD.out hlen).mono fun e w' ⟨h1, h2, h3⟩ => ⟨_, h1, by rw [HHV.out]; rfl, hstd.rg (by rw [HRS.out]; exact h2) h3 hds hrs hgw⟩
                refine allFrom_cons ?_ ?_
                · intro f_ a_ w_ hM_ hk_
                  have k3 := hk_.val 3 50 _ (by kernel_rfl) rfl rfl
                  have k4 : f_ 4 = none := hk_.un
                  have k5 := hk_.later 5 _ (by kernel_rfl) rfl
                  clear hk_
                  simp only [List.map_cons, List.map_nil, k3, k4, k5] at hM_
                  simp only [List.map_cons, List.map_nil, upd_same, upd_ne f_ _ (show (3 : Nat) ≠ 4 by decide), upd_ne f_ _ (show (5 : Nat) ≠ 4 by decide), k3, k5]
                  refine flow_plain rfl ?_
                  obtain ⟨he, hG⟩ := hM_
                  exact gives_sl1H rfl hx he (fun g7 w7 h1 h2 => ⟨⟨he, ⟨g7, rfl, h1⟩, hG.below h2⟩, trivial⟩)
                refine allFrom_cons ?_ ?_
                · intro f_ a_ w_ hM_ hk_
                  have h48 : a_.eval (.tmp 48) = (.slice A8 (hList k s2).length c8) := hk_.got 1 48 _ (by kernel_rfl) rfl rfl
                  have k3 := hk_.val 3 50 _ (by kernel_rfl) rfl rfl
                  have k4 := hk_.val 4 51 _ (by kernel_rfl) rfl rfl
                  have k5 : f_ 5 = none := hk_.un
                  clear hk_
                  simp only [List.map_cons, List.map_nil, k3, k4, k5] at hM_
                  simp only [List.map_cons, List.map_nil, upd_same, upd_ne f_ _ (show (3 : Nat) ≠ 5 by decide), upd_ne f_ _ (show (4 : Nat) ≠ 5 by decide), k3, k4]
                  refine flow_plain rfl ?_
                  obtain ⟨he, ⟨g7, he4, hb7⟩, hG⟩ := hM_
                  refine gives_appK _ _ _ rfl (.slice A8 (hList k s2).length c8) h48 _ _ _ he4 elH hG.oh (rd_blk hb7) (by rw [hc_len hx]) (hc_one h) (by unfold maxLen; omega) (by omega) hG.be.size (fun v' w' h1 h2 h3 => ?_)
                  obtain ⟨A', c', rfl, _, _, _⟩ := own_form h1
                  refine ⟨⟨A', c', rfl, hG.app h2 ?_⟩, trivial⟩
                  rw [HKS.out, List.length_append, List.map_append, List.flatten_append]
                  simpa using h1
                refine allFrom_cons ?_ ?_
                · refine stepK_by (by decide) ?_
                  intro f_ a_ w_ hM_ hk_
                  have h5 : a_.eval (.tmp 5) = .pointer (some ⟨gd, 0, none⟩) := hk_.old 5 (by kernel_rfl)
                  have k3 := hk_.val 3 50 _ (by kernel_rfl) rfl rfl
                  have k4 := hk_.val 4 51 _ (by kernel_rfl) rfl rfl
                  have k5 := hk_.val 5 52 _ (by kernel_rfl) rfl rfl
                  clear hk_
                  refine flow_plain rfl ?_
                  refine gives_keep hM_ ?_
                  unfold gives
                  have hc_ : ∀ v, a_.eval (.const v) = v := fun _ => rfl
                  have hn_ : ∀ f, a_.eval (.func f) = .func (.func f) #[] #[] := fun _ => rfl
                  generalize a_.eval = ρ_ at *
                  go_simp
                  exact ⟨rfl, rfl⟩
                exact allFrom_nil
              intro f_ y_ w_ hM_ hf_ hd_
              have h47 : f_ 47 = (.pointer (some ⟨gd, 1, none⟩)) := (hf_ 0 47 _ (by decide) rfl rfl).1
              have h48 : f_ 48 = (.slice A8 (hList k s2).length c8) := (hf_ 1 48 _ (by decide) rfl rfl).1
              have h49 : f_ 49 = (.pointer (some ⟨g, 0, none⟩)) := (hf_ 2 49 _ (by decide) rfl rfl).1
              have k3 := (hf_ 3 50 _ (by decide) rfl rfl).2
              have k4 := (hf_ 4 51 _ (by decide) rfl rfl).2
              have k5 := (hf_ 5 52 _ (by decide) rfl rfl).2
              have h53 : f_ 53 = (.pointer (some ⟨gd, 1, none⟩)) := (hf_ 6 53 _ (by decide) rfl rfl).1
              simp only [List.map_cons, List.map_nil, k3, k4, k5] at hM_
              simp only [mix, List.drop_succ_cons, List.drop_zero, h47, h48, h49, h53]
              clear hf_ hd_ h47 h48 h49 h53 k3 k4 k5
              obtain ⟨A', c', he5, hG⟩ := hM_
              rw [he5] at hG
              have cd := hG.bd.cell 1
              have fd := hG.bd.frozen 1
              simp only [he5]
              go_wp2
              have hp := setCell_put hG.bd (i := 1) (.slice A' ((hList k s2).length + 1) c')
              have hfin := hG.put hp hds (by omega) hwd
              rw [← HSN.out] at hfin
              exact ⟨⟨k + 1, .slice A' ((hList k s2).length + 1) c', by omega, by go_num, hfin⟩, by simp [intOf]; omega⟩
            · obtain rfl : k = n2 := by omega
              have hst' := hst
              obtain ⟨AR, cR', hRd⟩ := hst.rr
              generalize hRun k s2 = s3 at *
              generalize hList k s2 = hl2 at *
              go_wp2_with fail
              refine (REnd_any wr hRd).mono ?_
              rintro e w6 ⟨rfl, rfl⟩
              generalize endE s3 = e3 at *
              by_cases he3 : e3 = 0
              · subst he3
                rw [if_neg (by simp)] at HGO
                go_wp2_with (first
                  | (refine wpList_load_agg rfl _ _ rfl _ _ rfl [.slice A9 kl.length c9, .slice A8 hl2.length c8] aggD (blk_cells hst.bd) ?_)
                  | (refine wpList_store_agg rfl _ _ _ rfl gr 0 rfl #[.slice A9 kl.length c9, .slice A8 hl2.length c8] rfl aggD2 hst.br (Nat.le_refl 2) (oneD _ _) ?_; intro w7 hp7))
                have hb7 : Blk w7 gr tDg #[.slice A9 kl.length c9, .slice A8 hl2.length c8] := hp7.blk
                refine bodyPost_ret (results_agg2' (cs := [.slice A9 kl.length c9, .slice A8 hl2.length c8]) rfl rfl aggD (blk_cells hb7)) rfl ?_
                exact ⟨.slice A9 kl.length c9, .slice A8 hl2.length c8, by rw [HGO.out]; rfl, by rw [HGO.out]; exact own_put hst.ok hst.br hp7 (by decide), by rw [HGO.out]; exact own_put hst.oh hst.br hp7 (by decide), bx_put hst.be hp7 hgr⟩
              · rw [if_pos he3] at HGO
                go_wp2_with (refine wpList_store_agg rfl _ _ _ rfl gr 0 rfl #[.slice none 0 0, .slice none 0 0] rfl aggD2 hst.br (Nat.le_refl 2) (oneD _ _) ?_; intro w4 hp4)
                have hb5 : Blk w4 gr tDg #[.slice none 0 0, .slice none 0 0] := hp4.blk
                refine bodyPost_ret (results_agg2' (cs := [.slice none 0 0, .slice none 0 0]) rfl rfl aggD (blk_cells hb5)) rfl ?_
                exact ⟨.slice none 0 0, .slice none 0 0, by rw [HGO.out]; rfl, by rw [HGO.out]; exact World.ownsRow_nil _ _ _ _, by rw [HGO.out]; exact World.ownsRow_nil _ _ _ _, bx_put hst.be hp4 hgr⟩
        · rw [if_pos he2] at HGO
          have hbr5 := hst5.br
          have hbe5 := hst5.be
          go_wp2_with (refine wpList_store_agg rfl _ _ _ rfl gr 0 rfl #[.slice none 0 0, .slice none 0 0] rfl aggD2 hbr5 (Nat.le_refl 2) (oneD _ _) ?_; intro w4 hp4)
          have hb5 : Blk w4 gr tDg #[.slice none 0 0, .slice none 0 0] := hp4.blk
          refine bodyPost_ret (results_agg2' (cs := [.slice none 0 0, .slice none 0 0]) rfl rfl aggD (blk_cells hb5)) rfl ?_
          exact ⟨.slice none 0 0, .slice none 0 0, by rw [HGO.out]; rfl, by rw [HGO.out]; exact World.ownsRow_nil _ _ _ _, by rw [HGO.out]; exact World.ownsRow_nil _ _ _ _, bx_put hbe5 hp4 hgr⟩
      · rw [if_pos he0] at HGO
        go_wp2_with (refine wpList_store_agg rfl _ _ _ rfl gr 0 rfl #[.slice none 0 0, .slice none 0 0] rfl aggD2 hblr (Nat.le_refl 2) (oneD _ _) ?_; intro w4 hp4)
        have hb5 : Blk w4 gr tDg #[.slice none 0 0, .slice none 0 0] := hp4.blk
        refine bodyPost_ret (results_agg2' (cs := [.slice none 0 0, .slice none 0 0]) rfl rfl aggD (blk_cells hb5)) rfl ?_
        exact ⟨.slice none 0 0, .slice none 0 0, by rw [HGO.out]; rfl, by rw [HGO.out]; exact World.ownsRow_nil _ _ _ _, by rw [HGO.out]; exact World.ownsRow_nil _ _ _ _, bx_put hbr hp4 hgr⟩
end Go.Proofs.Ythbmmilefimpaaa
