
/- The disk's Write, with a frame that keeps also what is no cells. -/
import Derived.Test.YtlpdiamgpnmeoaaWaL
namespace Go.Proofs.Ytlpdiamgpnmeoaa
open Go.RowKit
set_option linter.unusedVariables false
/-- As IsDisk, the map's place told. -/
def IsDm (w : World) (B g m : Nat) (D : DS) : Prop := ∃ A c, IsD w B g D m A c
theorem IsDm.dk {w : World} {B g m : Nat} {D : DS} (h : IsDm w B g m D) : IsDisk w B g D := ⟨m, h⟩
theorem IsDm.below {w w' : World} {B g m : Nat} {D : DS} (h : IsDm w B g m D) (hb : Below w.heap.size w w') : IsDm w' B g m D := by
  obtain ⟨A, c, h⟩ := h
  exact ⟨A, c, h.below hb⟩
/-- As DFr; and what is no cells is as it was. -/
structure WFr (B : Nat) (w w' : World) : Prop extends DFr B w w' where
  others : ∀ (k : Nat) (o : Obj), w.heap[k]? = some o → o.isCells = false → w'.heap[k]? = some o
theorem WFr.refl (B : Nat) (w : World) : WFr B w w := ⟨DFr.refl _ _, fun _ _ h _ => h⟩
theorem WFr.trans {B : Nat} {a b c : World} (h : WFr B a b) (h' : WFr B b c) : WFr B a c := ⟨h.toDFr.trans h'.toDFr, fun k o hk ho => h'.others k o (h.others k o hk ho) ho⟩
theorem WFr.of_below {B : Nat} {w w' : World} (h : Below w.heap.size w w') (hB : B ≤ w.heap.size) : WFr B w w' := ⟨DFr.of_below h hB, fun k o hk _ => (h.block k (Array.getElem?_eq_some_iff.1 hk).1).trans hk⟩
theorem WFr.of_oth {B g t0 : Nat} {c0 : Array Value} {w w' : World} (h : Oth w w' g) (hB : B ≤ g) (hb : Blk w g t0 c0) (hg : ∀ (cs : Array Value) (t : TypeId) (fr : Nat × Nat), w.heap[g]? = some (.cells cs t fr) → t = tDisk ∨ t = tLoose) : WFr B w w' :=
  ⟨DFr.of_oth h hB hg, fun k o hk ho => (h.oth k (by
    rintro rfl
    unfold Blk at hb
    rw [hb] at hk
    cases hk
    cases ho)).trans hk⟩
theorem IsD.grownW {w w' : World} {B g m c : Nat} {D : DS} {A : Option Addr} (h : IsD w B g D m A c) (hg : w.grownBy w' (Value.slice A D.loose.length c).ownBlock) :
    Blk w' g tDisk (dcells D m A c) ∧ IMap w' m (fun k => (D.good k).map bv) ∧ WFr B w w' := by
  obtain ⟨h1, h2, h3⟩ := h.grown hg
  refine ⟨h1, h2, h3, fun k o hk ho => (hg.block k (Array.getElem?_eq_some_iff.1 hk).1 fun e => ?_).trans hk⟩
  exact own_ne h.own hk (fun cur hx => by subst hx; cases ho) e.symm
/-- A field of one cell is written. -/
theorem IsD.setW {w w1 : World} {B g m c i : Nat} {D D' : DS} {A : Option Addr} {v : Value} (h : IsD w B g D m A c) (hp : Put w w1 g tDisk ((dcells D m A c).setIfInBounds i v)) (he : (dcells D m A c).setIfInBounds i v = dcells D' m A c)
    (hg : D'.good = D.good) (hl : D'.loose = D.loose) (hok : D'.Ok) : IsD w1 B g D' m A c ∧ WFr B w w1 := by
  have hne : (Value.slice A D.loose.length c).ownBlock ≠ some g := by
    intro hx
    cases A with
    | none => cases hx
    | some a =>
      have := h.own.2
      rcases this with ⟨h1, _⟩ | ⟨g', cap, cur, h1, _, hh, _⟩
      · cases h1
      · simp [Value.ownBlock] at hx
        injection h1 with h1
        injection h1 with h1
        subst h1
        simp at hx
        subst hx
        have hb := h.blk
        unfold Blk at hb
        rw [hh] at hb
        injection hb with hb
        injection hb with _ ht
        exact absurd ht (by decide)
  refine ⟨⟨hok, by rw [← he]; exact hp.blk, ?_, ?_, h.gB, h.mB⟩, WFr.of_oth hp.toOth h.gB h.blk fun cs t fr hk => ?_⟩
  · rw [hg]
    exact h.map.of_same (hp.oth m (fun e => h.map.ne_blk h.blk e.symm))
  · rw [hl]
    exact h.own.kept (row := some g) ⟨hp.os, hp.tape, hp.output, Nat.le_of_eq hp.size.symm, fun k _ hk => hp.oth k (fun e => hk (by rw [e]))⟩ (.inr hne)
  · have hb := h.blk
    unfold Blk at hb
    rw [hk] at hb
    injection hb with hb
    injection hb with _ ht
    exact .inl ht

set_option maxHeartbeats 400000 in
theorem count_anyW (w : World) {B g m : Nat} {D : DS} (h : IsDm w B g m D) : Calls Try.prog 53 #[.pointer (some ⟨g, 0, none⟩)] w fun e w' => e = .returned (.int .i64 (countE D)) ∧ IsDm w' B g m (countD D) ∧ WFr B w w' := by
  obtain ⟨A, c, h⟩ := h
  have hok := countD_ok h.ok
  have c3 := h.c3
  have c4 := h.c4
  have f3 := h.blk.frozen 3
  have f4 := h.blk.frozen 4
  have hf1 := h.ok.f1
  have hf2 := h.ok.f2
  unfold countE countD at *
  by_cases h0 : D.fails = 0
  · rw [if_pos h0] at hok
    rw [if_pos h0, if_pos h0]
    rw [h0] at c3
    have hset := h.setW (i := 4) (v := .bool true) (setCell_put h.blk _) (D' := { D with dead := true }) rfl rfl rfl hok
    have HS := hid hset
    clear hset h0
    go_enter Try.func53, Try.ntmps53
    go_wp2
    go_ret
    exact ⟨rfl, ⟨A, c, HS.out.1⟩, HS.out.2⟩
  · rw [if_neg h0] at hok
    rw [if_neg h0, if_neg h0]
    by_cases hp : 0 < D.fails
    · rw [if_pos hp] at hok
      rw [if_pos hp]
      have hset := h.setW (i := 3) (v := .int .i64 (D.fails - 1)) (setCell_put h.blk _) (D' := { D with fails := D.fails - 1 }) rfl rfl rfl hok
      have HS := hid hset
      have e0 : (D.fails == 0) = false := by simpa using h0
      clear hset h0
      go_enter Try.func53, Try.ntmps53
      go_wp2
      go_ret
      exact ⟨rfl, ⟨A, c, HS.out.1⟩, HS.out.2⟩
    · rw [if_neg hp] at hok
      rw [if_neg hp]
      have e0 : (D.fails == 0) = false := by simpa using h0
      have HH := hid h
      clear h0
      go_enter Try.func53, Try.ntmps53
      go_wp2
      go_ret
      exact ⟨rfl, ⟨A, c, HH.out⟩, WFr.refl _ _⟩

/-- A disk whose own block was just written. -/
theorem IsD.of_putW {w w1 : World} {B g m c : Nat} {D : DS} {A : Option Addr} {cur : Array Value} (hblk : Blk w g tDisk cur) (hp : Put w w1 g tDisk (dcells D m A c)) (hmap : IMap w m fun k => (D.good k).map bv)
    (hown : w.ownsRow B tLoose 257 (.slice A D.loose.length c) D.loose.length (lcells D.loose)) (hok : D.Ok) (hgB : B ≤ g) (hmB : B ≤ m) : IsD w1 B g D m A c ∧ WFr B w w1 := by
  have hne : (Value.slice A D.loose.length c).ownBlock ≠ some g := own_ne hown hblk (fun cur hx => by injection hx with _ ht; exact absurd ht (by decide))
  refine ⟨⟨hok, hp.blk, hmap.of_same (hp.oth m (fun e => hmap.ne_blk hblk e.symm)), hown.kept (row := some g) ⟨hp.os, hp.tape, hp.output, Nat.le_of_eq hp.size.symm, fun k _ hk => hp.oth k (fun e => hk (by rw [e]))⟩ (.inr hne), hgB, hmB⟩, WFr.of_oth hp.toOth hgB hblk fun cs t fr hk => ?_⟩
  have hb := hblk
  unfold Blk at hb
  rw [hk] at hb
  injection hb with hb
  injection hb with _ ht
  exact .inl ht

set_option maxRecDepth 100000 in
set_option maxHeartbeats 1000000 in
theorem Write_okW (w : World) {B g m : Nat} {D : DS} (h : IsDm w B g m D) (hB : B ≤ w.heap.size) (i : Int) (hd : D.dead = false) (hi : thereB D i = true) {A : Option Addr} {c B' : Nat} {l : List UInt8} (hl : l.length = 256) (hr : Kp B w B' A (l.map cb)) (hB' : B' ≤ w.heap.size)
    (hroom : D.loose.length < 1000000) (hce : countE D = 0) :
    Calls Try.prog 52 #[.pointer (some ⟨g, 0, none⟩), .int .i64 i, .slice A 256 c] w fun e w' => e = .returned (.int .i64 0) ∧ IsDm w' B g m { countD D with loose := (countD D).loose ++ [(i, l)] } ∧ WFr B w w' := by
  have hmay : mayOf D = 0 := by unfold mayOf; rw [hd]; rfl
  go_enter Try.func52, Try.ntmps52
  go_wp2_with fail
  refine (dmay_any w h.dk).mono ?_
  rintro e w1 ⟨rfl, rfl⟩
  rw [hmay]
  go_wp2_with fail
  refine (there_any w h.dk i).mono ?_
  rintro e w1 ⟨rfl, rfl⟩
  rw [hi]
  go_wp2_with fail
  refine (count_anyW w h).mono ?_
  rintro e w1 ⟨rfl, hdk, hfr⟩
  rw [hce]
  have hr1 := hr w1 hfr.toDFr
  have hroom1 : (countD D).loose.length < 1000000 := by rw [countD_loose]; exact hroom
  have hB1 : B' ≤ w1.heap.size := Nat.le_trans hB' hfr.below.size
  clear hr hroom hce hd hi hmay h
  generalize hEE : countD D = E at *
  have HEE := hid hEE
  clear hEE
  obtain ⟨A0, c0, hE⟩ := hdk
  obtain ⟨b, off, rfl, hbb, hcells⟩ := hr1.at_ (k := 0) (by simp [hl])
  have HC := hid hcells
  have hlm : (l.map cb).length = 256 := by simpa using hl
  have HE := hid hE
  have hx : ((i, l) : Int × List UInt8).2.length = 256 := hl
  have hokE : ({ E with loose := E.loose ++ [(i, l)] } : DS).Ok := by
    refine ⟨hE.ok.n1, hE.ok.g256, fun x hx => ?_, ?_, hE.ok.f1, hE.ok.f2⟩
    · rcases List.mem_append.1 hx with hx | hx
      · exact hE.ok.l256 x hx
      · simp at hx; subst hx; exact hl
    · show (E.loose ++ [(i, l)]).length ≤ 1000000
      rw [List.length_append]
      simp
      omega
  have HOK := hid hokE
  have HFR := hid hfr
  have hrm : E.loose.length ≤ 1000000 := hE.ok.room
  clear hcells hokE hfr hr1
  have hrl : (rec1 (i, l)).length = 1 * 257 := recSize hx
  have h63 : E.loose.length + 1 ≤ maxLen := by unfold maxLen; omega
  have hby : (E.loose.length + 1) * 264 ≤ 140737488355328 := by omega
  have hpos : 0 < E.loose.length + 1 := by omega
  go_wp2_with fail
  refine wp_flowQ (by kernel_rfl) [0, 0, 2, 6, 14, 0, 0, 64, 192, 480, 992, 2046, 4095, 8191, 16383] 11 [false, false, false, false, false, false, false, false, false, false, false, false, false, false, false, false, false, false, false, false, false, false, false, false, false, false, false, false, true, true, true, true, true, true, true, true, true, true, true, true, false, false] (by kernel_rfl) (by decide) (by kernel_rfl) [FP.eq (.pointer (some ⟨g, 0, none⟩)), FP.eq (.pointer (some ⟨g, 0, none⟩)), FP.eq (.pointer (some ⟨g, 0, none⟩)), FP.eq (.pointer (some ⟨g, 2, none⟩)), FP.eq (.slice A0 E.loose.length c0), FP.eq (.int .i64 i), FP.eq (.slice (some ⟨b, off, none⟩) 256 c), FP.eq (.pointer (some ⟨b, off, none⟩)), FP.eq (.agg (l.map cb).toArray), FP.eq (.agg (rec1 (i, l)).toArray), FP.sl 1 (rec1 (i, l))] (fun v w => ∃ g' cap', v = .slice (some ⟨g', 0, none⟩) (E.loose.length + 1) cap' ∧ w.ownsRow B tLoose 257 (.slice (some ⟨g', 0, none⟩) (E.loose.length + 1) cap') (E.loose.length + 1) (lcells E.loose ++ rec1 (i, l)) ∧ Blk w g tDisk (dcells E m A0 c0) ∧ IMap w m (fun k => (E.good k).map bv) ∧ WFr B w1 w) ?_ (q_of rfl ⟨rfl, ?_⟩) ?_
  · refine allFrom_cons (stepQ_late (by kernel_rfl) rfl ?_) ?_
    · intro a_ w_ hk_
      have h0 : a_.eval (.tmp 0) = .pointer (some ⟨g, 0, none⟩) := hk_ 0 (by kernel_rfl)
      exact gives_move rfl ⟨rfl, fun _ => h0⟩
    refine allFrom_cons (stepQ_yes (by kernel_rfl) ?_) ?_
    · intro a_ w_ hk_
      have h0 : a_.eval (.tmp 0) = .pointer (some ⟨g, 0, none⟩) := hk_.old 0 (by kernel_rfl)
      have hx_ := hk_.ext
      clear hk_
      refine flow_plain rfl ?_
      exact gives_move rfl ⟨Below.refl _ _, h0⟩
    refine allFrom_cons (stepQ_yes (by kernel_rfl) ?_) ?_
    · intro a_ w_ hk_
      have h29 : a_.eval (.tmp 29) = (.pointer (some ⟨g, 0, none⟩)) := hk_.got 1 29 _ (by kernel_rfl) rfl rfl
      have hx_ := hk_.ext
      clear hk_
      refine flow_plain rfl ?_
      unfold gives
      have hc_ : ∀ v, a_.eval (.const v) = v := fun _ => rfl
      have hn_ : ∀ f, a_.eval (.func f) = .func (.func f) #[] #[] := fun _ => rfl
      generalize a_.eval = ρ_ at *
      go_simp
      exact ⟨Below.refl _ _, rfl⟩
    refine allFrom_cons (stepQ_yes (by kernel_rfl) ?_) ?_
    · intro a_ w_ hk_
      have h30 : a_.eval (.tmp 30) = (.pointer (some ⟨g, 0, none⟩)) := hk_.got 2 30 _ (by kernel_rfl) rfl rfl
      have hx_ := hk_.ext
      clear hk_
      refine flow_plain rfl ?_
      unfold gives
      have hc_ : ∀ v, a_.eval (.const v) = v := fun _ => rfl
      have hn_ : ∀ f, a_.eval (.func f) = .func (.func f) #[] #[] := fun _ => rfl
      generalize a_.eval = ρ_ at *
      go_simp
      exact ⟨Below.refl _ _, rfl⟩
    refine allFrom_cons (stepQ_yes (by kernel_rfl) ?_) ?_
    · intro a_ w_ hk_
      have h31 : a_.eval (.tmp 31) = (.pointer (some ⟨g, 2, none⟩)) := hk_.got 3 31 _ (by kernel_rfl) rfl rfl
      have hx_ := hk_.ext
      clear hk_
      refine flow_plain rfl ?_
      unfold gives
      have hc_ : ∀ v, a_.eval (.const v) = v := fun _ => rfl
      have hn_ : ∀ f, a_.eval (.func f) = .func (.func f) #[] #[] := fun _ => rfl
      have hcell := (HE.out.below hx_).c2
      generalize a_.eval = ρ_ at *
      go_simp
      exact ⟨Below.refl _ _, rfl⟩
    refine allFrom_cons (stepQ_yes (by kernel_rfl) ?_) ?_
    · intro a_ w_ hk_
      have h1 : a_.eval (.tmp 1) = .int .i64 i := hk_.old 1 (by kernel_rfl)
      have hx_ := hk_.ext
      clear hk_
      refine flow_plain rfl ?_
      exact gives_move rfl ⟨Below.refl _ _, h1⟩
    refine allFrom_cons (stepQ_yes (by kernel_rfl) ?_) ?_
    · intro a_ w_ hk_
      have h2 : a_.eval (.tmp 2) = .slice (some ⟨b, off, none⟩) 256 c := hk_.old 2 (by kernel_rfl)
      have hx_ := hk_.ext
      clear hk_
      refine flow_plain rfl ?_
      exact gives_move rfl ⟨Below.refl _ _, h2⟩
    refine allFrom_cons (stepQ_yes (by kernel_rfl) ?_) ?_
    · intro a_ w_ hk_
      have h34 : a_.eval (.tmp 34) = (.slice (some ⟨b, off, none⟩) 256 c) := hk_.got 6 34 _ (by kernel_rfl) rfl rfl
      have hx_ := hk_.ext
      clear hk_
      refine flow_plain rfl ?_
      unfold gives
      have hc_ : ∀ v, a_.eval (.const v) = v := fun _ => rfl
      have hn_ : ∀ f, a_.eval (.func f) = .func (.func f) #[] #[] := fun _ => rfl
      generalize a_.eval = ρ_ at *
      go_simp
      exact ⟨Below.refl _ _, rfl⟩
    refine allFrom_cons (stepQ_yes (by kernel_rfl) ?_) ?_
    · intro a_ w_ hk_
      have h35 : a_.eval (.tmp 35) = (.pointer (some ⟨b, off, none⟩)) := hk_.got 7 35 _ (by kernel_rfl) rfl rfl
      have hx_ := hk_.ext
      clear hk_
      refine flow_plain rfl ?_
      exact gives_load_agg rfl h35 (cs := l.map cb) (aggBL hl) (fun j v hv => (hx_.cell (p := ⟨b, off + j, none⟩) (Nat.lt_of_lt_of_le hbb hB1)).trans (HC.out j v hv)) ⟨Below.refl _ _, rfl⟩
    refine allFrom_cons (stepQ_yes (by kernel_rfl) ?_) ?_
    · intro a_ w_ hk_
      have h33 : a_.eval (.tmp 33) = (.int .i64 i) := hk_.got 5 33 _ (by kernel_rfl) rfl rfl
      have h36 : a_.eval (.tmp 36) = (.agg (l.map cb).toArray) := hk_.got 8 36 _ (by kernel_rfl) rfl rfl
      have hx_ := hk_.ext
      clear hk_
      refine flow_plain rfl ?_
      exact gives_build _ _ rfl [.int .i64 i, .agg (l.map cb).toArray] (by simp [h33, h36]) (built_rec (x := (i, l)) hx) ⟨Below.refl _ _, rfl⟩
    refine allFrom_cons (stepQ_yes (by kernel_rfl) ?_) ?_
    · intro a_ w_ hk_
      have h37 : a_.eval (.tmp 37) = (.agg (rec1 (i, l)).toArray) := hk_.got 9 37 _ (by kernel_rfl) rfl rfl
      have hx_ := hk_.ext
      clear hk_
      refine flow_plain rfl ?_
      exact gives_slice1 _ _ rfl _ h37 elLoose (by show (rec1 (i, l)).toArray.size = 257; rw [List.size_toArray, recSize hx]) (by decide) (sl_new rfl)
    exact allFrom_nil
  · intro a_ w_ hk_
    have h32 : a_.eval (.tmp 32) = (.slice A0 E.loose.length c0) := hk_.got 4 32 _ (by kernel_rfl) rfl rfl
    have h38 : (FP.sl 1 (rec1 (i, l))).p (a_.eval (.tmp 38)) w_ := hk_.got 10 38 _ (by kernel_rfl) rfl rfl
    have hx_ := hk_.ext
    clear hk_
    obtain ⟨A38, c38, h38, r38⟩ := h38
    have hEw := HE.out.below hx_
    have hbs : B ≤ w_.heap.size := by have := hEw.gB; have := hEw.blk.lt; omega
    refine gives_appK _ _ _ rfl (.slice A0 E.loose.length c0) h32 A38 1 c38 h38 elLoose hEw.own r38 hrl (one_rec1 _) h63 hby hbs fun v' w' hown2 hg2 _ => ?_
    obtain ⟨hblk2, hmap2, hfr2⟩ := hEw.grownW hg2
    obtain ⟨g', cap', rfl, _⟩ := own_block hown2 hpos
    exact ⟨g', cap', rfl, hown2, hblk2, hmap2, (WFr.of_below hx_ (by have := HE.out.gB; have := HE.out.blk.lt; omega)).trans hfr2⟩
  intro f_ w_ hf_ ht_
  have h28 : f_ 28 = (.pointer (some ⟨g, 0, none⟩)) := (hf_ 0 28 _ (by decide) rfl rfl).elim fun _ h => h
  have h29 : f_ 29 = (.pointer (some ⟨g, 0, none⟩)) := (hf_ 1 29 _ (by decide) rfl rfl).elim fun _ h => h
  have h30 : f_ 30 = (.pointer (some ⟨g, 0, none⟩)) := (hf_ 2 30 _ (by decide) rfl rfl).elim fun _ h => h
  have h31 : f_ 31 = (.pointer (some ⟨g, 2, none⟩)) := (hf_ 3 31 _ (by decide) rfl rfl).elim fun _ h => h
  have h32 : f_ 32 = (.slice A0 E.loose.length c0) := (hf_ 4 32 _ (by decide) rfl rfl).elim fun _ h => h
  have h33 : f_ 33 = (.int .i64 i) := (hf_ 5 33 _ (by decide) rfl rfl).elim fun _ h => h
  have h34 : f_ 34 = (.slice (some ⟨b, off, none⟩) 256 c) := (hf_ 6 34 _ (by decide) rfl rfl).elim fun _ h => h
  have h35 : f_ 35 = (.pointer (some ⟨b, off, none⟩)) := (hf_ 7 35 _ (by decide) rfl rfl).elim fun _ h => h
  have h36 : f_ 36 = (.agg (l.map cb).toArray) := (hf_ 8 36 _ (by decide) rfl rfl).elim fun _ h => h
  have h37 : f_ 37 = (.agg (rec1 (i, l)).toArray) := (hf_ 9 37 _ (by decide) rfl rfl).elim fun _ h => h
  have ht := ht_ 39 _ rfl rfl
  clear ht_
  simp only [mix, List.drop_succ_cons, List.drop_zero, h28, h29, h30, h31, h32, h33, h34, h35, h36, h37]
  clear h28 h29 h30 h31 h32 h33 h34 h35 h36 h37
  clear hf_
  obtain ⟨g', cap', h39, hown2, hblk2, hmap2, hfr2⟩ := ht
  rw [h39]
  have c22 : w_.cell? ⟨g, 2, none⟩ = some (.slice A0 E.loose.length c0) := hblk2.cell 2
  have f22 := hblk2.frozen 2
  go_wp2
  go_ret
  have hfin := IsD.of_putW (D := { E with loose := E.loose ++ [(i, l)] }) (m := m) (A := some ⟨g', 0, none⟩) (c := cap') hblk2 (by
    have := setCell_put hblk2 (i := 2) (.slice (some ⟨g', 0, none⟩) (E.loose.length + 1) cap')
    simpa [dcells] using this) hmap2 (by
    rw [lcells_snoc]
    simpa using hown2) HOK.out HE.out.gB HE.out.mB
  have hEE := HEE.out
  subst hEE
  exact ⟨rfl, ⟨_, _, hfin.1⟩, HFR.out.trans (hfr2.trans hfin.2)⟩

set_option maxHeartbeats 1000000 in
theorem Write_anyW (w : World) {B g m : Nat} {D : DS} (h : IsDm w B g m D) (hB : B ≤ w.heap.size) (i : Int) {A : Option Addr} {c B' : Nat} {l : List UInt8} (hc : l.length ≤ maxLen) (hr : Kp B w B' A (l.map cb)) (hB' : B' ≤ w.heap.size)
    (hroom : D.loose.length < 1000000) :
    Calls Try.prog 52 #[.pointer (some ⟨g, 0, none⟩), .int .i64 i, .slice A l.length c] w fun e w' => e = .returned (.int .i64 (writeE D i l)) ∧ IsDm w' B g m (writeD D i l) ∧ WFr B w w' := by
  unfold maxLen at hc
  cases hd : D.dead with
  | true =>
    have hmay : mayOf D = 30 := by unfold mayOf; rw [hd]; rfl
    rw [(writeD_dead hd i l).1, (writeD_dead hd i l).2]
    have HH := hid h
    clear hr
    go_enter Try.func52, Try.ntmps52
    go_wp2_with fail
    refine (dmay_any w h.dk).mono ?_
    rintro e w1 ⟨rfl, rfl⟩
    rw [hmay]
    go_wp2
    go_ret
    exact ⟨rfl, HH.out, WFr.refl _ _⟩
  | false =>
    have hmay : mayOf D = 0 := by unfold mayOf; rw [hd]; rfl
    cases hi : thereB D i with
    | false =>
      rw [(writeD_out hd hi l).1, (writeD_out hd hi l).2]
      have HH := hid h
      clear hr
      go_enter Try.func52, Try.ntmps52
      go_wp2_with fail
      refine (dmay_any w h.dk).mono ?_
      rintro e w1 ⟨rfl, rfl⟩
      rw [hmay]
      go_wp2_with fail
      refine (there_any w h.dk i).mono ?_
      rintro e w1 ⟨rfl, rfl⟩
      rw [hi]
      go_wp2
      go_ret
      exact ⟨rfl, HH.out, WFr.refl _ _⟩
    | true =>
      by_cases hl : l.length = 256
      · by_cases hce : countE D = 0
        · rw [(writeD_ok hd hi hl hce).1, (writeD_ok hd hi hl hce).2, hl]
          exact Write_okW w h hB i hd hi hl hr hB' hroom hce
        · have hce' : countE D = 30 := by unfold countE at *; split at * <;> simp_all
          rw [(writeD_count hd hi hl hce).1, (writeD_count hd hi hl hce).2, hl, hce']
          clear hr hce
          go_enter Try.func52, Try.ntmps52
          go_wp2_with fail
          refine (dmay_any w h.dk).mono ?_
          rintro e w1 ⟨rfl, rfl⟩
          rw [hmay]
          go_wp2_with fail
          refine (there_any w h.dk i).mono ?_
          rintro e w1 ⟨rfl, rfl⟩
          rw [hi]
          go_wp2_with fail
          refine (count_anyW w h).mono ?_
          rintro e w1 ⟨rfl, hdk, hfr⟩
          rw [hce']
          go_wp2
          go_ret
          exact ⟨rfl, hdk, hfr⟩
      · rw [(writeD_len hd hi hl).1, (writeD_len hd hi hl).2]
        have HH := hid h
        clear hr
        have e1 : ((l.length : Int) == 256) = false := by simp; omega
        have e2 : ((l.length : Int) != 256) = true := by simp; omega
        clear hl
        generalize l.length = n at *
        go_enter Try.func52, Try.ntmps52
        go_wp2_with fail
        refine (dmay_any w h.dk).mono ?_
        rintro e w1 ⟨rfl, rfl⟩
        rw [hmay]
        go_wp2_with fail
        refine (there_any w h.dk i).mono ?_
        rintro e w1 ⟨rfl, rfl⟩
        rw [hi]
        go_wp2
        go_ret
        exact ⟨rfl, HH.out, WFr.refl _ _⟩
end Go.Proofs.Ytlpdiamgpnmeoaa
