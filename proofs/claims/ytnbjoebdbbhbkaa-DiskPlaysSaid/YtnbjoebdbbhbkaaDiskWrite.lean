
/- The disk's Write. -/
import Derived.Test.YtnbjoebdbbhbkaaDiskRead
import Derived.Test.YtnbjoebdbbhbkaaBuild
import Derived.Test.YtnbjoebdbbhbkaaFlowQ
namespace Go.Proofs.Ytnbjoebdbbhbkaa
open Go.RowKit
set_option linter.unusedVariables false

theorem lcells_snoc (ls : List (Int × List UInt8)) (x : Int × List UInt8) : lcells (ls ++ [x]) = lcells ls ++ rec1 x := by simp [lcells, rec1]
theorem IsD.lne {w : World} {B g m c : Nat} {D : DS} {A : Option Addr} (h : IsD w B g D m A c) : (Value.slice A D.loose.length c).ownBlock ≠ some g ∧ (Value.slice A D.loose.length c).ownBlock ≠ some m := by
  constructor
  · exact own_ne h.own h.blk (fun cur hx => by injection hx with _ ht; exact absurd ht (by decide))
  · obtain ⟨es, clock, hb, _⟩ := h.map
    exact own_ne h.own hb (fun cur hx => by cases hx)
/-- Behind an append onto the loose ones. -/
theorem IsD.grown {w w' : World} {B g m c : Nat} {D : DS} {A : Option Addr} (h : IsD w B g D m A c) (hg : w.grownBy w' (Value.slice A D.loose.length c).ownBlock) :
    Blk w' g tDisk (dcells D m A c) ∧ IMap w' m (fun k => (D.good k).map bv) ∧ DFr B w w' := by
  obtain ⟨h1, h2⟩ := h.lne
  have hlt := h.own.lt
  refine ⟨(hg.block g h.blk.lt (Ne.symm h1)).trans h.blk, h.map.of_same (hg.block m h.map.lt (Ne.symm h2)), ⟨hg.os, hg.tape, hg.output, hg.size, fun k hk => ?_⟩, fun k cs t fr hk ht1 ht2 => ?_⟩
  · by_cases hkw : k < w.heap.size
    · exact hg.block k hkw fun e => by have := (hlt k e.symm).1; omega
    · have := h.gB
      have := h.blk.lt
      omega
  · refine (hg.block k (Array.getElem?_eq_some_iff.1 hk).1 fun e => ?_).trans hk
    exact own_ne h.own hk (fun cur hx => ht2 (by injection hx)) e.symm
/-- A disk whose own block was just written. -/
theorem IsD.of_put {w w1 : World} {B g m c : Nat} {D : DS} {A : Option Addr} {cur : Array Value} (hblk : Blk w g tDisk cur) (hp : Put w w1 g tDisk (dcells D m A c)) (hmap : IMap w m fun k => (D.good k).map bv)
    (hown : w.ownsRow B tLoose 257 (.slice A D.loose.length c) D.loose.length (lcells D.loose)) (hok : D.Ok) (hgB : B ≤ g) (hmB : B ≤ m) : IsD w1 B g D m A c ∧ DFr B w w1 := by
  have hne : (Value.slice A D.loose.length c).ownBlock ≠ some g := own_ne hown hblk (fun cur hx => by injection hx with _ ht; exact absurd ht (by decide))
  refine ⟨⟨hok, hp.blk, hmap.of_same (hp.oth m (fun e => hmap.ne_blk hblk e.symm)), hown.kept (row := some g) ⟨hp.os, hp.tape, hp.output, Nat.le_of_eq hp.size.symm, fun k _ hk => hp.oth k (fun e => hk (by rw [e]))⟩ (.inr hne), hgB, hmB⟩, DFr.of_oth hp.toOth hgB fun cs t fr hk => ?_⟩
  have hb := hblk
  unfold Blk at hb
  rw [hk] at hb
  injection hb with hb
  injection hb with _ ht
  exact .inl ht

theorem elLoose : ElT Try.prog 57 tLoose 257 264 zLoose.cells := elT_of Try.underlying57 (by kernel_rfl) (by rw [zLoose_eq', List.size_toArray, recSize zeros_length]) (by decide)
theorem built_rec {x : Int × List UInt8} (h : x.2.length = 256) : Program.built Try.prog 63 (([.int .i64 x.1, .agg (x.2.map cb).toArray].zipIdx 0).map fun x => (x.2, x.1)) = some (rec1 x).toArray := by
  have := built_struct (P := Try.prog) (vs := [.int .i64 x.1, .agg (x.2.map cb).toArray]) (sizes := [1, 256]) Try.underlying63 (z := zLoose) (by kernel_rfl) (by kernel_rfl) (by simp [Value.cells, h]) (by rw [zLoose_eq', List.size_toArray, recSize zeros_length]; simp [flat, Value.cells, h])
  rw [this]
  simp [flat, rec1, Value.cells]
def writeE (D : DS) (i : Int) (l : List UInt8) : Int := if D.dead then 30 else if thereB D i then if l.length = 256 then countE D else 1 else 15
def writeD (D : DS) (i : Int) (l : List UInt8) : DS := if D.dead then D else if thereB D i then if l.length = 256 then if countE D = 0 then { countD D with loose := (countD D).loose ++ [(i, l)] } else countD D else D else D
theorem countD_loose (D : DS) : (countD D).loose = D.loose := by unfold countD; split; rfl; split <;> rfl
theorem countD_good (D : DS) : (countD D).good = D.good := by unfold countD; split; rfl; split <;> rfl
theorem countD_n (D : DS) : (countD D).n = D.n := by unfold countD; split; rfl; split <;> rfl
set_option maxRecDepth 100000 in
set_option maxHeartbeats 1000000 in
theorem Write_ok (w : World) {B g : Nat} {D : DS} (h : IsDisk w B g D) (hB : B ≤ w.heap.size) (i : Int) (hd : D.dead = false) (hi : thereB D i = true) {A : Option Addr} {c B' : Nat} {l : List UInt8} (hl : l.length = 256) (hr : Kp B w B' A (l.map cb)) (hB' : B' ≤ w.heap.size)
    (hroom : D.loose.length < 1000000) (hce : countE D = 0) :
    Calls Try.prog 11 #[.pointer (some ⟨g, 0, none⟩), .int .i64 i, .slice A 256 c] w fun e w' => e = .returned (.int .i64 0) ∧ IsDisk w' B g { countD D with loose := (countD D).loose ++ [(i, l)] } ∧ DFr B w w' := by
  have hmay : mayOf D = 0 := by unfold mayOf; rw [hd]; rfl
  go_enter Try.func11, Try.ntmps11
  go_wp2_with fail
  refine (dmay_any w h).mono ?_
  rintro e w1 ⟨rfl, rfl⟩
  rw [hmay]
  go_wp2_with fail
  refine (there_any w h i).mono ?_
  rintro e w1 ⟨rfl, rfl⟩
  rw [hi]
  go_wp2_with fail
  refine (count_any w h).mono ?_
  rintro e w1 ⟨rfl, hdk, hfr⟩
  rw [hce]
  have hr1 := hr w1 hfr
  have hroom1 : (countD D).loose.length < 1000000 := by rw [countD_loose]; exact hroom
  have hB1 : B' ≤ w1.heap.size := Nat.le_trans hB' hfr.below.size
  clear hr hroom hce hd hi hmay h
  generalize hEE : countD D = E at *
  have HEE := hid hEE
  clear hEE
  obtain ⟨m, A0, c0, hE⟩ := hdk
  obtain ⟨b, off, rfl, hbb, hcells⟩ := hr1.at_ (k := 0) (by simp [hl])
  have HC := hid hcells
  have hlm : (l.map cb).length = 256 := by simpa using hl
  have HE := hid hE
  have hx : ((i, l) : Int × List UInt8).2.length = 256 := hl
  have hokE : ({ E with loose := E.loose ++ [(i, l)] } : DS).Ok := by
    refine ⟨hE.ok.n1, hE.ok.g256, fun x hx => ?_, ?_, hE.ok.f1, hE.ok.f2⟩
    · rcases List.mem_append.1 hx with hx | hx
      · exact hE.ok.l256 x hx
      · simp at hx; subst hx; exact hl
    · show (E.loose ++ [(i, l)]).length ≤ 1000000
      rw [List.length_append]
      simp
      omega
  have HOK := hid hokE
  have HFR := hid hfr
  have hrm : E.loose.length ≤ 1000000 := hE.ok.room
  clear hcells hokE hfr hr1
  have hrl : (rec1 (i, l)).length = 1 * 257 := recSize hx
  have h63 : E.loose.length + 1 ≤ maxLen := by unfold maxLen; omega
  have hby : (E.loose.length + 1) * 264 ≤ 140737488355328 := by omega
  have hpos : 0 < E.loose.length + 1 := by omega
  go_wp2_with fail
  refine wp_flowQ (by kernel_rfl) [0, 0, 2, 6, 14, 0, 0, 64, 192, 480, 992, 2046, 4095, 8191, 16383] 11 [false, false, false, false, false, false, false, false, false, false, false, false, false, false, false, false, false, false, false, false, false, false, false, false, false, false, false, false, true, true, true, true, true, true, true, true, true, true, true, true, false, false] (by kernel_rfl) (by decide) (by kernel_rfl) [FP.eq (.pointer (some ⟨g, 0, none⟩)), FP.eq (.pointer (some ⟨g, 0, none⟩)), FP.eq (.pointer (some ⟨g, 0, none⟩)), FP.eq (.pointer (some ⟨g, 2, none⟩)), FP.eq (.slice A0 E.loose.length c0), FP.eq (.int .i64 i), FP.eq (.slice (some ⟨b, off, none⟩) 256 c), FP.eq (.pointer (some ⟨b, off, none⟩)), FP.eq (.agg (l.map cb).toArray), FP.eq (.agg (rec1 (i, l)).toArray), FP.sl 1 (rec1 (i, l))] (fun v w => ∃ g' cap', v = .slice (some ⟨g', 0, none⟩) (E.loose.length + 1) cap' ∧ w.ownsRow B tLoose 257 (.slice (some ⟨g', 0, none⟩) (E.loose.length + 1) cap') (E.loose.length + 1) (lcells E.loose ++ rec1 (i, l)) ∧ Blk w g tDisk (dcells E m A0 c0) ∧ IMap w m (fun k => (E.good k).map bv) ∧ DFr B w1 w) ?_ (q_of rfl ⟨rfl, ?_⟩) ?_
  · refine allFrom_cons (stepQ_late (by kernel_rfl) rfl ?_) ?_
    · intro a_ w_ hk_
      have h0 : a_.eval (.tmp 0) = .pointer (some ⟨g, 0, none⟩) := hk_ 0 (by kernel_rfl)
      exact gives_move rfl ⟨rfl, fun _ => h0⟩
    refine allFrom_cons (stepQ_yes (by kernel_rfl) ?_) ?_
    · intro a_ w_ hk_
      have h0 : a_.eval (.tmp 0) = .pointer (some ⟨g, 0, none⟩) := hk_.old 0 (by kernel_rfl)
      have hx_ := hk_.ext
      clear hk_
      refine flow_plain rfl ?_
      exact gives_move rfl ⟨Below.refl _ _, h0⟩
    refine allFrom_cons (stepQ_yes (by kernel_rfl) ?_) ?_
    · intro a_ w_ hk_
      have h29 : a_.eval (.tmp 29) = (.pointer (some ⟨g, 0, none⟩)) := hk_.got 1 29 _ (by kernel_rfl) rfl rfl
      have hx_ := hk_.ext
      clear hk_
      refine flow_plain rfl ?_
      unfold gives
      have hc_ : ∀ v, a_.eval (.const v) = v := fun _ => rfl
      have hn_ : ∀ f, a_.eval (.func f) = .func (.func f) #[] #[] := fun _ => rfl
      generalize a_.eval = ρ_ at *
      go_simp
      exact ⟨Below.refl _ _, rfl⟩
    refine allFrom_cons (stepQ_yes (by kernel_rfl) ?_) ?_
    · intro a_ w_ hk_
      have h30 : a_.eval (.tmp 30) = (.pointer (some ⟨g, 0, none⟩)) := hk_.got 2 30 _ (by kernel_rfl) rfl rfl
      have hx_ := hk_.ext
      clear hk_
      refine flow_plain rfl ?_
      unfold gives
      have hc_ : ∀ v, a_.eval (.const v) = v := fun _ => rfl
      have hn_ : ∀ f, a_.eval (.func f) = .func (.func f) #[] #[] := fun _ => rfl
      generalize a_.eval = ρ_ at *
      go_simp
      exact ⟨Below.refl _ _, rfl⟩
    refine allFrom_cons (stepQ_yes (by kernel_rfl) ?_) ?_
    · intro a_ w_ hk_
      have h31 : a_.eval (.tmp 31) = (.pointer (some ⟨g, 2, none⟩)) := hk_.got 3 31 _ (by kernel_rfl) rfl rfl
      have hx_ := hk_.ext
      clear hk_
      refine flow_plain rfl ?_
      unfold gives
      have hc_ : ∀ v, a_.eval (.const v) = v := fun _ => rfl
      have hn_ : ∀ f, a_.eval (.func f) = .func (.func f) #[] #[] := fun _ => rfl
      have hcell := (HE.out.below hx_).c2
      generalize a_.eval = ρ_ at *
      go_simp
      exact ⟨Below.refl _ _, rfl⟩
    refine allFrom_cons (stepQ_yes (by kernel_rfl) ?_) ?_
    · intro a_ w_ hk_
      have h1 : a_.eval (.tmp 1) = .int .i64 i := hk_.old 1 (by kernel_rfl)
      have hx_ := hk_.ext
      clear hk_
      refine flow_plain rfl ?_
      exact gives_move rfl ⟨Below.refl _ _, h1⟩
    refine allFrom_cons (stepQ_yes (by kernel_rfl) ?_) ?_
    · intro a_ w_ hk_
      have h2 : a_.eval (.tmp 2) = .slice (some ⟨b, off, none⟩) 256 c := hk_.old 2 (by kernel_rfl)
      have hx_ := hk_.ext
      clear hk_
      refine flow_plain rfl ?_
      exact gives_move rfl ⟨Below.refl _ _, h2⟩
    refine allFrom_cons (stepQ_yes (by kernel_rfl) ?_) ?_
    · intro a_ w_ hk_
      have h34 : a_.eval (.tmp 34) = (.slice (some ⟨b, off, none⟩) 256 c) := hk_.got 6 34 _ (by kernel_rfl) rfl rfl
      have hx_ := hk_.ext
      clear hk_
      refine flow_plain rfl ?_
      unfold gives
      have hc_ : ∀ v, a_.eval (.const v) = v := fun _ => rfl
      have hn_ : ∀ f, a_.eval (.func f) = .func (.func f) #[] #[] := fun _ => rfl
      generalize a_.eval = ρ_ at *
      go_simp
      exact ⟨Below.refl _ _, rfl⟩
    refine allFrom_cons (stepQ_yes (by kernel_rfl) ?_) ?_
    · intro a_ w_ hk_
      have h35 : a_.eval (.tmp 35) = (.pointer (some ⟨b, off, none⟩)) := hk_.got 7 35 _ (by kernel_rfl) rfl rfl
      have hx_ := hk_.ext
      clear hk_
      refine flow_plain rfl ?_
      exact gives_load_agg _ _ rfl b off h35 (l.map cb) (aggBL hl) (fun j v hv => (hx_.cell (p := ⟨b, off + j, none⟩) (Nat.lt_of_lt_of_le hbb hB1)).trans (HC.out j v hv)) ⟨Below.refl _ _, rfl⟩
    refine allFrom_cons (stepQ_yes (by kernel_rfl) ?_) ?_
    · intro a_ w_ hk_
      have h33 : a_.eval (.tmp 33) = (.int .i64 i) := hk_.got 5 33 _ (by kernel_rfl) rfl rfl
      have h36 : a_.eval (.tmp 36) = (.agg (l.map cb).toArray) := hk_.got 8 36 _ (by kernel_rfl) rfl rfl
      have hx_ := hk_.ext
      clear hk_
      refine flow_plain rfl ?_
      exact gives_build _ _ rfl [.int .i64 i, .agg (l.map cb).toArray] (by simp [h33, h36]) (built_rec (x := (i, l)) hx) ⟨Below.refl _ _, rfl⟩
    refine allFrom_cons (stepQ_yes (by kernel_rfl) ?_) ?_
    · intro a_ w_ hk_
      have h37 : a_.eval (.tmp 37) = (.agg (rec1 (i, l)).toArray) := hk_.got 9 37 _ (by kernel_rfl) rfl rfl
      have hx_ := hk_.ext
      clear hk_
      refine flow_plain rfl ?_
      exact gives_slice1 _ _ rfl _ h37 elLoose (by show (rec1 (i, l)).toArray.size = 257; rw [List.size_toArray, recSize hx]) (by decide) (sl_new rfl)
    exact allFrom_nil
  · intro a_ w_ hk_
    have h32 : a_.eval (.tmp 32) = (.slice A0 E.loose.length c0) := hk_.got 4 32 _ (by kernel_rfl) rfl rfl
    have h38 : (FP.sl 1 (rec1 (i, l))).p (a_.eval (.tmp 38)) w_ := hk_.got 10 38 _ (by kernel_rfl) rfl rfl
    have hx_ := hk_.ext
    clear hk_
    obtain ⟨A38, c38, h38, r38⟩ := h38
    have hEw := HE.out.below hx_
    have hbs : B ≤ w_.heap.size := by have := hEw.gB; have := hEw.blk.lt; omega
    refine gives_appK _ _ _ rfl (.slice A0 E.loose.length c0) h32 A38 1 c38 h38 elLoose hEw.own r38 hrl (one_rec1 _) h63 hby hbs fun v' w' hown2 hg2 _ => ?_
    obtain ⟨hblk2, hmap2, hfr2⟩ := hEw.grown hg2
    obtain ⟨g', cap', rfl, _⟩ := own_block hown2 hpos
    exact ⟨g', cap', rfl, hown2, hblk2, hmap2, (DFr.of_below hx_ (by have := HE.out.gB; have := HE.out.blk.lt; omega)).trans hfr2⟩
  intro f_ w_ hf_ ht_
  have h28 : f_ 28 = (.pointer (some ⟨g, 0, none⟩)) := (hf_ 0 28 _ (by decide) rfl rfl).elim fun _ h => h
  have h29 : f_ 29 = (.pointer (some ⟨g, 0, none⟩)) := (hf_ 1 29 _ (by decide) rfl rfl).elim fun _ h => h
  have h30 : f_ 30 = (.pointer (some ⟨g, 0, none⟩)) := (hf_ 2 30 _ (by decide) rfl rfl).elim fun _ h => h
  have h31 : f_ 31 = (.pointer (some ⟨g, 2, none⟩)) := (hf_ 3 31 _ (by decide) rfl rfl).elim fun _ h => h
  have h32 : f_ 32 = (.slice A0 E.loose.length c0) := (hf_ 4 32 _ (by decide) rfl rfl).elim fun _ h => h
  have h33 : f_ 33 = (.int .i64 i) := (hf_ 5 33 _ (by decide) rfl rfl).elim fun _ h => h
  have h34 : f_ 34 = (.slice (some ⟨b, off, none⟩) 256 c) := (hf_ 6 34 _ (by decide) rfl rfl).elim fun _ h => h
  have h35 : f_ 35 = (.pointer (some ⟨b, off, none⟩)) := (hf_ 7 35 _ (by decide) rfl rfl).elim fun _ h => h
  have h36 : f_ 36 = (.agg (l.map cb).toArray) := (hf_ 8 36 _ (by decide) rfl rfl).elim fun _ h => h
  have h37 : f_ 37 = (.agg (rec1 (i, l)).toArray) := (hf_ 9 37 _ (by decide) rfl rfl).elim fun _ h => h
  have ht := ht_ 39 _ rfl rfl
  clear ht_
  simp only [mix, List.drop_succ_cons, List.drop_zero, h28, h29, h30, h31, h32, h33, h34, h35, h36, h37]
  clear h28 h29 h30 h31 h32 h33 h34 h35 h36 h37
  clear hf_
  obtain ⟨g', cap', h39, hown2, hblk2, hmap2, hfr2⟩ := ht
  rw [h39]
  have c22 : w_.cell? ⟨g, 2, none⟩ = some (.slice A0 E.loose.length c0) := hblk2.cell 2
  have f22 := hblk2.frozen 2
  go_wp2
  go_ret
  have hfin := IsD.of_put (D := { E with loose := E.loose ++ [(i, l)] }) (m := m) (A := some ⟨g', 0, none⟩) (c := cap') hblk2 (by
    have := setCell_put hblk2 (i := 2) (.slice (some ⟨g', 0, none⟩) (E.loose.length + 1) cap')
    simpa [dcells] using this) hmap2 (by
    rw [lcells_snoc]
    simpa using hown2) HOK.out HE.out.gB HE.out.mB
  have hEE := HEE.out
  subst hEE
  exact ⟨rfl, ⟨m, _, _, hfin.1⟩, HFR.out.trans (hfr2.trans hfin.2)⟩
theorem writeD_dead {D : DS} (h : D.dead = true) (i : Int) (l : List UInt8) : writeD D i l = D ∧ writeE D i l = 30 := by unfold writeD writeE; rw [h]; exact ⟨rfl, rfl⟩
theorem writeD_out {D : DS} {i : Int} (hd : D.dead = false) (h : thereB D i = false) (l : List UInt8) : writeD D i l = D ∧ writeE D i l = 15 := by unfold writeD writeE; rw [h, hd]; exact ⟨rfl, rfl⟩
theorem writeD_len {D : DS} {i : Int} (hd : D.dead = false) (h : thereB D i = true) {l : List UInt8} (hl : l.length ≠ 256) : writeD D i l = D ∧ writeE D i l = 1 := by unfold writeD writeE; rw [h, hd]; simp [hl]
theorem writeD_count {D : DS} {i : Int} (hd : D.dead = false) (h : thereB D i = true) {l : List UInt8} (hl : l.length = 256) (hc : countE D ≠ 0) : writeD D i l = countD D ∧ writeE D i l = countE D := by unfold writeD writeE; rw [h, hd]; simp [hl, hc]
theorem writeD_ok {D : DS} {i : Int} (hd : D.dead = false) (h : thereB D i = true) {l : List UInt8} (hl : l.length = 256) (hc : countE D = 0) : writeD D i l = { countD D with loose := (countD D).loose ++ [(i, l)] } ∧ writeE D i l = 0 := by unfold writeD writeE; rw [h, hd]; simp [hl, hc]
set_option maxHeartbeats 1000000 in
/-- **Write**, whatever it is told. -/
theorem Write_any (w : World) {B g : Nat} {D : DS} (h : IsDisk w B g D) (hB : B ≤ w.heap.size) (i : Int) {A : Option Addr} {c B' : Nat} {l : List UInt8} (hc : l.length ≤ maxLen) (hr : Kp B w B' A (l.map cb)) (hB' : B' ≤ w.heap.size)
    (hroom : D.loose.length < 1000000) :
    Calls Try.prog 11 #[.pointer (some ⟨g, 0, none⟩), .int .i64 i, .slice A l.length c] w fun e w' => e = .returned (.int .i64 (writeE D i l)) ∧ IsDisk w' B g (writeD D i l) ∧ DFr B w w' := by
  unfold maxLen at hc
  cases hd : D.dead with
  | true =>
    have hmay : mayOf D = 30 := by unfold mayOf; rw [hd]; rfl
    rw [(writeD_dead hd i l).1, (writeD_dead hd i l).2]
    have HH := hid h
    clear hr
    go_enter Try.func11, Try.ntmps11
    go_wp2_with fail
    refine (dmay_any w h).mono ?_
    rintro e w1 ⟨rfl, rfl⟩
    rw [hmay]
    go_wp2
    go_ret
    exact ⟨rfl, HH.out, DFr.refl _ _⟩
  | false =>
    have hmay : mayOf D = 0 := by unfold mayOf; rw [hd]; rfl
    cases hi : thereB D i with
    | false =>
      rw [(writeD_out hd hi l).1, (writeD_out hd hi l).2]
      have HH := hid h
      clear hr
      go_enter Try.func11, Try.ntmps11
      go_wp2_with fail
      refine (dmay_any w h).mono ?_
      rintro e w1 ⟨rfl, rfl⟩
      rw [hmay]
      go_wp2_with fail
      refine (there_any w h i).mono ?_
      rintro e w1 ⟨rfl, rfl⟩
      rw [hi]
      go_wp2
      go_ret
      exact ⟨rfl, HH.out, DFr.refl _ _⟩
    | true =>
      by_cases hl : l.length = 256
      · by_cases hce : countE D = 0
        · rw [(writeD_ok hd hi hl hce).1, (writeD_ok hd hi hl hce).2, hl]
          exact Write_ok w h hB i hd hi hl hr hB' hroom hce
        · have hce' : countE D = 30 := by unfold countE at *; split at * <;> simp_all
          rw [(writeD_count hd hi hl hce).1, (writeD_count hd hi hl hce).2, hl, hce']
          clear hr hce
          go_enter Try.func11, Try.ntmps11
          go_wp2_with fail
          refine (dmay_any w h).mono ?_
          rintro e w1 ⟨rfl, rfl⟩
          rw [hmay]
          go_wp2_with fail
          refine (there_any w h i).mono ?_
          rintro e w1 ⟨rfl, rfl⟩
          rw [hi]
          go_wp2_with fail
          refine (count_any w h).mono ?_
          rintro e w1 ⟨rfl, hdk, hfr⟩
          rw [hce']
          go_wp2
          go_ret
          exact ⟨rfl, hdk, hfr⟩
      · rw [(writeD_len hd hi hl).1, (writeD_len hd hi hl).2]
        have HH := hid h
        clear hr
        have e1 : ((l.length : Int) == 256) = false := by simp; omega
        have e2 : ((l.length : Int) != 256) = true := by simp; omega
        clear hl
        generalize l.length = n at *
        go_enter Try.func11, Try.ntmps11
        go_wp2_with fail
        refine (dmay_any w h).mono ?_
        rintro e w1 ⟨rfl, rfl⟩
        rw [hmay]
        go_wp2_with fail
        refine (there_any w h i).mono ?_
        rintro e w1 ⟨rfl, rfl⟩
        rw [hi]
        go_wp2
        go_ret
        exact ⟨rfl, HH.out, DFr.refl _ _⟩
set_option maxHeartbeats 400000 in
theorem Write_nil (w : World) (i : Int) (v : Value) : Calls Try.prog 11 #[.pointer none, .int .i64 i, v] w fun e w' => e = .returned (.int .i64 1) ∧ w = w' := by
  go_enter Try.func11, Try.ntmps11
  go_wp2_with fail
  refine (may_nil w).mono ?_
  rintro e w1 ⟨rfl, rfl⟩
  go_wp2
  go_ret
  exact ⟨rfl, rfl⟩
end Go.Proofs.Ytnbjoebdbbhbkaa
