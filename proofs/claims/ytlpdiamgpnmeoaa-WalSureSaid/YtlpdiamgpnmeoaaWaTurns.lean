
/- Records: WalTurns walked. -/
import Derived.Test.YtlpdiamgpnmeoaaWaAw
import Derived.OpenShut
namespace Go.Proofs.Ytlpdiamgpnmeoaa
open Go.RowKit
set_option linter.unusedVariables false
theorem RdBB.take {w : World} {B : Nat} {A : Option Addr} {ls : List (List UInt8)} (h : RdBB w B A ls) (k : Nat) : RdBB w B A (ls.take k) := by
  rcases h with h | ⟨b, off, e, hlt, hc⟩
  · left
    rw [h, List.take_nil]
  · refine .inr ⟨b, off, e, hlt, fun i l hl => ?_⟩
    rw [List.getElem?_take] at hl
    split at hl
    · exact hc i l hl
    · cases hl
def StrV (w : World) (v : Value) (ss : List (List UInt8)) : Prop := ∃ A c, v = .slice A ss.length c ∧ Rd w w.heap.size A (ss.map sval)
theorem StrV.below {w w' : World} {v : Value} {ss : List (List UInt8)} (h : StrV w v ss) (hb : Below w.heap.size w w') : StrV w' v ss := by
  obtain ⟨A, c, h1, h2⟩ := h
  exact ⟨A, c, h1, (h2.below hb).more hb.size⟩
theorem RdV.below {w w' : World} {v : Value} {ss : List (List UInt8)} (h : RdV w w.heap.size v ss) (hb : Below w.heap.size w w') : RdV w' w'.heap.size v ss := by
  obtain ⟨A, c, h1, h2⟩ := h
  exact ⟨A, c, h1, (h2.below hb).more hb.size⟩
theorem texts_V (w : World) {A : Option Addr} {c : Nat} {ls : List (List UInt8)} (hr : RdBB w w.heap.size A ls) (hl : ls.length ≤ 1000000) :
    Calls Try.prog 18 #[.slice A ls.length c] w fun e w' => ∃ v, e = .returned v ∧ StrV w' v ls ∧ Below w.heap.size w w' := by
  refine (texts_any w hr hl).mono ?_
  rintro e w' ⟨v, rfl, ho, hb⟩
  obtain ⟨A, c, rfl, h1, h2, h3⟩ := own_form ho
  exact ⟨_, rfl, ⟨A, c, rfl, h3⟩, hb⟩
theorem records_V (w : World) {B gl g : Nat} {D : DS} {L : LS} (h : ALog w B gl g D L) (hs : L.size ≤ 1000) : Calls Try.prog 17 #[.pointer (some ⟨gl, 0, none⟩)] w fun e w' => ∃ v, e = .returned v ∧ RdV w' w'.heap.size v L.rows ∧ Below w.heap.size w w' := by
  refine (aRecords w h hs).mono ?_
  rintro e w' ⟨v, vs, rfl, ho, hb⟩
  obtain ⟨A, c, rfl, _, _, h3⟩ := ho.bb
  exact ⟨_, rfl, ⟨A, c, rfl, h3⟩, hb⟩
/-- Memory in a region in which one call turns it, and rows and texts are told behind it. -/
def KT (w0 : World) (Post : World → Prop) (x : Value) (rs ss : List (List UInt8)) : List (Option Value) → World → Prop
  | [none, none, none], w' => w' = w0
  | [some v4, k14, k18], w' => v4 = x ∧ ∃ w2, Post w2 ∧ Below w2.heap.size w2 w' ∧ (∀ v, k14 = some v → RdV w' w'.heap.size v rs) ∧ (∀ v, k18 = some v → StrV w' v ss)
  | _, _ => False
section
variable {w0 w w' : World} {Post : World → Prop} {x v4 : Value} {rs ss : List (List UInt8)} {k14 k18 : Option Value}
theorem KT.call (hp : Post w') : KT w0 Post x rs ss [some x, none, none] w' := ⟨rfl, w', hp, Below.refl _ _, fun v h => (by cases h), fun v h => (by cases h)⟩
theorem KT.below (h : KT w0 Post x rs ss [some v4, k14, k18] w) (hb : Below w.heap.size w w') : KT w0 Post x rs ss [some v4, k14, k18] w' := by
  obtain ⟨h0, w2, h1, h2, h3, h4⟩ := h
  exact ⟨h0, w2, h1, bx_trans h2 hb, fun v hv => (h3 v hv).below hb, fun v hv => (h4 v hv).below hb⟩
theorem KT.post (h : KT w0 Post x rs ss [some v4, k14, k18] w) : ∃ w2, Post w2 ∧ Below w2.heap.size w2 w := by
  obtain ⟨_, w2, h1, h2, _, _⟩ := h
  exact ⟨w2, h1, h2⟩
theorem KT.rows (h : KT w0 Post x rs ss [some v4, none, k18] w) (hb : Below w.heap.size w w') {v : Value} (hv : RdV w' w'.heap.size v rs) : KT w0 Post x rs ss [some v4, some v, k18] w' := by
  obtain ⟨h0, w2, h1, h2, h3, h4⟩ := h
  exact ⟨h0, w2, h1, bx_trans h2 hb, fun u hu => (by injection hu with hu; exact hu ▸ hv), fun v hv => (h4 v hv).below hb⟩
theorem KT.texts (h : KT w0 Post x rs ss [some v4, k14, none] w) (hb : Below w.heap.size w w') {v : Value} (hv : StrV w' v ss) : KT w0 Post x rs ss [some v4, k14, some v] w' := by
  obtain ⟨h0, w2, h1, h2, h3, h4⟩ := h
  exact ⟨h0, w2, h1, bx_trans h2 hb, fun v hv => (h3 v hv).below hb, fun u hu => (by injection hu with hu; exact hu ▸ hv)⟩
theorem KT.both {u v : Value} (h : KT w0 Post x rs ss [some v4, some u, some v] w) : RdV w w.heap.size u rs ∧ StrV w v ss := by
  obtain ⟨_, _, _, _, h3, h4⟩ := h
  exact ⟨h3 u rfl, h4 v rfl⟩
end
def FP.strs (ss : List (List UInt8)) : FP := ⟨fun v w => StrV w v ss, fun _ _ _ hb h => h.below hb⟩
theorem same_V (w : World) {u v : Value} {ls ss : List (List UInt8)} (hu : RdV w w.heap.size u ls) (hv : StrV w v ss) (hl : ls.length ≤ 1000000) :
    Calls Try.prog 16 #[u, v] w fun e w' => e = .returned (.bool (sameB ls ss)) ∧ Below w.heap.size w w' := by
  obtain ⟨A, c, rfl, h1⟩ := hu
  obtain ⟨A2, c2, rfl, h2⟩ := hv
  exact same_any w h1 h2 hl
theorem few_framL {ls : List (List UInt8)} (h : fewB ls = true) (k : Nat) : (framL (ls.take k)).length ≤ 6080 ∧ (ls.take k).length ≤ 10 ∧ (∀ r ∈ ls.take k, r.length ≤ 600) := by
  have h1 := (fewB_len h).1
  have h2 := fewB_600 h
  have hs : ∀ r ∈ ls.take k, r.length ≤ 600 := fun r hr => h2 r (List.mem_of_mem_take hr)
  have hf := (framL_len (ls.take k) 600 hs).1
  have hl : (ls.take k).length ≤ 10 := by rw [List.length_take]; omega
  refine ⟨?_, hl, hs⟩
  have : (ls.take k).length * (8 + 600) ≤ 10 * 608 := Nat.mul_le_mul hl (by decide)
  omega
/-- What the rounds of WalTurns keep. -/
structure TurnI (w w0 : World) (g i gl : Nat) (D : DS) (L : LS) (rs : List (List UInt8)) (wr : World) : Prop where
  has : Has wr w0.heap.size gl g D L rs
  calm : D.fails = -1
  n : D.n = 80
  size : L.size = 39
  turn : L.turn ≤ i
  loose : D.loose.length ≤ i * 1000
  below : Below w0.heap.size w0 wr
theorem TurnI.B {w w0 wr : World} {g i gl : Nat} {D : DS} {L : LS} {rs : List (List UInt8)} (h : TurnI w w0 g i gl D L rs wr) : w0.heap.size ≤ wr.heap.size := h.below.size
/-- Behind a compaction. -/
def TurnP (wr : World) (B g gl : Nat) (D : DS) (L : LS) (rk : List (List UInt8)) : World → Prop := fun w2 => ∃ D', Has w2 B gl g D' { L with turn := L.turn + 1, area := 1 - L.area, b := framL rk, rows := rk, sure := rk.length } rk ∧ D'.fails = -1 ∧ D'.n = D.n ∧ D'.loose.length ≤ D.loose.length + 4 * (L.size + 1) ∧ XFr exL B wr w2
theorem tmod_nat (a b : Nat) : (a : Int).tmod ((b : Int) + 1) = ((a % (b + 1) : Nat) : Int) := by
  rw [Int.tmod_eq_emod_of_nonneg (Int.natCast_nonneg a)]
  exact (Int.natCast_emod a (b + 1)).symm
theorem and_u8 (y : UInt8) (m : Nat) (hm : m < 256) : bits BinOp.and IntKind.u8 (y.toNat : Int) (m : Int) = ((y.toNat &&& m : Nat) : Int) := u8_and_nat _ _ y.toNat_lt hm
set_option maxRecDepth 100000 in
set_option maxHeartbeats 4000000 in
theorem WalTurns_walk (w : World) (Ar : Option Addr) (cr : Nat) (rows : List (List UInt8)) (hcr : rows.length ≤ cr) (hmr : cr ≤ maxLen) (hsr : ∀ l ∈ rows, l.length ≤ maxLen) (hrr : RdBB w w.heap.size Ar rows) (At : Option Addr) (ct : Nat) (turns : List UInt8) (hct : turns.length ≤ ct) (hmt : ct ≤ maxLen) (hrt : Rd w w.heap.size At (turns.map cb)) :
    Calls Try.prog 6 #[.slice Ar rows.length cr, .slice At turns.length ct] w fun e w' => e = .returned (.bool true) ∧ Below w.heap.size w w' := by
  have hmr' : cr ≤ 9223372036854775807 := hmr
  have hmt' : ct ≤ 9223372036854775807 := hmt
  have HMR := hid hmr
  clear hmr hmt hsr
  have HRR := hid hrr
  have HRT := hid hrt
  clear hrr hrt
  go_enter Try.func6, Try.ntmps6
  rw [hold 14, hold 17, hold 19]
  go_wp2_with fail
  refine (awake_any _).mono ?_
  rintro e w0 ⟨rfl, hb0⟩
  go_wp2_with fail
  refine (few_any w0 ((HRR.out.below hb0).more hb0.size) hcr HMR.out).mono ?_
  rintro e w0' ⟨rfl, rfl⟩
  obtain ⟨F, hF⟩ : ∃ F, F = fewB rows := ⟨_, rfl⟩
  rw [← hF]
  have HF := hid hF
  clear hF
  cases F with
  | false =>
    go_wp2_with fail
    exact bodyPost_ret (results_tmp rfl _ _ _) rfl ⟨rfl, hb0⟩
  | true =>
    by_cases hs0 : 20 < turns.length
    · have hsi : (20 : Int) < (turns.length : Int) := by omega
      go_wp2_with fail
      exact bodyPost_ret (results_tmp rfl _ _ _) rfl ⟨rfl, hb0⟩
    · have hsi : ¬ (20 : Int) < (turns.length : Int) := by omega
      have hfew := HF.out.symm
      have HFEW := hid hfew
      have hr10 := (fewB_len hfew).1
      clear hfew
      go_wp2_with fail
      refine (New_yes w0 80 (by decide) (by decide)).mono ?_
      rintro e w1 ⟨g, rfl, hd1, hb1⟩
      go_wp2_with fail
      refine (cOpen w1 hd1 hb1.size (by decide) rfl rfl (new_dur 80 (by omega))).mono ?_
      rintro e w2 ⟨gl, rfl, hh2, hb2⟩
      rw [show sizeD (newD 80) = 39 from rfl] at hh2
      have hI0 : TurnI w w0 g 0 gl (newD 80) { size := 39, turn := 0, area := 0, b := framL [], rows := [], sure := ([] : List (List UInt8)).length, e := 0 } [] w2 := ⟨hh2, rfl, rfl, rfl, Nat.le_refl _, Nat.le_refl _, bx_trans hb1 hb2⟩
      clear hd1 hh2
      go_wp2_with fail
      go_loopw [9, 11, 12, 13, 14] (fun v9 v11 _ _ _ wr => ∃ (i gl' : Nat) (D : DS) (L : LS) (rs : List (List UInt8)), i ≤ turns.length ∧ v11 = .int .i64 (i : Int) ∧ v9 = .pointer (some ⟨gl', 0, none⟩) ∧ TurnI w w0 g i gl' D L rs wr) (fun _ v11 _ _ _ _ => turns.length - (ofInt v11).toNat)
      case atStart => exact ⟨0, gl, _, _, _, Nat.zero_le _, rfl, rfl, hI0⟩
      case round =>
        obtain ⟨i, gl', D, L, rs, hi, rfl, rfl, hI⟩ := hrel
        rename World => wr
        by_cases hlt : i < turns.length
        · have hlti : (i : Int) < (turns.length : Int) := by omega
          have hbw := bx_trans hb0 hI.below
          obtain ⟨bt, offt, rfl, hbt, hct2⟩ := HRT.out.at_ (k := i) (by rw [List.length_map]; exact hlt)
          obtain ⟨y, hy⟩ : ∃ y, turns[i]? = some y := ⟨_, List.getElem?_eq_getElem hlt⟩
          have hcy : wr.cell? ⟨bt, offt + i, none⟩ = some (.int .u8 (y.toNat : Int)) := (hbw.cell (p := ⟨bt, offt + i, none⟩) hbt).trans (hct2 i _ (by rw [List.getElem?_map, hy]; rfl))
          have HI := hid hI
          have HCY := hid (fun (W : World) (hb : Below w.heap.size w W) => (hb.cell (p := ⟨bt, offt + i, none⟩) hbt).trans (hct2 i (.int .u8 (y.toNat : Int)) (by rw [List.getElem?_map, hy]; rfl)))
          clear hct2 hy hI hI0
          obtain ⟨q, hq⟩ : ∃ q, q = y.toNat / 4 := ⟨_, rfl⟩
          have hy8 := y.toNat_lt
          obtain ⟨k, hk⟩ : ∃ k, k = q % (rows.length + 1) := ⟨_, rfl⟩
          have hkt : (q : Int).tmod ((rows.length : Int) + 1) = (k : Int) := by rw [hk]; exact tmod_nat _ _
          have hq3 : (y.toNat : Int) / 4 = (q : Int) := by omega
          have HKT := hid hkt
          have HQ3 := hid hq3
          have hkl : k ≤ rows.length := by have := Nat.mod_lt q (show 0 < rows.length + 1 by omega); omega
          have htl : (rows.take k).length = k := by rw [List.length_take]; omega
          have hkc : (k : Int) ≤ (cr : Int) := by omega
          have hq63 : q < 256 := by omega
          clear hq hk hkt hq3
          have hcy' := hcy
          have lbt := Nat.lt_of_lt_of_le hbt hbw.size
          clear hcy
          go_wp2_with fail
          refine wp_hold (wp_region_lit ?_)
          refine wp_flowSE [0, 1, 3, 7, 15, 31, 63, 127, 255, 511, 1023] 11 [false, false, false, false, false, false, false, false, false, false, false, false, true, false, false, false, false, false, false, false, false, false, false, false, false, false, false, false, false, false, false, false, false, false, false, false, false, false, false, false, false, false, false, false, true, true, true, true, true, true, true, true, true, true] (by kernel_rfl) (by kernel_rfl) (by kernel_rfl) [FP.eq (.slice (some ⟨bt, offt, none⟩) turns.length ct), FP.eq (.int .i64 (i : Int)), FP.eq (.pointer (some ⟨bt, offt + i, none⟩)), FP.eq (.int .u8 (y.toNat : Int)), FP.eq (.int .u8 (q : Int)), FP.eq (.int .i64 (q : Int)), FP.eq (.slice Ar rows.length cr), FP.eq (.int .i64 (rows.length : Int)), FP.eq (.int .i64 ((rows.length : Int) + 1)), FP.eq (.int .i64 (k : Int)), FP.eq (.int .i64 (k : Int))] ?_ ?_
          · refine allFrom_cons ?_ ?_
            · intro a_ w_ hk_
              have h1 : a_.eval (.tmp 1) = .slice (some ⟨bt, offt, none⟩) turns.length ct := hk_.old 1 (by kernel_rfl)
              have hx_ := hk_.ext
              clear hk_
              refine flow_plain rfl ?_
              exact gives_move rfl ⟨Below.refl _ _, h1⟩
            refine allFrom_cons ?_ ?_
            · intro a_ w_ hk_
              have h11 : a_.eval (.tmp 11) = .int .i64 (i : Int) := hk_.old 11 (by kernel_rfl)
              have hx_ := hk_.ext
              clear hk_
              refine flow_plain rfl ?_
              exact gives_move rfl ⟨Below.refl _ _, h11⟩
            refine allFrom_cons ?_ ?_
            · intro a_ w_ hk_
              have h44 : a_.eval (.tmp 44) = (.slice (some ⟨bt, offt, none⟩) turns.length ct) := hk_.got 0 44 _ (by kernel_rfl) rfl rfl
              have h45 : a_.eval (.tmp 45) = (.int .i64 (i : Int)) := hk_.got 1 45 _ (by kernel_rfl) rfl rfl
              have hx_ := hk_.ext
              clear hk_
              refine flow_plain rfl ?_
              unfold gives
              have hc_ : ∀ v, a_.eval (.const v) = v := fun _ => rfl
              have hn_ : ∀ f, a_.eval (.func f) = .func (.func f) #[] #[] := fun _ => rfl
              generalize a_.eval = ρ_ at *
              go_simp
              exact ⟨Below.refl _ _, rfl⟩
            refine allFrom_cons ?_ ?_
            · intro a_ w_ hk_
              have h46 : a_.eval (.tmp 46) = (.pointer (some ⟨bt, offt + i, none⟩)) := hk_.got 2 46 _ (by kernel_rfl) rfl rfl
              have hx_ := hk_.ext
              clear hk_
              refine flow_plain rfl ?_
              unfold gives
              have hc_ : ∀ v, a_.eval (.const v) = v := fun _ => rfl
              have hn_ : ∀ f, a_.eval (.func f) = .func (.func f) #[] #[] := fun _ => rfl
              have hcell := (hx_.cell (p := ⟨bt, offt + i, none⟩) lbt).trans hcy'
              generalize a_.eval = ρ_ at *
              go_simp
              exact ⟨Below.refl _ _, rfl⟩
            refine allFrom_cons ?_ ?_
            · intro a_ w_ hk_
              have h47 : a_.eval (.tmp 47) = (.int .u8 (y.toNat : Int)) := hk_.got 3 47 _ (by kernel_rfl) rfl rfl
              have hx_ := hk_.ext
              clear hk_
              refine flow_plain rfl ?_
              unfold gives
              have hc_ : ∀ v, a_.eval (.const v) = v := fun _ => rfl
              have hn_ : ∀ f, a_.eval (.func f) = .func (.func f) #[] #[] := fun _ => rfl
              generalize a_.eval = ρ_ at *
              go_simp
              exact ⟨Below.refl _ _, congrArg (Value.int _) HQ3.out⟩
            refine allFrom_cons ?_ ?_
            · intro a_ w_ hk_
              have h48 : a_.eval (.tmp 48) = (.int .u8 (q : Int)) := hk_.got 4 48 _ (by kernel_rfl) rfl rfl
              have hx_ := hk_.ext
              clear hk_
              refine flow_plain rfl ?_
              unfold gives
              have hc_ : ∀ v, a_.eval (.const v) = v := fun _ => rfl
              have hn_ : ∀ f, a_.eval (.func f) = .func (.func f) #[] #[] := fun _ => rfl
              generalize a_.eval = ρ_ at *
              go_simp
              exact ⟨Below.refl _ _, congrArg (Value.int _) (i64_wrap (by omega) (by omega))⟩
            refine allFrom_cons ?_ ?_
            · intro a_ w_ hk_
              have h0 : a_.eval (.tmp 0) = .slice Ar rows.length cr := hk_.old 0 (by kernel_rfl)
              have hx_ := hk_.ext
              clear hk_
              refine flow_plain rfl ?_
              exact gives_move rfl ⟨Below.refl _ _, h0⟩
            refine allFrom_cons ?_ ?_
            · intro a_ w_ hk_
              have h50 : a_.eval (.tmp 50) = (.slice Ar rows.length cr) := hk_.got 6 50 _ (by kernel_rfl) rfl rfl
              have hx_ := hk_.ext
              clear hk_
              refine flow_plain rfl ?_
              unfold gives
              have hc_ : ∀ v, a_.eval (.const v) = v := fun _ => rfl
              have hn_ : ∀ f, a_.eval (.func f) = .func (.func f) #[] #[] := fun _ => rfl
              generalize a_.eval = ρ_ at *
              go_simp
              exact ⟨Below.refl _ _, rfl⟩
            refine allFrom_cons ?_ ?_
            · intro a_ w_ hk_
              have h51 : a_.eval (.tmp 51) = (.int .i64 (rows.length : Int)) := hk_.got 7 51 _ (by kernel_rfl) rfl rfl
              have hx_ := hk_.ext
              clear hk_
              refine flow_plain rfl ?_
              unfold gives
              have hc_ : ∀ v, a_.eval (.const v) = v := fun _ => rfl
              have hn_ : ∀ f, a_.eval (.func f) = .func (.func f) #[] #[] := fun _ => rfl
              generalize a_.eval = ρ_ at *
              go_simp
              exact ⟨Below.refl _ _, congrArg (Value.int _) (i64_wrap (by omega) (by omega))⟩
            refine allFrom_cons ?_ ?_
            · intro a_ w_ hk_
              have h49 : a_.eval (.tmp 49) = (.int .i64 (q : Int)) := hk_.got 5 49 _ (by kernel_rfl) rfl rfl
              have h52 : a_.eval (.tmp 52) = (.int .i64 ((rows.length : Int) + 1)) := hk_.got 8 52 _ (by kernel_rfl) rfl rfl
              have hx_ := hk_.ext
              clear hk_
              refine flow_plain rfl ?_
              unfold gives
              have hc_ : ∀ v, a_.eval (.const v) = v := fun _ => rfl
              have hn_ : ∀ f, a_.eval (.func f) = .func (.func f) #[] #[] := fun _ => rfl
              generalize a_.eval = ρ_ at *
              go_simp
              rw [if_neg (by omega)]
              exact ⟨Below.refl _ _, congrArg (Value.int _) HKT.out⟩
            refine allFrom_cons ?_ ?_
            · intro a_ w_ hk_
              have h53 : a_.eval (.tmp 53) = (.int .i64 (k : Int)) := hk_.got 9 53 _ (by kernel_rfl) rfl rfl
              have hx_ := hk_.ext
              clear hk_
              refine flow_plain rfl ?_
              exact gives_assign rfl ⟨Below.refl _ _, h53⟩
            exact allFrom_nil
          intro f_ w_ hx_ hf_
          have h44 : f_ 44 = (.slice (some ⟨bt, offt, none⟩) turns.length ct) := hf_ 0 44 _ (by decide) rfl rfl
          have h45 : f_ 45 = (.int .i64 (i : Int)) := hf_ 1 45 _ (by decide) rfl rfl
          have h46 : f_ 46 = (.pointer (some ⟨bt, offt + i, none⟩)) := hf_ 2 46 _ (by decide) rfl rfl
          have h47 : f_ 47 = (.int .u8 (y.toNat : Int)) := hf_ 3 47 _ (by decide) rfl rfl
          have h48 : f_ 48 = (.int .u8 (q : Int)) := hf_ 4 48 _ (by decide) rfl rfl
          have h49 : f_ 49 = (.int .i64 (q : Int)) := hf_ 5 49 _ (by decide) rfl rfl
          have h50 : f_ 50 = (.slice Ar rows.length cr) := hf_ 6 50 _ (by decide) rfl rfl
          have h51 : f_ 51 = (.int .i64 (rows.length : Int)) := hf_ 7 51 _ (by decide) rfl rfl
          have h52 : f_ 52 = (.int .i64 ((rows.length : Int) + 1)) := hf_ 8 52 _ (by decide) rfl rfl
          have h53 : f_ 53 = (.int .i64 (k : Int)) := hf_ 9 53 _ (by decide) rfl rfl
          have h12 : f_ 12 = (.int .i64 (k : Int)) := hf_ 10 12 _ (by decide) rfl rfl
          simp only [mix, h44, h45, h46, h47, h48, h49, h50, h51, h52, h53, h12]
          clear h44 h45 h46 h47 h48 h49 h50 h51 h52 h53 h12
          clear hf_
          go_wp2_with fail
          obtain ⟨wq, hwq⟩ : ∃ wq, wq = w_ := ⟨_, rfl⟩
          rw [← hwq] at hx_ ⊢
          clear hwq
          have hI2 : TurnI w w0 g i gl' D L rs wq := ⟨HI.out.has.below hx_ HI.out.B, HI.out.calm, HI.out.n, HI.out.size, HI.out.turn, HI.out.loose, HI.out.below.trans (hx_.mono HI.out.B)⟩
          have hbq := hbw.trans (hx_.mono hbw.size)
          have HI2 := hid hI2
          clear hI2 HI
          obtain ⟨v1, hv1⟩ : ∃ v1 : Int, v1 = ((y.toNat &&& 1 : Nat) : Int) := ⟨_, rfl⟩
          have hand1 : bits BinOp.and IntKind.u8 (y.toNat : Int) 1 = v1 := by rw [hv1]; exact and_u8 y 1 (by decide)
          obtain ⟨v2, hv2⟩ : ∃ v2 : Int, v2 = ((y.toNat &&& 2 : Nat) : Int) := ⟨_, rfl⟩
          have hand2 : bits BinOp.and IntKind.u8 (y.toNat : Int) 2 = v2 := by rw [hv2]; exact and_u8 y 2 (by decide)
          clear hv1 hv2
          have hfrm := few_framL HFEW.out k
          obtain ⟨rk, hrk⟩ : ∃ rk, rk = rows.take k := ⟨_, rfl⟩
          rw [← hrk] at htl hfrm
          have hrr : ∀ W, Below w.heap.size w W → RdBB W W.heap.size Ar rk := fun W hb => by rw [hrk]; exact ((HRR.out.below hb).more hb.size).take k
          have hB0 : w.heap.size ≤ w0.heap.size := hb0.size
          have hcm : ∀ W, W = wq.drew → Calls Try.prog 21 #[.pointer (some ⟨gl', 0, none⟩), .slice Ar k cr] W fun e w' => e = .returned (.int .i64 0) ∧ TurnP wq w0.heap.size g gl' D L rk w' := by
            rintro W rfl
            have hbd : Below wq.heap.size wq wq.drew := bx_drew (Below.refl _ _)
            have := cCompact wq.drew (HI2.out.has.below hbd HI2.out.B) HI2.out.calm HI2.out.B (by have h1 := HI2.out.loose; have h2 := HI2.out.size; omega) (by have := HI2.out.turn; omega) (c := cr) (rs' := rk) (fun W2 hx => hrr W2 (hbq.trans ((hbd.mono (Nat.le_trans hB0 HI2.out.B)).trans (hx.below.mono hB0)))) (by omega) (fun r hr => by have := hfrm.2.2 r hr; omega) (by rw [HI2.out.size]; omega)
            rw [htl] at this
            refine this.mono ?_
            rintro e w' ⟨rfl, D', h1, h2, h3, h4, h5⟩
            exact ⟨rfl, D', by rw [htl]; exact h1, h2, h3, h4, (XFr.of_below hbd HI2.out.B).trans h5⟩
          have hps : ∀ (w2 W : World), TurnP wq w0.heap.size g gl' D L rk w2 → Below w2.heap.size w2 W → ∃ D', Has W w0.heap.size gl' g D' { L with turn := L.turn + 1, area := 1 - L.area, b := framL rk, rows := rk, sure := rk.length } rk ∧ D'.fails = -1 ∧ D'.n = D.n ∧ D'.loose.length ≤ D.loose.length + 4 * (L.size + 1) ∧ Below w0.heap.size w0 W := by
            rintro w2 W ⟨D', h1, h2, h3, h4, h5⟩ hb
            have hB2 := Nat.le_trans HI2.out.B h5.below.size
            exact ⟨D', h1.below hb hB2, h2, h3, h4, (HI2.out.below.trans h5.below).trans (hb.mono hB2)⟩
          have HCM := hid hcm
          have HPS := hid hps
          have HRK := hid hrr
          have HTL := hid htl
          have HFM := hid hfrm
          clear hcm hps hrr htl hrk hfrm
          go_wp2_with fail
          refine wp_flowK (by kernel_rfl) [0, 0, 0, 6, 15, 31, 63, 127, 255, 127, 1023, 2047, 4095, 8191, 16383, 8191, 8191, 106495, 262143, 524287, 1048575, 2097151] 22 [false, false, false, false, false, false, false, false, false, false, false, false, false, false, false, false, false, false, false, false, false, false, false, false, false, false, false, false, false, false, false, false, false, false, false, false, false, false, false, false, false, false, false, false, false, false, false, false, false, false, false, false, false, false, true, true, true, true, true, true, true, true, true, true, true, true, true, true, true, true, true, true, true, true, true, true] (by kernel_rfl) (by decide) (by kernel_rfl) [KP.eq (.pointer (some ⟨gl', 0, none⟩)), KP.eq (.slice Ar rows.length cr), KP.eq (.int .i64 (k : Int)), KP.eq (.slice Ar k cr), KP.eq (.int .i64 0), KP.eq (.bool false), KP.eq (.bool false), KP.eq (.pointer (some ⟨gl', 0, none⟩)), KP.eq (.int .i64 (k : Int)), KP.eq (.int .i64 (k : Int)), KP.eq (.bool false), KP.eq (.bool false), KP.eq (.bool false), KP.eq (.pointer (some ⟨gl', 0, none⟩)), KP.slc rk.length, KP.eq (.slice Ar rows.length cr), KP.eq (.int .i64 (k : Int)), KP.eq (.slice Ar k cr), KP.slc rk.length, KP.eq (.bool true), KP.eq (.bool false), KP.eq (.bool false)] [4, 14, 18] (KT wq.drew (TurnP wq w0.heap.size g gl' D L rk) (.int .i64 0) rk rk) ?_ ?_ ?_
          · simp only [List.map_cons, List.map_nil]
            exact rfl
          · refine allFrom_cons ?_ ?_
            · refine stepK_by (by decide) ?_
              intro f_ a_ w_ hM_ hk_
              have h9 : a_.eval (.tmp 9) = .pointer (some ⟨gl', 0, none⟩) := hk_.old 9 (by kernel_rfl)
              have k4 := hk_.later 4 _ (by kernel_rfl) rfl
              have k14 := hk_.later 14 _ (by kernel_rfl) rfl
              have k18 := hk_.later 18 _ (by kernel_rfl) rfl
              clear hk_
              refine flow_plain rfl ?_
              exact gives_move rfl ⟨hM_, h9⟩
            refine allFrom_cons ?_ ?_
            · refine stepK_by (by decide) ?_
              intro f_ a_ w_ hM_ hk_
              have h0 : a_.eval (.tmp 0) = .slice Ar rows.length cr := hk_.old 0 (by kernel_rfl)
              have k4 := hk_.later 4 _ (by kernel_rfl) rfl
              have k14 := hk_.later 14 _ (by kernel_rfl) rfl
              have k18 := hk_.later 18 _ (by kernel_rfl) rfl
              clear hk_
              refine flow_plain rfl ?_
              exact gives_move rfl ⟨hM_, h0⟩
            refine allFrom_cons ?_ ?_
            · refine stepK_by (by decide) ?_
              intro f_ a_ w_ hM_ hk_
              have h12 : a_.eval (.tmp 12) = .int .i64 (k : Int) := hk_.old 12 (by kernel_rfl)
              have k4 := hk_.later 4 _ (by kernel_rfl) rfl
              have k14 := hk_.later 14 _ (by kernel_rfl) rfl
              have k18 := hk_.later 18 _ (by kernel_rfl) rfl
              clear hk_
              refine flow_plain rfl ?_
              exact gives_move rfl ⟨hM_, h12⟩
            refine allFrom_cons ?_ ?_
            · refine stepK_by (by decide) ?_
              intro f_ a_ w_ hM_ hk_
              have h55 : a_.eval (.tmp 55) = (.slice Ar rows.length cr) := hk_.got 1 55 _ (by kernel_rfl) rfl rfl
              have h56 : a_.eval (.tmp 56) = (.int .i64 (k : Int)) := hk_.got 2 56 _ (by kernel_rfl) rfl rfl
              have k4 := hk_.later 4 _ (by kernel_rfl) rfl
              have k14 := hk_.later 14 _ (by kernel_rfl) rfl
              have k18 := hk_.later 18 _ (by kernel_rfl) rfl
              clear hk_
              refine flow_plain rfl ?_
              refine gives_keep hM_ ?_
              unfold gives
              have hc_ : ∀ v, a_.eval (.const v) = v := fun _ => rfl
              have hn_ : ∀ f, a_.eval (.func f) = .func (.func f) #[] #[] := fun _ => rfl
              generalize a_.eval = ρ_ at *
              go_simp
              exact ⟨rfl, rfl⟩
            refine allFrom_cons ?_ ?_
            · intro f_ a_ w_ hM_ hk_
              have h54 : a_.eval (.tmp 54) = (.pointer (some ⟨gl', 0, none⟩)) := hk_.got 0 54 _ (by kernel_rfl) rfl rfl
              have h57 : a_.eval (.tmp 57) = (.slice Ar k cr) := hk_.got 3 57 _ (by kernel_rfl) rfl rfl
              have k4 : f_ 4 = none := hk_.un
              have k14 := hk_.later 14 _ (by kernel_rfl) rfl
              have k18 := hk_.later 18 _ (by kernel_rfl) rfl
              clear hk_
              simp only [List.map_cons, List.map_nil, k4, k14, k18] at hM_
              simp only [List.map_cons, List.map_nil, upd_same, upd_ne f_ _ (show (14 : Nat) ≠ 4 by decide), upd_ne f_ _ (show (18 : Nat) ≠ 4 by decide), k14, k18]
              refine flow_plain rfl ?_
              unfold gives
              have hc_ : ∀ v, a_.eval (.const v) = v := fun _ => rfl
              have hn_ : ∀ f, a_.eval (.func f) = .func (.func f) #[] #[] := fun _ => rfl
              generalize a_.eval = ρ_ at *
              go_simp
              exact (HCM.out w_ hM_).mono fun e w' ⟨h1, h2⟩ => ⟨_, h1, KT.call h2, rfl⟩
            refine allFrom_cons ?_ ?_
            · refine stepK_by (by decide) ?_
              intro f_ a_ w_ hM_ hk_
              have h58 : a_.eval (.tmp 58) = (.int .i64 0) := hk_.got 4 58 _ (by kernel_rfl) rfl rfl
              have k4 := hk_.val 4 58 _ (by kernel_rfl) rfl rfl
              have k14 := hk_.later 14 _ (by kernel_rfl) rfl
              have k18 := hk_.later 18 _ (by kernel_rfl) rfl
              clear hk_
              refine flow_plain rfl ?_
              refine gives_keep hM_ ?_
              unfold gives
              have hc_ : ∀ v, a_.eval (.const v) = v := fun _ => rfl
              have hn_ : ∀ f, a_.eval (.func f) = .func (.func f) #[] #[] := fun _ => rfl
              generalize a_.eval = ρ_ at *
              go_simp
              exact ⟨rfl, rfl⟩
            refine allFrom_cons ?_ ?_
            · refine stepK_by (by decide) ?_
              intro f_ a_ w_ hM_ hk_
              have h59 : a_.eval (.tmp 59) = (.bool false) := hk_.got 5 59 _ (by kernel_rfl) rfl rfl
              have k4 := hk_.val 4 58 _ (by kernel_rfl) rfl rfl
              have k14 := hk_.later 14 _ (by kernel_rfl) rfl
              have k18 := hk_.later 18 _ (by kernel_rfl) rfl
              clear hk_
              refine flow_plain rfl ?_
              exact gives_move rfl ⟨hM_, h59⟩
            refine allFrom_cons ?_ ?_
            · refine stepK_by (by decide) ?_
              intro f_ a_ w_ hM_ hk_
              have h9 : a_.eval (.tmp 9) = .pointer (some ⟨gl', 0, none⟩) := hk_.old 9 (by kernel_rfl)
              have k4 := hk_.val 4 58 _ (by kernel_rfl) rfl rfl
              have k14 := hk_.later 14 _ (by kernel_rfl) rfl
              have k18 := hk_.later 18 _ (by kernel_rfl) rfl
              have hg_ : a_.eval (.tmp 60) = .bool false := hk_.got 6 60 _ (by kernel_rfl) rfl rfl
              have hy_ := hk_.want 6 _ 60 false rfl rfl hg_
              clear hk_
              refine flow_want rfl hy_ ?_
              exact gives_move rfl ⟨hM_, h9⟩
            refine allFrom_cons ?_ ?_
            · refine stepK_by (by decide) ?_
              intro f_ a_ w_ hM_ hk_
              have h61 : a_.eval (.tmp 61) = (.pointer (some ⟨gl', 0, none⟩)) := hk_.got 7 61 _ (by kernel_rfl) rfl rfl
              have k4 := hk_.val 4 58 _ (by kernel_rfl) rfl rfl
              have k14 := hk_.later 14 _ (by kernel_rfl) rfl
              have k18 := hk_.later 18 _ (by kernel_rfl) rfl
              have hg_ : a_.eval (.tmp 60) = .bool false := hk_.got 6 60 _ (by kernel_rfl) rfl rfl
              have hy_ := hk_.want 6 _ 60 false rfl rfl hg_
              clear hk_
              refine flow_want rfl hy_ ?_
              have hM := hM_
              simp only [List.map_cons, List.map_nil, k4, k14, k18] at hM
              refine gives_keep hM_ ?_
              unfold gives
              have hc_ : ∀ v, a_.eval (.const v) = v := fun _ => rfl
              have hn_ : ∀ f, a_.eval (.func f) = .func (.func f) #[] #[] := fun _ => rfl
              clear hy_ hg_
              generalize a_.eval = ρ_ at *
              go_simp
              obtain ⟨w2_, hp_, hb_⟩ := KT.post hM
              obtain ⟨D2_, hh_, _⟩ := HPS.out _ _ hp_ hb_
              exact (aSure w_ hh_.log).mono fun e w' ⟨h1, h2⟩ => ⟨_, h1, h2.symm, by show Value.int .i64 ((rk.length : Nat) : Int) = _; rw [HTL.out]⟩
            refine allFrom_cons ?_ ?_
            · refine stepK_by (by decide) ?_
              intro f_ a_ w_ hM_ hk_
              have h12 : a_.eval (.tmp 12) = .int .i64 (k : Int) := hk_.old 12 (by kernel_rfl)
              have k4 := hk_.val 4 58 _ (by kernel_rfl) rfl rfl
              have k14 := hk_.later 14 _ (by kernel_rfl) rfl
              have k18 := hk_.later 18 _ (by kernel_rfl) rfl
              have hg_ : a_.eval (.tmp 60) = .bool false := hk_.got 6 60 _ (by kernel_rfl) rfl rfl
              have hy_ := hk_.want 6 _ 60 false rfl rfl hg_
              clear hk_
              refine flow_want rfl hy_ ?_
              exact gives_move rfl ⟨hM_, h12⟩
            refine allFrom_cons ?_ ?_
            · refine stepK_by (by decide) ?_
              intro f_ a_ w_ hM_ hk_
              have h62 : a_.eval (.tmp 62) = (.int .i64 (k : Int)) := hk_.got 8 62 _ (by kernel_rfl) rfl rfl
              have h63 : a_.eval (.tmp 63) = (.int .i64 (k : Int)) := hk_.got 9 63 _ (by kernel_rfl) rfl rfl
              have k4 := hk_.val 4 58 _ (by kernel_rfl) rfl rfl
              have k14 := hk_.later 14 _ (by kernel_rfl) rfl
              have k18 := hk_.later 18 _ (by kernel_rfl) rfl
              have hg_ : a_.eval (.tmp 60) = .bool false := hk_.got 6 60 _ (by kernel_rfl) rfl rfl
              have hy_ := hk_.want 6 _ 60 false rfl rfl hg_
              clear hk_
              refine flow_want rfl hy_ ?_
              refine gives_keep hM_ ?_
              unfold gives
              have hc_ : ∀ v, a_.eval (.const v) = v := fun _ => rfl
              have hn_ : ∀ f, a_.eval (.func f) = .func (.func f) #[] #[] := fun _ => rfl
              clear hy_ hg_
              generalize a_.eval = ρ_ at *
              go_simp
              exact ⟨rfl, rfl⟩
            refine allFrom_cons ?_ ?_
            · refine stepK_by (by decide) ?_
              intro f_ a_ w_ hM_ hk_
              have h60 : a_.eval (.tmp 60) = (.bool false) := hk_.got 6 60 _ (by kernel_rfl) rfl rfl
              have h64 : a_.eval (.tmp 64) = (.bool false) := hk_.got 10 64 _ (by kernel_rfl) rfl rfl
              have k4 := hk_.val 4 58 _ (by kernel_rfl) rfl rfl
              have k14 := hk_.later 14 _ (by kernel_rfl) rfl
              have k18 := hk_.later 18 _ (by kernel_rfl) rfl
              clear hk_
              refine flow_plain rfl ?_
              exact gives_pick rfl h60 ⟨hM_, h64⟩
            refine allFrom_cons ?_ ?_
            · refine stepK_by (by decide) ?_
              intro f_ a_ w_ hM_ hk_
              have h65 : a_.eval (.tmp 65) = (.bool false) := hk_.got 11 65 _ (by kernel_rfl) rfl rfl
              have k4 := hk_.val 4 58 _ (by kernel_rfl) rfl rfl
              have k14 := hk_.later 14 _ (by kernel_rfl) rfl
              have k18 := hk_.later 18 _ (by kernel_rfl) rfl
              clear hk_
              refine flow_plain rfl ?_
              exact gives_move rfl ⟨hM_, h65⟩
            refine allFrom_cons ?_ ?_
            · refine stepK_by (by decide) ?_
              intro f_ a_ w_ hM_ hk_
              have h9 : a_.eval (.tmp 9) = .pointer (some ⟨gl', 0, none⟩) := hk_.old 9 (by kernel_rfl)
              have k4 := hk_.val 4 58 _ (by kernel_rfl) rfl rfl
              have k14 := hk_.later 14 _ (by kernel_rfl) rfl
              have k18 := hk_.later 18 _ (by kernel_rfl) rfl
              have hg_ : a_.eval (.tmp 66) = .bool false := hk_.got 12 66 _ (by kernel_rfl) rfl rfl
              have hy_ := hk_.want 12 _ 66 false rfl rfl hg_
              clear hk_
              refine flow_want rfl hy_ ?_
              exact gives_move rfl ⟨hM_, h9⟩
            refine allFrom_cons ?_ ?_
            · intro f_ a_ w_ hM_ hk_
              have h67 : a_.eval (.tmp 67) = (.pointer (some ⟨gl', 0, none⟩)) := hk_.got 13 67 _ (by kernel_rfl) rfl rfl
              have k4 := hk_.val 4 58 _ (by kernel_rfl) rfl rfl
              have k14 : f_ 14 = none := hk_.un
              have k18 := hk_.later 18 _ (by kernel_rfl) rfl
              have hg_ : a_.eval (.tmp 66) = .bool false := hk_.got 12 66 _ (by kernel_rfl) rfl rfl
              have hy_ := hk_.want 12 _ 66 false rfl rfl hg_
              clear hk_
              simp only [List.map_cons, List.map_nil, k4, k14, k18] at hM_
              simp only [List.map_cons, List.map_nil, upd_same, upd_ne f_ _ (show (4 : Nat) ≠ 14 by decide), upd_ne f_ _ (show (18 : Nat) ≠ 14 by decide), k4, k18]
              refine flow_want rfl hy_ ?_
              unfold gives
              have hc_ : ∀ v, a_.eval (.const v) = v := fun _ => rfl
              have hn_ : ∀ f, a_.eval (.func f) = .func (.func f) #[] #[] := fun _ => rfl
              clear hy_ hg_
              generalize a_.eval = ρ_ at *
              go_simp
              obtain ⟨w2_, hp_, hb_⟩ := KT.post hM_
              obtain ⟨D2_, hh_, _⟩ := HPS.out _ _ hp_ hb_
              exact (records_V w_ hh_.log hh_.size).mono fun e w' ⟨v, h1, h2, h3⟩ => ⟨v, h1, KT.rows hM_ h3 h2, by obtain ⟨A_, c_, e_, _⟩ := h2; exact ⟨A_, c_, e_⟩⟩
            refine allFrom_cons ?_ ?_
            · refine stepK_by (by decide) ?_
              intro f_ a_ w_ hM_ hk_
              have h0 : a_.eval (.tmp 0) = .slice Ar rows.length cr := hk_.old 0 (by kernel_rfl)
              have k4 := hk_.val 4 58 _ (by kernel_rfl) rfl rfl
              have k18 := hk_.later 18 _ (by kernel_rfl) rfl
              have hg_ : a_.eval (.tmp 66) = .bool false := hk_.got 12 66 _ (by kernel_rfl) rfl rfl
              have hy_ := hk_.want 12 _ 66 false rfl rfl hg_
              clear hk_
              refine flow_want rfl hy_ ?_
              exact gives_move rfl ⟨hM_, h0⟩
            refine allFrom_cons ?_ ?_
            · refine stepK_by (by decide) ?_
              intro f_ a_ w_ hM_ hk_
              have h12 : a_.eval (.tmp 12) = .int .i64 (k : Int) := hk_.old 12 (by kernel_rfl)
              have k4 := hk_.val 4 58 _ (by kernel_rfl) rfl rfl
              have k18 := hk_.later 18 _ (by kernel_rfl) rfl
              have hg_ : a_.eval (.tmp 66) = .bool false := hk_.got 12 66 _ (by kernel_rfl) rfl rfl
              have hy_ := hk_.want 12 _ 66 false rfl rfl hg_
              clear hk_
              refine flow_want rfl hy_ ?_
              exact gives_move rfl ⟨hM_, h12⟩
            refine allFrom_cons ?_ ?_
            · refine stepK_by (by decide) ?_
              intro f_ a_ w_ hM_ hk_
              have h69 : a_.eval (.tmp 69) = (.slice Ar rows.length cr) := hk_.got 15 69 _ (by kernel_rfl) rfl rfl
              have h70 : a_.eval (.tmp 70) = (.int .i64 (k : Int)) := hk_.got 16 70 _ (by kernel_rfl) rfl rfl
              have k4 := hk_.val 4 58 _ (by kernel_rfl) rfl rfl
              have k18 := hk_.later 18 _ (by kernel_rfl) rfl
              have hg_ : a_.eval (.tmp 66) = .bool false := hk_.got 12 66 _ (by kernel_rfl) rfl rfl
              have hy_ := hk_.want 12 _ 66 false rfl rfl hg_
              clear hk_
              refine flow_want rfl hy_ ?_
              refine gives_keep hM_ ?_
              unfold gives
              have hc_ : ∀ v, a_.eval (.const v) = v := fun _ => rfl
              have hn_ : ∀ f, a_.eval (.func f) = .func (.func f) #[] #[] := fun _ => rfl
              clear hy_ hg_
              generalize a_.eval = ρ_ at *
              go_simp
              exact ⟨rfl, rfl⟩
            refine allFrom_cons ?_ ?_
            · intro f_ a_ w_ hM_ hk_
              have h71 : a_.eval (.tmp 71) = (.slice Ar k cr) := hk_.got 17 71 _ (by kernel_rfl) rfl rfl
              have k4 := hk_.val 4 58 _ (by kernel_rfl) rfl rfl
              have k14 := hk_.val 14 68 _ (by kernel_rfl) rfl rfl
              have k18 : f_ 18 = none := hk_.un
              have hg_ : a_.eval (.tmp 66) = .bool false := hk_.got 12 66 _ (by kernel_rfl) rfl rfl
              have hy_ := hk_.want 12 _ 66 false rfl rfl hg_
              clear hk_
              simp only [List.map_cons, List.map_nil, k4, k14, k18] at hM_
              simp only [List.map_cons, List.map_nil, upd_same, upd_ne f_ _ (show (4 : Nat) ≠ 18 by decide), upd_ne f_ _ (show (14 : Nat) ≠ 18 by decide), k4, k14]
              refine flow_want rfl hy_ ?_
              unfold gives
              have hc_ : ∀ v, a_.eval (.const v) = v := fun _ => rfl
              have hn_ : ∀ f, a_.eval (.func f) = .func (.func f) #[] #[] := fun _ => rfl
              clear hy_ hg_
              generalize a_.eval = ρ_ at *
              go_simp
              obtain ⟨w2_, hp_, hb_⟩ := KT.post hM_
              obtain ⟨D2_, _, _, _, _, hbw_⟩ := HPS.out _ _ hp_ hb_
              have ht_ := texts_V w_ (c := cr) (HRK.out w_ (hb0.trans (hbw_.mono hB0))) (by have := HFM.out.2.1; omega)
              rw [HTL.out] at ht_
              exact ht_.mono fun e w' ⟨v, h1, h2, h3⟩ => ⟨v, h1, KT.texts hM_ h3 h2, by obtain ⟨A_, c_, e_, _⟩ := h2; exact ⟨A_, c_, e_⟩⟩
            refine allFrom_cons ?_ ?_
            · refine stepK_by (by decide) ?_
              intro f_ a_ w_ hM_ hk_
              have h68 := hk_.got 14 68 _ (by kernel_rfl) rfl rfl
              have h72 := hk_.got 18 72 _ (by kernel_rfl) rfl rfl
              have k4 := hk_.val 4 58 _ (by kernel_rfl) rfl rfl
              have k14 := hk_.val 14 68 _ (by kernel_rfl) rfl rfl
              have k18 := hk_.val 18 72 _ (by kernel_rfl) rfl rfl
              have hg_ : a_.eval (.tmp 66) = .bool false := hk_.got 12 66 _ (by kernel_rfl) rfl rfl
              have hy_ := hk_.want 12 _ 66 false rfl rfl hg_
              clear hk_
              refine flow_want rfl hy_ ?_
              have hM := hM_
              simp only [List.map_cons, List.map_nil, k4, k14, k18] at hM
              simp only [List.map_cons, List.map_nil, k4, k14, k18]
              obtain ⟨hu_, hv_⟩ := KT.both hM
              have hs_ := same_V w_ hu_ hv_ (by have := HFM.out.2.1; omega)
              unfold gives
              have hc_ : ∀ v, a_.eval (.const v) = v := fun _ => rfl
              have hn_ : ∀ f, a_.eval (.func f) = .func (.func f) #[] #[] := fun _ => rfl
              clear hM_ hu_ hv_ k4 k14 k18
              generalize a_.eval = ρ_ at *
              go_simp
              exact hs_.mono fun e w' ⟨h1, h2⟩ => ⟨_, h1, KT.below hM h2, by rw [show sameB rk rk = true from decide_eq_true rfl]⟩
            refine allFrom_cons ?_ ?_
            · refine stepK_by (by decide) ?_
              intro f_ a_ w_ hM_ hk_
              have h73 : a_.eval (.tmp 73) = (.bool true) := hk_.got 19 73 _ (by kernel_rfl) rfl rfl
              have k4 := hk_.val 4 58 _ (by kernel_rfl) rfl rfl
              have k14 := hk_.val 14 68 _ (by kernel_rfl) rfl rfl
              have k18 := hk_.val 18 72 _ (by kernel_rfl) rfl rfl
              have hg_ : a_.eval (.tmp 66) = .bool false := hk_.got 12 66 _ (by kernel_rfl) rfl rfl
              have hy_ := hk_.want 12 _ 66 false rfl rfl hg_
              clear hk_
              refine flow_want rfl hy_ ?_
              refine gives_keep hM_ ?_
              unfold gives
              have hc_ : ∀ v, a_.eval (.const v) = v := fun _ => rfl
              have hn_ : ∀ f, a_.eval (.func f) = .func (.func f) #[] #[] := fun _ => rfl
              clear hy_ hg_
              generalize a_.eval = ρ_ at *
              go_simp
              exact ⟨rfl, rfl⟩
            refine allFrom_cons ?_ ?_
            · refine stepK_by (by decide) ?_
              intro f_ a_ w_ hM_ hk_
              have h66 : a_.eval (.tmp 66) = (.bool false) := hk_.got 12 66 _ (by kernel_rfl) rfl rfl
              have h74 : a_.eval (.tmp 74) = (.bool false) := hk_.got 20 74 _ (by kernel_rfl) rfl rfl
              have k4 := hk_.val 4 58 _ (by kernel_rfl) rfl rfl
              have k14 := hk_.val 14 68 _ (by kernel_rfl) rfl rfl
              have k18 := hk_.val 18 72 _ (by kernel_rfl) rfl rfl
              clear hk_
              refine flow_plain rfl ?_
              exact gives_pick rfl h66 ⟨hM_, h74⟩
            exact allFrom_nil
          intro f_ y_ w_ hM_ hf_ hd_
          have h54 : f_ 54 = (.pointer (some ⟨gl', 0, none⟩)) := (hf_ 0 54 _ (by decide) rfl rfl).1
          have h55 : f_ 55 = (.slice Ar rows.length cr) := (hf_ 1 55 _ (by decide) rfl rfl).1
          have h56 : f_ 56 = (.int .i64 (k : Int)) := (hf_ 2 56 _ (by decide) rfl rfl).1
          have h57 : f_ 57 = (.slice Ar k cr) := (hf_ 3 57 _ (by decide) rfl rfl).1
          have k4 := (hf_ 4 58 _ (by decide) rfl rfl).2
          have h58 : f_ 58 = (.int .i64 0) := (hf_ 4 58 _ (by decide) rfl rfl).1
          have h59 : f_ 59 = (.bool false) := (hf_ 5 59 _ (by decide) rfl rfl).1
          have h60 : f_ 60 = (.bool false) := (hf_ 6 60 _ (by decide) rfl rfl).1
          have h61 : f_ 61 = (.pointer (some ⟨gl', 0, none⟩)) := (hf_ 7 61 _ (by decide) rfl rfl).1
          have h62 : f_ 62 = (.int .i64 (k : Int)) := (hf_ 8 62 _ (by decide) rfl rfl).1
          have h63 : f_ 63 = (.int .i64 (k : Int)) := (hf_ 9 63 _ (by decide) rfl rfl).1
          have h64 : f_ 64 = (.bool false) := (hf_ 10 64 _ (by decide) rfl rfl).1
          have h65 : f_ 65 = (.bool false) := (hf_ 11 65 _ (by decide) rfl rfl).1
          have h66 : f_ 66 = (.bool false) := (hf_ 12 66 _ (by decide) rfl rfl).1
          have h67 : f_ 67 = (.pointer (some ⟨gl', 0, none⟩)) := (hf_ 13 67 _ (by decide) rfl rfl).1
          have k14 := (hf_ 14 68 _ (by decide) rfl rfl).2
          have h68 := (hf_ 14 68 _ (by decide) rfl rfl).1
          have h69 : f_ 69 = (.slice Ar rows.length cr) := (hf_ 15 69 _ (by decide) rfl rfl).1
          have h70 : f_ 70 = (.int .i64 (k : Int)) := (hf_ 16 70 _ (by decide) rfl rfl).1
          have h71 : f_ 71 = (.slice Ar k cr) := (hf_ 17 71 _ (by decide) rfl rfl).1
          have k18 := (hf_ 18 72 _ (by decide) rfl rfl).2
          have h72 := (hf_ 18 72 _ (by decide) rfl rfl).1
          have h73 : f_ 73 = (.bool true) := (hf_ 19 73 _ (by decide) rfl rfl).1
          have h74 : f_ 74 = (.bool false) := (hf_ 20 74 _ (by decide) rfl rfl).1
          have h75 : f_ 75 = (.bool false) := (hf_ 21 75 _ (by decide) rfl rfl).1
          simp only [List.map_cons, List.map_nil, k4, k14, k18] at hM_
          simp only [mix, List.drop_succ_cons, List.drop_zero, h54, h55, h56, h57, h58, h59, h60, h61, h62, h63, h64, h65, h66, h67, h69, h70, h71, h73, h74, h75]
          clear hf_ hd_ h54 h55 h56 h57 h58 h59 h60 h61 h62 h63 h64 h65 h66 h67 h69 h70 h71 h73 h74 h75 k4 k14 k18
          obtain ⟨w2_, hp_, hb_⟩ := KT.post hM_
          obtain ⟨D1, hh1, r1, r2, r3, hb3⟩ := HPS.out _ _ hp_ hb_
          obtain ⟨L1, hL1⟩ : ∃ L1 : LS, L1 = { L with turn := L.turn + 1, area := 1 - L.area, b := framL rk, rows := rk, sure := rk.length } := ⟨_, rfl⟩
          rw [← hL1] at hh1
          have p1 : L1.size = 39 ∧ L1.turn ≤ i + 1 ∧ L1.b.length ≤ 6080 := by rw [hL1]; exact ⟨HI2.out.size, by show L.turn + 1 ≤ i + 1; have := HI2.out.turn; omega, HFM.out.1⟩
          have q1 : D1.n = 80 ∧ D1.loose.length ≤ i * 1000 + 200 := by have h1 := HI2.out.n; have h2 := HI2.out.loose; have h3 := HI2.out.size; omega
          have hcy1 := HCY.out w_ (hb0.trans (hb3.mono hB0))
          have HH1 := hid hh1
          have HB3 := hid hb3
          have HRT2 := hid (fun (W : World) (hb : Below w.heap.size w W) => HRT.out.below hb)
          clear hL1 hh1 hM_ hp_ hb_ r2 r3
          go_wp2_with fail
          by_cases hv1 : v1 = 1
          · subst hv1
            go_wp2_with fail
            refine wp_hold ?_
            go_wp2_with fail
            have hlb : Blk (w_.alloc (.cells #[.int .u8 7] tU8)) w_.heap.size tU8 ([(7 : UInt8)].map cb).toArray := Blk.new _ _ _
            have hba : Below w_.heap.size w_ (w_.alloc (.cells #[.int .u8 7] tU8)) := bx_alloc (Below.refl _ _) _
            have hb4 := HB3.out.trans (hba.mono HB3.out.size)
            refine (cAppend (w_.alloc (.cells #[.int .u8 7] tU8)) (HH1.out.below hba HB3.out.size) r1 hb4.size (by rw [p1.1]; omega) (b := [7]) (c := 1) (A := some ⟨w_.heap.size, 0, none⟩) (fun W hx => rd_of_row (blk_xfr hlb hx (by decide)) rfl) (Nat.le_refl _) (by decide) (by rw [p1.1]; show L1.b.length + (8 + 1) ≤ 39 * 256; omega)).mono ?_
            rintro e wB ⟨rfl, DB, hhB, cB, nB, lB, hxB⟩
            obtain ⟨LB, hLB⟩ : ∃ LB : LS, LB = { L1 with b := L1.b ++ frameL [7], rows := L1.rows ++ [[7]] } := ⟨_, rfl⟩
            rw [← hLB] at hhB
            have pB : LB.size = 39 ∧ LB.turn ≤ i + 1 := by rw [hLB]; exact ⟨p1.1, p1.2.1⟩
            have qB : DB.n = 80 ∧ DB.loose.length ≤ i * 1000 + 1000 := by have h2 := q1.2; have h3 := p1.1; omega
            have HHB := hid hhB
            have HBB := hid (hb4.trans hxB.below)
            clear hLB hhB hxB hlb hba nB lB hb4
            have hcyB := HCY.out wB (hb0.trans (HBB.out.mono hB0))
            by_cases hv2 : v2 = 2
            · subst hv2
              go_wp2_with fail
              refine wp_hold ?_
              go_wp2_with fail
              refine (Crash_any wB (front := turns) HHB.out.disk (Kp.of_below (HRT2.out wB (hb0.trans (HBB.out.mono hB0))) hB0) (Nat.le_trans hB0 HBB.out.size) (by unfold maxLen; omega)).mono ?_
              rintro e wc ⟨rfl, hdc, hfc⟩
              have hbc := HBB.out.trans hfc.below
              have hdur := HHB.out.inv.crash turns
              rw [HHB.out.inv.size] at hdur
              have hdur2 : Dur (crashD DB turns).good (sizeD (crashD DB turns)) LB.turn LB.area rk := hdur
              have hszc : sizeD (crashD DB turns) = 39 := HHB.out.inv.size.symm.trans pB.1
              have HDU := hid hdur2
              have HDC := hid hdc
              have HBC := hid hbc
              clear hdur hdur2 hdc hfc hbc
              go_wp2_with fail
              refine (cOpen wc HDC.out HBC.out.size (by show 4 ≤ DB.n; omega) rfl rfl HDU.out).mono ?_
              rintro e wm ⟨gm, rfl, hhm, hbm⟩
              rw [hszc] at hhm
              obtain ⟨LM, hLM⟩ : ∃ LM : LS, LM = { size := 39, turn := LB.turn, area := LB.area, b := framL rk, rows := rk, sure := rk.length, e := 0 } := ⟨_, rfl⟩
              rw [← hLM] at hhm
              have pM : LM.size = 39 ∧ LM.turn ≤ i + 1 ∧ LM.rows = rk := by rw [hLM]; exact ⟨rfl, pB.2, rfl⟩
              have hbm2 := HBC.out.trans (hbm.mono HBC.out.size)
              have HHM := hid hhm
              have HBM := hid hbm2
              have HPM := hid pM
              clear hLM hhm hbm hbm2 pM
              go_wp2_with fail
              refine wp_flow (by kernel_rfl) [0, 1, 3, 7, 15, 7, 7, 103, 255, 511, 1023, 2047] 12 [false, false, false, false, false, false, false, false, false, false, false, false, false, false, false, false, false, false, false, false, false, false, false, false, false, false, false, false, false, false, false, false, false, false, false, false, false, false, false, false, false, false, false, false, false, false, false, false, false, false, false, false, false, false, false, false, false, false, false, false, false, false, false, false, false, false, false, false, false, false, false, false, false, false, false, false, false, false, false, false, false, false, false, false, false, false, false, false, false, false, false, false, false, false, false, false, false, false, false, false, false, false, true, true, true, true, true, true, true, true, true, true, true, true] (by kernel_rfl) (by decide) (by kernel_rfl) [FP.eq (.int .i64 0), FP.eq (.bool false), FP.eq (.bool false), FP.eq (.pointer (some ⟨gm, 0, none⟩)), FP.rows rk, FP.eq (.slice Ar rows.length cr), FP.eq (.int .i64 (k : Int)), FP.eq (.slice Ar k cr), FP.strs rk, FP.eq (.bool true), FP.eq (.bool false), FP.eq (.bool false)] ?_ ?_
              · refine allFrom_cons ?_ ?_
                · intro a_ w_ hk_
                  have h14 : a_.eval (.tmp 14) = .int .i64 0 := hk_.old 14 (by kernel_rfl)
                  have hx_ := hk_.ext
                  clear hk_
                  refine flow_plain rfl ?_
                  exact gives_move rfl ⟨Below.refl _ _, h14⟩
                refine allFrom_cons ?_ ?_
                · intro a_ w_ hk_
                  have h102 : a_.eval (.tmp 102) = (.int .i64 0) := hk_.got 0 102 _ (by kernel_rfl) rfl rfl
                  have hx_ := hk_.ext
                  clear hk_
                  refine flow_plain rfl ?_
                  unfold gives
                  have hc_ : ∀ v, a_.eval (.const v) = v := fun _ => rfl
                  have hn_ : ∀ f, a_.eval (.func f) = .func (.func f) #[] #[] := fun _ => rfl
                  generalize a_.eval = ρ_ at *
                  go_simp
                  exact ⟨Below.refl _ _, rfl⟩
                refine allFrom_cons ?_ ?_
                · intro a_ w_ hk_
                  have h103 : a_.eval (.tmp 103) = (.bool false) := hk_.got 1 103 _ (by kernel_rfl) rfl rfl
                  have hx_ := hk_.ext
                  clear hk_
                  refine flow_plain rfl ?_
                  exact gives_move rfl ⟨Below.refl _ _, h103⟩
                refine allFrom_cons ?_ ?_
                · intro a_ w_ hk_
                  have h13 : a_.eval (.tmp 13) = .pointer (some ⟨gm, 0, none⟩) := hk_.old 13 (by kernel_rfl)
                  have hg_ : a_.eval (.tmp 104) = .bool false := hk_.got 2 104 _ (by kernel_rfl) rfl rfl
                  have hy_ := hk_.want 2 _ 104 false rfl rfl hg_
                  have hx_ := hk_.ext
                  clear hk_
                  refine flow_want rfl hy_ ?_
                  exact gives_move rfl ⟨Below.refl _ _, h13⟩
                refine allFrom_cons ?_ ?_
                · intro a_ w_ hk_
                  have h105 : a_.eval (.tmp 105) = (.pointer (some ⟨gm, 0, none⟩)) := hk_.got 3 105 _ (by kernel_rfl) rfl rfl
                  have hg_ : a_.eval (.tmp 104) = .bool false := hk_.got 2 104 _ (by kernel_rfl) rfl rfl
                  have hy_ := hk_.want 2 _ 104 false rfl rfl hg_
                  have hx_ := hk_.ext
                  clear hk_
                  refine flow_want rfl hy_ ?_
                  unfold gives
                  have hc_ : ∀ v, a_.eval (.const v) = v := fun _ => rfl
                  have hn_ : ∀ f, a_.eval (.func f) = .func (.func f) #[] #[] := fun _ => rfl
                  clear hy_ hg_
                  generalize a_.eval = ρ_ at *
                  go_simp
                  have hr_ := records_V w_ (HHM.out.log.below hx_ HBM.out.size) HHM.out.size
                  rw [HPM.out.2.2] at hr_
                  exact hr_.mono fun e w' ⟨v, h1, h2, h3⟩ => ⟨v, h1, h3, h2⟩
                refine allFrom_cons ?_ ?_
                · intro a_ w_ hk_
                  have h0 : a_.eval (.tmp 0) = .slice Ar rows.length cr := hk_.old 0 (by kernel_rfl)
                  have hg_ : a_.eval (.tmp 104) = .bool false := hk_.got 2 104 _ (by kernel_rfl) rfl rfl
                  have hy_ := hk_.want 2 _ 104 false rfl rfl hg_
                  have hx_ := hk_.ext
                  clear hk_
                  refine flow_want rfl hy_ ?_
                  exact gives_move rfl ⟨Below.refl _ _, h0⟩
                refine allFrom_cons ?_ ?_
                · intro a_ w_ hk_
                  have h12 : a_.eval (.tmp 12) = .int .i64 (k : Int) := hk_.old 12 (by kernel_rfl)
                  have hg_ : a_.eval (.tmp 104) = .bool false := hk_.got 2 104 _ (by kernel_rfl) rfl rfl
                  have hy_ := hk_.want 2 _ 104 false rfl rfl hg_
                  have hx_ := hk_.ext
                  clear hk_
                  refine flow_want rfl hy_ ?_
                  exact gives_move rfl ⟨Below.refl _ _, h12⟩
                refine allFrom_cons ?_ ?_
                · intro a_ w_ hk_
                  have h107 : a_.eval (.tmp 107) = (.slice Ar rows.length cr) := hk_.got 5 107 _ (by kernel_rfl) rfl rfl
                  have h108 : a_.eval (.tmp 108) = (.int .i64 (k : Int)) := hk_.got 6 108 _ (by kernel_rfl) rfl rfl
                  have hg_ : a_.eval (.tmp 104) = .bool false := hk_.got 2 104 _ (by kernel_rfl) rfl rfl
                  have hy_ := hk_.want 2 _ 104 false rfl rfl hg_
                  have hx_ := hk_.ext
                  clear hk_
                  refine flow_want rfl hy_ ?_
                  unfold gives
                  have hc_ : ∀ v, a_.eval (.const v) = v := fun _ => rfl
                  have hn_ : ∀ f, a_.eval (.func f) = .func (.func f) #[] #[] := fun _ => rfl
                  clear hy_ hg_
                  generalize a_.eval = ρ_ at *
                  go_simp
                  exact ⟨Below.refl _ _, rfl⟩
                refine allFrom_cons ?_ ?_
                · intro a_ w_ hk_
                  have h109 : a_.eval (.tmp 109) = (.slice Ar k cr) := hk_.got 7 109 _ (by kernel_rfl) rfl rfl
                  have hg_ : a_.eval (.tmp 104) = .bool false := hk_.got 2 104 _ (by kernel_rfl) rfl rfl
                  have hy_ := hk_.want 2 _ 104 false rfl rfl hg_
                  have hx_ := hk_.ext
                  clear hk_
                  refine flow_want rfl hy_ ?_
                  unfold gives
                  have hc_ : ∀ v, a_.eval (.const v) = v := fun _ => rfl
                  have hn_ : ∀ f, a_.eval (.func f) = .func (.func f) #[] #[] := fun _ => rfl
                  clear hy_ hg_
                  generalize a_.eval = ρ_ at *
                  go_simp
                  have ht_ := texts_V w_ (c := cr) (HRK.out w_ (hb0.trans ((HBM.out.mono hB0).trans (hx_.mono (Nat.le_trans hB0 HBM.out.size))))) (by have := HFM.out.2.1; omega)
                  rw [HTL.out] at ht_
                  exact ht_.mono fun e w' ⟨v, h1, h2, h3⟩ => ⟨v, h1, h3, h2⟩
                refine allFrom_cons ?_ ?_
                · intro a_ w_ hk_
                  have h106 : (FP.rows rk).p (a_.eval (.tmp 106)) w_ := hk_.got 4 106 _ (by kernel_rfl) rfl rfl
                  have h110 : (FP.strs rk).p (a_.eval (.tmp 110)) w_ := hk_.got 8 110 _ (by kernel_rfl) rfl rfl
                  have hg_ : a_.eval (.tmp 104) = .bool false := hk_.got 2 104 _ (by kernel_rfl) rfl rfl
                  have hy_ := hk_.want 2 _ 104 false rfl rfl hg_
                  have hx_ := hk_.ext
                  clear hk_
                  refine flow_want rfl hy_ ?_
                  obtain ⟨A106, c106, h106, r106⟩ := h106
                  have hs_ := same_V w_ (show RdV w_ w_.heap.size (a_.eval (.tmp 106)) rk from ⟨A106, c106, h106, r106⟩) (show StrV w_ (a_.eval (.tmp 110)) rk from h110) (by have := HFM.out.2.1; omega)
                  unfold gives
                  have hc_ : ∀ v, a_.eval (.const v) = v := fun _ => rfl
                  have hn_ : ∀ f, a_.eval (.func f) = .func (.func f) #[] #[] := fun _ => rfl
                  clear h106 h110
                  generalize a_.eval = ρ_ at *
                  go_simp
                  exact hs_.mono fun e w' ⟨h1, h2⟩ => ⟨_, h1, h2, by show Value.bool _ = _; rw [show sameB rk rk = true from decide_eq_true rfl]⟩
                refine allFrom_cons ?_ ?_
                · intro a_ w_ hk_
                  have h111 : a_.eval (.tmp 111) = (.bool true) := hk_.got 9 111 _ (by kernel_rfl) rfl rfl
                  have hg_ : a_.eval (.tmp 104) = .bool false := hk_.got 2 104 _ (by kernel_rfl) rfl rfl
                  have hy_ := hk_.want 2 _ 104 false rfl rfl hg_
                  have hx_ := hk_.ext
                  clear hk_
                  refine flow_want rfl hy_ ?_
                  unfold gives
                  have hc_ : ∀ v, a_.eval (.const v) = v := fun _ => rfl
                  have hn_ : ∀ f, a_.eval (.func f) = .func (.func f) #[] #[] := fun _ => rfl
                  clear hy_ hg_
                  generalize a_.eval = ρ_ at *
                  go_simp
                  exact ⟨Below.refl _ _, rfl⟩
                refine allFrom_cons ?_ ?_
                · intro a_ w_ hk_
                  have h104 : a_.eval (.tmp 104) = (.bool false) := hk_.got 2 104 _ (by kernel_rfl) rfl rfl
                  have h112 : a_.eval (.tmp 112) = (.bool false) := hk_.got 10 112 _ (by kernel_rfl) rfl rfl
                  have hx_ := hk_.ext
                  clear hk_
                  refine flow_plain rfl ?_
                  exact gives_pick rfl h104 ⟨Below.refl _ _, h112⟩
                exact allFrom_nil
              intro f_ w_ hx_ hf_
              have h102 : f_ 102 = (.int .i64 0) := hf_ 0 102 _ (by decide) rfl rfl
              have h103 : f_ 103 = (.bool false) := hf_ 1 103 _ (by decide) rfl rfl
              have h104 : f_ 104 = (.bool false) := hf_ 2 104 _ (by decide) rfl rfl
              have h105 : f_ 105 = (.pointer (some ⟨gm, 0, none⟩)) := hf_ 3 105 _ (by decide) rfl rfl
              have h106 : (FP.rows rk).p (f_ 106) w_ := hf_ 4 106 _ (by decide) rfl rfl
              have h107 : f_ 107 = (.slice Ar rows.length cr) := hf_ 5 107 _ (by decide) rfl rfl
              have h108 : f_ 108 = (.int .i64 (k : Int)) := hf_ 6 108 _ (by decide) rfl rfl
              have h109 : f_ 109 = (.slice Ar k cr) := hf_ 7 109 _ (by decide) rfl rfl
              have h110 : (FP.strs rk).p (f_ 110) w_ := hf_ 8 110 _ (by decide) rfl rfl
              have h111 : f_ 111 = (.bool true) := hf_ 9 111 _ (by decide) rfl rfl
              have h112 : f_ 112 = (.bool false) := hf_ 10 112 _ (by decide) rfl rfl
              have h113 : f_ 113 = (.bool false) := hf_ 11 113 _ (by decide) rfl rfl
              simp only [mix, List.drop_succ_cons, List.drop_zero, h102, h103, h104, h105, h107, h108, h109, h111, h112, h113]
              clear h102 h103 h104 h105 h107 h108 h109 h111 h112 h113
              clear hf_
              go_wp2_with fail
              refine ⟨⟨i + 1, gm, crashD DB turns, LM, rk, hlt, by push_cast; rfl, rfl, ⟨HHM.out.below hx_ HBM.out.size, rfl, qB.1, HPM.out.1, HPM.out.2.1, Nat.zero_le _, HBM.out.trans (hx_.mono HBM.out.size)⟩⟩, by show turns.length - ((i : Int) + 1).toNat < turns.length - (i : Int).toNat; omega⟩
            · have e2 : (v2 == 2) = false := by simpa using hv2
              have lbt2 := Nat.lt_of_lt_of_le hbt (hb0.trans (HBB.out.mono hB0)).size
              go_wp2_with fail
              refine wp_hold (wp_region_lit ?_)
              refine wp_flowSE [0, 1, 3, 7, 15, 31] 6 [false, false, false, false, false, false, false, false, false, false, false, false, false, false, false, false, false, false, false, false, false, false, false, false, false, false, false, false, false, false, false, false, false, false, false, false, false, false, false, false, false, false, false, false, false, false, false, false, false, false, false, false, false, false, false, false, false, false, false, false, false, false, false, false, false, false, false, false, false, false, false, false, false, false, false, false, false, false, false, false, false, false, false, false, false, false, false, false, true, true, true, true, true, true] (by kernel_rfl) (by kernel_rfl) (by kernel_rfl) [FP.eq (.slice (some ⟨bt, offt, none⟩) turns.length ct), FP.eq (.int .i64 (i : Int)), FP.eq (.pointer (some ⟨bt, offt + i, none⟩)), FP.eq (.int .u8 (y.toNat : Int)), FP.eq (.int .u8 v2), FP.eq (.bool false)] ?_ ?_
              · refine allFrom_cons ?_ ?_
                · intro a_ w_ hk_
                  have h1 : a_.eval (.tmp 1) = .slice (some ⟨bt, offt, none⟩) turns.length ct := hk_.old 1 (by kernel_rfl)
                  have hx_ := hk_.ext
                  clear hk_
                  refine flow_plain rfl ?_
                  exact gives_move rfl ⟨Below.refl _ _, h1⟩
                refine allFrom_cons ?_ ?_
                · intro a_ w_ hk_
                  have h11 : a_.eval (.tmp 11) = .int .i64 (i : Int) := hk_.old 11 (by kernel_rfl)
                  have hx_ := hk_.ext
                  clear hk_
                  refine flow_plain rfl ?_
                  exact gives_move rfl ⟨Below.refl _ _, h11⟩
                refine allFrom_cons ?_ ?_
                · intro a_ w_ hk_
                  have h88 : a_.eval (.tmp 88) = (.slice (some ⟨bt, offt, none⟩) turns.length ct) := hk_.got 0 88 _ (by kernel_rfl) rfl rfl
                  have h89 : a_.eval (.tmp 89) = (.int .i64 (i : Int)) := hk_.got 1 89 _ (by kernel_rfl) rfl rfl
                  have hx_ := hk_.ext
                  clear hk_
                  refine flow_plain rfl ?_
                  unfold gives
                  have hc_ : ∀ v, a_.eval (.const v) = v := fun _ => rfl
                  have hn_ : ∀ f, a_.eval (.func f) = .func (.func f) #[] #[] := fun _ => rfl
                  generalize a_.eval = ρ_ at *
                  go_simp
                  exact ⟨Below.refl _ _, rfl⟩
                refine allFrom_cons ?_ ?_
                · intro a_ w_ hk_
                  have h90 : a_.eval (.tmp 90) = (.pointer (some ⟨bt, offt + i, none⟩)) := hk_.got 2 90 _ (by kernel_rfl) rfl rfl
                  have hx_ := hk_.ext
                  clear hk_
                  refine flow_plain rfl ?_
                  unfold gives
                  have hc_ : ∀ v, a_.eval (.const v) = v := fun _ => rfl
                  have hn_ : ∀ f, a_.eval (.func f) = .func (.func f) #[] #[] := fun _ => rfl
                  have hcell := (hx_.cell (p := ⟨bt, offt + i, none⟩) lbt2).trans hcyB
                  generalize a_.eval = ρ_ at *
                  go_simp
                  exact ⟨Below.refl _ _, rfl⟩
                refine allFrom_cons ?_ ?_
                · intro a_ w_ hk_
                  have h91 : a_.eval (.tmp 91) = (.int .u8 (y.toNat : Int)) := hk_.got 3 91 _ (by kernel_rfl) rfl rfl
                  have hx_ := hk_.ext
                  clear hk_
                  refine flow_plain rfl ?_
                  unfold gives
                  have hc_ : ∀ v, a_.eval (.const v) = v := fun _ => rfl
                  have hn_ : ∀ f, a_.eval (.func f) = .func (.func f) #[] #[] := fun _ => rfl
                  generalize a_.eval = ρ_ at *
                  go_simp
                  exact ⟨Below.refl _ _, rfl⟩
                refine allFrom_cons ?_ ?_
                · intro a_ w_ hk_
                  have h92 : a_.eval (.tmp 92) = (.int .u8 v2) := hk_.got 4 92 _ (by kernel_rfl) rfl rfl
                  have hx_ := hk_.ext
                  clear hk_
                  refine flow_plain rfl ?_
                  unfold gives
                  have hc_ : ∀ v, a_.eval (.const v) = v := fun _ => rfl
                  have hn_ : ∀ f, a_.eval (.func f) = .func (.func f) #[] #[] := fun _ => rfl
                  generalize a_.eval = ρ_ at *
                  go_simp
                  exact ⟨Below.refl _ _, rfl⟩
                exact allFrom_nil
              intro f_ w_ hx_ hf_
              have h88 : f_ 88 = (.slice (some ⟨bt, offt, none⟩) turns.length ct) := hf_ 0 88 _ (by decide) rfl rfl
              have h89 : f_ 89 = (.int .i64 (i : Int)) := hf_ 1 89 _ (by decide) rfl rfl
              have h90 : f_ 90 = (.pointer (some ⟨bt, offt + i, none⟩)) := hf_ 2 90 _ (by decide) rfl rfl
              have h91 : f_ 91 = (.int .u8 (y.toNat : Int)) := hf_ 3 91 _ (by decide) rfl rfl
              have h92 : f_ 92 = (.int .u8 v2) := hf_ 4 92 _ (by decide) rfl rfl
              have h93 : f_ 93 = (.bool false) := hf_ 5 93 _ (by decide) rfl rfl
              simp only [mix, h88, h89, h90, h91, h92, h93]
              clear h88 h89 h90 h91 h92 h93
              clear hf_
              go_wp2_with fail
              exact ⟨⟨i + 1, gl', DB, LB, rk, hlt, by push_cast; rfl, rfl, ⟨HHB.out.below hx_ HBB.out.size, cB, qB.1, pB.1, pB.2, by have := qB.2; omega, HBB.out.trans (hx_.mono HBB.out.size)⟩⟩, by show turns.length - ((i : Int) + 1).toNat < turns.length - (i : Int).toNat; omega⟩
          · have e1 : (v1 == 1) = false := by simpa using hv1
            have lbt3 := Nat.lt_of_lt_of_le hbt (hb0.trans (HB3.out.mono hB0)).size
            go_wp2_with fail
            refine wp_hold (wp_region_lit ?_)
            refine wp_flowSE [0, 1, 3, 7, 15, 31, 63, 127, 255, 511, 1023, 2047] 12 [false, false, false, false, false, false, false, false, false, false, false, false, false, false, false, false, false, false, false, false, false, false, false, false, false, false, false, false, false, false, false, false, false, false, false, false, false, false, false, false, false, false, false, false, false, false, false, false, false, false, false, false, false, false, false, false, false, false, false, false, false, false, false, false, false, false, false, false, false, false, false, false, false, false, false, false, true, true, true, true, true, true, true, true, true, true, true, true] (by kernel_rfl) (by kernel_rfl) (by kernel_rfl) [FP.eq (.slice (some ⟨bt, offt, none⟩) turns.length ct), FP.eq (.int .i64 (i : Int)), FP.eq (.pointer (some ⟨bt, offt + i, none⟩)), FP.eq (.int .u8 (y.toNat : Int)), FP.eq (.int .u8 v1), FP.eq (.bool false), FP.eq (.bool false), FP.any, FP.any, FP.any, FP.any, FP.eq (.bool false)] ?_ ?_
            · refine allFrom_cons ?_ ?_
              · intro a_ w_ hk_
                have h1 : a_.eval (.tmp 1) = .slice (some ⟨bt, offt, none⟩) turns.length ct := hk_.old 1 (by kernel_rfl)
                have hx_ := hk_.ext
                clear hk_
                refine flow_plain rfl ?_
                exact gives_move rfl ⟨Below.refl _ _, h1⟩
              refine allFrom_cons ?_ ?_
              · intro a_ w_ hk_
                have h11 : a_.eval (.tmp 11) = .int .i64 (i : Int) := hk_.old 11 (by kernel_rfl)
                have hx_ := hk_.ext
                clear hk_
                refine flow_plain rfl ?_
                exact gives_move rfl ⟨Below.refl _ _, h11⟩
              refine allFrom_cons ?_ ?_
              · intro a_ w_ hk_
                have h76 : a_.eval (.tmp 76) = (.slice (some ⟨bt, offt, none⟩) turns.length ct) := hk_.got 0 76 _ (by kernel_rfl) rfl rfl
                have h77 : a_.eval (.tmp 77) = (.int .i64 (i : Int)) := hk_.got 1 77 _ (by kernel_rfl) rfl rfl
                have hx_ := hk_.ext
                clear hk_
                refine flow_plain rfl ?_
                unfold gives
                have hc_ : ∀ v, a_.eval (.const v) = v := fun _ => rfl
                have hn_ : ∀ f, a_.eval (.func f) = .func (.func f) #[] #[] := fun _ => rfl
                generalize a_.eval = ρ_ at *
                go_simp
                exact ⟨Below.refl _ _, rfl⟩
              refine allFrom_cons ?_ ?_
              · intro a_ w_ hk_
                have h78 : a_.eval (.tmp 78) = (.pointer (some ⟨bt, offt + i, none⟩)) := hk_.got 2 78 _ (by kernel_rfl) rfl rfl
                have hx_ := hk_.ext
                clear hk_
                refine flow_plain rfl ?_
                unfold gives
                have hc_ : ∀ v, a_.eval (.const v) = v := fun _ => rfl
                have hn_ : ∀ f, a_.eval (.func f) = .func (.func f) #[] #[] := fun _ => rfl
                have hcell := (hx_.cell (p := ⟨bt, offt + i, none⟩) lbt3).trans hcy1
                generalize a_.eval = ρ_ at *
                go_simp
                exact ⟨Below.refl _ _, rfl⟩
              refine allFrom_cons ?_ ?_
              · intro a_ w_ hk_
                have h79 : a_.eval (.tmp 79) = (.int .u8 (y.toNat : Int)) := hk_.got 3 79 _ (by kernel_rfl) rfl rfl
                have hx_ := hk_.ext
                clear hk_
                refine flow_plain rfl ?_
                unfold gives
                have hc_ : ∀ v, a_.eval (.const v) = v := fun _ => rfl
                have hn_ : ∀ f, a_.eval (.func f) = .func (.func f) #[] #[] := fun _ => rfl
                generalize a_.eval = ρ_ at *
                go_simp
                exact ⟨Below.refl _ _, rfl⟩
              refine allFrom_cons ?_ ?_
              · intro a_ w_ hk_
                have h80 : a_.eval (.tmp 80) = (.int .u8 v1) := hk_.got 4 80 _ (by kernel_rfl) rfl rfl
                have hx_ := hk_.ext
                clear hk_
                refine flow_plain rfl ?_
                unfold gives
                have hc_ : ∀ v, a_.eval (.const v) = v := fun _ => rfl
                have hn_ : ∀ f, a_.eval (.func f) = .func (.func f) #[] #[] := fun _ => rfl
                generalize a_.eval = ρ_ at *
                go_simp
                exact ⟨Below.refl _ _, rfl⟩
              refine allFrom_cons ?_ ?_
              · intro a_ w_ hk_
                have h81 : a_.eval (.tmp 81) = (.bool false) := hk_.got 5 81 _ (by kernel_rfl) rfl rfl
                have hx_ := hk_.ext
                clear hk_
                refine flow_plain rfl ?_
                exact gives_move rfl ⟨Below.refl _ _, h81⟩
              refine allFrom_cons ?_ ?_
              · intro a_ w_ hk_
                have h9 : a_.eval (.tmp 9) = .pointer (some ⟨gl', 0, none⟩) := hk_.old 9 (by kernel_rfl)
                have hg_ : a_.eval (.tmp 82) = .bool false := hk_.got 6 82 _ (by kernel_rfl) rfl rfl
                have hy_ := hk_.want 6 _ 82 false rfl rfl hg_
                have hx_ := hk_.ext
                clear hk_
                exact flow_skip rfl hy_ (by decide) trivial
              refine allFrom_cons ?_ ?_
              · intro a_ w_ hk_
                have hg_ : a_.eval (.tmp 82) = .bool false := hk_.got 6 82 _ (by kernel_rfl) rfl rfl
                have hy_ := hk_.want 6 _ 82 false rfl rfl hg_
                have hx_ := hk_.ext
                clear hk_
                exact flow_skip rfl hy_ (by decide) trivial
              refine allFrom_cons ?_ ?_
              · intro a_ w_ hk_
                have hg_ : a_.eval (.tmp 82) = .bool false := hk_.got 6 82 _ (by kernel_rfl) rfl rfl
                have hy_ := hk_.want 6 _ 82 false rfl rfl hg_
                have hx_ := hk_.ext
                clear hk_
                exact flow_skip rfl hy_ (by decide) trivial
              refine allFrom_cons ?_ ?_
              · intro a_ w_ hk_
                have hg_ : a_.eval (.tmp 82) = .bool false := hk_.got 6 82 _ (by kernel_rfl) rfl rfl
                have hy_ := hk_.want 6 _ 82 false rfl rfl hg_
                have hx_ := hk_.ext
                clear hk_
                exact flow_skip rfl hy_ (by decide) trivial
              refine allFrom_cons ?_ ?_
              · intro a_ w_ hk_
                have h82 : a_.eval (.tmp 82) = (.bool false) := hk_.got 6 82 _ (by kernel_rfl) rfl rfl
                have hx_ := hk_.ext
                clear hk_
                refine flow_plain rfl ?_
                exact gives_pick rfl h82 ⟨Below.refl _ _, rfl⟩
              exact allFrom_nil
            intro f_ w_ hx_ hf_
            have h76 : f_ 76 = (.slice (some ⟨bt, offt, none⟩) turns.length ct) := hf_ 0 76 _ (by decide) rfl rfl
            have h77 : f_ 77 = (.int .i64 (i : Int)) := hf_ 1 77 _ (by decide) rfl rfl
            have h78 : f_ 78 = (.pointer (some ⟨bt, offt + i, none⟩)) := hf_ 2 78 _ (by decide) rfl rfl
            have h79 : f_ 79 = (.int .u8 (y.toNat : Int)) := hf_ 3 79 _ (by decide) rfl rfl
            have h80 : f_ 80 = (.int .u8 v1) := hf_ 4 80 _ (by decide) rfl rfl
            have h81 : f_ 81 = (.bool false) := hf_ 5 81 _ (by decide) rfl rfl
            have h82 : f_ 82 = (.bool false) := hf_ 6 82 _ (by decide) rfl rfl
            have h87 : f_ 87 = (.bool false) := hf_ 11 87 _ (by decide) rfl rfl
            simp only [mix, h76, h77, h78, h79, h80, h81, h82, h87]
            clear h76 h77 h78 h79 h80 h81 h82 h87
            clear hf_
            obtain ⟨wB, hwB⟩ : ∃ wB, wB = w_ := ⟨_, rfl⟩
            rw [← hwB] at hx_ ⊢
            clear hwB
            have HHB := hid (HH1.out.below hx_ HB3.out.size)
            have HBB := hid (HB3.out.trans (hx_.mono HB3.out.size))
            obtain ⟨DB, hDB⟩ : ∃ DB, DB = D1 := ⟨_, rfl⟩
            obtain ⟨LB, hLB⟩ : ∃ LB, LB = L1 := ⟨_, rfl⟩
            rw [← hDB, ← hLB] at HHB
            have cB : DB.fails = -1 := by rw [hDB]; exact r1
            have pB : LB.size = 39 ∧ LB.turn ≤ i + 1 := by rw [hLB]; exact ⟨p1.1, p1.2.1⟩
            have qB : DB.n = 80 ∧ DB.loose.length ≤ i * 1000 + 1000 := by rw [hDB]; have := q1; omega
            clear hDB hLB
            have hcyB := HCY.out wB (hb0.trans (HBB.out.mono hB0))
            by_cases hv2 : v2 = 2
            · subst hv2
              go_wp2_with fail
              refine wp_hold ?_
              go_wp2_with fail
              refine (Crash_any wB (front := turns) HHB.out.disk (Kp.of_below (HRT2.out wB (hb0.trans (HBB.out.mono hB0))) hB0) (Nat.le_trans hB0 HBB.out.size) (by unfold maxLen; omega)).mono ?_
              rintro e wc ⟨rfl, hdc, hfc⟩
              have hbc := HBB.out.trans hfc.below
              have hdur := HHB.out.inv.crash turns
              rw [HHB.out.inv.size] at hdur
              have hdur2 : Dur (crashD DB turns).good (sizeD (crashD DB turns)) LB.turn LB.area rk := hdur
              have hszc : sizeD (crashD DB turns) = 39 := HHB.out.inv.size.symm.trans pB.1
              have HDU := hid hdur2
              have HDC := hid hdc
              have HBC := hid hbc
              clear hdur hdur2 hdc hfc hbc
              go_wp2_with fail
              refine (cOpen wc HDC.out HBC.out.size (by show 4 ≤ DB.n; omega) rfl rfl HDU.out).mono ?_
              rintro e wm ⟨gm, rfl, hhm, hbm⟩
              rw [hszc] at hhm
              obtain ⟨LM, hLM⟩ : ∃ LM : LS, LM = { size := 39, turn := LB.turn, area := LB.area, b := framL rk, rows := rk, sure := rk.length, e := 0 } := ⟨_, rfl⟩
              rw [← hLM] at hhm
              have pM : LM.size = 39 ∧ LM.turn ≤ i + 1 ∧ LM.rows = rk := by rw [hLM]; exact ⟨rfl, pB.2, rfl⟩
              have hbm2 := HBC.out.trans (hbm.mono HBC.out.size)
              have HHM := hid hhm
              have HBM := hid hbm2
              have HPM := hid pM
              clear hLM hhm hbm hbm2 pM
              go_wp2_with fail
              refine wp_flow (by kernel_rfl) [0, 1, 3, 7, 15, 7, 7, 103, 255, 511, 1023, 2047] 12 [false, false, false, false, false, false, false, false, false, false, false, false, false, false, false, false, false, false, false, false, false, false, false, false, false, false, false, false, false, false, false, false, false, false, false, false, false, false, false, false, false, false, false, false, false, false, false, false, false, false, false, false, false, false, false, false, false, false, false, false, false, false, false, false, false, false, false, false, false, false, false, false, false, false, false, false, false, false, false, false, false, false, false, false, false, false, false, false, false, false, false, false, false, false, false, false, false, false, false, false, false, false, true, true, true, true, true, true, true, true, true, true, true, true] (by kernel_rfl) (by decide) (by kernel_rfl) [FP.eq (.int .i64 0), FP.eq (.bool false), FP.eq (.bool false), FP.eq (.pointer (some ⟨gm, 0, none⟩)), FP.rows rk, FP.eq (.slice Ar rows.length cr), FP.eq (.int .i64 (k : Int)), FP.eq (.slice Ar k cr), FP.strs rk, FP.eq (.bool true), FP.eq (.bool false), FP.eq (.bool false)] ?_ ?_
              · refine allFrom_cons ?_ ?_
                · intro a_ w_ hk_
                  have h14 : a_.eval (.tmp 14) = .int .i64 0 := hk_.old 14 (by kernel_rfl)
                  have hx_ := hk_.ext
                  clear hk_
                  refine flow_plain rfl ?_
                  exact gives_move rfl ⟨Below.refl _ _, h14⟩
                refine allFrom_cons ?_ ?_
                · intro a_ w_ hk_
                  have h102 : a_.eval (.tmp 102) = (.int .i64 0) := hk_.got 0 102 _ (by kernel_rfl) rfl rfl
                  have hx_ := hk_.ext
                  clear hk_
                  refine flow_plain rfl ?_
                  unfold gives
                  have hc_ : ∀ v, a_.eval (.const v) = v := fun _ => rfl
                  have hn_ : ∀ f, a_.eval (.func f) = .func (.func f) #[] #[] := fun _ => rfl
                  generalize a_.eval = ρ_ at *
                  go_simp
                  exact ⟨Below.refl _ _, rfl⟩
                refine allFrom_cons ?_ ?_
                · intro a_ w_ hk_
                  have h103 : a_.eval (.tmp 103) = (.bool false) := hk_.got 1 103 _ (by kernel_rfl) rfl rfl
                  have hx_ := hk_.ext
                  clear hk_
                  refine flow_plain rfl ?_
                  exact gives_move rfl ⟨Below.refl _ _, h103⟩
                refine allFrom_cons ?_ ?_
                · intro a_ w_ hk_
                  have h13 : a_.eval (.tmp 13) = .pointer (some ⟨gm, 0, none⟩) := hk_.old 13 (by kernel_rfl)
                  have hg_ : a_.eval (.tmp 104) = .bool false := hk_.got 2 104 _ (by kernel_rfl) rfl rfl
                  have hy_ := hk_.want 2 _ 104 false rfl rfl hg_
                  have hx_ := hk_.ext
                  clear hk_
                  refine flow_want rfl hy_ ?_
                  exact gives_move rfl ⟨Below.refl _ _, h13⟩
                refine allFrom_cons ?_ ?_
                · intro a_ w_ hk_
                  have h105 : a_.eval (.tmp 105) = (.pointer (some ⟨gm, 0, none⟩)) := hk_.got 3 105 _ (by kernel_rfl) rfl rfl
                  have hg_ : a_.eval (.tmp 104) = .bool false := hk_.got 2 104 _ (by kernel_rfl) rfl rfl
                  have hy_ := hk_.want 2 _ 104 false rfl rfl hg_
                  have hx_ := hk_.ext
                  clear hk_
                  refine flow_want rfl hy_ ?_
                  unfold gives
                  have hc_ : ∀ v, a_.eval (.const v) = v := fun _ => rfl
                  have hn_ : ∀ f, a_.eval (.func f) = .func (.func f) #[] #[] := fun _ => rfl
                  clear hy_ hg_
                  generalize a_.eval = ρ_ at *
                  go_simp
                  have hr_ := records_V w_ (HHM.out.log.below hx_ HBM.out.size) HHM.out.size
                  rw [HPM.out.2.2] at hr_
                  exact hr_.mono fun e w' ⟨v, h1, h2, h3⟩ => ⟨v, h1, h3, h2⟩
                refine allFrom_cons ?_ ?_
                · intro a_ w_ hk_
                  have h0 : a_.eval (.tmp 0) = .slice Ar rows.length cr := hk_.old 0 (by kernel_rfl)
                  have hg_ : a_.eval (.tmp 104) = .bool false := hk_.got 2 104 _ (by kernel_rfl) rfl rfl
                  have hy_ := hk_.want 2 _ 104 false rfl rfl hg_
                  have hx_ := hk_.ext
                  clear hk_
                  refine flow_want rfl hy_ ?_
                  exact gives_move rfl ⟨Below.refl _ _, h0⟩
                refine allFrom_cons ?_ ?_
                · intro a_ w_ hk_
                  have h12 : a_.eval (.tmp 12) = .int .i64 (k : Int) := hk_.old 12 (by kernel_rfl)
                  have hg_ : a_.eval (.tmp 104) = .bool false := hk_.got 2 104 _ (by kernel_rfl) rfl rfl
                  have hy_ := hk_.want 2 _ 104 false rfl rfl hg_
                  have hx_ := hk_.ext
                  clear hk_
                  refine flow_want rfl hy_ ?_
                  exact gives_move rfl ⟨Below.refl _ _, h12⟩
                refine allFrom_cons ?_ ?_
                · intro a_ w_ hk_
                  have h107 : a_.eval (.tmp 107) = (.slice Ar rows.length cr) := hk_.got 5 107 _ (by kernel_rfl) rfl rfl
                  have h108 : a_.eval (.tmp 108) = (.int .i64 (k : Int)) := hk_.got 6 108 _ (by kernel_rfl) rfl rfl
                  have hg_ : a_.eval (.tmp 104) = .bool false := hk_.got 2 104 _ (by kernel_rfl) rfl rfl
                  have hy_ := hk_.want 2 _ 104 false rfl rfl hg_
                  have hx_ := hk_.ext
                  clear hk_
                  refine flow_want rfl hy_ ?_
                  unfold gives
                  have hc_ : ∀ v, a_.eval (.const v) = v := fun _ => rfl
                  have hn_ : ∀ f, a_.eval (.func f) = .func (.func f) #[] #[] := fun _ => rfl
                  clear hy_ hg_
                  generalize a_.eval = ρ_ at *
                  go_simp
                  exact ⟨Below.refl _ _, rfl⟩
                refine allFrom_cons ?_ ?_
                · intro a_ w_ hk_
                  have h109 : a_.eval (.tmp 109) = (.slice Ar k cr) := hk_.got 7 109 _ (by kernel_rfl) rfl rfl
                  have hg_ : a_.eval (.tmp 104) = .bool false := hk_.got 2 104 _ (by kernel_rfl) rfl rfl
                  have hy_ := hk_.want 2 _ 104 false rfl rfl hg_
                  have hx_ := hk_.ext
                  clear hk_
                  refine flow_want rfl hy_ ?_
                  unfold gives
                  have hc_ : ∀ v, a_.eval (.const v) = v := fun _ => rfl
                  have hn_ : ∀ f, a_.eval (.func f) = .func (.func f) #[] #[] := fun _ => rfl
                  clear hy_ hg_
                  generalize a_.eval = ρ_ at *
                  go_simp
                  have ht_ := texts_V w_ (c := cr) (HRK.out w_ (hb0.trans ((HBM.out.mono hB0).trans (hx_.mono (Nat.le_trans hB0 HBM.out.size))))) (by have := HFM.out.2.1; omega)
                  rw [HTL.out] at ht_
                  exact ht_.mono fun e w' ⟨v, h1, h2, h3⟩ => ⟨v, h1, h3, h2⟩
                refine allFrom_cons ?_ ?_
                · intro a_ w_ hk_
                  have h106 : (FP.rows rk).p (a_.eval (.tmp 106)) w_ := hk_.got 4 106 _ (by kernel_rfl) rfl rfl
                  have h110 : (FP.strs rk).p (a_.eval (.tmp 110)) w_ := hk_.got 8 110 _ (by kernel_rfl) rfl rfl
                  have hg_ : a_.eval (.tmp 104) = .bool false := hk_.got 2 104 _ (by kernel_rfl) rfl rfl
                  have hy_ := hk_.want 2 _ 104 false rfl rfl hg_
                  have hx_ := hk_.ext
                  clear hk_
                  refine flow_want rfl hy_ ?_
                  obtain ⟨A106, c106, h106, r106⟩ := h106
                  have hs_ := same_V w_ (show RdV w_ w_.heap.size (a_.eval (.tmp 106)) rk from ⟨A106, c106, h106, r106⟩) (show StrV w_ (a_.eval (.tmp 110)) rk from h110) (by have := HFM.out.2.1; omega)
                  unfold gives
                  have hc_ : ∀ v, a_.eval (.const v) = v := fun _ => rfl
                  have hn_ : ∀ f, a_.eval (.func f) = .func (.func f) #[] #[] := fun _ => rfl
                  clear h106 h110
                  generalize a_.eval = ρ_ at *
                  go_simp
                  exact hs_.mono fun e w' ⟨h1, h2⟩ => ⟨_, h1, h2, by show Value.bool _ = _; rw [show sameB rk rk = true from decide_eq_true rfl]⟩
                refine allFrom_cons ?_ ?_
                · intro a_ w_ hk_
                  have h111 : a_.eval (.tmp 111) = (.bool true) := hk_.got 9 111 _ (by kernel_rfl) rfl rfl
                  have hg_ : a_.eval (.tmp 104) = .bool false := hk_.got 2 104 _ (by kernel_rfl) rfl rfl
                  have hy_ := hk_.want 2 _ 104 false rfl rfl hg_
                  have hx_ := hk_.ext
                  clear hk_
                  refine flow_want rfl hy_ ?_
                  unfold gives
                  have hc_ : ∀ v, a_.eval (.const v) = v := fun _ => rfl
                  have hn_ : ∀ f, a_.eval (.func f) = .func (.func f) #[] #[] := fun _ => rfl
                  clear hy_ hg_
                  generalize a_.eval = ρ_ at *
                  go_simp
                  exact ⟨Below.refl _ _, rfl⟩
                refine allFrom_cons ?_ ?_
                · intro a_ w_ hk_
                  have h104 : a_.eval (.tmp 104) = (.bool false) := hk_.got 2 104 _ (by kernel_rfl) rfl rfl
                  have h112 : a_.eval (.tmp 112) = (.bool false) := hk_.got 10 112 _ (by kernel_rfl) rfl rfl
                  have hx_ := hk_.ext
                  clear hk_
                  refine flow_plain rfl ?_
                  exact gives_pick rfl h104 ⟨Below.refl _ _, h112⟩
                exact allFrom_nil
              intro f_ w_ hx_ hf_
              have h102 : f_ 102 = (.int .i64 0) := hf_ 0 102 _ (by decide) rfl rfl
              have h103 : f_ 103 = (.bool false) := hf_ 1 103 _ (by decide) rfl rfl
              have h104 : f_ 104 = (.bool false) := hf_ 2 104 _ (by decide) rfl rfl
              have h105 : f_ 105 = (.pointer (some ⟨gm, 0, none⟩)) := hf_ 3 105 _ (by decide) rfl rfl
              have h106 : (FP.rows rk).p (f_ 106) w_ := hf_ 4 106 _ (by decide) rfl rfl
              have h107 : f_ 107 = (.slice Ar rows.length cr) := hf_ 5 107 _ (by decide) rfl rfl
              have h108 : f_ 108 = (.int .i64 (k : Int)) := hf_ 6 108 _ (by decide) rfl rfl
              have h109 : f_ 109 = (.slice Ar k cr) := hf_ 7 109 _ (by decide) rfl rfl
              have h110 : (FP.strs rk).p (f_ 110) w_ := hf_ 8 110 _ (by decide) rfl rfl
              have h111 : f_ 111 = (.bool true) := hf_ 9 111 _ (by decide) rfl rfl
              have h112 : f_ 112 = (.bool false) := hf_ 10 112 _ (by decide) rfl rfl
              have h113 : f_ 113 = (.bool false) := hf_ 11 113 _ (by decide) rfl rfl
              simp only [mix, List.drop_succ_cons, List.drop_zero, h102, h103, h104, h105, h107, h108, h109, h111, h112, h113]
              clear h102 h103 h104 h105 h107 h108 h109 h111 h112 h113
              clear hf_
              go_wp2_with fail
              refine ⟨⟨i + 1, gm, crashD DB turns, LM, rk, hlt, by push_cast; rfl, rfl, ⟨HHM.out.below hx_ HBM.out.size, rfl, qB.1, HPM.out.1, HPM.out.2.1, Nat.zero_le _, HBM.out.trans (hx_.mono HBM.out.size)⟩⟩, by show turns.length - ((i : Int) + 1).toNat < turns.length - (i : Int).toNat; omega⟩
            · have e2 : (v2 == 2) = false := by simpa using hv2
              have lbt2 := Nat.lt_of_lt_of_le hbt (hb0.trans (HBB.out.mono hB0)).size
              go_wp2_with fail
              refine wp_hold (wp_region_lit ?_)
              refine wp_flowSE [0, 1, 3, 7, 15, 31] 6 [false, false, false, false, false, false, false, false, false, false, false, false, false, false, false, false, false, false, false, false, false, false, false, false, false, false, false, false, false, false, false, false, false, false, false, false, false, false, false, false, false, false, false, false, false, false, false, false, false, false, false, false, false, false, false, false, false, false, false, false, false, false, false, false, false, false, false, false, false, false, false, false, false, false, false, false, false, false, false, false, false, false, false, false, false, false, false, false, true, true, true, true, true, true] (by kernel_rfl) (by kernel_rfl) (by kernel_rfl) [FP.eq (.slice (some ⟨bt, offt, none⟩) turns.length ct), FP.eq (.int .i64 (i : Int)), FP.eq (.pointer (some ⟨bt, offt + i, none⟩)), FP.eq (.int .u8 (y.toNat : Int)), FP.eq (.int .u8 v2), FP.eq (.bool false)] ?_ ?_
              · refine allFrom_cons ?_ ?_
                · intro a_ w_ hk_
                  have h1 : a_.eval (.tmp 1) = .slice (some ⟨bt, offt, none⟩) turns.length ct := hk_.old 1 (by kernel_rfl)
                  have hx_ := hk_.ext
                  clear hk_
                  refine flow_plain rfl ?_
                  exact gives_move rfl ⟨Below.refl _ _, h1⟩
                refine allFrom_cons ?_ ?_
                · intro a_ w_ hk_
                  have h11 : a_.eval (.tmp 11) = .int .i64 (i : Int) := hk_.old 11 (by kernel_rfl)
                  have hx_ := hk_.ext
                  clear hk_
                  refine flow_plain rfl ?_
                  exact gives_move rfl ⟨Below.refl _ _, h11⟩
                refine allFrom_cons ?_ ?_
                · intro a_ w_ hk_
                  have h88 : a_.eval (.tmp 88) = (.slice (some ⟨bt, offt, none⟩) turns.length ct) := hk_.got 0 88 _ (by kernel_rfl) rfl rfl
                  have h89 : a_.eval (.tmp 89) = (.int .i64 (i : Int)) := hk_.got 1 89 _ (by kernel_rfl) rfl rfl
                  have hx_ := hk_.ext
                  clear hk_
                  refine flow_plain rfl ?_
                  unfold gives
                  have hc_ : ∀ v, a_.eval (.const v) = v := fun _ => rfl
                  have hn_ : ∀ f, a_.eval (.func f) = .func (.func f) #[] #[] := fun _ => rfl
                  generalize a_.eval = ρ_ at *
                  go_simp
                  exact ⟨Below.refl _ _, rfl⟩
                refine allFrom_cons ?_ ?_
                · intro a_ w_ hk_
                  have h90 : a_.eval (.tmp 90) = (.pointer (some ⟨bt, offt + i, none⟩)) := hk_.got 2 90 _ (by kernel_rfl) rfl rfl
                  have hx_ := hk_.ext
                  clear hk_
                  refine flow_plain rfl ?_
                  unfold gives
                  have hc_ : ∀ v, a_.eval (.const v) = v := fun _ => rfl
                  have hn_ : ∀ f, a_.eval (.func f) = .func (.func f) #[] #[] := fun _ => rfl
                  have hcell := (hx_.cell (p := ⟨bt, offt + i, none⟩) lbt2).trans hcyB
                  generalize a_.eval = ρ_ at *
                  go_simp
                  exact ⟨Below.refl _ _, rfl⟩
                refine allFrom_cons ?_ ?_
                · intro a_ w_ hk_
                  have h91 : a_.eval (.tmp 91) = (.int .u8 (y.toNat : Int)) := hk_.got 3 91 _ (by kernel_rfl) rfl rfl
                  have hx_ := hk_.ext
                  clear hk_
                  refine flow_plain rfl ?_
                  unfold gives
                  have hc_ : ∀ v, a_.eval (.const v) = v := fun _ => rfl
                  have hn_ : ∀ f, a_.eval (.func f) = .func (.func f) #[] #[] := fun _ => rfl
                  generalize a_.eval = ρ_ at *
                  go_simp
                  exact ⟨Below.refl _ _, rfl⟩
                refine allFrom_cons ?_ ?_
                · intro a_ w_ hk_
                  have h92 : a_.eval (.tmp 92) = (.int .u8 v2) := hk_.got 4 92 _ (by kernel_rfl) rfl rfl
                  have hx_ := hk_.ext
                  clear hk_
                  refine flow_plain rfl ?_
                  unfold gives
                  have hc_ : ∀ v, a_.eval (.const v) = v := fun _ => rfl
                  have hn_ : ∀ f, a_.eval (.func f) = .func (.func f) #[] #[] := fun _ => rfl
                  generalize a_.eval = ρ_ at *
                  go_simp
                  exact ⟨Below.refl _ _, rfl⟩
                exact allFrom_nil
              intro f_ w_ hx_ hf_
              have h88 : f_ 88 = (.slice (some ⟨bt, offt, none⟩) turns.length ct) := hf_ 0 88 _ (by decide) rfl rfl
              have h89 : f_ 89 = (.int .i64 (i : Int)) := hf_ 1 89 _ (by decide) rfl rfl
              have h90 : f_ 90 = (.pointer (some ⟨bt, offt + i, none⟩)) := hf_ 2 90 _ (by decide) rfl rfl
              have h91 : f_ 91 = (.int .u8 (y.toNat : Int)) := hf_ 3 91 _ (by decide) rfl rfl
              have h92 : f_ 92 = (.int .u8 v2) := hf_ 4 92 _ (by decide) rfl rfl
              have h93 : f_ 93 = (.bool false) := hf_ 5 93 _ (by decide) rfl rfl
              simp only [mix, h88, h89, h90, h91, h92, h93]
              clear h88 h89 h90 h91 h92 h93
              clear hf_
              go_wp2_with fail
              exact ⟨⟨i + 1, gl', DB, LB, rk, hlt, by push_cast; rfl, rfl, ⟨HHB.out.below hx_ HBB.out.size, cB, qB.1, pB.1, pB.2, by have := qB.2; omega, HBB.out.trans (hx_.mono HBB.out.size)⟩⟩, by show turns.length - ((i : Int) + 1).toNat < turns.length - (i : Int).toNat; omega⟩
        · have HI := hid hI
          clear hI hI0
          have hil : ¬ (i : Int) < (turns.length : Int) := by omega
          go_wp2_with fail
          refine (aErr wr HI.out.has.log).mono ?_
          rintro e wr' ⟨rfl, rfl⟩
          rw [HI.out.has.inv.e]
          go_wp2_with fail
          exact bodyPost_ret (results_tmp rfl _ _ _) rfl ⟨rfl, bx_trans hb0 HI.out.below⟩
end Go.Proofs.Ytlpdiamgpnmeoaa
