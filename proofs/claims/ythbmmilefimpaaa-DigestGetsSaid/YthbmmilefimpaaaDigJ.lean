
/- The digest's statements' common example. -/
import Derived.Test.YthbmmilefimpaaaDigI
namespace Go.Proofs.Ythbmmilefimpaaa
open Go.RowKit Go.Maps
set_option linter.unusedVariables false
theorem wpList_build1 {P : Program} {ops : Array Oper} {rest : List Oper} {o : Oper} {a : Act} {w : World} {Q : Exit → Act → World → Prop} {t : TypeId} {v : Value} {cells : Array Value} (hb : P.built t [(0, v)] = some cells) (hgd : o.guard = none) (ho : o.op = .build t #[(0, .const v)])
    (h : wpList P ops Q rest (a.put o.dst (.agg cells)) w) : wpList P ops Q (o :: rest) a w := by
  refine wpList_val hgd ?_ h
  unfold execOp
  have hp : (#[(0, Operand.const v)] : Array (Nat × Operand)).map (fun (i, x) => (i, a.eval x)) = #[(0, v)] := by simp [Act.eval]
  simp only [ho, Sem.run_bind, hp, run_build w t #[(0, v)] cells hb, Result.andThen_ok, Sem.run_pure]
theorem gives_build1 {P : Program} {o : Oper} {a : Act} {w : World} {S : Value → World → Prop} {t : TypeId} {v : Value} {cells : Array Value} (hb : P.built t [(0, v)] = some cells) (ho : o.op = .build t #[(0, .const v)]) (h : S (.agg cells) w) : gives P o a w S := by
  refine gives_val ?_ h
  unfold execOp
  have hp : (#[(0, Operand.const v)] : Array (Nat × Operand)).map (fun (i, x) => (i, a.eval x)) = #[(0, v)] := by simp [Act.eval]
  simp only [ho, Sem.run_bind, hp, run_build w t #[(0, v)] cells hb, Result.andThen_ok, Sem.run_pure]
theorem wpAt {P : Program} {ops : Array Oper} {rest : List Oper} {o : Oper} {a : Act} {w : World} {Q : Exit → Act → World → Prop} (h : wpList P ops Q (o :: rest) a w) : wpList P ops Q (o :: rest) a w := h
theorem storeK {ops : Array Oper} {rest : List Oper} {o : Oper} {a : Act} {w : World} {Q : Exit → Act → World → Prop} (hgd : o.guard = none) {x y : Operand} (ho : o.op = .store 54 x y) {g : Nat} (hx : a.eval x = .pointer (some ⟨g, 0, none⟩)) {k : Key} (hy : a.eval y = .agg (kc k).toArray) (hk : kOk k)
    (hz : Blk w g 54 (Value.agg (kc (0, List.replicate 32 0)).toArray).cells) (h : ∀ w1, Put w w1 g 54 (kc k).toArray → wpList Try.prog ops Q rest (a.put o.dst undef) w1) : wpList Try.prog ops Q (o :: rest) a w :=
  wpList_store_agg hgd _ _ _ ho g 0 hx (kc k).toArray hy (aggSK hk) hz (szDK hk) (oneAK k) (fun w1 hp => h w1 (by rw [splDK hk] at hp; exact hp))
theorem loadK {ops : Array Oper} {rest : List Oper} {o : Oper} {a : Act} {w : World} {Q : Exit → Act → World → Prop} (hgd : o.guard = none) {x : Operand} (ho : o.op = .load 54 x) {g : Nat} (hx : a.eval x = .pointer (some ⟨g, 0, none⟩)) {k : Key} (hb : Blk w g 54 (kc k).toArray) (hk : kOk k)
    (h : wpList Try.prog ops Q rest (a.put o.dst (.agg (kc k).toArray)) w) : wpList Try.prog ops Q (o :: rest) a w :=
  wpList_load_agg hgd _ _ ho g 0 hx (kc k) (aggKc hk) (blk_cells hb) h
theorem loadD {ops : Array Oper} {rest : List Oper} {o : Oper} {a : Act} {w : World} {Q : Exit → Act → World → Prop} (hgd : o.guard = none) {x : Operand} (ho : o.op = .load tDg x) {g : Nat} (hx : a.eval x = .pointer (some ⟨g, 0, none⟩)) {u v : Value} (hb : Blk w g tDg #[u, v])
    (h : wpList Try.prog ops Q rest (a.put o.dst (.agg #[u, v])) w) : wpList Try.prog ops Q (o :: rest) a w :=
  wpList_load_agg hgd _ _ ho g 0 hx [u, v] aggD (blk_cells hb) h
theorem storeD {ops : Array Oper} {rest : List Oper} {o : Oper} {a : Act} {w : World} {Q : Exit → Act → World → Prop} (hgd : o.guard = none) {x y : Operand} (ho : o.op = .store tDg x y) {g : Nat} (hx : a.eval x = .pointer (some ⟨g, 0, none⟩)) {A B : Option Addr} {n m c d : Nat} (hy : a.eval y = .agg #[.slice A n c, .slice B m d])
    (hz : Blk w g tDg (Value.agg #[.slice none 0 0, .slice none 0 0]).cells) (h : ∀ w1, Put w w1 g tDg #[.slice A n c, .slice B m d] → wpList Try.prog ops Q rest (a.put o.dst undef) w1) : wpList Try.prog ops Q (o :: rest) a w :=
  wpList_store_agg hgd _ _ _ ho g 0 hx #[.slice A n c, .slice B m d] hy aggD2 hz (Nat.le_refl 2) (oneD _ _) (fun w1 hp => h w1 hp)
theorem eqSelfK {a : Key} (ha : kOk a) (w : World) : (Op.equalIn 10000 54 (.agg (kc a).toArray) (.agg (kc a).toArray)).run Try.prog w = .ok true w := by rw [eqK ha ha, decide_eq_true rfl]
theorem eqSelfH {a : List UInt8} (ha : hOk a) (w : World) : (Op.equalIn 10000 52 (.agg (hc a).toArray) (.agg (hc a).toArray)).run Try.prog w = .ok true w := by rw [eqH ha ha, decide_eq_true rfl]
/-- Where the example stands. -/
structure AS (kA kB kC : Key) (h5 : List UInt8) (w0 W : World) (g1 g2 g3 g7 : Nat) (vK vH : Value) : Prop where
  a : Blk W g1 54 (kc kA).toArray
  b : Blk W g2 54 (kc kB).toArray
  c : Blk W g3 54 (kc kC).toArray
  d : Blk W g7 tDg #[vK, vH]
  k : W.ownsRow 0 54 33 vK 2 ([kB, kC].map kc).flatten
  h : W.ownsRow 0 52 32 vH 1 ([h5].map hc).flatten
  be : Below w0.heap.size w0 W
theorem AS.below {kA kB kC : Key} {h5 : List UInt8} {w0 W W1 : World} {g1 g2 g3 g7 : Nat} {vK vH : Value} (s : AS kA kB kC h5 w0 W g1 g2 g3 g7 vK vH) (hb : Below W.heap.size W W1) : AS kA kB kC h5 w0 W1 g1 g2 g3 g7 vK vH :=
  ⟨s.a.below hb s.a.lt, s.b.below hb s.b.lt, s.c.below hb s.c.lt, s.d.below hb s.d.lt, own_keep s.k hb, own_keep s.h hb, bx_trans s.be hb⟩
set_option maxRecDepth 10000 in
set_option maxHeartbeats 1000000 in
theorem awake_gen (kA kB kC : Key) (h5 h6 : List UInt8) (okA : kOk kA) (okB : kOk kB) (okC : kOk kC) (ok5 : hOk h5) (ok6 : hOk h6)
    (builtA : Try.prog.built 54 [(0, .int .u64 1)] = some (kc kA).toArray) (builtB : Try.prog.built 54 [(0, .int .u64 2)] = some (kc kB).toArray) (builtC : Try.prog.built 54 [(0, .int .u64 3)] = some (kc kC).toArray)
    (built5 : Try.prog.built 52 [(0, .int .u8 5)] = some (hc h5).toArray) (built6 : Try.prog.built 52 [(0, .int .u8 6)] = some (hc h6).toArray)
    (lastBC : last32 [kB, kC] = [kB, kC]) (last5 : last32 [h5] = [h5]) (notsW : nots [kB, kC] [kA, kB] = [kC]) (notsL' : nots [kA, kB] [kB, kC] = [kA]) (notsM : nots [h5, h6] [h5] = [h6])
    (putLen : (putB [kB, kC] [h5]).length = 114) (getBC : getOut (putB [kB, kC] [h5]) = (0, [kB, kC], [h5]))
    (w : World) : Calls Try.prog 9 #[] w fun e w' => e = .returned (.bool true) ∧ Below w.heap.size w w' := by
  have okAB : ∀ k ∈ [kA, kB], kOk k := by intro k hk; simp at hk; rcases hk with rfl | rfl; exact okA; exact okB
  have okBC : ∀ k ∈ [kB, kC], kOk k := by intro k hk; simp at hk; rcases hk with rfl | rfl; exact okB; exact okC
  have ok56 : ∀ k ∈ [h5, h6], hOk k := by intro k hk; simp at hk; rcases hk with rfl | rfl; exact ok5; exact ok6
  have ok5' : ∀ k ∈ [h5], hOk k := by intro k hk; simp at hk; rw [hk]; exact ok5
  have FX := hid (And.intro lastBC (And.intro last5 (And.intro notsW (And.intro notsL' (And.intro notsM (And.intro putLen getBC))))))
  clear lastBC last5 notsW notsL' notsM putLen getBC
  have BX := hid (And.intro builtA (And.intro builtB (And.intro builtC (And.intro built5 built6))))
  clear builtA builtB builtC built5 built6
  go_enter Try.func9, Try.ntmps9
  generalize hC10 : Code.region 10 _ _ = C10
  have HC10 := hid hC10
  clear hC10
  go_wp2_with (first
    | (with_reducible refine wpAt ?_; refine wpList_build1 BX.out.1 rfl rfl ?_; simp only [Act.put, List.setIfInBounds_toArray, List.set_cons_succ, List.set_cons_zero])
    | (with_reducible refine wpAt ?_; refine wpList_build1 BX.out.2.1 rfl rfl ?_; simp only [Act.put, List.setIfInBounds_toArray, List.set_cons_succ, List.set_cons_zero])
    | (with_reducible refine wpAt ?_; refine wpList_build1 BX.out.2.2.1 rfl rfl ?_; simp only [Act.put, List.setIfInBounds_toArray, List.set_cons_succ, List.set_cons_zero])
    | (with_reducible refine wpAt ?_; refine wpList_build1 BX.out.2.2.2.1 rfl rfl ?_; simp only [Act.put, List.setIfInBounds_toArray, List.set_cons_succ, List.set_cons_zero])
    | (with_reducible refine wpAt ?_; refine wpList_alloc rfl _ rfl zrDK ?_; intro g1 w1 hg1 hg1' hz1 hb1; simp only [Act.put, List.setIfInBounds_toArray, List.set_cons_succ, List.set_cons_zero])
    | (with_reducible refine wpAt ?_; refine storeK rfl rfl rfl rfl (by assumption) hz1 ?_; intro w2 hp1; simp only [Act.put]; rename Nat => gX; have hX := hp1.blk; first
        | (have hA' := hp1.other (hA.below hb1 hA.lt) (Nat.ne_of_lt (Nat.lt_of_lt_of_le hA.lt hg1)); have hB' := hp1.other (hB.below hb1 hB.lt) (Nat.ne_of_lt (Nat.lt_of_lt_of_le hB.lt hg1)); have hb03 := bx_put (bx_trans hb01 hb1) hp1 (Nat.le_trans hb01.size hg1); clear hA hB; have hA := hA'; have hB := hB'; have hC := hX; clear hA' hB' hX; rename Nat => gC)
        | (have hA' := hp1.other (hA.below hb1 hA.lt) (Nat.ne_of_lt (Nat.lt_of_lt_of_le hA.lt hg1)); have hb02 := bx_put (bx_trans hb01 hb1) hp1 (Nat.le_trans hb01.size hg1); clear hA hb01; have hb01 := hb02; have hA := hA'; have hB := hX; clear hA' hX hb02; rename Nat => gB)
        | (have hb01 := bx_put hb1 hp1 hg1; have hA := hX; clear hX; rename Nat => gA))
    | (with_reducible refine wpAt ?_; refine loadK rfl rfl rfl (by assumption) (by assumption) ?_; simp only [Act.put, List.setIfInBounds_toArray, List.set_cons_succ, List.set_cons_zero])
    | (with_reducible refine wpAt ?_; refine sl2K rfl _ _ rfl (by assumption) (by assumption) rfl rfl ?_; intro g4 w4 hg4 hs4 hb4; have hb04 := bx_trans hb03 hb4; have hA4 := hA.below hb4 hA.lt; have hB4 := hB.below hb4 hB.lt; have hC4 := hC.below hb4 hC.lt; simp only [Act.put, List.setIfInBounds_toArray, List.set_cons_succ, List.set_cons_zero])
    | (with_reducible refine wpAt ?_; refine sl1H rfl _ rfl (by assumption) rfl ?_; intro g5 w5 hg5 hs5 hb5; have hb05 := bx_trans hb04 hb5; have hA5 := hA4.below hb5 hA4.lt; have hB5 := hB4.below hb5 hB4.lt; have hC5 := hC4.below hb5 hC4.lt; have hs45 := hs4.below hb5 hs4.lt; simp only [Act.put, List.setIfInBounds_toArray, List.set_cons_succ, List.set_cons_zero]))
  have hlB : 33 * 2 = 66 := rfl
  refine (Make_any w5 (keys := [kB, kC]) (fr := [h5]) (c1 := 2) (c2 := 1) okBC ok5' (rd_blk hs45) (rd_blk (x := ([h5].map hc).flatten) (by simpa using hs5)) (by simp) (by simp) (by simp) (by omega) (by simp) (by omega)).mono ?_
  rintro e w6 ⟨v, u, rfl, hK6, hH6, hb6⟩
  rw [FX.out.1, show [kB, kC].length = 2 from rfl] at hK6
  rw [FX.out.2.1, show [h5].length = 1 from rfl] at hH6
  obtain ⟨AK, cK, rfl, hcK, hmK, _⟩ := own_form hK6
  obtain ⟨AH, cH, rfl, hcH, hmH, _⟩ := own_form hH6
  have hA := hA5.below hb6 hA5.lt
  have hB := hB5.below hb6 hB5.lt
  have hC := hC5.below hb6 hC5.lt
  have hb06 := bx_trans hb05 hb6
  have hK := own_more hK6 (Nat.zero_le _)
  have hH := own_more hH6 (Nat.zero_le _)
  go_wp2_with (first
    | (with_reducible refine wpAt ?_; refine wpList_alloc rfl _ rfl zDg ?_; intro g7 w7 hg7 hg7' hz7 hb7; have hA7 := hA.below hb7 hA.lt; have hB7 := hB.below hb7 hB.lt; have hC7 := hC.below hb7 hC.lt; have hK7 := own_keep hK hb7; have hH7 := own_keep hH hb7; have hb07 := bx_trans hb06 hb7; have hl1 := Nat.ne_of_lt (Nat.lt_of_lt_of_le hA.lt hg7); have hl2 := Nat.ne_of_lt (Nat.lt_of_lt_of_le hB.lt hg7); have hl3 := Nat.ne_of_lt (Nat.lt_of_lt_of_le hC.lt hg7); have hl7 := Nat.le_trans hb06.size hg7; simp only [Act.put, List.setIfInBounds_toArray, List.set_cons_succ, List.set_cons_zero])
    | (with_reducible refine wpAt ?_; refine storeD rfl rfl rfl rfl hz7 ?_; intro w8 hp8; have hS : AS kA kB kC h5 w w8 gA gB gC g7 (.slice AK 2 cK) (.slice AH 1 cH) := ⟨hp8.other hA7 hl1, hp8.other hB7 hl2, hp8.other hC7 hl3, hp8.blk, own_put hK7 hz7 hp8 (by decide), own_put hH7 hz7 hp8 (by decide), bx_put hb07 hp8 hl7⟩; have hSa := hS.a; have hSb := hS.b; simp only [Act.put])
    | (with_reducible refine wpAt ?_; refine loadK rfl rfl rfl (by assumption) (by assumption) ?_; simp only [Act.put, List.setIfInBounds_toArray, List.set_cons_succ, List.set_cons_zero])
    | (with_reducible refine wpAt ?_; refine sl2K rfl _ _ rfl (by assumption) (by assumption) rfl rfl ?_; intro g9 w9 hg9 hs9 hb9; have hS9 := hS.below hb9; have hSd := hS9.d; simp only [Act.put, List.setIfInBounds_toArray, List.set_cons_succ, List.set_cons_zero])
    | (with_reducible refine wpAt ?_; refine loadD rfl rfl rfl (by assumption) ?_; simp only [Act.put, List.setIfInBounds_toArray, List.set_cons_succ, List.set_cons_zero]))
  clear hA hB hC hK hH hb06 hA7 hB7 hC7 hK7 hH7 hb07 hK6 hH6 hb6 hA5 hB5 hC5 hb05 hs45 hs5
  refine (Wants_any w9 (l := [kB, kC]) (other := [kA, kB]) okBC okAB (own_rd hS9.k) (rd_blk hs9) (by simp) (by simp)).mono ?_
  rintro e w10 ⟨vl, rfl, hL, hb10⟩
  rw [FX.out.2.2.1, show [kC].length = 1 from rfl] at hL
  have hL := own_more hL (Nat.zero_le _)
  obtain ⟨AL, cL, rfl, _, _, _⟩ := own_form hL
  have hS10 := hS9.below hb10
  clear hS hS9 hs9 hSa hSb hSd
  have hSa := hS10.a
  have hSb := hS10.b
  go_wp2_with (first
    | (with_reducible refine wpAt ?_; refine loadK rfl rfl rfl (by assumption) (by assumption) ?_; simp only [Act.put, List.setIfInBounds_toArray, List.set_cons_succ, List.set_cons_zero])
    | (with_reducible refine wpAt ?_; refine sl2K rfl _ _ rfl (by assumption) (by assumption) rfl rfl ?_; intro g11 w11 hg11 hs11 hb11; have hS11 := hS10.below hb11; have hSd := hS11.d; have hL11 := own_keep hL hb11; simp only [Act.put, List.setIfInBounds_toArray, List.set_cons_succ, List.set_cons_zero])
    | (with_reducible refine wpAt ?_; refine loadD rfl rfl rfl (by assumption) ?_; simp only [Act.put, List.setIfInBounds_toArray, List.set_cons_succ, List.set_cons_zero]))
  refine (Lacks_any w11 (l := [kA, kB]) (other := [kB, kC]) okAB okBC (rd_blk hs11) (own_rd hS11.k) (by simp) (by simp)).mono ?_
  rintro e w12 ⟨vm, rfl, hM, hb12⟩
  rw [FX.out.2.2.2.1, show [kA].length = 1 from rfl] at hM
  have hM := own_more hM (Nat.zero_le _)
  obtain ⟨AM, cM, rfl, _, _, _⟩ := own_form hM
  have hS12 := hS11.below hb12
  have hL12 := own_keep hL11 hb12
  clear hS10 hS11 hs11 hL hL11 hSa hSb hSd
  go_wp2_with (first
    | (with_reducible refine wpAt ?_; refine wpList_build1 BX.out.2.2.2.1 rfl rfl ?_; simp only [Act.put, List.setIfInBounds_toArray, List.set_cons_succ, List.set_cons_zero])
    | (with_reducible refine wpAt ?_; refine wpList_build1 BX.out.2.2.2.2 rfl rfl ?_; simp only [Act.put, List.setIfInBounds_toArray, List.set_cons_succ, List.set_cons_zero])
    | (with_reducible refine wpAt ?_; refine sl2H rfl _ _ rfl (by assumption) (by assumption) rfl rfl ?_; intro g13 w13 hg13 hs13 hb13; have hS13 := hS12.below hb13; have hSd := hS13.d; have hL13 := own_keep hL12 hb13; have hM13 := own_keep hM hb13; simp only [Act.put, List.setIfInBounds_toArray, List.set_cons_succ, List.set_cons_zero])
    | (with_reducible refine wpAt ?_; refine loadD rfl rfl rfl (by assumption) ?_; simp only [Act.put, List.setIfInBounds_toArray, List.set_cons_succ, List.set_cons_zero]))
  refine (Misses_any w13 (l := [h5, h6]) (other := [h5]) ok56 ok5' (rd_blk hs13) (own_rd hS13.h) (by simp) (by simp)).mono ?_
  rintro e w14 ⟨vn, rfl, hN, hb14⟩
  rw [FX.out.2.2.2.2.1, show [h6].length = 1 from rfl] at hN
  have hN := own_more hN (Nat.zero_le _)
  obtain ⟨AN, cN, rfl, _, _, _⟩ := own_form hN
  have hS14 := hS13.below hb14
  have hL14 := own_keep hL13 hb14
  have hM14 := own_keep hM13 hb14
  clear hS12 hS13 hs13 hL12 hL13 hM hM13 hSd
  have hSd := hS14.d
  go_wp2_with (with_reducible refine wpAt ?_; refine loadD rfl rfl rfl (by assumption) ?_)
  clear hSd
  refine (Put_any w14 (keys := [kB, kC]) (fr := [h5]) okBC ok5' (own_rd hS14.k) (own_rd hS14.h) (by simp) (by simp)).mono ?_
  rintro e w15 ⟨vp, rfl, hP, hb15⟩
  obtain ⟨AP, cP, rfl, hcP, hmP, hrP⟩ := own_form hP
  have hS15 := hS14.below hb15
  have hL15 := own_keep hL14 hb15
  have hM15 := own_keep hM14 hb15
  have hN15 := own_keep hN hb15
  clear hS14 hL14 hM14 hN hP
  have hpl := FX.out.2.2.2.2.2.1
  have hgt := FX.out.2.2.2.2.2.2
  generalize putB [kB, kC] [h5] = pb at *
  have HPL := hid hpl
  clear hpl
  go_wp2_with fail
  refine (Get_any w15 hrP (by have := HPL.out; omega)).mono ?_
  rintro e w16 ⟨vx, vy, rfl, hX, hY, hb16⟩
  rw [hgt] at hX hY ⊢
  rw [show (0, [kB, kC], [h5]).2.1.length = 2 from rfl] at hX
  rw [show (0, [kB, kC], [h5]).2.2.length = 1 from rfl] at hY
  have hX := own_more hX (Nat.zero_le _)
  have hY := own_more hY (Nat.zero_le _)
  obtain ⟨AX, cX, rfl, _, _, _⟩ := own_form hX
  obtain ⟨AY, cY, rfl, _, _, _⟩ := own_form hY
  have hS16 := hS15.below hb16
  have hL16 := own_keep hL15 hb16
  have hM16 := own_keep hM15 hb16
  have hN16 := own_keep hN15 hb16
  clear hS15 hL15 hM15 hN15 hgt hrP
  go_wp2_with (first
    | (with_reducible refine wpAt ?_; refine wpList_alloc rfl _ rfl zDg ?_; intro g17 w17 hg17 hg17' hz17 hb17; have hS17 := hS16.below hb17; have hL17 := own_keep hL16 hb17; have hM17 := own_keep hM16 hb17; have hN17 := own_keep hN16 hb17; have hX17 := own_keep hX hb17; have hY17 := own_keep hY hb17; have hl1 := Nat.ne_of_lt (Nat.lt_of_lt_of_le hS16.a.lt hg17); have hl3 := Nat.ne_of_lt (Nat.lt_of_lt_of_le hS16.c.lt hg17); have hl7 := Nat.le_trans hS16.be.size hg17; simp only [Act.put, List.setIfInBounds_toArray, List.set_cons_succ, List.set_cons_zero])
    | (with_reducible refine wpAt ?_; refine storeD rfl rfl rfl rfl hz17 ?_; intro w18 hp18; simp only [Act.put]))
  have hA18 := hp18.other hS17.a hl1
  have hC18 := hp18.other hS17.c hl3
  have hD18 := hp18.blk
  have hL18 := own_put hL17 hz17 hp18 (by decide)
  have hM18 := own_put hM17 hz17 hp18 (by decide)
  have hN18 := own_put hN17 hz17 hp18 (by decide)
  have hX18 := own_put hX17 hz17 hp18 (by decide)
  have hY18 := own_put hY17 hz17 hp18 (by decide)
  have hb18 := bx_put (bx_trans hS16.be hb17) hp18 hl7
  clear hS16 hS17 hL16 hL17 hM16 hM17 hN16 hN17 hX hY hX17 hY17 hz17 hl1 hl3 hl7
  have okC1 : ∀ k ∈ [kC], kOk k := by intro k hk; simp at hk; rw [hk]; exact okC
  have okA1 : ∀ k ∈ [kA], kOk k := by intro k hk; simp at hk; rw [hk]; exact okA
  have ok61 : ∀ k ∈ [h6], hOk k := by intro k hk; simp at hk; rw [hk]; exact ok6
  obtain ⟨bL, offL, hE, hlt, hdL⟩ := rd_item (i := 0) (own_rd hL18) (mapLenK okC1) (by decide) (by simp)
  subst hE
  simp only [List.map_cons, List.map_nil, List.getElem_cons_zero, List.getElem_cons_succ, Nat.zero_mul, Nat.one_mul, Nat.add_zero] at hdL
  have HDL := hid (fun (w_ : World) (hb : Below w18.heap.size w18 w_) j v hv => (hb.cell (p := ⟨bL, _, none⟩) hlt).trans (hdL j v hv))
  clear hlt hdL
  obtain ⟨bM, offM, hE, hlt, hdM⟩ := rd_item (i := 0) (own_rd hM18) (mapLenK okA1) (by decide) (by simp)
  subst hE
  simp only [List.map_cons, List.map_nil, List.getElem_cons_zero, List.getElem_cons_succ, Nat.zero_mul, Nat.one_mul, Nat.add_zero] at hdM
  have HDM := hid (fun (w_ : World) (hb : Below w18.heap.size w18 w_) j v hv => (hb.cell (p := ⟨bM, _, none⟩) hlt).trans (hdM j v hv))
  clear hlt hdM
  obtain ⟨bN, offN, hE, hlt, hdN⟩ := rd_item (i := 0) (own_rd hN18) (mapLenH ok61) (by decide) (by simp)
  subst hE
  simp only [List.map_cons, List.map_nil, List.getElem_cons_zero, List.getElem_cons_succ, Nat.zero_mul, Nat.one_mul, Nat.add_zero] at hdN
  have HDN := hid (fun (w_ : World) (hb : Below w18.heap.size w18 w_) j v hv => (hb.cell (p := ⟨bN, _, none⟩) hlt).trans (hdN j v hv))
  clear hlt hdN
  obtain ⟨bX, offX, hE, hlt, hdX⟩ := rd_item (i := 1) (own_rd hX18) (mapLenK okBC) (by decide) (by simp)
  subst hE
  simp only [List.map_cons, List.map_nil, List.getElem_cons_zero, List.getElem_cons_succ, Nat.zero_mul, Nat.one_mul, Nat.add_zero] at hdX
  have HDX := hid (fun (w_ : World) (hb : Below w18.heap.size w18 w_) j v hv => (hb.cell (p := ⟨bX, _, none⟩) hlt).trans (hdX j v hv))
  clear hlt hdX
  obtain ⟨bY, offY, hE, hlt, hdY⟩ := rd_item (i := 0) (own_rd hY18) (mapLenH ok5') (by decide) (by simp)
  subst hE
  simp only [List.map_cons, List.map_nil, List.getElem_cons_zero, List.getElem_cons_succ, Nat.zero_mul, Nat.one_mul, Nat.add_zero] at hdY
  have HDY := hid (fun (w_ : World) (hb : Below w18.heap.size w18 w_) j v hv => (hb.cell (p := ⟨bY, _, none⟩) hlt).trans (hdY j v hv))
  clear hlt hdY
  rw [← HC10.out]
  clear HC10
  clear hL18 hM18 hN18 hX18 hY18
  go_wp2
  refine wp_flow (by kernel_rfl) [0, 1, 3, 7, 15, 31, 63, 15, 255, 511, 1023, 2047, 4095, 8191, 16383, 32767, 65535, 131071, 262143, 65535, 1048575, 2097151, 4194303, 8388607, 16777215, 33554431, 67108863, 134217727, 268435455, 536870911, 1073741823, 268435455, 4294967295, 8589934591, 17179869183, 34359738367, 68719476735, 137438953471, 274877906943, 549755813887, 1099511627775, 2199023255551, 4398046511103, 8796093022207, 17592186044415, 35184372088831, 70368744177663, 140737488355327, 281474976710655, 562949953421311, 1125899906842623, 2251799813685247, 4503599627370495, 9007199254740991, 18014398509481983, 36028797018963967, 72057594037927935, 144115188075855871, 18014398509481983, 576460752303423487, 1152921504606846975, 2305843009213693951, 4611686018427387903, 9223372036854775807, 18446744073709551615, 36893488147419103231, 4611686018427387903, 147573952589676412927, 295147905179352825855, 590295810358705651711] 69 [false, false, false, false, false, false, false, false, false, false, false, false, false, false, false, false, false, false, false, false, false, false, false, false, false, false, false, false, false, false, false, false, false, false, false, false, false, false, false, false, false, false, false, false, false, false, true, true, true, true, true, true, true, true, true, true, true, true, true, true, true, true, true, true, true, true, true, true, true, true, true, true, true, true, true, true, true, true, true, true, true, true, true, true, true, true, true, true, true, true, true, true, true, true, true, true, true, true, true, true, true, true, true, true, true, true, true, true, true, true, true, true, true, true, true] (by kernel_rfl) (by decide) (by kernel_rfl) [FP.eq (.slice (some ⟨bL, offL, none⟩) 1 cL), FP.eq (.int .i64 1), FP.eq (.bool true), FP.eq (.bool true), FP.eq (.slice (some ⟨bL, offL, none⟩) 1 cL), FP.eq (.pointer (some ⟨bL, offL, none⟩)), FP.eq (.agg (kc kC).toArray), FP.eq (.agg (kc kC).toArray), FP.eq (.bool true), FP.eq (.bool true), FP.eq (.bool true), FP.eq (.slice (some ⟨bM, offM, none⟩) 1 cM), FP.eq (.int .i64 1), FP.eq (.bool true), FP.eq (.bool true), FP.eq (.bool true), FP.eq (.slice (some ⟨bM, offM, none⟩) 1 cM), FP.eq (.pointer (some ⟨bM, offM, none⟩)), FP.eq (.agg (kc kA).toArray), FP.eq (.agg (kc kA).toArray), FP.eq (.bool true), FP.eq (.bool true), FP.eq (.bool true), FP.eq (.slice (some ⟨bN, offN, none⟩) 1 cN), FP.eq (.int .i64 1), FP.eq (.bool true), FP.eq (.bool true), FP.eq (.bool true), FP.eq (.slice (some ⟨bN, offN, none⟩) 1 cN), FP.eq (.pointer (some ⟨bN, offN, none⟩)), FP.eq (.agg (hc h6).toArray), FP.eq (.agg (hc h6).toArray), FP.eq (.bool true), FP.eq (.bool true), FP.eq (.bool true), FP.eq (.int .i64 0), FP.eq (.bool true), FP.eq (.bool true), FP.eq (.bool true), FP.eq (.slice AP pb.length cP), FP.eq (.int .i64 114), FP.eq (.bool true), FP.eq (.bool true), FP.eq (.bool true), FP.eq (.int .i64 0), FP.eq (.bool true), FP.eq (.bool true), FP.eq (.bool true), FP.eq (.pointer (some ⟨g17, 0, none⟩)), FP.eq (.slice (some ⟨bX, offX, none⟩) 2 cX), FP.eq (.int .i64 2), FP.eq (.bool true), FP.eq (.bool true), FP.eq (.bool true), FP.eq (.pointer (some ⟨g17, 0, none⟩)), FP.eq (.slice (some ⟨bX, offX, none⟩) 2 cX), FP.eq (.pointer (some ⟨bX, offX + 33, none⟩)), FP.eq (.agg (kc kC).toArray), FP.eq (.agg (kc kC).toArray), FP.eq (.bool true), FP.eq (.bool true), FP.eq (.bool true), FP.eq (.pointer (some ⟨g17, 1, none⟩)), FP.eq (.slice (some ⟨bY, offY, none⟩) 1 cY), FP.eq (.pointer (some ⟨bY, offY, none⟩)), FP.eq (.agg (hc h5).toArray), FP.eq (.agg (hc h5).toArray), FP.eq (.bool true), FP.eq (.bool true)] ?_ ?_
  · refine allFrom_cons ?_ ?_
    · intro a_ w_ hk_
      have h5 : a_.eval (.tmp 5) = .slice (some ⟨bL, offL, none⟩) 1 cL := hk_.old 5 (by kernel_rfl)
      have hx_ := hk_.ext
      clear hk_
      refine flow_plain rfl ?_
      exact gives_move rfl ⟨Below.refl _ _, h5⟩
    refine allFrom_cons ?_ ?_
    · intro a_ w_ hk_
      have h46 : a_.eval (.tmp 46) = (.slice (some ⟨bL, offL, none⟩) 1 cL) := hk_.got 0 46 _ (by kernel_rfl) rfl rfl
      have hx_ := hk_.ext
      clear hk_
      refine flow_plain rfl ?_
      unfold gives
      have hc_ : ∀ v, a_.eval (.const v) = v := fun _ => rfl
      have hn_ : ∀ f, a_.eval (.func f) = .func (.func f) #[] #[] := fun _ => rfl
      generalize a_.eval = ρ_ at *
      go_simp
      exact ⟨Below.refl _ _, rfl⟩
    refine allFrom_cons ?_ ?_
    · intro a_ w_ hk_
      have h47 : a_.eval (.tmp 47) = (.int .i64 1) := hk_.got 1 47 _ (by kernel_rfl) rfl rfl
      have hx_ := hk_.ext
      clear hk_
      refine flow_plain rfl ?_
      unfold gives
      have hc_ : ∀ v, a_.eval (.const v) = v := fun _ => rfl
      have hn_ : ∀ f, a_.eval (.func f) = .func (.func f) #[] #[] := fun _ => rfl
      generalize a_.eval = ρ_ at *
      go_simp
      exact ⟨Below.refl _ _, rfl⟩
    refine allFrom_cons ?_ ?_
    · intro a_ w_ hk_
      have h48 : a_.eval (.tmp 48) = (.bool true) := hk_.got 2 48 _ (by kernel_rfl) rfl rfl
      have hx_ := hk_.ext
      clear hk_
      refine flow_plain rfl ?_
      exact gives_move rfl ⟨Below.refl _ _, h48⟩
    refine allFrom_cons ?_ ?_
    · intro a_ w_ hk_
      have h5 : a_.eval (.tmp 5) = .slice (some ⟨bL, offL, none⟩) 1 cL := hk_.old 5 (by kernel_rfl)
      have hg_ : a_.eval (.tmp 49) = .bool true := hk_.got 3 49 _ (by kernel_rfl) rfl rfl
      have hy_ := hk_.want 3 _ 49 true rfl rfl hg_
      have hx_ := hk_.ext
      clear hk_
      refine flow_want rfl hy_ ?_
      exact gives_move rfl ⟨Below.refl _ _, h5⟩
    refine allFrom_cons ?_ ?_
    · intro a_ w_ hk_
      have h50 : a_.eval (.tmp 50) = (.slice (some ⟨bL, offL, none⟩) 1 cL) := hk_.got 4 50 _ (by kernel_rfl) rfl rfl
      have hg_ : a_.eval (.tmp 49) = .bool true := hk_.got 3 49 _ (by kernel_rfl) rfl rfl
      have hy_ := hk_.want 3 _ 49 true rfl rfl hg_
      have hx_ := hk_.ext
      clear hk_
      refine flow_want rfl hy_ ?_
      unfold gives
      have hc_ : ∀ v, a_.eval (.const v) = v := fun _ => rfl
      have hn_ : ∀ f, a_.eval (.func f) = .func (.func f) #[] #[] := fun _ => rfl
      clear hy_ hg_
      generalize a_.eval = ρ_ at *
      go_simp
      exact ⟨Below.refl _ _, rfl⟩
    refine allFrom_cons ?_ ?_
    · intro a_ w_ hk_
      have h51 : a_.eval (.tmp 51) = (.pointer (some ⟨bL, offL, none⟩)) := hk_.got 5 51 _ (by kernel_rfl) rfl rfl
      have hg_ : a_.eval (.tmp 49) = .bool true := hk_.got 3 49 _ (by kernel_rfl) rfl rfl
      have hy_ := hk_.want 3 _ 49 true rfl rfl hg_
      have hx_ := hk_.ext
      clear hk_
      refine flow_want rfl hy_ ?_
      exact gives_loadA rfl h51 (aggKc okC) (HDL.out _ hx_) ⟨Below.refl _ _, rfl⟩
    refine allFrom_cons ?_ ?_
    · intro a_ w_ hk_
      have h3 : a_.eval (.tmp 3) = .pointer (some ⟨gC, 0, none⟩) := hk_.old 3 (by kernel_rfl)
      have hg_ : a_.eval (.tmp 49) = .bool true := hk_.got 3 49 _ (by kernel_rfl) rfl rfl
      have hy_ := hk_.want 3 _ 49 true rfl rfl hg_
      have hx_ := hk_.ext
      clear hk_
      refine flow_want rfl hy_ ?_
      exact gives_loadA rfl h3 (aggKc okC) (blk_cells (hC18.below hx_ hC18.lt)) ⟨Below.refl _ _, rfl⟩
    refine allFrom_cons ?_ ?_
    · intro a_ w_ hk_
      have h52 : a_.eval (.tmp 52) = (.agg (kc kC).toArray) := hk_.got 6 52 _ (by kernel_rfl) rfl rfl
      have h53 : a_.eval (.tmp 53) = (.agg (kc kC).toArray) := hk_.got 7 53 _ (by kernel_rfl) rfl rfl
      have hg_ : a_.eval (.tmp 49) = .bool true := hk_.got 3 49 _ (by kernel_rfl) rfl rfl
      have hy_ := hk_.want 3 _ 49 true rfl rfl hg_
      have hx_ := hk_.ext
      clear hk_
      refine flow_want rfl hy_ ?_
      exact gives_eqA guardK rfl h52 h53 (eqSelfK okC w_) ⟨Below.refl _ _, rfl⟩
    refine allFrom_cons ?_ ?_
    · intro a_ w_ hk_
      have h49 : a_.eval (.tmp 49) = (.bool true) := hk_.got 3 49 _ (by kernel_rfl) rfl rfl
      have h54 : a_.eval (.tmp 54) = (.bool true) := hk_.got 8 54 _ (by kernel_rfl) rfl rfl
      have hx_ := hk_.ext
      clear hk_
      refine flow_plain rfl ?_
      exact gives_pick rfl h49 ⟨Below.refl _ _, h54⟩
    refine allFrom_cons ?_ ?_
    · intro a_ w_ hk_
      have h55 : a_.eval (.tmp 55) = (.bool true) := hk_.got 9 55 _ (by kernel_rfl) rfl rfl
      have hx_ := hk_.ext
      clear hk_
      refine flow_plain rfl ?_
      exact gives_move rfl ⟨Below.refl _ _, h55⟩
    refine allFrom_cons ?_ ?_
    · intro a_ w_ hk_
      have h6 : a_.eval (.tmp 6) = .slice (some ⟨bM, offM, none⟩) 1 cM := hk_.old 6 (by kernel_rfl)
      have hg_ : a_.eval (.tmp 56) = .bool true := hk_.got 10 56 _ (by kernel_rfl) rfl rfl
      have hy_ := hk_.want 10 _ 56 true rfl rfl hg_
      have hx_ := hk_.ext
      clear hk_
      refine flow_want rfl hy_ ?_
      exact gives_move rfl ⟨Below.refl _ _, h6⟩
    refine allFrom_cons ?_ ?_
    · intro a_ w_ hk_
      have h57 : a_.eval (.tmp 57) = (.slice (some ⟨bM, offM, none⟩) 1 cM) := hk_.got 11 57 _ (by kernel_rfl) rfl rfl
      have hg_ : a_.eval (.tmp 56) = .bool true := hk_.got 10 56 _ (by kernel_rfl) rfl rfl
      have hy_ := hk_.want 10 _ 56 true rfl rfl hg_
      have hx_ := hk_.ext
      clear hk_
      refine flow_want rfl hy_ ?_
      unfold gives
      have hc_ : ∀ v, a_.eval (.const v) = v := fun _ => rfl
      have hn_ : ∀ f, a_.eval (.func f) = .func (.func f) #[] #[] := fun _ => rfl
      clear hy_ hg_
      generalize a_.eval = ρ_ at *
      go_simp
      exact ⟨Below.refl _ _, rfl⟩
    refine allFrom_cons ?_ ?_
    · intro a_ w_ hk_
      have h58 : a_.eval (.tmp 58) = (.int .i64 1) := hk_.got 12 58 _ (by kernel_rfl) rfl rfl
      have hg_ : a_.eval (.tmp 56) = .bool true := hk_.got 10 56 _ (by kernel_rfl) rfl rfl
      have hy_ := hk_.want 10 _ 56 true rfl rfl hg_
      have hx_ := hk_.ext
      clear hk_
      refine flow_want rfl hy_ ?_
      unfold gives
      have hc_ : ∀ v, a_.eval (.const v) = v := fun _ => rfl
      have hn_ : ∀ f, a_.eval (.func f) = .func (.func f) #[] #[] := fun _ => rfl
      clear hy_ hg_
      generalize a_.eval = ρ_ at *
      go_simp
      exact ⟨Below.refl _ _, rfl⟩
    refine allFrom_cons ?_ ?_
    · intro a_ w_ hk_
      have h56 : a_.eval (.tmp 56) = (.bool true) := hk_.got 10 56 _ (by kernel_rfl) rfl rfl
      have h59 : a_.eval (.tmp 59) = (.bool true) := hk_.got 13 59 _ (by kernel_rfl) rfl rfl
      have hx_ := hk_.ext
      clear hk_
      refine flow_plain rfl ?_
      exact gives_pick rfl h56 ⟨Below.refl _ _, h59⟩
    refine allFrom_cons ?_ ?_
    · intro a_ w_ hk_
      have h60 : a_.eval (.tmp 60) = (.bool true) := hk_.got 14 60 _ (by kernel_rfl) rfl rfl
      have hx_ := hk_.ext
      clear hk_
      refine flow_plain rfl ?_
      exact gives_move rfl ⟨Below.refl _ _, h60⟩
    refine allFrom_cons ?_ ?_
    · intro a_ w_ hk_
      have h6 : a_.eval (.tmp 6) = .slice (some ⟨bM, offM, none⟩) 1 cM := hk_.old 6 (by kernel_rfl)
      have hg_ : a_.eval (.tmp 61) = .bool true := hk_.got 15 61 _ (by kernel_rfl) rfl rfl
      have hy_ := hk_.want 15 _ 61 true rfl rfl hg_
      have hx_ := hk_.ext
      clear hk_
      refine flow_want rfl hy_ ?_
      exact gives_move rfl ⟨Below.refl _ _, h6⟩
    refine allFrom_cons ?_ ?_
    · intro a_ w_ hk_
      have h62 : a_.eval (.tmp 62) = (.slice (some ⟨bM, offM, none⟩) 1 cM) := hk_.got 16 62 _ (by kernel_rfl) rfl rfl
      have hg_ : a_.eval (.tmp 61) = .bool true := hk_.got 15 61 _ (by kernel_rfl) rfl rfl
      have hy_ := hk_.want 15 _ 61 true rfl rfl hg_
      have hx_ := hk_.ext
      clear hk_
      refine flow_want rfl hy_ ?_
      unfold gives
      have hc_ : ∀ v, a_.eval (.const v) = v := fun _ => rfl
      have hn_ : ∀ f, a_.eval (.func f) = .func (.func f) #[] #[] := fun _ => rfl
      clear hy_ hg_
      generalize a_.eval = ρ_ at *
      go_simp
      exact ⟨Below.refl _ _, rfl⟩
    refine allFrom_cons ?_ ?_
    · intro a_ w_ hk_
      have h63 : a_.eval (.tmp 63) = (.pointer (some ⟨bM, offM, none⟩)) := hk_.got 17 63 _ (by kernel_rfl) rfl rfl
      have hg_ : a_.eval (.tmp 61) = .bool true := hk_.got 15 61 _ (by kernel_rfl) rfl rfl
      have hy_ := hk_.want 15 _ 61 true rfl rfl hg_
      have hx_ := hk_.ext
      clear hk_
      refine flow_want rfl hy_ ?_
      exact gives_loadA rfl h63 (aggKc okA) (HDM.out _ hx_) ⟨Below.refl _ _, rfl⟩
    refine allFrom_cons ?_ ?_
    · intro a_ w_ hk_
      have h1 : a_.eval (.tmp 1) = .pointer (some ⟨gA, 0, none⟩) := hk_.old 1 (by kernel_rfl)
      have hg_ : a_.eval (.tmp 61) = .bool true := hk_.got 15 61 _ (by kernel_rfl) rfl rfl
      have hy_ := hk_.want 15 _ 61 true rfl rfl hg_
      have hx_ := hk_.ext
      clear hk_
      refine flow_want rfl hy_ ?_
      exact gives_loadA rfl h1 (aggKc okA) (blk_cells (hA18.below hx_ hA18.lt)) ⟨Below.refl _ _, rfl⟩
    refine allFrom_cons ?_ ?_
    · intro a_ w_ hk_
      have h64 : a_.eval (.tmp 64) = (.agg (kc kA).toArray) := hk_.got 18 64 _ (by kernel_rfl) rfl rfl
      have h65 : a_.eval (.tmp 65) = (.agg (kc kA).toArray) := hk_.got 19 65 _ (by kernel_rfl) rfl rfl
      have hg_ : a_.eval (.tmp 61) = .bool true := hk_.got 15 61 _ (by kernel_rfl) rfl rfl
      have hy_ := hk_.want 15 _ 61 true rfl rfl hg_
      have hx_ := hk_.ext
      clear hk_
      refine flow_want rfl hy_ ?_
      exact gives_eqA guardK rfl h64 h65 (eqSelfK okA w_) ⟨Below.refl _ _, rfl⟩
    refine allFrom_cons ?_ ?_
    · intro a_ w_ hk_
      have h61 : a_.eval (.tmp 61) = (.bool true) := hk_.got 15 61 _ (by kernel_rfl) rfl rfl
      have h66 : a_.eval (.tmp 66) = (.bool true) := hk_.got 20 66 _ (by kernel_rfl) rfl rfl
      have hx_ := hk_.ext
      clear hk_
      refine flow_plain rfl ?_
      exact gives_pick rfl h61 ⟨Below.refl _ _, h66⟩
    refine allFrom_cons ?_ ?_
    · intro a_ w_ hk_
      have h67 : a_.eval (.tmp 67) = (.bool true) := hk_.got 21 67 _ (by kernel_rfl) rfl rfl
      have hx_ := hk_.ext
      clear hk_
      refine flow_plain rfl ?_
      exact gives_move rfl ⟨Below.refl _ _, h67⟩
    refine allFrom_cons ?_ ?_
    · intro a_ w_ hk_
      have h7 : a_.eval (.tmp 7) = .slice (some ⟨bN, offN, none⟩) 1 cN := hk_.old 7 (by kernel_rfl)
      have hg_ : a_.eval (.tmp 68) = .bool true := hk_.got 22 68 _ (by kernel_rfl) rfl rfl
      have hy_ := hk_.want 22 _ 68 true rfl rfl hg_
      have hx_ := hk_.ext
      clear hk_
      refine flow_want rfl hy_ ?_
      exact gives_move rfl ⟨Below.refl _ _, h7⟩
    refine allFrom_cons ?_ ?_
    · intro a_ w_ hk_
      have h69 : a_.eval (.tmp 69) = (.slice (some ⟨bN, offN, none⟩) 1 cN) := hk_.got 23 69 _ (by kernel_rfl) rfl rfl
      have hg_ : a_.eval (.tmp 68) = .bool true := hk_.got 22 68 _ (by kernel_rfl) rfl rfl
      have hy_ := hk_.want 22 _ 68 true rfl rfl hg_
      have hx_ := hk_.ext
      clear hk_
      refine flow_want rfl hy_ ?_
      unfold gives
      have hc_ : ∀ v, a_.eval (.const v) = v := fun _ => rfl
      have hn_ : ∀ f, a_.eval (.func f) = .func (.func f) #[] #[] := fun _ => rfl
      clear hy_ hg_
      generalize a_.eval = ρ_ at *
      go_simp
      exact ⟨Below.refl _ _, rfl⟩
    refine allFrom_cons ?_ ?_
    · intro a_ w_ hk_
      have h70 : a_.eval (.tmp 70) = (.int .i64 1) := hk_.got 24 70 _ (by kernel_rfl) rfl rfl
      have hg_ : a_.eval (.tmp 68) = .bool true := hk_.got 22 68 _ (by kernel_rfl) rfl rfl
      have hy_ := hk_.want 22 _ 68 true rfl rfl hg_
      have hx_ := hk_.ext
      clear hk_
      refine flow_want rfl hy_ ?_
      unfold gives
      have hc_ : ∀ v, a_.eval (.const v) = v := fun _ => rfl
      have hn_ : ∀ f, a_.eval (.func f) = .func (.func f) #[] #[] := fun _ => rfl
      clear hy_ hg_
      generalize a_.eval = ρ_ at *
      go_simp
      exact ⟨Below.refl _ _, rfl⟩
    refine allFrom_cons ?_ ?_
    · intro a_ w_ hk_
      have h68 : a_.eval (.tmp 68) = (.bool true) := hk_.got 22 68 _ (by kernel_rfl) rfl rfl
      have h71 : a_.eval (.tmp 71) = (.bool true) := hk_.got 25 71 _ (by kernel_rfl) rfl rfl
      have hx_ := hk_.ext
      clear hk_
      refine flow_plain rfl ?_
      exact gives_pick rfl h68 ⟨Below.refl _ _, h71⟩
    refine allFrom_cons ?_ ?_
    · intro a_ w_ hk_
      have h72 : a_.eval (.tmp 72) = (.bool true) := hk_.got 26 72 _ (by kernel_rfl) rfl rfl
      have hx_ := hk_.ext
      clear hk_
      refine flow_plain rfl ?_
      exact gives_move rfl ⟨Below.refl _ _, h72⟩
    refine allFrom_cons ?_ ?_
    · intro a_ w_ hk_
      have h7 : a_.eval (.tmp 7) = .slice (some ⟨bN, offN, none⟩) 1 cN := hk_.old 7 (by kernel_rfl)
      have hg_ : a_.eval (.tmp 73) = .bool true := hk_.got 27 73 _ (by kernel_rfl) rfl rfl
      have hy_ := hk_.want 27 _ 73 true rfl rfl hg_
      have hx_ := hk_.ext
      clear hk_
      refine flow_want rfl hy_ ?_
      exact gives_move rfl ⟨Below.refl _ _, h7⟩
    refine allFrom_cons ?_ ?_
    · intro a_ w_ hk_
      have h74 : a_.eval (.tmp 74) = (.slice (some ⟨bN, offN, none⟩) 1 cN) := hk_.got 28 74 _ (by kernel_rfl) rfl rfl
      have hg_ : a_.eval (.tmp 73) = .bool true := hk_.got 27 73 _ (by kernel_rfl) rfl rfl
      have hy_ := hk_.want 27 _ 73 true rfl rfl hg_
      have hx_ := hk_.ext
      clear hk_
      refine flow_want rfl hy_ ?_
      unfold gives
      have hc_ : ∀ v, a_.eval (.const v) = v := fun _ => rfl
      have hn_ : ∀ f, a_.eval (.func f) = .func (.func f) #[] #[] := fun _ => rfl
      clear hy_ hg_
      generalize a_.eval = ρ_ at *
      go_simp
      exact ⟨Below.refl _ _, rfl⟩
    refine allFrom_cons ?_ ?_
    · intro a_ w_ hk_
      have h75 : a_.eval (.tmp 75) = (.pointer (some ⟨bN, offN, none⟩)) := hk_.got 29 75 _ (by kernel_rfl) rfl rfl
      have hg_ : a_.eval (.tmp 73) = .bool true := hk_.got 27 73 _ (by kernel_rfl) rfl rfl
      have hy_ := hk_.want 27 _ 73 true rfl rfl hg_
      have hx_ := hk_.ext
      clear hk_
      refine flow_want rfl hy_ ?_
      exact gives_loadA rfl h75 (aggHc ok6) (HDN.out _ hx_) ⟨Below.refl _ _, rfl⟩
    refine allFrom_cons ?_ ?_
    · intro a_ w_ hk_
      have hg_ : a_.eval (.tmp 73) = .bool true := hk_.got 27 73 _ (by kernel_rfl) rfl rfl
      have hy_ := hk_.want 27 _ 73 true rfl rfl hg_
      have hx_ := hk_.ext
      clear hk_
      refine flow_want rfl hy_ ?_
      exact gives_build1 BX.out.2.2.2.2 rfl ⟨Below.refl _ _, rfl⟩
    refine allFrom_cons ?_ ?_
    · intro a_ w_ hk_
      have h76 : a_.eval (.tmp 76) = (.agg (hc h6).toArray) := hk_.got 30 76 _ (by kernel_rfl) rfl rfl
      have h77 : a_.eval (.tmp 77) = (.agg (hc h6).toArray) := hk_.got 31 77 _ (by kernel_rfl) rfl rfl
      have hg_ : a_.eval (.tmp 73) = .bool true := hk_.got 27 73 _ (by kernel_rfl) rfl rfl
      have hy_ := hk_.want 27 _ 73 true rfl rfl hg_
      have hx_ := hk_.ext
      clear hk_
      refine flow_want rfl hy_ ?_
      exact gives_eqA guardH rfl h76 h77 (eqSelfH ok6 w_) ⟨Below.refl _ _, rfl⟩
    refine allFrom_cons ?_ ?_
    · intro a_ w_ hk_
      have h73 : a_.eval (.tmp 73) = (.bool true) := hk_.got 27 73 _ (by kernel_rfl) rfl rfl
      have h78 : a_.eval (.tmp 78) = (.bool true) := hk_.got 32 78 _ (by kernel_rfl) rfl rfl
      have hx_ := hk_.ext
      clear hk_
      refine flow_plain rfl ?_
      exact gives_pick rfl h73 ⟨Below.refl _ _, h78⟩
    refine allFrom_cons ?_ ?_
    · intro a_ w_ hk_
      have h79 : a_.eval (.tmp 79) = (.bool true) := hk_.got 33 79 _ (by kernel_rfl) rfl rfl
      have hx_ := hk_.ext
      clear hk_
      refine flow_plain rfl ?_
      exact gives_move rfl ⟨Below.refl _ _, h79⟩
    refine allFrom_cons ?_ ?_
    · intro a_ w_ hk_
      have h9 : a_.eval (.tmp 9) = .int .i64 0 := hk_.old 9 (by kernel_rfl)
      have hg_ : a_.eval (.tmp 80) = .bool true := hk_.got 34 80 _ (by kernel_rfl) rfl rfl
      have hy_ := hk_.want 34 _ 80 true rfl rfl hg_
      have hx_ := hk_.ext
      clear hk_
      refine flow_want rfl hy_ ?_
      exact gives_move rfl ⟨Below.refl _ _, h9⟩
    refine allFrom_cons ?_ ?_
    · intro a_ w_ hk_
      have h81 : a_.eval (.tmp 81) = (.int .i64 0) := hk_.got 35 81 _ (by kernel_rfl) rfl rfl
      have hg_ : a_.eval (.tmp 80) = .bool true := hk_.got 34 80 _ (by kernel_rfl) rfl rfl
      have hy_ := hk_.want 34 _ 80 true rfl rfl hg_
      have hx_ := hk_.ext
      clear hk_
      refine flow_want rfl hy_ ?_
      unfold gives
      have hc_ : ∀ v, a_.eval (.const v) = v := fun _ => rfl
      have hn_ : ∀ f, a_.eval (.func f) = .func (.func f) #[] #[] := fun _ => rfl
      clear hy_ hg_
      generalize a_.eval = ρ_ at *
      go_simp
      exact ⟨Below.refl _ _, rfl⟩
    refine allFrom_cons ?_ ?_
    · intro a_ w_ hk_
      have h80 : a_.eval (.tmp 80) = (.bool true) := hk_.got 34 80 _ (by kernel_rfl) rfl rfl
      have h82 : a_.eval (.tmp 82) = (.bool true) := hk_.got 36 82 _ (by kernel_rfl) rfl rfl
      have hx_ := hk_.ext
      clear hk_
      refine flow_plain rfl ?_
      exact gives_pick rfl h80 ⟨Below.refl _ _, h82⟩
    refine allFrom_cons ?_ ?_
    · intro a_ w_ hk_
      have h83 : a_.eval (.tmp 83) = (.bool true) := hk_.got 37 83 _ (by kernel_rfl) rfl rfl
      have hx_ := hk_.ext
      clear hk_
      refine flow_plain rfl ?_
      exact gives_move rfl ⟨Below.refl _ _, h83⟩
    refine allFrom_cons ?_ ?_
    · intro a_ w_ hk_
      have h8 : a_.eval (.tmp 8) = .slice AP pb.length cP := hk_.old 8 (by kernel_rfl)
      have hg_ : a_.eval (.tmp 84) = .bool true := hk_.got 38 84 _ (by kernel_rfl) rfl rfl
      have hy_ := hk_.want 38 _ 84 true rfl rfl hg_
      have hx_ := hk_.ext
      clear hk_
      refine flow_want rfl hy_ ?_
      exact gives_move rfl ⟨Below.refl _ _, h8⟩
    refine allFrom_cons ?_ ?_
    · intro a_ w_ hk_
      have h85 : a_.eval (.tmp 85) = (.slice AP pb.length cP) := hk_.got 39 85 _ (by kernel_rfl) rfl rfl
      have hg_ : a_.eval (.tmp 84) = .bool true := hk_.got 38 84 _ (by kernel_rfl) rfl rfl
      have hy_ := hk_.want 38 _ 84 true rfl rfl hg_
      have hx_ := hk_.ext
      clear hk_
      refine flow_want rfl hy_ ?_
      unfold gives
      have hc_ : ∀ v, a_.eval (.const v) = v := fun _ => rfl
      have hn_ : ∀ f, a_.eval (.func f) = .func (.func f) #[] #[] := fun _ => rfl
      clear hy_ hg_
      have hpl := HPL.out
      generalize a_.eval = ρ_ at *
      go_simp
      exact ⟨Below.refl _ _, rfl⟩
    refine allFrom_cons ?_ ?_
    · intro a_ w_ hk_
      have h86 : a_.eval (.tmp 86) = (.int .i64 114) := hk_.got 40 86 _ (by kernel_rfl) rfl rfl
      have hg_ : a_.eval (.tmp 84) = .bool true := hk_.got 38 84 _ (by kernel_rfl) rfl rfl
      have hy_ := hk_.want 38 _ 84 true rfl rfl hg_
      have hx_ := hk_.ext
      clear hk_
      refine flow_want rfl hy_ ?_
      unfold gives
      have hc_ : ∀ v, a_.eval (.const v) = v := fun _ => rfl
      have hn_ : ∀ f, a_.eval (.func f) = .func (.func f) #[] #[] := fun _ => rfl
      clear hy_ hg_
      generalize a_.eval = ρ_ at *
      go_simp
      exact ⟨Below.refl _ _, rfl⟩
    refine allFrom_cons ?_ ?_
    · intro a_ w_ hk_
      have h84 : a_.eval (.tmp 84) = (.bool true) := hk_.got 38 84 _ (by kernel_rfl) rfl rfl
      have h87 : a_.eval (.tmp 87) = (.bool true) := hk_.got 41 87 _ (by kernel_rfl) rfl rfl
      have hx_ := hk_.ext
      clear hk_
      refine flow_plain rfl ?_
      exact gives_pick rfl h84 ⟨Below.refl _ _, h87⟩
    refine allFrom_cons ?_ ?_
    · intro a_ w_ hk_
      have h88 : a_.eval (.tmp 88) = (.bool true) := hk_.got 42 88 _ (by kernel_rfl) rfl rfl
      have hx_ := hk_.ext
      clear hk_
      refine flow_plain rfl ?_
      exact gives_move rfl ⟨Below.refl _ _, h88⟩
    refine allFrom_cons ?_ ?_
    · intro a_ w_ hk_
      have h11 : a_.eval (.tmp 11) = .int .i64 0 := hk_.old 11 (by kernel_rfl)
      have hg_ : a_.eval (.tmp 89) = .bool true := hk_.got 43 89 _ (by kernel_rfl) rfl rfl
      have hy_ := hk_.want 43 _ 89 true rfl rfl hg_
      have hx_ := hk_.ext
      clear hk_
      refine flow_want rfl hy_ ?_
      exact gives_move rfl ⟨Below.refl _ _, h11⟩
    refine allFrom_cons ?_ ?_
    · intro a_ w_ hk_
      have h90 : a_.eval (.tmp 90) = (.int .i64 0) := hk_.got 44 90 _ (by kernel_rfl) rfl rfl
      have hg_ : a_.eval (.tmp 89) = .bool true := hk_.got 43 89 _ (by kernel_rfl) rfl rfl
      have hy_ := hk_.want 43 _ 89 true rfl rfl hg_
      have hx_ := hk_.ext
      clear hk_
      refine flow_want rfl hy_ ?_
      unfold gives
      have hc_ : ∀ v, a_.eval (.const v) = v := fun _ => rfl
      have hn_ : ∀ f, a_.eval (.func f) = .func (.func f) #[] #[] := fun _ => rfl
      clear hy_ hg_
      generalize a_.eval = ρ_ at *
      go_simp
      exact ⟨Below.refl _ _, rfl⟩
    refine allFrom_cons ?_ ?_
    · intro a_ w_ hk_
      have h89 : a_.eval (.tmp 89) = (.bool true) := hk_.got 43 89 _ (by kernel_rfl) rfl rfl
      have h91 : a_.eval (.tmp 91) = (.bool true) := hk_.got 45 91 _ (by kernel_rfl) rfl rfl
      have hx_ := hk_.ext
      clear hk_
      refine flow_plain rfl ?_
      exact gives_pick rfl h89 ⟨Below.refl _ _, h91⟩
    refine allFrom_cons ?_ ?_
    · intro a_ w_ hk_
      have h92 : a_.eval (.tmp 92) = (.bool true) := hk_.got 46 92 _ (by kernel_rfl) rfl rfl
      have hx_ := hk_.ext
      clear hk_
      refine flow_plain rfl ?_
      exact gives_move rfl ⟨Below.refl _ _, h92⟩
    refine allFrom_cons ?_ ?_
    · intro a_ w_ hk_
      have h10 : a_.eval (.tmp 10) = .pointer (some ⟨g17, 0, none⟩) := hk_.old 10 (by kernel_rfl)
      have hg_ : a_.eval (.tmp 93) = .bool true := hk_.got 47 93 _ (by kernel_rfl) rfl rfl
      have hy_ := hk_.want 47 _ 93 true rfl rfl hg_
      have hx_ := hk_.ext
      clear hk_
      refine flow_want rfl hy_ ?_
      unfold gives
      have hc_ : ∀ v, a_.eval (.const v) = v := fun _ => rfl
      have hn_ : ∀ f, a_.eval (.func f) = .func (.func f) #[] #[] := fun _ => rfl
      clear hy_ hg_
      generalize a_.eval = ρ_ at *
      go_simp
      exact ⟨Below.refl _ _, rfl⟩
    refine allFrom_cons ?_ ?_
    · intro a_ w_ hk_
      have h94 : a_.eval (.tmp 94) = (.pointer (some ⟨g17, 0, none⟩)) := hk_.got 48 94 _ (by kernel_rfl) rfl rfl
      have hg_ : a_.eval (.tmp 93) = .bool true := hk_.got 47 93 _ (by kernel_rfl) rfl rfl
      have hy_ := hk_.want 47 _ 93 true rfl rfl hg_
      have hx_ := hk_.ext
      clear hk_
      refine flow_want rfl hy_ ?_
      unfold gives
      have hc_ : ∀ v, a_.eval (.const v) = v := fun _ => rfl
      have hn_ : ∀ f, a_.eval (.func f) = .func (.func f) #[] #[] := fun _ => rfl
      clear hy_ hg_
      have hcell := (hD18.below hx_ hD18.lt).cell 0
      generalize a_.eval = ρ_ at *
      go_simp
      exact ⟨Below.refl _ _, rfl⟩
    refine allFrom_cons ?_ ?_
    · intro a_ w_ hk_
      have h95 : a_.eval (.tmp 95) = (.slice (some ⟨bX, offX, none⟩) 2 cX) := hk_.got 49 95 _ (by kernel_rfl) rfl rfl
      have hg_ : a_.eval (.tmp 93) = .bool true := hk_.got 47 93 _ (by kernel_rfl) rfl rfl
      have hy_ := hk_.want 47 _ 93 true rfl rfl hg_
      have hx_ := hk_.ext
      clear hk_
      refine flow_want rfl hy_ ?_
      unfold gives
      have hc_ : ∀ v, a_.eval (.const v) = v := fun _ => rfl
      have hn_ : ∀ f, a_.eval (.func f) = .func (.func f) #[] #[] := fun _ => rfl
      clear hy_ hg_
      generalize a_.eval = ρ_ at *
      go_simp
      exact ⟨Below.refl _ _, rfl⟩
    refine allFrom_cons ?_ ?_
    · intro a_ w_ hk_
      have h96 : a_.eval (.tmp 96) = (.int .i64 2) := hk_.got 50 96 _ (by kernel_rfl) rfl rfl
      have hg_ : a_.eval (.tmp 93) = .bool true := hk_.got 47 93 _ (by kernel_rfl) rfl rfl
      have hy_ := hk_.want 47 _ 93 true rfl rfl hg_
      have hx_ := hk_.ext
      clear hk_
      refine flow_want rfl hy_ ?_
      unfold gives
      have hc_ : ∀ v, a_.eval (.const v) = v := fun _ => rfl
      have hn_ : ∀ f, a_.eval (.func f) = .func (.func f) #[] #[] := fun _ => rfl
      clear hy_ hg_
      generalize a_.eval = ρ_ at *
      go_simp
      exact ⟨Below.refl _ _, rfl⟩
    refine allFrom_cons ?_ ?_
    · intro a_ w_ hk_
      have h93 : a_.eval (.tmp 93) = (.bool true) := hk_.got 47 93 _ (by kernel_rfl) rfl rfl
      have h97 : a_.eval (.tmp 97) = (.bool true) := hk_.got 51 97 _ (by kernel_rfl) rfl rfl
      have hx_ := hk_.ext
      clear hk_
      refine flow_plain rfl ?_
      exact gives_pick rfl h93 ⟨Below.refl _ _, h97⟩
    refine allFrom_cons ?_ ?_
    · intro a_ w_ hk_
      have h98 : a_.eval (.tmp 98) = (.bool true) := hk_.got 52 98 _ (by kernel_rfl) rfl rfl
      have hx_ := hk_.ext
      clear hk_
      refine flow_plain rfl ?_
      exact gives_move rfl ⟨Below.refl _ _, h98⟩
    refine allFrom_cons ?_ ?_
    · intro a_ w_ hk_
      have h10 : a_.eval (.tmp 10) = .pointer (some ⟨g17, 0, none⟩) := hk_.old 10 (by kernel_rfl)
      have hg_ : a_.eval (.tmp 99) = .bool true := hk_.got 53 99 _ (by kernel_rfl) rfl rfl
      have hy_ := hk_.want 53 _ 99 true rfl rfl hg_
      have hx_ := hk_.ext
      clear hk_
      refine flow_want rfl hy_ ?_
      unfold gives
      have hc_ : ∀ v, a_.eval (.const v) = v := fun _ => rfl
      have hn_ : ∀ f, a_.eval (.func f) = .func (.func f) #[] #[] := fun _ => rfl
      clear hy_ hg_
      generalize a_.eval = ρ_ at *
      go_simp
      exact ⟨Below.refl _ _, rfl⟩
    refine allFrom_cons ?_ ?_
    · intro a_ w_ hk_
      have h100 : a_.eval (.tmp 100) = (.pointer (some ⟨g17, 0, none⟩)) := hk_.got 54 100 _ (by kernel_rfl) rfl rfl
      have hg_ : a_.eval (.tmp 99) = .bool true := hk_.got 53 99 _ (by kernel_rfl) rfl rfl
      have hy_ := hk_.want 53 _ 99 true rfl rfl hg_
      have hx_ := hk_.ext
      clear hk_
      refine flow_want rfl hy_ ?_
      unfold gives
      have hc_ : ∀ v, a_.eval (.const v) = v := fun _ => rfl
      have hn_ : ∀ f, a_.eval (.func f) = .func (.func f) #[] #[] := fun _ => rfl
      clear hy_ hg_
      have hcell := (hD18.below hx_ hD18.lt).cell 0
      generalize a_.eval = ρ_ at *
      go_simp
      exact ⟨Below.refl _ _, rfl⟩
    refine allFrom_cons ?_ ?_
    · intro a_ w_ hk_
      have h101 : a_.eval (.tmp 101) = (.slice (some ⟨bX, offX, none⟩) 2 cX) := hk_.got 55 101 _ (by kernel_rfl) rfl rfl
      have hg_ : a_.eval (.tmp 99) = .bool true := hk_.got 53 99 _ (by kernel_rfl) rfl rfl
      have hy_ := hk_.want 53 _ 99 true rfl rfl hg_
      have hx_ := hk_.ext
      clear hk_
      refine flow_want rfl hy_ ?_
      unfold gives
      have hc_ : ∀ v, a_.eval (.const v) = v := fun _ => rfl
      have hn_ : ∀ f, a_.eval (.func f) = .func (.func f) #[] #[] := fun _ => rfl
      clear hy_ hg_
      generalize a_.eval = ρ_ at *
      go_simp
      exact ⟨Below.refl _ _, rfl⟩
    refine allFrom_cons ?_ ?_
    · intro a_ w_ hk_
      have h102 : a_.eval (.tmp 102) = (.pointer (some ⟨bX, offX + 33, none⟩)) := hk_.got 56 102 _ (by kernel_rfl) rfl rfl
      have hg_ : a_.eval (.tmp 99) = .bool true := hk_.got 53 99 _ (by kernel_rfl) rfl rfl
      have hy_ := hk_.want 53 _ 99 true rfl rfl hg_
      have hx_ := hk_.ext
      clear hk_
      refine flow_want rfl hy_ ?_
      exact gives_loadA rfl h102 (aggKc okC) (HDX.out _ hx_) ⟨Below.refl _ _, rfl⟩
    refine allFrom_cons ?_ ?_
    · intro a_ w_ hk_
      have h3 : a_.eval (.tmp 3) = .pointer (some ⟨gC, 0, none⟩) := hk_.old 3 (by kernel_rfl)
      have hg_ : a_.eval (.tmp 99) = .bool true := hk_.got 53 99 _ (by kernel_rfl) rfl rfl
      have hy_ := hk_.want 53 _ 99 true rfl rfl hg_
      have hx_ := hk_.ext
      clear hk_
      refine flow_want rfl hy_ ?_
      exact gives_loadA rfl h3 (aggKc okC) (blk_cells (hC18.below hx_ hC18.lt)) ⟨Below.refl _ _, rfl⟩
    refine allFrom_cons ?_ ?_
    · intro a_ w_ hk_
      have h103 : a_.eval (.tmp 103) = (.agg (kc kC).toArray) := hk_.got 57 103 _ (by kernel_rfl) rfl rfl
      have h104 : a_.eval (.tmp 104) = (.agg (kc kC).toArray) := hk_.got 58 104 _ (by kernel_rfl) rfl rfl
      have hg_ : a_.eval (.tmp 99) = .bool true := hk_.got 53 99 _ (by kernel_rfl) rfl rfl
      have hy_ := hk_.want 53 _ 99 true rfl rfl hg_
      have hx_ := hk_.ext
      clear hk_
      refine flow_want rfl hy_ ?_
      exact gives_eqA guardK rfl h103 h104 (eqSelfK okC w_) ⟨Below.refl _ _, rfl⟩
    refine allFrom_cons ?_ ?_
    · intro a_ w_ hk_
      have h99 : a_.eval (.tmp 99) = (.bool true) := hk_.got 53 99 _ (by kernel_rfl) rfl rfl
      have h105 : a_.eval (.tmp 105) = (.bool true) := hk_.got 59 105 _ (by kernel_rfl) rfl rfl
      have hx_ := hk_.ext
      clear hk_
      refine flow_plain rfl ?_
      exact gives_pick rfl h99 ⟨Below.refl _ _, h105⟩
    refine allFrom_cons ?_ ?_
    · intro a_ w_ hk_
      have h106 : a_.eval (.tmp 106) = (.bool true) := hk_.got 60 106 _ (by kernel_rfl) rfl rfl
      have hx_ := hk_.ext
      clear hk_
      refine flow_plain rfl ?_
      exact gives_move rfl ⟨Below.refl _ _, h106⟩
    refine allFrom_cons ?_ ?_
    · intro a_ w_ hk_
      have h10 : a_.eval (.tmp 10) = .pointer (some ⟨g17, 0, none⟩) := hk_.old 10 (by kernel_rfl)
      have hg_ : a_.eval (.tmp 107) = .bool true := hk_.got 61 107 _ (by kernel_rfl) rfl rfl
      have hy_ := hk_.want 61 _ 107 true rfl rfl hg_
      have hx_ := hk_.ext
      clear hk_
      refine flow_want rfl hy_ ?_
      unfold gives
      have hc_ : ∀ v, a_.eval (.const v) = v := fun _ => rfl
      have hn_ : ∀ f, a_.eval (.func f) = .func (.func f) #[] #[] := fun _ => rfl
      clear hy_ hg_
      generalize a_.eval = ρ_ at *
      go_simp
      exact ⟨Below.refl _ _, rfl⟩
    refine allFrom_cons ?_ ?_
    · intro a_ w_ hk_
      have h108 : a_.eval (.tmp 108) = (.pointer (some ⟨g17, 1, none⟩)) := hk_.got 62 108 _ (by kernel_rfl) rfl rfl
      have hg_ : a_.eval (.tmp 107) = .bool true := hk_.got 61 107 _ (by kernel_rfl) rfl rfl
      have hy_ := hk_.want 61 _ 107 true rfl rfl hg_
      have hx_ := hk_.ext
      clear hk_
      refine flow_want rfl hy_ ?_
      unfold gives
      have hc_ : ∀ v, a_.eval (.const v) = v := fun _ => rfl
      have hn_ : ∀ f, a_.eval (.func f) = .func (.func f) #[] #[] := fun _ => rfl
      clear hy_ hg_
      have hcell := (hD18.below hx_ hD18.lt).cell 1
      generalize a_.eval = ρ_ at *
      go_simp
      exact ⟨Below.refl _ _, rfl⟩
    refine allFrom_cons ?_ ?_
    · intro a_ w_ hk_
      have h109 : a_.eval (.tmp 109) = (.slice (some ⟨bY, offY, none⟩) 1 cY) := hk_.got 63 109 _ (by kernel_rfl) rfl rfl
      have hg_ : a_.eval (.tmp 107) = .bool true := hk_.got 61 107 _ (by kernel_rfl) rfl rfl
      have hy_ := hk_.want 61 _ 107 true rfl rfl hg_
      have hx_ := hk_.ext
      clear hk_
      refine flow_want rfl hy_ ?_
      unfold gives
      have hc_ : ∀ v, a_.eval (.const v) = v := fun _ => rfl
      have hn_ : ∀ f, a_.eval (.func f) = .func (.func f) #[] #[] := fun _ => rfl
      clear hy_ hg_
      generalize a_.eval = ρ_ at *
      go_simp
      exact ⟨Below.refl _ _, rfl⟩
    refine allFrom_cons ?_ ?_
    · intro a_ w_ hk_
      have h110 : a_.eval (.tmp 110) = (.pointer (some ⟨bY, offY, none⟩)) := hk_.got 64 110 _ (by kernel_rfl) rfl rfl
      have hg_ : a_.eval (.tmp 107) = .bool true := hk_.got 61 107 _ (by kernel_rfl) rfl rfl
      have hy_ := hk_.want 61 _ 107 true rfl rfl hg_
      have hx_ := hk_.ext
      clear hk_
      refine flow_want rfl hy_ ?_
      exact gives_loadA rfl h110 (aggHc ok5) (HDY.out _ hx_) ⟨Below.refl _ _, rfl⟩
    refine allFrom_cons ?_ ?_
    · intro a_ w_ hk_
      have hg_ : a_.eval (.tmp 107) = .bool true := hk_.got 61 107 _ (by kernel_rfl) rfl rfl
      have hy_ := hk_.want 61 _ 107 true rfl rfl hg_
      have hx_ := hk_.ext
      clear hk_
      refine flow_want rfl hy_ ?_
      exact gives_build1 BX.out.2.2.2.1 rfl ⟨Below.refl _ _, rfl⟩
    refine allFrom_cons ?_ ?_
    · intro a_ w_ hk_
      have h111 : a_.eval (.tmp 111) = (.agg (hc h5).toArray) := hk_.got 65 111 _ (by kernel_rfl) rfl rfl
      have h112 : a_.eval (.tmp 112) = (.agg (hc h5).toArray) := hk_.got 66 112 _ (by kernel_rfl) rfl rfl
      have hg_ : a_.eval (.tmp 107) = .bool true := hk_.got 61 107 _ (by kernel_rfl) rfl rfl
      have hy_ := hk_.want 61 _ 107 true rfl rfl hg_
      have hx_ := hk_.ext
      clear hk_
      refine flow_want rfl hy_ ?_
      exact gives_eqA guardH rfl h111 h112 (eqSelfH ok5 w_) ⟨Below.refl _ _, rfl⟩
    refine allFrom_cons ?_ ?_
    · intro a_ w_ hk_
      have h107 : a_.eval (.tmp 107) = (.bool true) := hk_.got 61 107 _ (by kernel_rfl) rfl rfl
      have h113 : a_.eval (.tmp 113) = (.bool true) := hk_.got 67 113 _ (by kernel_rfl) rfl rfl
      have hx_ := hk_.ext
      clear hk_
      refine flow_plain rfl ?_
      exact gives_pick rfl h107 ⟨Below.refl _ _, h113⟩
    exact allFrom_nil
  intro f_ w_ hx_ hf_
  have h46 : f_ 46 = (.slice (some ⟨bL, offL, none⟩) 1 cL) := hf_ 0 46 _ (by decide) rfl rfl
  have h47 : f_ 47 = (.int .i64 1) := hf_ 1 47 _ (by decide) rfl rfl
  have h48 : f_ 48 = (.bool true) := hf_ 2 48 _ (by decide) rfl rfl
  have h49 : f_ 49 = (.bool true) := hf_ 3 49 _ (by decide) rfl rfl
  have h50 : f_ 50 = (.slice (some ⟨bL, offL, none⟩) 1 cL) := hf_ 4 50 _ (by decide) rfl rfl
  have h51 : f_ 51 = (.pointer (some ⟨bL, offL, none⟩)) := hf_ 5 51 _ (by decide) rfl rfl
  have h52 : f_ 52 = (.agg (kc kC).toArray) := hf_ 6 52 _ (by decide) rfl rfl
  have h53 : f_ 53 = (.agg (kc kC).toArray) := hf_ 7 53 _ (by decide) rfl rfl
  have h54 : f_ 54 = (.bool true) := hf_ 8 54 _ (by decide) rfl rfl
  have h55 : f_ 55 = (.bool true) := hf_ 9 55 _ (by decide) rfl rfl
  have h56 : f_ 56 = (.bool true) := hf_ 10 56 _ (by decide) rfl rfl
  have h57 : f_ 57 = (.slice (some ⟨bM, offM, none⟩) 1 cM) := hf_ 11 57 _ (by decide) rfl rfl
  have h58 : f_ 58 = (.int .i64 1) := hf_ 12 58 _ (by decide) rfl rfl
  have h59 : f_ 59 = (.bool true) := hf_ 13 59 _ (by decide) rfl rfl
  have h60 : f_ 60 = (.bool true) := hf_ 14 60 _ (by decide) rfl rfl
  have h61 : f_ 61 = (.bool true) := hf_ 15 61 _ (by decide) rfl rfl
  have h62 : f_ 62 = (.slice (some ⟨bM, offM, none⟩) 1 cM) := hf_ 16 62 _ (by decide) rfl rfl
  have h63 : f_ 63 = (.pointer (some ⟨bM, offM, none⟩)) := hf_ 17 63 _ (by decide) rfl rfl
  have h64 : f_ 64 = (.agg (kc kA).toArray) := hf_ 18 64 _ (by decide) rfl rfl
  have h65 : f_ 65 = (.agg (kc kA).toArray) := hf_ 19 65 _ (by decide) rfl rfl
  have h66 : f_ 66 = (.bool true) := hf_ 20 66 _ (by decide) rfl rfl
  have h67 : f_ 67 = (.bool true) := hf_ 21 67 _ (by decide) rfl rfl
  have h68 : f_ 68 = (.bool true) := hf_ 22 68 _ (by decide) rfl rfl
  have h69 : f_ 69 = (.slice (some ⟨bN, offN, none⟩) 1 cN) := hf_ 23 69 _ (by decide) rfl rfl
  have h70 : f_ 70 = (.int .i64 1) := hf_ 24 70 _ (by decide) rfl rfl
  have h71 : f_ 71 = (.bool true) := hf_ 25 71 _ (by decide) rfl rfl
  have h72 : f_ 72 = (.bool true) := hf_ 26 72 _ (by decide) rfl rfl
  have h73 : f_ 73 = (.bool true) := hf_ 27 73 _ (by decide) rfl rfl
  have h74 : f_ 74 = (.slice (some ⟨bN, offN, none⟩) 1 cN) := hf_ 28 74 _ (by decide) rfl rfl
  have h75 : f_ 75 = (.pointer (some ⟨bN, offN, none⟩)) := hf_ 29 75 _ (by decide) rfl rfl
  have h76 : f_ 76 = (.agg (hc h6).toArray) := hf_ 30 76 _ (by decide) rfl rfl
  have h77 : f_ 77 = (.agg (hc h6).toArray) := hf_ 31 77 _ (by decide) rfl rfl
  have h78 : f_ 78 = (.bool true) := hf_ 32 78 _ (by decide) rfl rfl
  have h79 : f_ 79 = (.bool true) := hf_ 33 79 _ (by decide) rfl rfl
  have h80 : f_ 80 = (.bool true) := hf_ 34 80 _ (by decide) rfl rfl
  have h81 : f_ 81 = (.int .i64 0) := hf_ 35 81 _ (by decide) rfl rfl
  have h82 : f_ 82 = (.bool true) := hf_ 36 82 _ (by decide) rfl rfl
  have h83 : f_ 83 = (.bool true) := hf_ 37 83 _ (by decide) rfl rfl
  have h84 : f_ 84 = (.bool true) := hf_ 38 84 _ (by decide) rfl rfl
  have h85 : f_ 85 = (.slice AP pb.length cP) := hf_ 39 85 _ (by decide) rfl rfl
  have h86 : f_ 86 = (.int .i64 114) := hf_ 40 86 _ (by decide) rfl rfl
  have h87 : f_ 87 = (.bool true) := hf_ 41 87 _ (by decide) rfl rfl
  have h88 : f_ 88 = (.bool true) := hf_ 42 88 _ (by decide) rfl rfl
  have h89 : f_ 89 = (.bool true) := hf_ 43 89 _ (by decide) rfl rfl
  have h90 : f_ 90 = (.int .i64 0) := hf_ 44 90 _ (by decide) rfl rfl
  have h91 : f_ 91 = (.bool true) := hf_ 45 91 _ (by decide) rfl rfl
  have h92 : f_ 92 = (.bool true) := hf_ 46 92 _ (by decide) rfl rfl
  have h93 : f_ 93 = (.bool true) := hf_ 47 93 _ (by decide) rfl rfl
  have h94 : f_ 94 = (.pointer (some ⟨g17, 0, none⟩)) := hf_ 48 94 _ (by decide) rfl rfl
  have h95 : f_ 95 = (.slice (some ⟨bX, offX, none⟩) 2 cX) := hf_ 49 95 _ (by decide) rfl rfl
  have h96 : f_ 96 = (.int .i64 2) := hf_ 50 96 _ (by decide) rfl rfl
  have h97 : f_ 97 = (.bool true) := hf_ 51 97 _ (by decide) rfl rfl
  have h98 : f_ 98 = (.bool true) := hf_ 52 98 _ (by decide) rfl rfl
  have h99 : f_ 99 = (.bool true) := hf_ 53 99 _ (by decide) rfl rfl
  have h100 : f_ 100 = (.pointer (some ⟨g17, 0, none⟩)) := hf_ 54 100 _ (by decide) rfl rfl
  have h101 : f_ 101 = (.slice (some ⟨bX, offX, none⟩) 2 cX) := hf_ 55 101 _ (by decide) rfl rfl
  have h102 : f_ 102 = (.pointer (some ⟨bX, offX + 33, none⟩)) := hf_ 56 102 _ (by decide) rfl rfl
  have h103 : f_ 103 = (.agg (kc kC).toArray) := hf_ 57 103 _ (by decide) rfl rfl
  have h104 : f_ 104 = (.agg (kc kC).toArray) := hf_ 58 104 _ (by decide) rfl rfl
  have h105 : f_ 105 = (.bool true) := hf_ 59 105 _ (by decide) rfl rfl
  have h106 : f_ 106 = (.bool true) := hf_ 60 106 _ (by decide) rfl rfl
  have h107 : f_ 107 = (.bool true) := hf_ 61 107 _ (by decide) rfl rfl
  have h108 : f_ 108 = (.pointer (some ⟨g17, 1, none⟩)) := hf_ 62 108 _ (by decide) rfl rfl
  have h109 : f_ 109 = (.slice (some ⟨bY, offY, none⟩) 1 cY) := hf_ 63 109 _ (by decide) rfl rfl
  have h110 : f_ 110 = (.pointer (some ⟨bY, offY, none⟩)) := hf_ 64 110 _ (by decide) rfl rfl
  have h111 : f_ 111 = (.agg (hc h5).toArray) := hf_ 65 111 _ (by decide) rfl rfl
  have h112 : f_ 112 = (.agg (hc h5).toArray) := hf_ 66 112 _ (by decide) rfl rfl
  have h113 : f_ 113 = (.bool true) := hf_ 67 113 _ (by decide) rfl rfl
  have h114 : f_ 114 = (.bool true) := hf_ 68 114 _ (by decide) rfl rfl
  simp only [mix, List.drop_succ_cons, List.drop_zero, h46, h47, h48, h49, h50, h51, h52, h53, h54, h55, h56, h57, h58, h59, h60, h61, h62, h63, h64, h65, h66, h67, h68, h69, h70, h71, h72, h73, h74, h75, h76, h77, h78, h79, h80, h81, h82, h83, h84, h85, h86, h87, h88, h89, h90, h91, h92, h93, h94, h95, h96, h97, h98, h99, h100, h101, h102, h103, h104, h105, h106, h107, h108, h109, h110, h111, h112, h113, h114]
  clear h46 h47 h48 h49 h50 h51 h52 h53 h54 h55 h56 h57 h58 h59 h60 h61 h62 h63 h64 h65 h66 h67 h68 h69 h70 h71 h72 h73 h74 h75 h76 h77 h78 h79 h80 h81 h82 h83 h84 h85 h86 h87 h88 h89 h90 h91 h92 h93 h94 h95 h96 h97 h98 h99 h100 h101 h102 h103 h104 h105 h106 h107 h108 h109 h110 h111 h112 h113 h114
  clear hf_
  go_wp2
  go_ret
  exact ⟨rfl, bx_trans hb18 hx_⟩
def kA : Key := (1, List.replicate 32 0)
def kB : Key := (2, List.replicate 32 0)
def kC : Key := (3, List.replicate 32 0)
def h5 : List UInt8 := 5 :: List.replicate 31 0
def h6 : List UInt8 := 6 :: List.replicate 31 0
theorem okA : kOk kA := ⟨by decide, by decide⟩
theorem okB : kOk kB := ⟨by decide, by decide⟩
theorem okC : kOk kC := ⟨by decide, by decide⟩
theorem ok5 : hOk h5 := by unfold hOk; decide
theorem ok6 : hOk h6 := by unfold hOk; decide
theorem builtA : Try.prog.built 54 [(0, .int .u64 1)] = some (kc kA).toArray := by kernel_rfl
theorem builtB : Try.prog.built 54 [(0, .int .u64 2)] = some (kc kB).toArray := by kernel_rfl
theorem builtC : Try.prog.built 54 [(0, .int .u64 3)] = some (kc kC).toArray := by kernel_rfl
theorem built5 : Try.prog.built 52 [(0, .int .u8 5)] = some (hc h5).toArray := by kernel_rfl
theorem built6 : Try.prog.built 52 [(0, .int .u8 6)] = some (hc h6).toArray := by kernel_rfl
theorem lastBC : last32 [kB, kC] = [kB, kC] := by decide +kernel
theorem last5 : last32 [h5] = [h5] := by decide +kernel
theorem notsW : nots [kB, kC] [kA, kB] = [kC] := by decide +kernel
theorem notsL' : nots [kA, kB] [kB, kC] = [kA] := by decide +kernel
theorem notsM : nots [h5, h6] [h5] = [h6] := by decide +kernel
theorem putLen : (putB [kB, kC] [h5]).length = 114 := by decide +kernel
theorem getBC : getOut (putB [kB, kC] [h5]) = (0, [kB, kC], [h5]) := by decide +kernel
theorem awake_any (w : World) : Calls Try.prog 9 #[] w fun e w' => e = .returned (.bool true) ∧ Below w.heap.size w w' :=
  awake_gen kA kB kC h5 h6 okA okB okC ok5 ok6 builtA builtB builtC built5 built6 lastBC last5 notsW notsL' notsM putLen getBC w
end Go.Proofs.Ythbmmilefimpaaa
