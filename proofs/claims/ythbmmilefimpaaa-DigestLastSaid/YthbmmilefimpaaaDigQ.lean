
/- DigestLast: what it makes. -/
import Derived.Test.YthbmmilefimpaaaDigL
import Derived.Test.YthbmmilefimpaaaFlowS
import Derived.OpenShut
namespace Go.Proofs.Ythbmmilefimpaaa
open Go.RowKit Go.Maps
set_option linter.unusedVariables false
def zs31 : List UInt8 := List.replicate 31 0
def zs32 : List UInt8 := List.replicate 32 0
def keysN (n : Nat) : List Key := (List.range n).map fun i => (i, zs32)
def hashB (i : Nat) : List UInt8 := UInt8.ofNat i :: zs31
def hashesN (n : Nat) : List (List UInt8) := (List.range n).map hashB
theorem hashB_ok (i : Nat) : hOk (hashB i) := by show (UInt8.ofNat i :: List.replicate 31 0).length = 32; simp
theorem keyN_ok {i : Nat} (h : i < 18446744073709551616) : kOk (i, zs32) := ⟨h, by show (List.replicate 32 (0 : UInt8)).length = 32; simp⟩
theorem keysN_snoc (n : Nat) : keysN (n + 1) = keysN n ++ [(n, zs32)] := by simp [keysN, List.range_succ]
theorem hashesN_snoc (n : Nat) : hashesN (n + 1) = hashesN n ++ [hashB n] := by simp [hashesN, List.range_succ]
theorem keysN_len (n : Nat) : (keysN n).length = n := by simp [keysN]
theorem hashesN_len (n : Nat) : (hashesN n).length = n := by simp [hashesN]
theorem keysN_ok {n : Nat} (h : n ≤ 100) : ∀ k ∈ keysN n, kOk k := by
  intro k hk
  obtain ⟨i, hi, rfl⟩ := List.mem_map.1 hk
  have := List.mem_range.1 hi
  exact keyN_ok (by omega)
theorem hashesN_ok (n : Nat) : ∀ k ∈ hashesN n, hOk k := by
  intro k hk
  obtain ⟨i, hi, rfl⟩ := List.mem_map.1 hk
  exact hashB_ok i
theorem last_key {n : Nat} (hn : 0 < n) : ∃ h : (last32 (keysN n)).length - 1 < (last32 (keysN n)).length, (last32 (keysN n))[(last32 (keysN n)).length - 1] = (n - 1, zs32) := by
  have hl := last32_len (keysN n)
  rw [keysN_len] at hl
  refine ⟨by omega, ?_⟩
  simp only [last32, List.getElem_drop, keysN, List.getElem_map, List.getElem_range, Prod.mk.injEq, and_true]
  simp only [List.length_drop, List.length_map, List.length_range]
  omega
theorem last_hash {n : Nat} (hn : 0 < n) : ∃ h : (last32 (hashesN n)).length - 1 < (last32 (hashesN n)).length, (last32 (hashesN n))[(last32 (hashesN n)).length - 1] = hashB (n - 1) := by
  have hl := last32_len (hashesN n)
  rw [hashesN_len] at hl
  refine ⟨by omega, ?_⟩
  simp only [last32, List.getElem_drop, hashesN, List.getElem_map, List.getElem_range]
  congr 1
  simp only [List.length_drop, List.length_map, List.length_range]
  omega
theorem builtKN (i : Nat) : Try.prog.built 54 [(0, .int .u64 (i : Int))] = some (kc (i, zs32)).toArray := by kernel_rfl
theorem builtHN (c : UInt8) : Try.prog.built 52 [(0, .int .u8 (c.toNat : Int))] = some (hc (c :: zs31)).toArray := by kernel_rfl
theorem buildKN {ops : Array Oper} {rest : List Oper} {o : Oper} {a : Act} {w : World} {Q : Exit → Act → World → Prop} (hgd : o.guard = none) {x : Operand} {i : Nat} (ho : o.op = .build 54 #[(0, x)]) (hx : a.eval x = .int .u64 (i : Int))
    (h : wpList Try.prog ops Q rest (a.put o.dst (.agg (kc (i, zs32)).toArray)) w) : wpList Try.prog ops Q (o :: rest) a w := by
  refine wpList_val hgd ?_ h
  unfold execOp
  have hp : (#[(0, x)] : Array (Nat × Operand)).map (fun (i, x) => (i, a.eval x)) = #[(0, .int .u64 (i : Int))] := by simp [hx]
  simp only [ho, Sem.run_bind, hp, run_build w _ #[(0, .int .u64 (i : Int))] _ (builtKN i), Result.andThen_ok, Sem.run_pure]
theorem run_buildHC {o : Oper} {a : Act} (w : World) {x : Operand} {c : UInt8} (ho : o.op = .build 52 #[(0, x)]) (hx : a.eval x = .int .u8 (c.toNat : Int)) : (execOp a.eval o).run Try.prog w = .ok (.value (.agg (hc (c :: zs31)).toArray)) w := by
  unfold execOp
  have hp : (#[(0, x)] : Array (Nat × Operand)).map (fun (i, x) => (i, a.eval x)) = #[(0, .int .u8 (c.toNat : Int))] := by simp [hx]
  simp only [ho, Sem.run_bind, hp, run_build w _ #[(0, .int .u8 (c.toNat : Int))] _ (builtHN c), Result.andThen_ok, Sem.run_pure]
theorem ofNat_int {i : Nat} (hi : i < 256) : Value.int .u8 (i : Int) = .int .u8 ((UInt8.ofNat i).toNat : Int) := by rw [UInt8.toNat_ofNat', Nat.mod_eq_of_lt hi]
theorem buildHN {ops : Array Oper} {rest : List Oper} {o : Oper} {a : Act} {w : World} {Q : Exit → Act → World → Prop} (hgd : o.guard = none) {x : Operand} {i : Nat} (hi : i < 256) (ho : o.op = .build 52 #[(0, x)]) (hx : a.eval x = .int .u8 (i : Int))
    (h : wpList Try.prog ops Q rest (a.put o.dst (.agg (hc (hashB i)).toArray)) w) : wpList Try.prog ops Q (o :: rest) a w :=
  wpList_val hgd (run_buildHC w ho (hx.trans (ofNat_int hi))) h
theorem gives_buildHN {o : Oper} {a : Act} {w : World} {S : Value → World → Prop} {x : Operand} {i : Nat} (hi : i < 256) (ho : o.op = .build 52 #[(0, x)]) (hx : a.eval x = .int .u8 (i : Int)) (h : S (.agg (hc (hashB i)).toArray) w) : gives Try.prog o a w S :=
  gives_val (run_buildHC w ho (hx.trans (ofNat_int hi))) h
/-- Steps that are taken if they are wanted. -/
theorem loadHG {ops : Array Oper} {rest : List Oper} {o : Oper} {a : Act} {w : World} {Q : Exit → Act → World → Prop} (hgd : Region.wanted o (yielded ops a.tmps) = true) {x : Operand} (ho : o.op = .load 52 x) {g off : Nat} (hx : a.eval x = .pointer (some ⟨g, off, none⟩)) {h : List UInt8} (hc' : ∀ j v, (hc h)[j]? = some v → w.cell? ⟨g, off + j, none⟩ = some v) (hh : hOk h)
    (hK : wpList Try.prog ops Q rest (a.put o.dst (.agg (hc h).toArray)) w) : wpList Try.prog ops Q (o :: rest) a w :=
  wpList_step fun K hK' => by
    rw [if_pos hgd]
    unfold Oper.wp execOp
    simp only [ho, hx, Instr.loadAt, Instr.sureAddr, Sem.run_bind, Sem.run_pure, Result.andThen_ok, run_load_agg (aggHc hh) hc']
    exact hK' _ _ hK
theorem buildHG {ops : Array Oper} {rest : List Oper} {o : Oper} {a : Act} {w : World} {Q : Exit → Act → World → Prop} (hgd : Region.wanted o (yielded ops a.tmps) = true) {x : Operand} {i : Nat} (hi : i < 256) (ho : o.op = .build 52 #[(0, x)]) (hx : a.eval x = .int .u8 (i : Int))
    (h : wpList Try.prog ops Q rest (a.put o.dst (.agg (hc (hashB i)).toArray)) w) : wpList Try.prog ops Q (o :: rest) a w :=
  wpList_step fun K hK => by
    rw [if_pos hgd]
    unfold Oper.wp
    rw [run_buildHC w ho (hx.trans (ofNat_int hi))]
    exact hK _ _ h
theorem eqHG {ops : Array Oper} {rest : List Oper} {o : Oper} {a : Act} {w : World} {Q : Exit → Act → World → Prop} (hgd : Region.wanted o (yielded ops a.tmps) = true) {x y : Operand} {t2 : TypeId} (ho : o.op = .binOp .eql 52 x y t2) {h : List UInt8} (hx : a.eval x = .agg (hc h).toArray) (hy : a.eval y = .agg (hc h).toArray) (hh : hOk h)
    (hK : wpList Try.prog ops Q rest (a.put o.dst (.bool true)) w) : wpList Try.prog ops Q (o :: rest) a w :=
  wpList_step fun K hK' => by
    rw [if_pos hgd]
    unfold Oper.wp execOp
    simp only [ho, hx, hy, Sem.run_bind, run_eqGuard_agg _ _ _ _ _ _ _ guardH, run_eql_struct, eqSelfH hh, Result.andThen_ok, Sem.run_pure]
    exact hK' _ _ hK
end Go.Proofs.Ythbmmilefimpaaa
