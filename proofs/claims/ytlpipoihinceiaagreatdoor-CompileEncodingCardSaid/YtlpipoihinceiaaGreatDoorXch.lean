/- Code that came in, opened -/
import Derived.Test.YtlpipoihinceiaaGreatDoorOpm
import Derived.Test.YtlpipoihinceiaaGreatDoorZha
namespace Go.Proofs.YtlpipoihinceiaaGreatDoor
open Go.RowKit Go.Proofs Go.ChangeShapes Go.WideShapes Go.Joins

theorem Tryz.cellsInstr : Tryz.prog.cellsOf 130 = 4 := by kernel_rfl
theorem Tryz.cellsInstrs : Tryz.prog.cellsOf 131 = 1 := by kernel_rfl
theorem Tryz.cellsBlock : Tryz.prog.cellsOf 133 = 3 := by kernel_rfl
theorem Tryz.cellsBlocks : Tryz.prog.cellsOf 59 = 1 := by kernel_rfl
theorem Tryz.cellsCodeDecl : Tryz.prog.cellsOf 135 = 3 := by kernel_rfl
theorem Tryz.cellsCodeDecls : Tryz.prog.cellsOf 60 = 1 := by kernel_rfl
theorem Tryz.cellsCode : Tryz.prog.cellsOf 62 = 3 := by kernel_rfl

section
variable {H : Type} {enc : TypeId × Value → H} {W : World}

theorem trod_instr {fuel : Nat} {cs : List Value} {x : DataW H × List MemPlace} (h : DataW.trod enc Tryz.prog W 0 (fun _ => true) true fuel 130 cs = some x) (hcs : cs.length = 4) :
    ∃ i : Ins, cs = [.int .i64 i.op, .int .i64 i.a, .int .i64 i.b, .string i.nm] ∧ i.nm.size ≤ maxLen := by
  match cs, hcs with
  | [c0, c1, c2, c3], _ =>
    obtain ⟨_, _, _, h0⟩ := trod_fields Tryz.underlying130 h 0 _ rfl 3 0 1 rfl rfl Tryz.cellsInt
    obtain ⟨_, _, _, h1⟩ := trod_fields Tryz.underlying130 h 1 _ rfl 3 1 1 rfl rfl Tryz.cellsInt
    obtain ⟨_, _, _, h2⟩ := trod_fields Tryz.underlying130 h 2 _ rfl 3 2 1 rfl rfl Tryz.cellsInt
    obtain ⟨_, _, _, h3⟩ := trod_fields Tryz.underlying130 h 3 _ rfl 9 3 1 rfl rfl Tryz.cellsString
    simp only [List.drop_succ_cons, List.drop_zero, List.take_succ_cons, List.take_zero] at h0 h1 h2 h3
    obtain ⟨op, e0, _⟩ := DataW.trod_int Tryz.underlying3 h0
    obtain ⟨a, e1, _⟩ := DataW.trod_int Tryz.underlying3 h1
    obtain ⟨b, e2, _⟩ := DataW.trod_int Tryz.underlying3 h2
    obtain ⟨nm, e3, _, hl⟩ := DataW.trod_string Tryz.underlying9 h3
    simp only [List.cons.injEq, and_true] at e0 e1 e2 e3
    subst e0 e1 e2 e3
    exact ⟨⟨op, a, b, nm⟩, rfl, hl⟩

theorem open_instrs {fuel : Nat} {v : Value} {x : DataW H × List MemPlace} (h : DataW.trod enc Tryz.prog W 0 (fun _ => true) true fuel 131 [v] = some x) :
    ∃ A l c, v = .slice A (List.length l) c ∧ InsC W A c l := by
  rcases DataW.trod_slice Tryz.underlying131 h with ⟨h0, _⟩ | ⟨a, len, cap, elems, rest, n, rfl, h0, _, _, hl, hm, hlen, hel, _, _⟩
  · simp only [List.cons.injEq, and_true] at h0
    exact ⟨none, [], 0, h0, by simp, by simp, by simp, by simp⟩
  · simp only [List.cons.injEq, and_true] at h0
    subst h0
    rw [Tryz.cellsInstr] at hel
    have hall : ∀ i, i < len → ∃ y : Ins, (i = 0 → a = ⟨a.block, a.off, none⟩) ∧ W.cell? ⟨a.block, a.off + i * 4, none⟩ = some (.int .i64 y.op) ∧ W.cell? ⟨a.block, a.off + i * 4 + 1, none⟩ = some (.int .i64 y.a) ∧ W.cell? ⟨a.block, a.off + i * 4 + 2, none⟩ = some (.int .i64 y.b) ∧ W.cell? ⟨a.block, a.off + i * 4 + 3, none⟩ = some (.string y.nm) ∧ y.nm.size ≤ maxLen := by
      intro i hi
      have h1 := (hel i hi).trans (List.getElem?_eq_getElem (by omega))
      obtain ⟨cs, hc, h2⟩ := Option.bind_eq_some_iff.1 h1
      obtain ⟨_, hcl, hcell⟩ := World.cells?_some hc
      obtain ⟨y, hy, hst⟩ := trod_instr h2 hcl
      subst hy
      have q0 := hcell 0 (by omega)
      have q1 := hcell 1 (by omega)
      have q2 := hcell 2 (by omega)
      have q3 := hcell 3 (by omega)
      rw [add_add'] at q0 q1 q2 q3
      have n0 := add_none (h := q0)
      rw [add_none q0] at q0
      rw [add_none q1] at q1
      rw [add_none q2] at q2
      rw [add_none q3] at q3
      simp [Addr.add] at n0
      exact ⟨y, fun e => by subst e; simpa using n0, by simpa using q0, by simpa [Nat.add_assoc] using q1, by simpa [Nat.add_assoc] using q2, by simpa [Nat.add_assoc] using q3, hst⟩
    obtain ⟨l, hll, hP⟩ := list_of len hall
    refine ⟨some a, l, cap, by rw [hll], by omega, by unfold maxLen at hm; omega, fun y hy => ?_, fun k y hk => ?_⟩
    · obtain ⟨j, hj⟩ := List.getElem?_of_mem hy
      have := (hP j y hj).2.2.2.2.2
      unfold maxLen at this
      omega
    · obtain ⟨_, e1, e2, e3, e4, _⟩ := hP k y hk
      obtain ⟨_, e0, _⟩ := hall 0 (by have := (List.getElem?_eq_some_iff.1 hk).1; omega)
      exact ⟨a.block, a.off, by rw [← e0 rfl], e1, e2, e3, e4⟩

theorem trod_block {fuel : Nat} {cs : List Value} {x : DataW H × List MemPlace} (h : DataW.trod enc Tryz.prog W 0 (fun _ => true) true fuel 133 cs = some x) (hcs : cs.length = 3) :
    ∃ (b : Blk) (lA : Option Addr) (lc : Nat), cs = [.int .i64 b.cap, .bool b.par, .slice lA b.l.length lc] ∧ InsC W lA lc b.l := by
  match cs, hcs with
  | [c0, c1, c2], _ =>
    obtain ⟨_, _, _, h0⟩ := trod_fields Tryz.underlying133 h 0 _ rfl 3 0 1 rfl rfl Tryz.cellsInt
    obtain ⟨_, _, _, h1⟩ := trod_fields Tryz.underlying133 h 1 _ rfl 4 1 1 rfl rfl Tryz.cellsBool
    obtain ⟨_, _, _, h2⟩ := trod_fields Tryz.underlying133 h 2 _ rfl 131 2 1 rfl rfl Tryz.cellsInstrs
    simp only [List.drop_succ_cons, List.drop_zero, List.take_succ_cons, List.take_zero] at h0 h1 h2
    obtain ⟨cap, e0, _⟩ := DataW.trod_int Tryz.underlying3 h0
    obtain ⟨par, e1, _⟩ := DataW.trod_bool Tryz.underlying4 h1
    obtain ⟨lA, l, lc, e2, hl⟩ := open_instrs h2
    simp only [List.cons.injEq, and_true] at e0 e1
    subst e0 e1 e2
    exact ⟨⟨cap, par, l⟩, lA, lc, rfl, hl⟩
theorem trod_cdecl {fuel : Nat} {cs : List Value} {x : DataW H × List MemPlace} (h : DataW.trod enc Tryz.prog W 0 (fun _ => true) true fuel 135 cs = some x) (hcs : cs.length = 3) :
    ∃ t : Int × Int × Int, cs = [.int .i64 t.1, .int .i64 t.2.1, .int .i64 t.2.2] := by
  match cs, hcs with
  | [c0, c1, c2], _ =>
    obtain ⟨_, _, _, h0⟩ := trod_fields Tryz.underlying135 h 0 _ rfl 3 0 1 rfl rfl Tryz.cellsInt
    obtain ⟨_, _, _, h1⟩ := trod_fields Tryz.underlying135 h 1 _ rfl 3 1 1 rfl rfl Tryz.cellsInt
    obtain ⟨_, _, _, h2⟩ := trod_fields Tryz.underlying135 h 2 _ rfl 3 2 1 rfl rfl Tryz.cellsInt
    simp only [List.drop_succ_cons, List.drop_zero, List.take_succ_cons, List.take_zero] at h0 h1 h2
    obtain ⟨a, e0, _⟩ := DataW.trod_int Tryz.underlying3 h0
    obtain ⟨b, e1, _⟩ := DataW.trod_int Tryz.underlying3 h1
    obtain ⟨c, e2, _⟩ := DataW.trod_int Tryz.underlying3 h2
    simp only [List.cons.injEq, and_true] at e0 e1 e2
    subst e0 e1 e2
    exact ⟨(a, b, c), rfl⟩

theorem open_blocks {fuel : Nat} {v : Value} {x : DataW H × List MemPlace} (h : DataW.trod enc Tryz.prog W 0 (fun _ => true) true fuel 59 [v] = some x) :
    ∃ A l c, v = .slice A (List.length l) c ∧ BlkC W A c l := by
  rcases DataW.trod_slice Tryz.underlying59 h with ⟨h0, _⟩ | ⟨a, len, cap, elems, rest, n, rfl, h0, _, _, hl, hm, hlen, hel, _, _⟩
  · simp only [List.cons.injEq, and_true] at h0
    exact ⟨none, [], 0, h0, by simp, by simp, by simp⟩
  · simp only [List.cons.injEq, and_true] at h0
    subst h0
    rw [Tryz.cellsBlock] at hel
    have hall : ∀ i, i < len → ∃ y : Blk, (i = 0 → a = ⟨a.block, a.off, none⟩) ∧ W.cell? ⟨a.block, a.off + i * 3, none⟩ = some (.int .i64 y.cap) ∧ W.cell? ⟨a.block, a.off + i * 3 + 1, none⟩ = some (.bool y.par) ∧ ∃ lA lc, W.cell? ⟨a.block, a.off + i * 3 + 2, none⟩ = some (.slice lA y.l.length lc) ∧ InsC W lA lc y.l := by
      intro i hi
      have h1 := (hel i hi).trans (List.getElem?_eq_getElem (by omega))
      obtain ⟨cs, hc, h2⟩ := Option.bind_eq_some_iff.1 h1
      obtain ⟨_, hcl, hcell⟩ := World.cells?_some hc
      obtain ⟨y, lA, lc, hy, hst⟩ := trod_block h2 hcl
      subst hy
      have q0 := hcell 0 (by omega)
      have q1 := hcell 1 (by omega)
      have q2 := hcell 2 (by omega)
      rw [add_add'] at q0 q1 q2
      have n0 := add_none (h := q0)
      rw [add_none q0] at q0
      rw [add_none q1] at q1
      rw [add_none q2] at q2
      simp [Addr.add] at n0
      exact ⟨y, fun e => by subst e; simpa using n0, by simpa using q0, by simpa [Nat.add_assoc] using q1, lA, lc, by simpa [Nat.add_assoc] using q2, hst⟩
    obtain ⟨l, hll, hP⟩ := list_of len hall
    refine ⟨some a, l, cap, by rw [hll], by omega, by unfold maxLen at hm; omega, fun k y hk => ?_⟩
    obtain ⟨_, e1, e2, e3⟩ := hP k y hk
    obtain ⟨_, e0, _⟩ := hall 0 (by have := (List.getElem?_eq_some_iff.1 hk).1; omega)
    exact ⟨a.block, a.off, by rw [← e0 rfl], e1, e2, e3⟩

theorem open_cdecls {fuel : Nat} {v : Value} {x : DataW H × List MemPlace} (h : DataW.trod enc Tryz.prog W 0 (fun _ => true) true fuel 60 [v] = some x) :
    ∃ A l c, v = .slice A (List.length l) c ∧ DecC W A c l := by
  rcases DataW.trod_slice Tryz.underlying60 h with ⟨h0, _⟩ | ⟨a, len, cap, elems, rest, n, rfl, h0, _, _, hl, hm, hlen, hel, _, _⟩
  · simp only [List.cons.injEq, and_true] at h0
    exact ⟨none, [], 0, h0, by simp, by simp, by simp⟩
  · simp only [List.cons.injEq, and_true] at h0
    subst h0
    rw [Tryz.cellsCodeDecl] at hel
    have hall : ∀ i, i < len → ∃ y : (Int × Int × Int), (i = 0 → a = ⟨a.block, a.off, none⟩) ∧ W.cell? ⟨a.block, a.off + i * 3, none⟩ = some (.int .i64 y.1) ∧ W.cell? ⟨a.block, a.off + i * 3 + 1, none⟩ = some (.int .i64 y.2.1) ∧ W.cell? ⟨a.block, a.off + i * 3 + 2, none⟩ = some (.int .i64 y.2.2) := by
      intro i hi
      have h1 := (hel i hi).trans (List.getElem?_eq_getElem (by omega))
      obtain ⟨cs, hc, h2⟩ := Option.bind_eq_some_iff.1 h1
      obtain ⟨_, hcl, hcell⟩ := World.cells?_some hc
      obtain ⟨y, hy⟩ := trod_cdecl h2 hcl
      subst hy
      have q0 := hcell 0 (by omega)
      have q1 := hcell 1 (by omega)
      have q2 := hcell 2 (by omega)
      rw [add_add'] at q0 q1 q2
      have n0 := add_none (h := q0)
      rw [add_none q0] at q0
      rw [add_none q1] at q1
      rw [add_none q2] at q2
      simp [Addr.add] at n0
      exact ⟨y, fun e => by subst e; simpa using n0, by simpa using q0, by simpa [Nat.add_assoc] using q1, by simpa [Nat.add_assoc] using q2⟩
    obtain ⟨l, hll, hP⟩ := list_of len hall
    refine ⟨some a, l, cap, by rw [hll], by omega, by unfold maxLen at hm; omega, fun k y hk => ?_⟩
    obtain ⟨_, e1, e2, e3⟩ := hP k y hk
    obtain ⟨_, e0, _⟩ := hall 0 (by have := (List.getElem?_eq_some_iff.1 hk).1; omega)
    exact ⟨a.block, a.off, by rw [← e0 rfl], e1, e2, e3⟩

set_option maxRecDepth 100000 in
/-- Code that came in. -/
theorem open_code {b0 : Nat} {v : Value} {d : DataW H} {p : List MemPlace} (hv : Value.okWide Tryz.prog W .any b0 62 v) (h : DataW.Trod enc Tryz.prog W 0 (fun _ => true) true 62 v d p) :
    ∃ lb A1 bl c1 A2 ds c2, v = .agg #[.string lb, .slice A1 (List.length bl) c1, .slice A2 (List.length ds) c2] ∧ lb.size ≤ maxLen ∧ BlkC W A1 c1 bl ∧ DecC W A2 c2 ds := by
  obtain ⟨c0, c1, c2, y0, y1, y2, n, rfl, _, _, h0, h1, h2⟩ := open_agg3 Tryz.underlying62 (by kernel_rfl) Tryz.cellsCode hv h
  obtain ⟨lb, e0, _, hl⟩ := DataW.trod_string Tryz.underlying9 h0
  obtain ⟨A1, bl, c1, e1, hb⟩ := open_blocks h1
  obtain ⟨A2, ds, c2, e2, hd⟩ := open_cdecls h2
  simp only [List.cons.injEq, and_true] at e0
  subst e0 e1 e2
  exact ⟨lb, A1, bl, c1, A2, ds, c2, rfl, hl, hb, hd⟩
end
end Go.Proofs.YtlpipoihinceiaaGreatDoor
