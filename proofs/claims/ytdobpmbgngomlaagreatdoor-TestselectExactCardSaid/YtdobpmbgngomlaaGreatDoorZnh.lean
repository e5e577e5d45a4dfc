/- A list of names, a certificate, and a pair of names that came in -/
import Derived.Test.YtdobpmbgngomlaaGreatDoorZlu
import Derived.Test.YtdobpmbgngomlaaGreatDoorZnb
import Derived.OpenShut
namespace Go.Proofs.YtdobpmbgngomlaaGreatDoor
open Go.RowKit Go.Proofs Go.ChangeShapes Go.WideShapes Go.Joins

theorem Tryz.cellsNames : Tryz.prog.cellsOf 30 = 1 := by kernel_rfl
theorem Tryz.cellsCert : Tryz.prog.cellsOf 54 = 4 := by kernel_rfl
section
variable {H : Type} {enc : TypeId × Value → H} {W : World}
theorem trod_name {fuel : Nat} {cs : List Value} {x : DataW H × List MemPlace} (h : DataW.trod enc Tryz.prog W 0 (fun _ => true) true fuel 24 cs = some x) (hcs : cs.length = 2) :
    ∃ n : ByteArray × Int, cs = [.string n.1, .int .i64 n.2] ∧ NOk n := by
  match cs, hcs with
  | [c0, c1], _ =>
    obtain ⟨_, _, _, h0⟩ := trod_fields Tryz.underlying24 h 0 _ rfl 9 0 1 rfl rfl Tryz.cellsString
    obtain ⟨_, _, _, h1⟩ := trod_fields Tryz.underlying24 h 1 _ rfl 3 1 1 rfl rfl Tryz.cellsInt
    simp only [List.drop_succ_cons, List.drop_zero, List.take_succ_cons, List.take_zero] at h0 h1
    obtain ⟨s, e0, _, hl⟩ := DataW.trod_string Tryz.underlying9 h0
    obtain ⟨i, e1, _, hw⟩ := DataW.trod_int Tryz.underlying3 h1
    simp only [List.cons.injEq, and_true] at e0 e1
    subst e0 e1
    exact ⟨(s, i), rfl, hl, hw⟩
/-- A slice of names that came in. -/
theorem open_names {fuel : Nat} {v : Value} {x : DataW H × List MemPlace} (h : DataW.trod enc Tryz.prog W 0 (fun _ => true) true fuel 30 [v] = some x) :
    ∃ A l c, v = .slice A (List.length l) c ∧ SlN W W.heap.size A c l ∧ ∀ n ∈ l, NOk n := by
  rcases DataW.trod_slice Tryz.underlying30 h with ⟨h0, _⟩ | ⟨a, len, cap, elems, rest, n, rfl, h0, _, _, hl, hm, hlen, hel, _, _⟩
  · simp only [List.cons.injEq, and_true] at h0
    exact ⟨none, [], 0, h0, ⟨by simp, by simp [maxLen], fun h => absurd rfl h⟩, by simp⟩
  · simp only [List.cons.injEq, and_true] at h0
    subst h0
    rw [Tryz.cellsName] at hel
    have hall : ∀ i, i < len → ∃ d : ByteArray × Int, (∀ q v, ([.string d.1, .int .i64 d.2] : List Value)[q]? = some v → W.cell? ⟨a.block, a.off + i * 2 + q, none⟩ = some v) ∧ NOk d := by
      intro i hi
      have h1 := (hel i hi).trans (List.getElem?_eq_getElem (by omega))
      obtain ⟨cs, hc, h2⟩ := Option.bind_eq_some_iff.1 h1
      obtain ⟨_, hcl, hcell⟩ := World.cells?_some hc
      obtain ⟨d, hd, hok⟩ := trod_name h2 hcl
      refine ⟨d, fun q v hq => ?_, hok⟩
      have hq' : q < 2 := by simpa using (List.getElem?_eq_some_iff.1 hq).1
      have h3 := hcell q hq'
      rw [hd, hq, add_add'] at h3
      rw [add_none h3] at h3
      rw [Nat.add_assoc]
      exact h3
    obtain ⟨l, hll, hP⟩ := list_of len hall
    refine ⟨some a, l, cap, by rw [hll], ⟨by omega, hm, fun hne => ?_⟩, fun d hd => ?_⟩
    · have hpos : 0 < len := by
        rcases Nat.eq_zero_or_pos len with h | h
        · rw [h] at hll; exact absurd (List.length_eq_zero_iff.1 hll) hne
        · exact h
      obtain ⟨d0, h0, _⟩ := hall 0 hpos
      have h00 := h0 0 _ rfl
      have h1 := (hel 0 hpos).trans (List.getElem?_eq_getElem (by omega))
      obtain ⟨cs, hc, h2⟩ := Option.bind_eq_some_iff.1 h1
      obtain ⟨_, hcl, hcell⟩ := World.cells?_some hc
      have h3 := hcell 0 (by omega)
      rw [add_add', List.getElem?_eq_getElem (by omega)] at h3
      have h4 := add_none h3
      simp [Addr.add] at h4
      exact ⟨a.block, a.off, by rw [← h4], World.block_lt_of_cell? W ⟨a.block, a.off + 0 * 2 + 0, none⟩ h00, fun j x hj => ⟨(hP j x hj).1 0 _ rfl, (hP j x hj).1 1 _ rfl⟩⟩
    · obtain ⟨j, hj⟩ := List.getElem?_of_mem hd
      exact (hP j d hj).2
set_option maxRecDepth 100000 in
/-- A certificate that came in. -/
theorem open_cert {b0 : Nat} {v : Value} {d : DataW H} {p : List MemPlace} (hv : Value.okWide Tryz.prog W .any b0 54 v) (h : DataW.Trod enc Tryz.prog W 0 (fun _ => true) true 54 v d p) :
    ∃ (n : ByteArray × Int) (L : List (ByteArray × Int)) (A : Option Addr) (c : Nat) (k : ByteArray), v = .agg #[.string n.1, .int .i64 n.2, .slice A (List.length L) c, .string k] ∧ NOk n ∧ SlN W W.heap.size A c L := by
  obtain ⟨cs, rfl, hsz⟩ := okWide_struct Tryz.underlying54 hv
  obtain ⟨c0, c1, c2, c3, rfl⟩ := array4 (hsz.trans Tryz.cellsCert)
  obtain ⟨fuel, hf⟩ := h
  simp only [Value.cells] at hf
  obtain ⟨_, _, _, h0⟩ := trod_fields Tryz.underlying54 hf 0 _ rfl 24 0 2 rfl rfl Tryz.cellsName
  obtain ⟨_, _, _, h1⟩ := trod_fields Tryz.underlying54 hf 1 _ rfl 30 2 1 rfl rfl Tryz.cellsNames
  obtain ⟨_, _, _, h2⟩ := trod_fields Tryz.underlying54 hf 2 _ rfl 9 3 1 rfl rfl Tryz.cellsString
  simp only [List.drop_succ_cons, List.drop_zero, List.take_succ_cons, List.take_zero] at h0 h1 h2
  obtain ⟨n, e0, hn⟩ := trod_name h0 rfl
  obtain ⟨A, L, c, e1, hL, _⟩ := open_names h1
  obtain ⟨k, e2, _⟩ := DataW.trod_string Tryz.underlying9 h2
  simp only [List.cons.injEq, and_true] at e0 e2
  obtain ⟨rfl, rfl⟩ := e0
  subst e1 e2
  exact ⟨n, L, A, c, k, rfl, hn, hL⟩
end
end Go.Proofs.YtdobpmbgngomlaaGreatDoor
/- A pair of names that came in -/
namespace Go.Proofs.YtdobpmbgngomlaaGreatDoor
open Go Go.RowKit Go.Proofs Go.ChangeShapes Go.WideShapes Go.Joins

theorem Tryz.cellsTwo : Tryz.prog.cellsOf 61 = 4 := by kernel_rfl
theorem okWide_arr {P : Go.Program} {w : Go.World} {r : Go.Reach} {base n : Nat} {t e : Go.TypeId} {v : Go.Value} (ht : P.underlying t = some (.array n e)) (h : Value.okWide P w r base t v) : ∃ cs, v = .agg cs ∧ cs.size = P.cellsOf t := by
  simp only [Value.okWide, ht] at h
  obtain ⟨cs, h1, h2, _⟩ := h
  exact ⟨cs, h1, h2⟩
section
variable {H : Type} {enc : TypeId × Value → H} {W : World}
set_option maxRecDepth 100000 in
theorem open_two {b0 : Nat} {v : Value} {d : DataW H} {p : List MemPlace} (hv : Value.okWide Tryz.prog W .any b0 61 v) (h : DataW.Trod enc Tryz.prog W 0 (fun _ => true) true 61 v d p) :
    ∃ n o : ByteArray × Int, v = .agg #[.string n.1, .int .i64 n.2, .string o.1, .int .i64 o.2] ∧ NOk n ∧ NOk o := by
  obtain ⟨cs, rfl, hsz⟩ := okWide_arr Tryz.underlying61 hv
  obtain ⟨c0, c1, c2, c3, rfl⟩ := array4 (hsz.trans Tryz.cellsTwo)
  obtain ⟨fuel, hf⟩ := h
  simp only [Value.cells] at hf
  obtain ⟨xs, m, _, _, _, hl, hel⟩ := DataW.trod_array Tryz.underlying61 hf
  have h0 := (hel 0 (by omega)).trans (List.getElem?_eq_getElem (by omega))
  have h1 := (hel 1 (by omega)).trans (List.getElem?_eq_getElem (by omega))
  rw [Tryz.cellsName] at h0 h1
  simp only [Nat.zero_mul, Nat.one_mul, List.drop_succ_cons, List.drop_zero, List.take_succ_cons, List.take_zero] at h0 h1
  obtain ⟨n, e0, hn⟩ := trod_name h0 rfl
  obtain ⟨o, e1, ho⟩ := trod_name h1 rfl
  simp only [List.cons.injEq, and_true] at e0 e1
  obtain ⟨rfl, rfl⟩ := e0
  obtain ⟨rfl, rfl⟩ := e1
  exact ⟨n, o, rfl, hn, ho⟩
end
end Go.Proofs.YtdobpmbgngomlaaGreatDoor
