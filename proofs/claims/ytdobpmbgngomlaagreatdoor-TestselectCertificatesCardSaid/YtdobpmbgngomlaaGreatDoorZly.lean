/- depend.Changed in plain words -/
import Derived.Test.YtdobpmbgngomlaaGreatDoorZlx
namespace Go.Proofs.YtdobpmbgngomlaaGreatDoor
open Go.RowKit Go.Proofs Go.Shelf

/-- Two bodies are equal. -/
def eqD (x y : Dc) : Bool := eqNd x.k x.n x.m x.i x.d x.s y.k y.n y.m y.i y.d y.s
/-- A declaration exists in both with the same body. -/
def sameB (old new : List Mo) (n : ByteArray × Int) : Bool := match bodyOf old n, bodyOf new n with
  | some x, some y => eqD x y
  | _, _ => false
def exB (old new : List Mo) (n : ByteArray × Int) : Bool := (bodyOf old n).isSome || (bodyOf new n).isSome
/-- What is used by a declaration that has not turned itself. -/
def gC (old new : List Mo) (n : ByteArray × Int) : Option (List (ByteArray × Int)) := if sameB old new n = true then grf old n else none
theorem gC_some {old new : List Mo} {n : ByteArray × Int} {us : List (ByteArray × Int)} (h : gC old new n = some us) : sameB old new n = true ∧ grf old n = some us := by
  unfold gC at h
  split at h
  · exact ⟨by assumption, h⟩
  · cases h
theorem sameB_some {old new : List Mo} {n : ByteArray × Int} (h : sameB old new n = true) : ∃ x y, bodyOf old n = some x ∧ bodyOf new n = some y ∧ eqD x y = true := by
  unfold sameB at h
  split at h
  · rename_i x y h1 h2; exact ⟨x, y, h1, h2, h⟩
  · cases h
theorem gC_none {old new : List Mo} {n : ByteArray × Int} (h : gC old new n = none) : sameB old new n = false := by
  cases hs : sameB old new n with
  | false => rfl
  | true =>
    obtain ⟨x, y, h1, _⟩ := sameB_some hs
    unfold gC grf at h
    rw [if_pos hs, h1] at h
    cases h
theorem gC_of_same {old new : List Mo} {n : ByteArray × Int} {x : Dc} (hs : sameB old new n = true) (hx : bodyOf old n = some x) : gC old new n = some (usesOf n.1 x.body) := by
  unfold gC grf
  rw [if_pos hs, hx]; rfl

/-- A set of names that holds all that is met. -/
def UC (old : List Mo) (L U : List (ByteArray × Int)) : Prop := (∀ n ∈ L, n ∈ U) ∧ U.length ≤ 400000 ∧ (∀ x us, grf old x = some us → ∀ u ∈ us, u ∈ U ∧ NOk u) ∧ ∀ x y, bodyOf old x = some y → y.s.count ≤ 100000
structure ChI (old new : List Mo) (L U : List (ByteArray × Int)) (C rest : List (ByteArray × Int)) (f : ByteArray × Int → List (ByteArray × Int)) : Prop where
  nodup : C.Nodup
  sub : ∀ x ∈ C, NOk x ∧ x ∈ U ∧ Clo (gC old new) x none
  rsub : ∀ x ∈ rest, x ∈ C
  fs : ∀ u n, n ∈ f u → n ∈ L ∧ ∃ us, gC old new n = some us ∧ u ∈ us
/-- What has been done for a name. -/
def DoneN (old new : List Mo) (C : List (ByteArray × Int)) (f : ByteArray × Int → List (ByteArray × Int)) (n : ByteArray × Int) : Prop :=
  (gC old new n = none → n ∈ C) ∧ ∀ us, gC old new n = some us → ∀ u ∈ us, n ∈ f u ∧ (exB old new u = false → u ∈ C)
theorem addN_sub (C : List (ByteArray × Int)) (x : ByteArray × Int) : ∀ y ∈ C, y ∈ addN C x := fun y hy => by
  unfold addN; split
  · exact hy
  · exact List.mem_append_left _ hy
theorem mem_addN (C : List (ByteArray × Int)) (x y : ByteArray × Int) : y ∈ addN C x ↔ y ∈ C ∨ y = x := by
  unfold addN
  split
  · rename_i h; exact ⟨.inl, fun h' => h'.elim id fun e => e ▸ memN_iff.1 h⟩
  · simp
theorem ChI.visit {old new : List Mo} {L U C rest : List (ByteArray × Int)} {f : ByteArray × Int → List (ByteArray × Int)} (h : ChI old new L U C rest f) {x : ByteArray × Int} (hx : NOk x) (hU : x ∈ U) (hc : Clo (gC old new) x none) : ChI old new L U (addN C x) (addR C rest x) f where
  nodup := by
    unfold addN
    split
    · exact h.nodup
    · rename_i hm
      exact List.nodup_append.2 ⟨h.nodup, by simp, fun a ha b hb e => hm (memN_iff.2 (by rw [List.mem_singleton.1 hb] at e; rw [← e]; exact ha))⟩
  sub y hy := by
    rcases (mem_addN C x y).1 hy with hy | rfl
    · exact h.sub y hy
    · exact ⟨hx, hU, hc⟩
  rsub y hy := by
    rw [mem_addN]
    unfold addR at hy
    split at hy
    · exact .inl (h.rsub y hy)
    · rcases List.mem_append.1 hy with hy | hy
      · exact .inl (h.rsub y hy)
      · exact .inr (List.mem_singleton.1 hy)
  fs := h.fs
theorem addR_mem {C rest : List (ByteArray × Int)} {x : ByteArray × Int} (h : ∀ y ∈ C, y ∈ rest) : ∀ y ∈ addN C x, y ∈ addR C rest x := fun y hy => by
  unfold addN at hy
  unfold addR
  split at hy
  · rename_i hm; rw [if_pos hm]; exact h y hy
  · rename_i hm
    rw [if_neg hm]
    rcases List.mem_append.1 hy with hy | hy
    · exact List.mem_append_left _ (h y hy)
    · exact List.mem_append_right _ hy
theorem addR_sub (C rest : List (ByteArray × Int)) (x : ByteArray × Int) : ∀ y ∈ rest, y ∈ addR C rest x := fun y hy => by
  unfold addR; split
  · exact hy
  · exact List.mem_append_left _ hy
theorem addR_len {C rest : List (ByteArray × Int)} (x : ByteArray × Int) : (addR C rest x).length + C.length = rest.length + (addN C x).length := by
  unfold addR addN; split <;> simp <;> omega
def addF (f : ByteArray × Int → List (ByteArray × Int)) (u n : ByteArray × Int) (x : ByteArray × Int) : List (ByteArray × Int) := if x = u then f x ++ [n] else f x
theorem addF_sub (f : ByteArray × Int → List (ByteArray × Int)) (u n x : ByteArray × Int) : ∀ y ∈ f x, y ∈ addF f u n x := fun y hy => by
  unfold addF; split
  · exact List.mem_append_left _ hy
  · exact hy
theorem ChI.addF {old new : List Mo} {L U C rest : List (ByteArray × Int)} {f : ByteArray × Int → List (ByteArray × Int)} (h : ChI old new L U C rest f) {u n : ByteArray × Int} (hn : n ∈ L) {us : List (ByteArray × Int)} (hg : gC old new n = some us) (hu : u ∈ us) : ChI old new L U C rest (addF f u n) where
  nodup := h.nodup
  sub := h.sub
  rsub := h.rsub
  fs v m hm := by
    unfold Go.Proofs.YtdobpmbgngomlaaGreatDoor.addF at hm
    split at hm
    · rename_i e
      subst e
      rcases List.mem_append.1 hm with hm | hm
      · exact h.fs v m hm
      · rw [List.mem_singleton.1 hm]; exact ⟨hn, us, hg, hu⟩
    · exact h.fs v m hm
theorem DoneN.mono {old new : List Mo} {C C' : List (ByteArray × Int)} {f f' : ByteArray × Int → List (ByteArray × Int)} {n : ByteArray × Int} (h : DoneN old new C f n) (hC : ∀ y ∈ C, y ∈ C') (hf : ∀ x, ∀ y ∈ f x, y ∈ f' x) : DoneN old new C' f' n :=
  ⟨fun hg => hC _ (h.1 hg), fun us hg u hu => ⟨hf u n (h.2 us hg u hu).1, fun he => hC _ ((h.2 us hg u hu).2 he)⟩⟩
theorem clo_none_step {g : ByteArray × Int → Option (List (ByteArray × Int))} {n u : ByteArray × Int} {us : List (ByteArray × Int)} (hg : g n = some us) (hu : u ∈ us) (h : Clo g u none) : Clo g n none := by
  obtain ⟨x, h1, h2⟩ := h
  exact ⟨x, ((Reach.refl).step hg hu).trans h1, h2⟩
/-- At the end the set holds just those from which something that has turned is reached. -/
theorem ChI.done {old new : List Mo} {L U C : List (ByteArray × Int)} {f : ByteArray × Int → List (ByteArray × Int)} (h : ChI old new L U C [] f) (hL : ∀ n ∈ L, DoneN old new C f n) (hex : ∀ n, NOk n → (n ∈ L ↔ exB old new n = true)) (hok : ∀ n ∈ L, NOk n) (hus : ∀ x us, gC old new x = some us → ∀ u ∈ us, NOk u)
    (hcl : ∀ x ∈ C, ∀ n ∈ f x, n ∈ C) {n : ByteArray × Int} (hn : n ∈ L) : n ∈ C ↔ Clo (gC old new) n none := by
  refine ⟨fun hc => (h.sub n hc).2.2, fun ⟨x, hr, hx⟩ => ?_⟩
  have hback : ∀ y, Reach (gC old new) n y → y ∈ C → n ∈ C := by
    intro y hy
    induction hy with
    | refl => exact id
    | step h1 h2 h3 ih =>
      rename_i z u us
      intro hu
      refine ih (hcl u hu z ?_)
      have hz : NOk z ∧ z ∈ L := by
        have hzok : NOk z := by
          cases h1 with
          | refl => exact hok n hn
          | step h4 h5 h6 => exact hus _ _ h5 _ h6
        refine ⟨hzok, (hex z hzok).2 ?_⟩
        obtain ⟨p, q, h4, _⟩ := sameB_some (gC_some h2).1
        unfold exB; rw [h4]; rfl
      exact ((hL z hz.2).2 us h2 u h3).1
  refine hback x hr ?_
  cases hr with
  | refl => exact (hL n hn).1 hx
  | step h1 h2 h3 =>
    rename_i z us
    have hxok := hus _ _ h2 _ h3
    have hzL : z ∈ L := by
      have hzok : NOk z := by
        cases h1 with
        | refl => exact hok n hn
        | step h4 h5 h6 => exact hus _ _ h5 _ h6
      refine (hex z hzok).2 ?_
      obtain ⟨p, q, h4, _⟩ := sameB_some (gC_some h2).1
      unfold exB; rw [h4]; rfl
    cases he : exB old new x with
    | true => exact (hL x ((hex x hxok).2 he)).1 hx
    | false => exact ((hL z hzL).2 us h2 x h3).2 he
/-- How many steps are left at most. -/
theorem ChI.len {old new : List Mo} {L U C rest : List (ByteArray × Int)} {f : ByteArray × Int → List (ByteArray × Int)} (h : ChI old new L U C rest f) : C.length ≤ U.length := nodup_len C U h.nodup fun x hx => (h.sub x hx).2.1
end Go.Proofs.YtdobpmbgngomlaaGreatDoor
/- depend.Changed: what its loops keep -/
namespace Go.Proofs.YtdobpmbgngomlaaGreatDoor
open Go.RowKit Go.Proofs Go.Shelf

section
variable {cb bC rb bu base N : Nat} {C rest : List (ByteArray × Int)} {f : ByteArray × Int → List (ByteArray × Int)} {rv : Value} {gU : ByteArray × Int → Option Value} {X Y1 Y2 Y3 Y4 : World}
/-- The slice of the users of a name. -/
def oldV (gU : ByteArray × Int → Option Value) (u : ByteArray × Int) : Value := (gU u).getD (.slice none 0 0)
def updG (gU : ByteArray × Int → Option Value) (u : ByteArray × Int) (v : Value) (x : ByteArray × Int) : Option Value := if x = u then some v else gU x
theorem ChgAt.oldRow (h : ChgAt cb bC rb bu base N C rest f rv gU X) {u : ByteArray × Int} (hu : NOk u) : X.ownsRow base 24 2 (oldV gU u) (f u).length (namesC (f u)) := by
  unfold oldV
  cases hg : gU u with
  | none => rw [h.none u hu hg]; exact World.ownsRow_nil _ _ _ _
  | some v => exact h.rows u v hu hg
theorem ChgAt.oldOff (h : ChgAt cb bC rb bu base N C rest f rv gU X) {u : ByteArray × Int} (hu : NOk u) {k : Nat} (hk : (oldV gU u).ownBlock = some k) : MineC bC rb bu rv gU k ∧ rv.ownBlock ≠ some k ∧ base ≤ k ∧ k < X.heap.size := by
  unfold oldV at hk
  cases hg : gU u with
  | none => rw [hg] at hk; simp [Value.ownBlock] at hk
  | some v =>
    rw [hg] at hk
    have hk : v.ownBlock = some k := hk
    have := own_block_cells (h.rows u v hu hg) hk
    exact ⟨.inr (.inr (.inr (.inr ⟨u, v, hu, hg, hk⟩))), h.off u v k hu hg hk, this.1, this.2.1⟩
/-- What a push onto the users of a name leaves. -/
theorem ChgAt.pushed (h : ChgAt cb bC rb bu base N C rest f rv gU X) (hcb : cb < base) (hbC : bC < base) (hrb : rb < base) (hbu : bu < base) (hbcu : bu ≠ bC) (hrbu : bu ≠ rb) (hcbu : bu ≠ cb) {u n : ByteArray × Int} (hu : NOk u) (h1 : Below X.heap.size X Y1) (h2 : Y1.grownBy Y2 (some bu)) {v3 : Value} (h3 : Y3.ownsRow base 24 2 v3 ((f u).length + 1) (namesC (f u) ++ [.string n.1, .int .i64 n.2])) (hg3 : Y2.grownBy Y3 (oldV gU u).ownBlock)
    (hat : v3.ownBlock = (oldV gU u).ownBlock ∨ v3.ownBlock = some Y2.heap.size) (h4 : MapA nameK Y4 bu (N + 1) (updG gU u v3)) (hg4 : Y3.grownBy Y4 (some bu)) :
    ChgAt cb bC rb bu base (N + 1) C rest (addF f u n) rv (updG gU u v3) Y4 ∧ (∀ k, k < X.heap.size → k ≠ bu → (oldV gU u).ownBlock ≠ some k → Y4.heap[k]? = X.heap[k]?) ∧ X.heap.size ≤ Y4.heap.size := by
  have hz1 := h1.size
  have hz2 := h2.size
  have hz3 := hg3.size
  have hz4 := hg4.size
  have hblk : ∀ k, k < X.heap.size → k ≠ bu → (oldV gU u).ownBlock ≠ some k → Y4.heap[k]? = X.heap[k]? := fun k hk hne ho =>
    (hg4.block k (by omega) (fun e => hne (by cases e; rfl))).trans ((hg3.block k (by omega) (fun e => ho e.symm)).trans ((h2.block k (by omega) (fun e => hne (by cases e; rfl))).trans (h1.block k hk)))
  have hold := fun k hk => h.oldOff hu (k := k) hk
  have hlow : ∀ k, k < base → (oldV gU u).ownBlock ≠ some k := fun k hk e => by have := (hold k e).2.2.1; omega
  have hother : ∀ u' v', NOk u' → u' ≠ u → gU u' = some v' → ∀ k, v'.ownBlock = some k → (oldV gU u).ownBlock ≠ some k := fun u' v' hu' hne hg' k hk e => by
    unfold oldV at e
    cases hg : gU u with
    | none => rw [hg] at e; simp [Value.ownBlock] at e
    | some v => rw [hg] at e; exact hne (h.apart u' u v' v k hu' hu hg' hg hk e)
  have hbub : ∀ v' n' xs, X.ownsRow base 24 2 v' n' xs → ∀ k, v'.ownBlock = some k → k ≠ bu := fun v' n' xs hr k hk e => by have := (own_block_cells hr hk).1; omega
  refine ⟨⟨⟨h.vis.cap.keep (hblk cb h.vis.cap.lt.1 (fun e => hcbu e.symm) (hlow cb hcb)) (hblk bC h.vis.cap.lt.2 (fun e => hbcu e.symm) (hlow bC hbC)), (hblk rb (h.lt (.inr (.inr (.inl rfl)))) (fun e => hrbu e.symm) (hlow rb hrb)).trans h.vis.box, own_of_blocks h.vis.row fun k hk => hblk k (own_block_cells h.vis.row hk).2.1 (hbub _ _ _ h.vis.row k hk) (fun e => (hold k e).2.1 hk)⟩, h4, fun u' v' hu' hg' => ?_, fun u' hu' hg' => ?_, fun u' u'' v' v'' k hu' hu'' hg' hg'' hk hk' => ?_, fun u' v' k hu' hg' hk e => ?_⟩, hblk, by omega⟩
  · unfold updG at hg'
    unfold Go.Proofs.YtdobpmbgngomlaaGreatDoor.addF
    by_cases he : u' = u
    · rw [if_pos he] at hg'
      cases hg'
      rw [if_pos he, he, List.length_append, namesC_append]
      refine own_of_blocks h3 fun k hk => hg4.block k (own_block_cells h3 hk).2.1 (fun e => ?_)
      have := (own_block_cells h3 hk).1
      cases e; omega
    · rw [if_neg he] at hg'
      rw [if_neg he]
      exact own_of_blocks (h.rows u' v' hu' hg') fun k hk => hblk k (own_block_cells (h.rows u' v' hu' hg') hk).2.1 (hbub _ _ _ (h.rows u' v' hu' hg') k hk) (hother u' v' hu' he hg' k hk)
  · unfold updG at hg'
    unfold Go.Proofs.YtdobpmbgngomlaaGreatDoor.addF
    by_cases he : u' = u
    · rw [if_pos he] at hg'; cases hg'
    · rw [if_neg he] at hg' ⊢; exact h.none u' hu' hg'
  · have key : ∀ u' v', NOk u' → u' ≠ u → gU u' = some v' → v'.ownBlock = some k → v3.ownBlock = some k → False := fun u' v' hu' he hg' hk hk3 => by
      rcases hat with ha | ha
      · exact hother u' v' hu' he hg' k hk (by rw [← ha]; exact hk3)
      · rw [hk3] at ha; cases ha
        have := (own_block_cells (h.rows u' v' hu' hg') hk).2.1
        omega
    unfold updG at hg' hg''
    by_cases he : u' = u <;> by_cases he' : u'' = u
    · rw [he, he']
    · rw [if_pos he] at hg'; rw [if_neg he'] at hg''; cases hg'; exact (key u'' v'' hu'' he' hg'' hk' hk).elim
    · rw [if_neg he] at hg'; rw [if_pos he'] at hg''; cases hg''; exact (key u' v' hu' he hg' hk hk').elim
    · rw [if_neg he] at hg'; rw [if_neg he'] at hg''; exact h.apart u' u'' v' v'' k hu' hu'' hg' hg'' hk hk'
  · unfold updG at hg'
    by_cases he : u' = u
    · rw [if_pos he] at hg'
      cases hg'
      rcases hat with ha | ha
      · exact (hold k (by rw [← ha]; exact hk)).2.1 e
      · rw [hk] at ha; cases ha
        have := (own_block_cells h.vis.row e).2.1
        omega
    · rw [if_neg he] at hg'; exact h.off u' v' k hu' hg' hk e
/-- What is mine after a push. -/
theorem MineC.pushed {u : ByteArray × Int} (hu : NOk u) {v3 : Value} {n : Nat} (hat : v3.ownBlock = (oldV gU u).ownBlock ∨ v3.ownBlock = some n) {k : Nat} (hk : k < n) (h : MineC bC rb bu rv (updG gU u v3) k) : MineC bC rb bu rv gU k := by
  rcases h with h | h | h | h | ⟨u', v', hu', hg', hk'⟩
  · exact .inl h
  · exact .inr (.inl h)
  · exact .inr (.inr (.inl h))
  · exact .inr (.inr (.inr (.inl h)))
  · unfold updG at hg'
    by_cases he : u' = u
    · rw [if_pos he] at hg'
      cases hg'
      rcases hat with ha | ha
      · unfold oldV at ha
        cases hg : gU u with
        | none => rw [hg, hk'] at ha; simp [Value.ownBlock] at ha
        | some v => rw [hg, hk'] at ha; exact .inr (.inr (.inr (.inr ⟨u, v, hu, hg, ha.symm⟩)))
      · rw [hk'] at ha; cases ha; omega
    · rw [if_neg he] at hg'
      exact .inr (.inr (.inr (.inr ⟨u', v', hu', hg', hk'⟩)))
end

/-- A bound for the users that one name adds. -/
def uB : Nat := 400000
theorem uB_eq : uB = 400000 := rfl
/-- The loop over names: what has been done for the first j; for the one behind them its first m users are laid, the first q looked at; the blocks of uk lie as in w13. -/
def P1 (old new : List Mo) (L U : List (ByteArray × Int)) (cb bC rb bu base : Nat) (w8 : World) (j : Nat) (n : ByteArray × Int) (us : List (ByteArray × Int)) (m q : Nat) (uk : Nat → Prop) (w13 : World) (wr : World) : Prop :=
  ∃ C rest f rv gU N, ChgAt cb bC rb bu base N C rest f rv gU wr ∧ ChI old new L U C rest f ∧ (∀ z ∈ L.take j, DoneN old new C f z) ∧ (∀ x ∈ C, x ∈ rest) ∧ rest.length ≤ C.length ∧ N ≤ j * uB + m ∧ (∀ u, (f u).length ≤ j * uB + m) ∧ Below w8.heap.size w8 wr ∧ base ≤ wr.heap.size ∧
    (∀ t u, us[t]? = some u → (t < m → n ∈ f u) ∧ (t < q → exB old new u = false → u ∈ C)) ∧ ∀ k, uk k → ¬ (k = cb ∨ MineC bC rb bu rv gU k) ∧ k < wr.heap.size ∧ wr.heap[k]? = w13.heap[k]?
/-- The numbers of the blocks. -/
structure Nums (w8 : World) (cb bC rb bu base : Nat) : Prop where
  bu : bu = w8.heap.size
  bC : bC = w8.heap.size + 1
  cb : cb = w8.heap.size + 2
  rb : rb = w8.heap.size + 3
  base : base = w8.heap.size + 4
theorem keeps_below {n₀ bC rb : Nat} {rv : Value} {base : Nat} {rest : List (ByteArray × Int)} {X Y : World} (h : Keeps (fun k => k ≠ bC ∧ k ≠ rb ∧ rv.ownBlock ≠ some k) X Y) (hX : n₀ ≤ X.heap.size) (h1 : n₀ ≤ bC) (h2 : n₀ ≤ rb) (hr : X.ownsRow base 24 2 rv rest.length (namesC rest)) (hb : n₀ ≤ base) : Below n₀ X Y :=
  h.to_below hX fun k hk => ⟨by omega, by omega, fun e => by have := (own_block_cells hr e).1; omega⟩
/-- The loop's state goes through visit. -/
theorem P1.visit {old new : List Mo} {L U : List (ByteArray × Int)} {cb bC rb bu base : Nat} {w8 : World} {j : Nat} {n : ByteArray × Int} {us : List (ByteArray × Int)} {m q : Nat} {uk : Nat → Prop} {w13 wr X : World} (hN : Nums w8 cb bC rb bu base) (h : P1 old new L U cb bC rb bu base w8 j n us m q uk w13 wr) (hX : Below wr.heap.size wr X) (hU : U.length ≤ 400000) {x : ByteArray × Int} (hx : NOk x) (hxU : x ∈ U) (hc : Clo (gC old new) x none) :
    Calls Tryz.prog 68 #[.agg #[.string x.1, .int .i64 x.2], .pointer (some ⟨cb, 0, none⟩), .pointer (some ⟨rb, 0, none⟩)] X fun e Y => (∃ v, e = .returned v) ∧ P1 old new L U cb bC rb bu base w8 j n us m q uk w13 Y ∧
      ∃ C rest f rv gU N, (ChgAt cb bC rb bu base N C rest f rv gU Y ∧ ChI old new L U C rest f ∧ (∀ z ∈ L.take j, DoneN old new C f z) ∧ (∀ x ∈ C, x ∈ rest) ∧ rest.length ≤ C.length ∧ N ≤ j * uB + m ∧ (∀ u, (f u).length ≤ j * uB + m) ∧ Below w8.heap.size w8 Y ∧ base ≤ Y.heap.size ∧
        (∀ t u, us[t]? = some u → (t < m → n ∈ f u) ∧ (t < q → exB old new u = false → u ∈ C)) ∧ ∀ k, uk k → ¬ (k = cb ∨ MineC bC rb bu rv gU k) ∧ k < Y.heap.size ∧ Y.heap[k]? = w13.heap[k]?) ∧ x ∈ C := by
  obtain ⟨C, rest, f, rv, gU, N, hch, hci, hdo, hall, hle, hNb, hfb, hbel, hbase, hus, huk⟩ := h
  obtain ⟨e1, e2, e3, e4, e5⟩ := hN
  have hcl := hci.len
  have hchX := hch.below hX
  refine (dChanged1_any x hx cb bC rb base C rest rv X hchX.vis (by omega) (by omega) (by omega) (by have := hX.size; omega) (by omega) (by omega)).mono ?_
  rintro e Y ⟨hv, rv', hvis, ho, hK⟩
  have hzX := hX.size
  have hzY := hK.size
  have hbY : Below w8.heap.size X Y := keeps_below hK (by omega) (by omega) (by omega) hchX.vis.row (by omega)
  have main : ChgAt cb bC rb bu base N (addN C x) (addR C rest x) f rv' gU Y ∧ ChI old new L U (addN C x) (addR C rest x) f ∧ (∀ z ∈ L.take j, DoneN old new (addN C x) f z) ∧ (∀ y ∈ addN C x, y ∈ addR C rest x) ∧ (addR C rest x).length ≤ (addN C x).length ∧ N ≤ j * uB + m ∧ (∀ u, (f u).length ≤ j * uB + m) ∧ Below w8.heap.size w8 Y ∧ base ≤ Y.heap.size ∧
        (∀ t u, us[t]? = some u → (t < m → n ∈ f u) ∧ (t < q → exB old new u = false → u ∈ addN C x)) ∧ ∀ k, uk k → ¬ (k = cb ∨ MineC bC rb bu rv' gU k) ∧ k < Y.heap.size ∧ Y.heap[k]? = w13.heap[k]? := by
    refine ⟨hchX.visited (by omega) hvis ho hK (by omega), hci.visit hx hxU hc, fun z hz => (hdo z hz).mono (addN_sub C x) (fun _ _ h => h), addR_mem hall, ?_, hNb, hfb, (hbel.trans (hX.mono hbel.size)).trans hbY, by omega, fun t u hu => ⟨(hus t u hu).1, fun h1 h2 => addN_sub C x _ ((hus t u hu).2 h1 h2)⟩, fun k hk => ?_⟩
    · have := addR_len (C := C) (rest := rest) x; omega
    · obtain ⟨h1, h2, h3⟩ := huk k hk
      refine ⟨fun h => h1 (h.imp id fun h => MineC.visited ho (by omega) h), by omega, ?_⟩
      refine (hK.block k (by omega) ⟨fun e => h1 (.inr (.inl e)), fun e => h1 (.inr (.inr (.inl e))), fun e => h1 (.inr (.inr (.inr (.inl e))))⟩).trans ((hX.block k h2).trans h3)
  exact ⟨hv, ⟨_, _, _, _, _, _, main⟩, _, _, _, _, _, _, main, (mem_addN C x x).2 (.inr rfl)⟩

section
variable {old new : List Mo} {L U : List (ByteArray × Int)} {cb bC rb bu base : Nat} {w8 : World} {j : Nat} {n : ByteArray × Int} {us : List (ByteArray × Int)} {m q : Nat} {uk : Nat → Prop} {w13 wr X : World}
theorem P1.below (h : P1 old new L U cb bC rb bu base w8 j n us m q uk w13 wr) (hX : Below wr.heap.size wr X) : P1 old new L U cb bC rb bu base w8 j n us m q uk w13 X := by
  obtain ⟨C, rest, f, rv, gU, N, hch, hci, hdo, hall, hle, hNb, hfb, hbel, hbase, hus, huk⟩ := h
  have := hX.size
  exact ⟨C, rest, f, rv, gU, N, hch.below hX, hci, hdo, hall, hle, hNb, hfb, hbel.trans (hX.mono hbel.size), by omega, hus, fun k hk => ⟨(huk k hk).1, by have := (huk k hk).2.1; omega, (hX.block k (huk k hk).2.1).trans (huk k hk).2.2⟩⟩
theorem P1.bel (h : P1 old new L U cb bC rb bu base w8 j n us m q uk w13 wr) : Below w8.heap.size w8 wr ∧ base ≤ wr.heap.size ∧ ∀ k, uk k → k < wr.heap.size ∧ wr.heap[k]? = w13.heap[k]? := by
  obtain ⟨C, rest, f, rv, gU, N, hch, hci, hdo, hall, hle, hNb, hfb, hbel, hbase, hus, huk⟩ := h
  exact ⟨hbel, hbase, fun k hk => (huk k hk).2⟩
/-- The state at the head of a round over names. -/
def P1o (old new : List Mo) (L U : List (ByteArray × Int)) (cb bC rb bu base : Nat) (w8 : World) (j : Nat) (wr : World) : Prop := P1 old new L U cb bC rb bu base w8 j (⟨#[]⟩, 0) [] 0 0 (fun _ => False) w8 wr
/-- A name's users are gone through next. -/
theorem P1o.enter (h : P1o old new L U cb bC rb bu base w8 j wr) (hX : Below wr.heap.size wr X) (n : ByteArray × Int) (us : List (ByteArray × Int)) (uk : Nat → Prop) (huk : ∀ k, uk k → wr.heap.size ≤ k ∧ k < X.heap.size) : P1 old new L U cb bC rb bu base w8 j n us 0 0 uk X X := by
  obtain ⟨C, rest, f, rv, gU, N, hch, hci, hdo, hall, hle, hNb, hfb, hbel, hbase, _, _⟩ := h
  have := hX.size
  refine ⟨C, rest, f, rv, gU, N, hch.below hX, hci, hdo, hall, hle, hNb, hfb, hbel.trans (hX.mono hbel.size), by omega, fun t u _ => ⟨fun h => by omega, fun h => by omega⟩, fun k hk => ⟨fun h => ?_, (huk k hk).2, rfl⟩⟩
  have h1 := hch.lt h
  have h2 := (huk k hk).1
  omega
/-- A name that has turned has been visited. -/
theorem P1.next_bad {x : ByteArray × Int} (hx : L[j]? = some x) (hg : gC old new x = none)
    (h : ∃ C rest f rv gU N, (ChgAt cb bC rb bu base N C rest f rv gU wr ∧ ChI old new L U C rest f ∧ (∀ z ∈ L.take j, DoneN old new C f z) ∧ (∀ x ∈ C, x ∈ rest) ∧ rest.length ≤ C.length ∧ N ≤ j * uB + m ∧ (∀ u, (f u).length ≤ j * uB + m) ∧ Below w8.heap.size w8 wr ∧ base ≤ wr.heap.size ∧
        (∀ t u, us[t]? = some u → (t < m → n ∈ f u) ∧ (t < q → exB old new u = false → u ∈ C)) ∧ ∀ k, uk k → ¬ (k = cb ∨ MineC bC rb bu rv gU k) ∧ k < wr.heap.size ∧ wr.heap[k]? = w13.heap[k]?) ∧ x ∈ C) (hm : m ≤ 400000) : P1o old new L U cb bC rb bu base w8 (j + 1) wr := by
  obtain ⟨C, rest, f, rv, gU, N, ⟨hch, hci, hdo, hall, hle, hNb, hfb, hbel, hbase, hus, huk⟩, hxC⟩ := h
  have e : (j + 1) * uB = j * uB + uB := Nat.succ_mul j uB
  have eb := uB_eq
  refine ⟨C, rest, f, rv, gU, N, hch, hci, fun z hz => ?_, hall, hle, (by omega), fun u => (by have := hfb u; omega), hbel, hbase, fun t u h => (by simp at h), fun k h => h.elim⟩
  obtain ⟨hlt, rfl⟩ := List.getElem?_eq_some_iff.1 hx
  rw [List.take_succ_eq_append_getElem hlt] at hz
  rcases List.mem_append.1 hz with hz | hz
  · exact hdo z hz
  · rw [List.mem_singleton.1 hz]
    exact ⟨fun _ => hxC, fun us hus => by rw [hg] at hus; cases hus⟩
/-- All users of a name have been laid. -/
theorem P1.next_good {x : ByteArray × Int} (hx : L[j]? = some x) (hg : gC old new x = some us) (h : P1 old new L U cb bC rb bu base w8 j x us us.length us.length uk w13 wr) (hm : us.length ≤ 400000) : P1o old new L U cb bC rb bu base w8 (j + 1) wr := by
  obtain ⟨C, rest, f, rv, gU, N, hch, hci, hdo, hall, hle, hNb, hfb, hbel, hbase, hus, huk⟩ := h
  have e : (j + 1) * uB = j * uB + uB := Nat.succ_mul j uB
  have eb := uB_eq
  refine ⟨C, rest, f, rv, gU, N, hch, hci, fun z hz => ?_, hall, hle, (by omega), fun u => (by have := hfb u; omega), hbel, hbase, fun t u h => (by simp at h), fun k h => h.elim⟩
  obtain ⟨hlt, rfl⟩ := List.getElem?_eq_some_iff.1 hx
  rw [List.take_succ_eq_append_getElem hlt] at hz
  rcases List.mem_append.1 hz with hz | hz
  · exact hdo z hz
  · rw [List.mem_singleton.1 hz]
    refine ⟨fun h => (by rw [hg] at h; cases h), fun vs hvs u hu => ?_⟩
    rw [hg] at hvs
    cases hvs
    obtain ⟨t, ht⟩ := List.getElem?_of_mem hu
    have htl := (List.getElem?_eq_some_iff.1 ht).1
    exact ⟨(hus t u ht).1 htl, (hus t u ht).2 htl⟩
/-- A user that exists needs no more. -/
theorem P1.skip {u : ByteArray × Int} (h : P1 old new L U cb bC rb bu base w8 j n us (q + 1) q uk w13 wr) (hu : us[q]? = some u) (he : exB old new u = true) : P1 old new L U cb bC rb bu base w8 j n us (q + 1) (q + 1) uk w13 wr := by
  obtain ⟨C, rest, f, rv, gU, N, hch, hci, hdo, hall, hle, hNb, hfb, hbel, hbase, hus, huk⟩ := h
  refine ⟨C, rest, f, rv, gU, N, hch, hci, hdo, hall, hle, hNb, hfb, hbel, hbase, fun t v hv => ⟨(hus t v hv).1, fun ht hx => ?_⟩, huk⟩
  by_cases htq : t = q
  · subst htq
    rw [hu] at hv; cases hv
    rw [he] at hx; cases hx
  · exact (hus t v hv).2 (by omega) hx
theorem P1.seen {u : ByteArray × Int} (hu : us[q]? = some u)
    (h : ∃ C rest f rv gU N, (ChgAt cb bC rb bu base N C rest f rv gU wr ∧ ChI old new L U C rest f ∧ (∀ z ∈ L.take j, DoneN old new C f z) ∧ (∀ x ∈ C, x ∈ rest) ∧ rest.length ≤ C.length ∧ N ≤ j * uB + (q + 1) ∧ (∀ u, (f u).length ≤ j * uB + (q + 1)) ∧ Below w8.heap.size w8 wr ∧ base ≤ wr.heap.size ∧
        (∀ t u, us[t]? = some u → (t < q + 1 → n ∈ f u) ∧ (t < q → exB old new u = false → u ∈ C)) ∧ ∀ k, uk k → ¬ (k = cb ∨ MineC bC rb bu rv gU k) ∧ k < wr.heap.size ∧ wr.heap[k]? = w13.heap[k]?) ∧ u ∈ C) : P1 old new L U cb bC rb bu base w8 j n us (q + 1) (q + 1) uk w13 wr := by
  obtain ⟨C, rest, f, rv, gU, N, ⟨hch, hci, hdo, hall, hle, hNb, hfb, hbel, hbase, hus, huk⟩, huC⟩ := h
  refine ⟨C, rest, f, rv, gU, N, hch, hci, hdo, hall, hle, hNb, hfb, hbel, hbase, fun t v hv => ⟨(hus t v hv).1, fun ht hx => ?_⟩, huk⟩
  by_cases htq : t = q
  · subst htq
    rw [hu] at hv; cases hv
    exact huC
  · exact (hus t v hv).2 (by omega) hx
/-- What is there before a push. -/
theorem P1.before (h : P1 old new L U cb bC rb bu base w8 j n us q q uk w13 wr) (hN : Nums w8 cb bC rb bu base) (hjq : j * uB + q < 4000000000000) {u : ByteArray × Int} (hu : us[q]? = some u) (huok : NOk u) (hn : n ∈ L) (hg : gC old new n = some us) :
    ∃ gU N k xs, MapA nameK wr bu N gU ∧ N < maxLen ∧ wr.ownsRow base 24 2 (oldV gU u) k (namesC xs) ∧ xs.length = k ∧ k ≤ j * uB + q ∧ (∀ k', (oldV gU u).ownBlock = some k' → base ≤ k' ∧ k' < wr.heap.size) ∧ base ≤ wr.heap.size ∧
      ∀ (Y1 Y2 Y3 Y4 : World) (v3 : Value), Below wr.heap.size wr Y1 → Y1.grownBy Y2 (some bu) → Y3.ownsRow base 24 2 v3 (k + 1) (namesC xs ++ [.string n.1, .int .i64 n.2]) → Y2.grownBy Y3 (oldV gU u).ownBlock → (v3.ownBlock = (oldV gU u).ownBlock ∨ v3.ownBlock = some Y2.heap.size) → MapA nameK Y4 bu (N + 1) (updG gU u v3) → Y3.grownBy Y4 (some bu) →
        P1 old new L U cb bC rb bu base w8 j n us (q + 1) q uk w13 Y4 := by
  obtain ⟨C, rest, f, rv, gU, N, hch, hci, hdo, hall, hle, hNb, hfb, hbel, hbase, hus, huk⟩ := h
  refine ⟨gU, N, (f u).length, f u, hch.map, by unfold maxLen; omega, hch.oldRow huok, rfl, hfb u, fun k' hk => ⟨(hch.oldOff huok hk).2.2.1, (hch.oldOff huok hk).2.2.2⟩, hbase, fun Y1 Y2 Y3 Y4 v3 h1 h2 h3 hg3 hat h4 hg4 => ?_⟩
  obtain ⟨e1, e2, e3, e4, e5⟩ := hN
  obtain ⟨hp1, hp2, hp3⟩ := hch.pushed (n := n) (by omega) (by omega) (by omega) (by omega) (by omega) (by omega) (by omega) huok h1 h2 h3 hg3 hat h4 hg4
  have hz1 := h1.size
  have hz2 := h2.size
  have hlo : ∀ k, k < w8.heap.size → Y4.heap[k]? = wr.heap[k]? := fun k hk => hp2 k (by omega) (by omega) (fun e => by have := (hch.oldOff huok e).2.2.1; omega)
  refine ⟨C, rest, addF f u n, rv, updG gU u v3, N + 1, hp1, hci.addF hn hg (List.mem_of_getElem? hu), fun z hz => (hdo z hz).mono (fun _ h => h) (fun x => addF_sub f u n x), hall, hle, by omega, fun x => ?_, ?_, by omega, fun t v hv => ⟨fun ht => ?_, (hus t v hv).2⟩, fun k hk => ?_⟩
  · have := hfb x
    unfold addF
    split <;> simp <;> omega
  · have hsz := hbel.size
    have e : Y4.os = wr.os ∧ Y4.tape = wr.tape ∧ Y4.output = wr.output := ⟨hg4.os.trans (hg3.os.trans (h2.os.trans h1.os)), hg4.tape.trans (hg3.tape.trans (h2.tape.trans h1.tape)), hg4.output.trans (hg3.output.trans (h2.output.trans h1.output))⟩
    exact ⟨e.1.trans hbel.os, e.2.1.trans hbel.tape, e.2.2.trans hbel.output, by omega, fun k hk => (hlo k hk).trans (hbel.block k hk)⟩
  · by_cases htq : t = q
    · subst htq
      rw [hu] at hv; cases hv
      unfold addF
      rw [if_pos rfl]
      simp
    · exact addF_sub f u n v n ((hus t v hv).1 (by omega))
  · obtain ⟨k1, k2, k3⟩ := huk k hk
    refine ⟨fun h => k1 (h.imp id fun h => MineC.pushed huok hat (by omega) h), by omega, (hp2 k k2 (fun e => k1 (.inr (.inr (.inr (.inr (.inl e)))))) (fun e => k1 (.inr (hch.oldOff huok e).1))).trans k3⟩
end

/-- The second loop: what has changed is carried on to its users. -/
def P2 (old new : List Mo) (L U : List (ByteArray × Int)) (cb bC rb bu base : Nat) (w8 : World) (g : Nat) (wr : World) : Prop :=
  ∃ C rest f rv gU N, ChgAt cb bC rb bu base N C rest f rv gU wr ∧ ChI old new L U C rest f ∧ (∀ z ∈ L, DoneN old new C f z) ∧ (∀ x ∈ C, x ∈ rest ∨ ∀ n ∈ f x, n ∈ C) ∧ g = cloM U C rest ∧ cloM U C rest ≤ 1000000 ∧ (∀ u, (f u).length ≤ 4000000000000) ∧ Below w8.heap.size w8 wr ∧ base ≤ wr.heap.size
theorem P1o.fin {old new : List Mo} {L U : List (ByteArray × Int)} {cb bC rb bu base : Nat} {w8 wr : World} (h : P1o old new L U cb bC rb bu base w8 L.length wr) (hL : L.length ≤ 800000) (hU : U.length ≤ 400000) : ∃ g, P2 old new L U cb bC rb bu base w8 g wr := by
  obtain ⟨C, rest, f, rv, gU, N, hch, hci, hdo, hall, hle, hNb, hfb, hbel, hbase, _, _⟩ := h
  rw [List.take_length] at hdo
  have hcl := hci.len
  refine ⟨_, C, rest, f, rv, gU, N, hch, hci, hdo, fun x hx => .inl (hall x hx), rfl, by unfold cloM; omega, fun u => ?_, hbel, hbase⟩
  have := hfb u
  have h2 : L.length * uB ≤ 800000 * 400000 := Nat.mul_le_mul hL (Nat.le_of_eq uB_eq)
  omega
/-- The last that is to do is taken off. -/
theorem chgAt_pop {cb bC rb bu base N : Nat} {C r : List (ByteArray × Int)} {x : ByteArray × Int} {f : ByteArray × Int → List (ByteArray × Int)} {gU : ByteArray × Int → Option Value} {X : World} {gb cap : Nat} (h : ChgAt cb bC rb bu base N C (r ++ [x]) f (.slice (some ⟨gb, 0, none⟩) (r.length + 1) cap) gU X) (hrb : rb < base) (hcr : cb ≠ rb) (hbr : bC ≠ rb) (hur : bu ≠ rb) (o : Obj) :
    ChgAt cb bC rb bu base N C r f (.slice (some ⟨gb, 0, none⟩) r.length cap) gU ((X.alloc o).setCell ⟨rb, 0, none⟩ (.slice (some ⟨gb, 0, none⟩) r.length cap)) := by
  have hrow := h.vis.row
  simp only [List.length_append, List.length_cons, List.length_nil, Nat.zero_add, namesC_append] at hrow
  have hrow' := own_shrink (m := r.length) hrow (by omega)
  rw [List.take_left' (namesC_length r)] at hrow'
  have hlt : rb < X.heap.size := h.lt (.inr (.inr (.inl rfl)))
  have hk : ∀ k, k < X.heap.size → k ≠ rb → ((X.alloc o).setCell ⟨rb, 0, none⟩ (.slice (some ⟨gb, 0, none⟩) r.length cap)).heap[k]? = X.heap[k]? := fun k hk hne => (Below.heap_setCell _ _ _ _ (by simpa using hne)).trans (Below.heap_alloc _ _ _ hk)
  have hbx : (X.alloc o).heap[rb]? = some (.cells #[.slice (some ⟨gb, 0, none⟩) (r.length + 1) cap] 30 (0, 0)) := (Below.heap_alloc _ _ _ hlt).trans h.vis.box
  refine ⟨⟨h.vis.cap.keep (hk cb h.vis.cap.lt.1 hcr) (hk bC h.vis.cap.lt.2 hbr), one_setCell hbx, own_of_blocks hrow' fun k e => ?_⟩, h.map.keep (hk bu h.map.lt hur), fun u v hu hv => own_of_blocks (h.rows u v hu hv) fun k e => ?_, h.none, h.apart, h.off⟩
  · have := own_block_cells hrow' e
    exact hk k this.2.1 (by omega)
  · have := own_block_cells (h.rows u v hu hv) e
    exact hk k this.2.1 (by omega)
/-- Between two users of x. -/
def P2i (old new : List Mo) (L U : List (ByteArray × Int)) (cb bC rb bu base : Nat) (w8 : World) (g0 : Nat) (x : ByteArray × Int) (f : ByteArray × Int → List (ByteArray × Int)) (gU : ByteArray × Int → Option Value) (q : Nat) (wr : World) : Prop :=
  ∃ C rest rv N, ChgAt cb bC rb bu base N C rest f rv gU wr ∧ ChI old new L U C rest f ∧ (∀ z ∈ L, DoneN old new C f z) ∧ (∀ y ∈ C, y ∈ rest ∨ y = x ∨ ∀ n ∈ f y, n ∈ C) ∧ (∀ n ∈ (f x).take q, n ∈ C) ∧ cloM U C rest + 1 ≤ g0 ∧ g0 ≤ 1000000 ∧ (∀ u, (f u).length ≤ 4000000000000) ∧ Below w8.heap.size w8 wr ∧ base ≤ wr.heap.size ∧ x ∈ C
theorem P2i.leave {old new : List Mo} {L U : List (ByteArray × Int)} {cb bC rb bu base : Nat} {w8 wr : World} {g0 : Nat} {x : ByteArray × Int} {f : ByteArray × Int → List (ByteArray × Int)} {gU : ByteArray × Int → Option Value} (h : P2i old new L U cb bC rb bu base w8 g0 x f gU (f x).length wr) : ∃ g, P2 old new L U cb bC rb bu base w8 g wr ∧ g < g0 := by
  obtain ⟨C, rest, rv, N, hch, hci, hdo, hcl, htk, hg, hg0, hfb, hbel, hbase, hx⟩ := h
  rw [List.take_length] at htk
  exact ⟨_, ⟨C, rest, f, rv, gU, N, hch, hci, hdo, fun y hy => (hcl y hy).imp id (fun h => h.elim (fun e => by rw [e]; exact htk) id), rfl, by omega, hfb, hbel, hbase⟩, by omega⟩
theorem P2i.row {old new : List Mo} {L U : List (ByteArray × Int)} {cb bC rb bu base : Nat} {w8 wr : World} {g0 : Nat} {x : ByteArray × Int} {f : ByteArray × Int → List (ByteArray × Int)} {gU : ByteArray × Int → Option Value} {q : Nat} (h : P2i old new L U cb bC rb bu base w8 g0 x f gU q wr) : wr.ownsRow base 24 2 (oldV gU x) (f x).length (namesC (f x)) ∧ Below w8.heap.size w8 wr ∧ base ≤ wr.heap.size := by
  obtain ⟨C, rest, rv, N, hch, hci, hdo, hcl, htk, hg, hg0, hfb, hbel, hbase, hx⟩ := h
  exact ⟨hch.oldRow (hci.sub x hx).1, hbel, hbase⟩
/-- A user is visited. -/
theorem P2i.visit {old new : List Mo} {L U : List (ByteArray × Int)} {cb bC rb bu base : Nat} {w8 wr X : World} {g0 : Nat} {x : ByteArray × Int} {f : ByteArray × Int → List (ByteArray × Int)} {gU : ByteArray × Int → Option Value} {q : Nat} (hN : Nums w8 cb bC rb bu base) (h : P2i old new L U cb bC rb bu base w8 g0 x f gU q wr) (hX : Below wr.heap.size wr X) (hU : U.length ≤ 400000) (hLU : ∀ n ∈ L, n ∈ U ∧ NOk n) {n : ByteArray × Int} (hn : (f x)[q]? = some n) :
    Calls Tryz.prog 68 #[.agg #[.string n.1, .int .i64 n.2], .pointer (some ⟨cb, 0, none⟩), .pointer (some ⟨rb, 0, none⟩)] X fun e Y => (∃ v, e = .returned v) ∧ P2i old new L U cb bC rb bu base w8 g0 x f gU (q + 1) Y := by
  obtain ⟨C, rest, rv, N, hch, hci, hdo, hcl, htk, hg, hg0, hfb, hbel, hbase, hx⟩ := h
  obtain ⟨e1, e2, e3, e4, e5⟩ := hN
  have hlen := hci.len
  have hchX := hch.below hX
  obtain ⟨hnL, us, hus, hxu⟩ := hci.fs x n (List.mem_of_getElem? hn)
  have hnok := (hLU n hnL).2
  have hclo : Clo (gC old new) n none := clo_none_step hus hxu (hci.sub x hx).2.2
  have hrl : rest.length ≤ 1000000 := by unfold cloM at hg; omega
  refine (dChanged1_any n hnok cb bC rb base C rest rv X hchX.vis (by omega) (by omega) (by omega) (by have := hX.size; omega) hrl (by omega)).mono ?_
  rintro e Y ⟨hv, rv', hvis, ho, hK⟩
  have hzX := hX.size
  have hzY := hK.size
  have hbY : Below w8.heap.size X Y := keeps_below hK (by omega) (by omega) (by omega) hchX.vis.row (by omega)
  have hci' := hci.visit hnok (hLU n hnL).1 hclo
  refine ⟨hv, addN C n, addR C rest n, rv', N, hchX.visited (by omega) hvis ho hK (by omega), hci', fun z hz => (hdo z hz).mono (addN_sub C n) (fun _ _ h => h), fun y hy => ?_, fun z hz => ?_, ?_, hg0, hfb, (hbel.trans (hX.mono hbel.size)).trans hbY, by omega, addN_sub C n x hx⟩
  · by_cases hyC : y ∈ C
    · rcases hcl y hyC with h | h | h
      · exact .inl (addR_sub C rest n y h)
      · exact .inr (.inl h)
      · exact .inr (.inr fun z hz => addN_sub C n z (h z hz))
    · rcases (mem_addN C n y).1 hy with h | rfl
      · exact absurd h hyC
      · refine .inl ?_
        unfold addR
        rw [if_neg (fun h => hyC (memN_iff.1 h))]
        simp
  · obtain ⟨hlt, he⟩ := List.getElem?_eq_some_iff.1 hn
    rw [List.take_succ_eq_append_getElem hlt, he] at hz
    rcases List.mem_append.1 hz with hz | hz
    · exact addN_sub C n z (htk z hz)
    · rw [List.mem_singleton.1 hz]; exact (mem_addN C n n).2 (.inr rfl)
  · have h1 := addR_len (C := C) (rest := rest) n
    have h2 := hci'.len
    have h3 : C.length ≤ (addN C n).length := by unfold addN; split <;> simp
    unfold cloM at hg ⊢
    omega
end Go.Proofs.YtdobpmbgngomlaaGreatDoor
