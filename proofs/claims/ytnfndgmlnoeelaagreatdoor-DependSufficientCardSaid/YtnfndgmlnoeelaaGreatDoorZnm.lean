/- depend.Changed: what its loops keep -/
import Derived.Test.YtnfndgmlnoeelaaGreatDoorDcp
namespace Go.Proofs.YtnfndgmlnoeelaaGreatDoor
open Go.RowKit Go.Proofs Go.Shelf
section
variable {cb bC rb bu base N : Nat} {C rest : List (ByteArray × Int)} {f : ByteArray × Int → List (ByteArray × Int)} {rv : Value} {gU : ByteArray × Int → Option Value} {X Y1 Y2 Y3 Y4 : World}
def oldV (gU : ByteArray × Int → Option Value) (u : ByteArray × Int) : Value:=(gU u).getD (.slice none 0 0)
def updG (gU : ByteArray × Int → Option Value) (u : ByteArray × Int) (v : Value) (x : ByteArray × Int) : Option Value:=if x = u then some v else gU x
theorem ChgAt.oldRow (h : ChgAt cb bC rb bu base N C rest f rv gU X) {u : ByteArray × Int} (hu : NOk u) : X.ownsRow base 24 2 (oldV gU u) (f u).length (namesC (f u)):=by
  unfold oldV
  cases hg : gU u with
  | none => rw [h.none u hu hg];exact World.ownsRow_nil _ _ _ _
  | some v => exact h.rows u v hu hg
theorem ChgAt.oldOff (h : ChgAt cb bC rb bu base N C rest f rv gU X) {u : ByteArray × Int} (hu : NOk u) {k : Nat} (hk : (oldV gU u).ownBlock = some k) : MineC bC rb bu rv gU k ∧ rv.ownBlock ≠ some k ∧ base ≤ k ∧ k < X.heap.size:=by
  unfold oldV at hk
  cases hg : gU u with
  | none => rw [hg] at hk;simp [Value.ownBlock] at hk
  | some v =>
    rw [hg] at hk
    have hk : v.ownBlock = some k:=hk
    have:=own_block_cells (h.rows u v hu hg) hk
    exact ⟨.inr (.inr (.inr (.inr ⟨u,v,hu,hg,hk⟩))),h.off u v k hu hg hk,this.1,this.2.1⟩
theorem ChgAt.pushed (h : ChgAt cb bC rb bu base N C rest f rv gU X) (hcb : cb < base) (hbC : bC < base) (hrb : rb < base) (hbu : bu < base) (hbcu : bu ≠ bC) (hrbu : bu ≠ rb) (hcbu : bu ≠ cb) {u n : ByteArray × Int} (hu : NOk u) (h1 : Below X.heap.size X Y1) (h2 : Y1.grownBy Y2 (some bu)) {v3 : Value} (h3 : Y3.ownsRow base 24 2 v3 ((f u).length + 1) (namesC (f u) ++ [.string n.1,.int .i64 n.2])) (hg3 : Y2.grownBy Y3 (oldV gU u).ownBlock)
    (hat : v3.ownBlock = (oldV gU u).ownBlock ∨ v3.ownBlock = some Y2.heap.size) (h4 : MapA nameK Y4 bu (N + 1) (updG gU u v3)) (hg4 : Y3.grownBy Y4 (some bu)) :
    ChgAt cb bC rb bu base (N + 1) C rest (addF f u n) rv (updG gU u v3) Y4 ∧ (∀ k,k < X.heap.size → k ≠ bu → (oldV gU u).ownBlock ≠ some k → Y4.heap[k]? = X.heap[k]?) ∧ X.heap.size ≤ Y4.heap.size:=by
  have hz1:=h1.size
  have hz2:=h2.size
  have hz3:=hg3.size
  have hz4:=hg4.size
  have hblk : ∀ k,k < X.heap.size → k ≠ bu → (oldV gU u).ownBlock ≠ some k → Y4.heap[k]? = X.heap[k]?:=fun k hk hne ho =>
    (hg4.block k (by omega) (fun e => hne (by cases e;rfl))).trans ((hg3.block k (by omega) (fun e => ho e.symm)).trans ((h2.block k (by omega) (fun e => hne (by cases e;rfl))).trans (h1.block k hk)))
  have hold:=fun k hk => h.oldOff hu (k:=k) hk
  have hlow : ∀ k,k < base → (oldV gU u).ownBlock ≠ some k:=fun k hk e => by have:=(hold k e).2.2.1;omega
  have hother : ∀ u' v',NOk u' → u' ≠ u → gU u' = some v' → ∀ k,v'.ownBlock = some k → (oldV gU u).ownBlock ≠ some k:=fun u' v' hu' hne hg' k hk e => by
    unfold oldV at e
    cases hg : gU u with
    | none => rw [hg] at e;simp [Value.ownBlock] at e
    | some v => rw [hg] at e;exact hne (h.apart u' u v' v k hu' hu hg' hg hk e)
  have hbub : ∀ v' n' xs,X.ownsRow base 24 2 v' n' xs → ∀ k,v'.ownBlock = some k → k ≠ bu:=fun v' n' xs hr k hk e => by have:=(own_block_cells hr hk).1;omega
  refine ⟨⟨⟨h.vis.cap.keep (hblk cb h.vis.cap.lt.1 (fun e => hcbu e.symm) (hlow cb hcb)) (hblk bC h.vis.cap.lt.2 (fun e => hbcu e.symm) (hlow bC hbC)),(hblk rb (h.lt (.inr (.inr (.inl rfl)))) (fun e => hrbu e.symm) (hlow rb hrb)).trans h.vis.box,own_of_blocks h.vis.row fun k hk => hblk k (own_block_cells h.vis.row hk).2.1 (hbub _ _ _ h.vis.row k hk) (fun e => (hold k e).2.1 hk)⟩,h4,fun u' v' hu' hg' => ?_,fun u' hu' hg' => ?_,fun u' u'' v' v'' k hu' hu'' hg' hg'' hk hk' => ?_,fun u' v' k hu' hg' hk e => ?_⟩,hblk,by omega⟩
  · unfold updG at hg'
    unfold Go.Proofs.YtnfndgmlnoeelaaGreatDoor.addF
    by_cases he : u' = u
    · rw [if_pos he] at hg'
      cases hg'
      rw [if_pos he,he,List.length_append,namesC_append]
      refine own_of_blocks h3 fun k hk => hg4.block k (own_block_cells h3 hk).2.1 (fun e => ?_)
      have:=(own_block_cells h3 hk).1
      cases e;omega
    · rw [if_neg he] at hg'
      rw [if_neg he]
      exact own_of_blocks (h.rows u' v' hu' hg') fun k hk => hblk k (own_block_cells (h.rows u' v' hu' hg') hk).2.1 (hbub _ _ _ (h.rows u' v' hu' hg') k hk) (hother u' v' hu' he hg' k hk)
  · unfold updG at hg'
    unfold Go.Proofs.YtnfndgmlnoeelaaGreatDoor.addF
    by_cases he : u' = u
    · rw [if_pos he] at hg';cases hg'
    · rw [if_neg he] at hg' ⊢;exact h.none u' hu' hg'
  · have key : ∀ u' v',NOk u' → u' ≠ u → gU u' = some v' → v'.ownBlock = some k → v3.ownBlock = some k → False:=fun u' v' hu' he hg' hk hk3 => by
      rcases hat with ha | ha
      · exact hother u' v' hu' he hg' k hk (by rw [← ha];exact hk3)
      · rw [hk3] at ha;cases ha
        have:=(own_block_cells (h.rows u' v' hu' hg') hk).2.1
        omega
    unfold updG at hg' hg''
    by_cases he : u' = u <;> by_cases he' : u'' = u
    · rw [he,he']
    · rw [if_pos he] at hg';rw [if_neg he'] at hg'';cases hg';exact (key u'' v'' hu'' he' hg'' hk' hk).elim
    · rw [if_neg he] at hg';rw [if_pos he'] at hg'';cases hg'';exact (key u' v' hu' he hg' hk hk').elim
    · rw [if_neg he] at hg';rw [if_neg he'] at hg'';exact h.apart u' u'' v' v'' k hu' hu'' hg' hg'' hk hk'
  · unfold updG at hg'
    by_cases he : u' = u
    · rw [if_pos he] at hg'
      cases hg'
      rcases hat with ha | ha
      · exact (hold k (by rw [← ha];exact hk)).2.1 e
      · rw [hk] at ha;cases ha
        have:=(own_block_cells h.vis.row e).2.1
        omega
    · rw [if_neg he] at hg';exact h.off u' v' k hu' hg' hk e
theorem MineC.pushed {u : ByteArray × Int} (hu : NOk u) {v3 : Value} {n : Nat} (hat : v3.ownBlock = (oldV gU u).ownBlock ∨ v3.ownBlock = some n) {k : Nat} (hk : k < n) (h : MineC bC rb bu rv (updG gU u v3) k) : MineC bC rb bu rv gU k:=by
  rcases h with h | h | h | h | ⟨u',v',hu',hg',hk'⟩
  · exact .inl h
  · exact .inr (.inl h)
  · exact .inr (.inr (.inl h))
  · exact .inr (.inr (.inr (.inl h)))
  · unfold updG at hg'
    by_cases he : u' = u
    · rw [if_pos he] at hg'
      cases hg'
      rcases hat with ha | ha
      · unfold oldV at ha
        cases hg : gU u with
        | none => rw [hg,hk'] at ha;simp [Value.ownBlock] at ha
        | some v => rw [hg,hk'] at ha;exact .inr (.inr (.inr (.inr ⟨u,v,hu,hg,ha.symm⟩)))
      · rw [hk'] at ha;cases ha;omega
    · rw [if_neg he] at hg'
      exact .inr (.inr (.inr (.inr ⟨u',v',hu',hg',hk'⟩)))
end
def uB : Nat:=400000
theorem uB_eq : uB = 400000:=rfl
def P1 (old new : List Mo) (L U : List (ByteArray × Int)) (cb bC rb bu base : Nat) (w8 : World) (j : Nat) (n : ByteArray × Int) (us : List (ByteArray × Int)) (m q : Nat) (uk : Nat → Prop) (w13 : World) (wr : World) : Prop:=
  ∃ C rest f rv gU N,ChgAt cb bC rb bu base N C rest f rv gU wr ∧ ChI old new L U C rest f ∧ (∀ z ∈ L.take j,DoneN old new C f z) ∧ (∀ x ∈ C,x ∈ rest) ∧ rest.length ≤ C.length ∧ N ≤ j * uB + m ∧ (∀ u,(f u).length ≤ j * uB + m) ∧ Below w8.heap.size w8 wr ∧ base ≤ wr.heap.size ∧
    (∀ t u,us[t]? = some u → (t < m → n ∈ f u) ∧ (t < q → exB old new u = false → u ∈ C)) ∧ ∀ k,uk k → ¬ (k = cb ∨ MineC bC rb bu rv gU k) ∧ k < wr.heap.size ∧ wr.heap[k]? = w13.heap[k]?
structure Nums (w8 : World) (cb bC rb bu base : Nat) : Prop where
  bu : bu = w8.heap.size
  bC : bC = w8.heap.size + 1
  cb : cb = w8.heap.size + 2
  rb : rb = w8.heap.size + 3
  base : base = w8.heap.size + 4
theorem keeps_below {n₀ bC rb : Nat} {rv : Value} {base : Nat} {rest : List (ByteArray × Int)} {X Y : World} (h : Keeps (fun k => k ≠ bC ∧ k ≠ rb ∧ rv.ownBlock ≠ some k) X Y) (hX : n₀ ≤ X.heap.size) (h1 : n₀ ≤ bC) (h2 : n₀ ≤ rb) (hr : X.ownsRow base 24 2 rv rest.length (namesC rest)) (hb : n₀ ≤ base) : Below n₀ X Y:=
  h.to_below hX fun k hk => ⟨by omega,by omega,fun e => by have:=(own_block_cells hr e).1;omega⟩
theorem P1.visit {old new : List Mo} {L U : List (ByteArray × Int)} {cb bC rb bu base : Nat} {w8 : World} {j : Nat} {n : ByteArray × Int} {us : List (ByteArray × Int)} {m q : Nat} {uk : Nat → Prop} {w13 wr X : World} (hN : Nums w8 cb bC rb bu base) (h : P1 old new L U cb bC rb bu base w8 j n us m q uk w13 wr) (hX : Below wr.heap.size wr X) (hU : U.length ≤ 400000) {x : ByteArray × Int} (hx : NOk x) (hxU : x ∈ U) (hc : Clo (gC old new) x none) :
    Calls Tryz.prog 49 #[.agg #[.string x.1,.int .i64 x.2],.pointer (some ⟨cb,0,none⟩),.pointer (some ⟨rb,0,none⟩)] X fun e Y => (∃ v,e = .returned v) ∧ P1 old new L U cb bC rb bu base w8 j n us m q uk w13 Y ∧
      ∃ C rest f rv gU N,(ChgAt cb bC rb bu base N C rest f rv gU Y ∧ ChI old new L U C rest f ∧ (∀ z ∈ L.take j,DoneN old new C f z) ∧ (∀ x ∈ C,x ∈ rest) ∧ rest.length ≤ C.length ∧ N ≤ j * uB + m ∧ (∀ u,(f u).length ≤ j * uB + m) ∧ Below w8.heap.size w8 Y ∧ base ≤ Y.heap.size ∧
        (∀ t u,us[t]? = some u → (t < m → n ∈ f u) ∧ (t < q → exB old new u = false → u ∈ C)) ∧ ∀ k,uk k → ¬ (k = cb ∨ MineC bC rb bu rv gU k) ∧ k < Y.heap.size ∧ Y.heap[k]? = w13.heap[k]?) ∧ x ∈ C:=by
  obtain ⟨C,rest,f,rv,gU,N,hch,hci,hdo,hall,hle,hNb,hfb,hbel,hbase,hus,huk⟩:=h
  obtain ⟨e1,e2,e3,e4,e5⟩:=hN
  have hcl:=hci.len
  have hchX:=hch.below hX
  refine (dChanged1_any x hx cb bC rb base C rest rv X hchX.vis (by omega) (by omega) (by omega) (by have:=hX.size;omega) (by omega) (by omega)).mono ?_
  rintro e Y ⟨hv,rv',hvis,ho,hK⟩
  have hzX:=hX.size
  have hzY:=hK.size
  have hbY : Below w8.heap.size X Y:=keeps_below hK (by omega) (by omega) (by omega) hchX.vis.row (by omega)
  have main : ChgAt cb bC rb bu base N (addN C x) (addR C rest x) f rv' gU Y ∧ ChI old new L U (addN C x) (addR C rest x) f ∧ (∀ z ∈ L.take j,DoneN old new (addN C x) f z) ∧ (∀ y ∈ addN C x,y ∈ addR C rest x) ∧ (addR C rest x).length ≤ (addN C x).length ∧ N ≤ j * uB + m ∧ (∀ u,(f u).length ≤ j * uB + m) ∧ Below w8.heap.size w8 Y ∧ base ≤ Y.heap.size ∧
        (∀ t u,us[t]? = some u → (t < m → n ∈ f u) ∧ (t < q → exB old new u = false → u ∈ addN C x)) ∧ ∀ k,uk k → ¬ (k = cb ∨ MineC bC rb bu rv' gU k) ∧ k < Y.heap.size ∧ Y.heap[k]? = w13.heap[k]?:=by
    refine ⟨hchX.visited (by omega) hvis ho hK (by omega),hci.visit hx hxU hc,fun z hz => (hdo z hz).mono (addN_sub C x) (fun _ _ h => h),addR_mem hall,?_,hNb,hfb,(hbel.trans (hX.mono hbel.size)).trans hbY,by omega,fun t u hu => ⟨(hus t u hu).1,fun h1 h2 => addN_sub C x _ ((hus t u hu).2 h1 h2)⟩,fun k hk => ?_⟩
    · have:=addR_len (C:=C) (rest:=rest) x;omega
    · obtain ⟨h1,h2,h3⟩:=huk k hk
      refine ⟨fun h => h1 (h.imp id fun h => MineC.visited ho (by omega) h),by omega,?_⟩
      refine (hK.block k (by omega) ⟨fun e => h1 (.inr (.inl e)),fun e => h1 (.inr (.inr (.inl e))),fun e => h1 (.inr (.inr (.inr (.inl e))))⟩).trans ((hX.block k h2).trans h3)
  exact ⟨hv,⟨_,_,_,_,_,_,main⟩,_,_,_,_,_,_,main,(mem_addN C x x).2 (.inr rfl)⟩
section
variable {old new : List Mo} {L U : List (ByteArray × Int)} {cb bC rb bu base : Nat} {w8 : World} {j : Nat} {n : ByteArray × Int} {us : List (ByteArray × Int)} {m q : Nat} {uk : Nat → Prop} {w13 wr X : World}
theorem P1.below (h : P1 old new L U cb bC rb bu base w8 j n us m q uk w13 wr) (hX : Below wr.heap.size wr X) : P1 old new L U cb bC rb bu base w8 j n us m q uk w13 X:=by
  obtain ⟨C,rest,f,rv,gU,N,hch,hci,hdo,hall,hle,hNb,hfb,hbel,hbase,hus,huk⟩:=h
  have:=hX.size
  exact ⟨C,rest,f,rv,gU,N,hch.below hX,hci,hdo,hall,hle,hNb,hfb,hbel.trans (hX.mono hbel.size),by omega,hus,fun k hk => ⟨(huk k hk).1,by have:=(huk k hk).2.1;omega,(hX.block k (huk k hk).2.1).trans (huk k hk).2.2⟩⟩
theorem P1.bel (h : P1 old new L U cb bC rb bu base w8 j n us m q uk w13 wr) : Below w8.heap.size w8 wr ∧ base ≤ wr.heap.size ∧ ∀ k,uk k → k < wr.heap.size ∧ wr.heap[k]? = w13.heap[k]?:=by
  obtain ⟨C,rest,f,rv,gU,N,hch,hci,hdo,hall,hle,hNb,hfb,hbel,hbase,hus,huk⟩:=h
  exact ⟨hbel,hbase,fun k hk => (huk k hk).2⟩
def P1o (old new : List Mo) (L U : List (ByteArray × Int)) (cb bC rb bu base : Nat) (w8 : World) (j : Nat) (wr : World) : Prop:=P1 old new L U cb bC rb bu base w8 j (⟨#[]⟩,0) [] 0 0 (fun _ => False) w8 wr
theorem P1o.enter (h : P1o old new L U cb bC rb bu base w8 j wr) (hX : Below wr.heap.size wr X) (n : ByteArray × Int) (us : List (ByteArray × Int)) (uk : Nat → Prop) (huk : ∀ k,uk k → wr.heap.size ≤ k ∧ k < X.heap.size) : P1 old new L U cb bC rb bu base w8 j n us 0 0 uk X X:=by
  obtain ⟨C,rest,f,rv,gU,N,hch,hci,hdo,hall,hle,hNb,hfb,hbel,hbase,_,_⟩:=h
  have:=hX.size
  refine ⟨C,rest,f,rv,gU,N,hch.below hX,hci,hdo,hall,hle,hNb,hfb,hbel.trans (hX.mono hbel.size),by omega,fun t u _ => ⟨fun h => by omega,fun h => by omega⟩,fun k hk => ⟨fun h => ?_,(huk k hk).2,rfl⟩⟩
  have h1:=hch.lt h
  have h2:=(huk k hk).1
  omega
theorem P1.next_bad {x : ByteArray × Int} (hx : L[j]? = some x) (hg : gC old new x = none)
    (h : ∃ C rest f rv gU N,(ChgAt cb bC rb bu base N C rest f rv gU wr ∧ ChI old new L U C rest f ∧ (∀ z ∈ L.take j,DoneN old new C f z) ∧ (∀ x ∈ C,x ∈ rest) ∧ rest.length ≤ C.length ∧ N ≤ j * uB + m ∧ (∀ u,(f u).length ≤ j * uB + m) ∧ Below w8.heap.size w8 wr ∧ base ≤ wr.heap.size ∧
        (∀ t u,us[t]? = some u → (t < m → n ∈ f u) ∧ (t < q → exB old new u = false → u ∈ C)) ∧ ∀ k,uk k → ¬ (k = cb ∨ MineC bC rb bu rv gU k) ∧ k < wr.heap.size ∧ wr.heap[k]? = w13.heap[k]?) ∧ x ∈ C) (hm : m ≤ 400000) : P1o old new L U cb bC rb bu base w8 (j + 1) wr:=by
  obtain ⟨C,rest,f,rv,gU,N,⟨hch,hci,hdo,hall,hle,hNb,hfb,hbel,hbase,hus,huk⟩,hxC⟩:=h
  have e : (j + 1) * uB = j * uB + uB:=Nat.succ_mul j uB
  have eb:=uB_eq
  refine ⟨C,rest,f,rv,gU,N,hch,hci,fun z hz => ?_,hall,hle,(by omega),fun u => (by have:=hfb u;omega),hbel,hbase,fun t u h => (by simp at h),fun k h => h.elim⟩
  obtain ⟨hlt,rfl⟩:=List.getElem?_eq_some_iff.1 hx
  rw [List.take_succ_eq_append_getElem hlt] at hz
  rcases List.mem_append.1 hz with hz | hz
  · exact hdo z hz
  · rw [List.mem_singleton.1 hz]
    exact ⟨fun _ => hxC,fun us hus => by rw [hg] at hus;cases hus⟩
theorem P1.next_good {x : ByteArray × Int} (hx : L[j]? = some x) (hg : gC old new x = some us) (h : P1 old new L U cb bC rb bu base w8 j x us us.length us.length uk w13 wr) (hm : us.length ≤ 400000) : P1o old new L U cb bC rb bu base w8 (j + 1) wr:=by
  obtain ⟨C,rest,f,rv,gU,N,hch,hci,hdo,hall,hle,hNb,hfb,hbel,hbase,hus,huk⟩:=h
  have e : (j + 1) * uB = j * uB + uB:=Nat.succ_mul j uB
  have eb:=uB_eq
  refine ⟨C,rest,f,rv,gU,N,hch,hci,fun z hz => ?_,hall,hle,(by omega),fun u => (by have:=hfb u;omega),hbel,hbase,fun t u h => (by simp at h),fun k h => h.elim⟩
  obtain ⟨hlt,rfl⟩:=List.getElem?_eq_some_iff.1 hx
  rw [List.take_succ_eq_append_getElem hlt] at hz
  rcases List.mem_append.1 hz with hz | hz
  · exact hdo z hz
  · rw [List.mem_singleton.1 hz]
    refine ⟨fun h => (by rw [hg] at h;cases h),fun vs hvs u hu => ?_⟩
    rw [hg] at hvs
    cases hvs
    obtain ⟨t,ht⟩:=List.getElem?_of_mem hu
    have htl:=(List.getElem?_eq_some_iff.1 ht).1
    exact ⟨(hus t u ht).1 htl,(hus t u ht).2 htl⟩
theorem P1.skip {u : ByteArray × Int} (h : P1 old new L U cb bC rb bu base w8 j n us (q + 1) q uk w13 wr) (hu : us[q]? = some u) (he : exB old new u = true) : P1 old new L U cb bC rb bu base w8 j n us (q + 1) (q + 1) uk w13 wr:=by
  obtain ⟨C,rest,f,rv,gU,N,hch,hci,hdo,hall,hle,hNb,hfb,hbel,hbase,hus,huk⟩:=h
  refine ⟨C,rest,f,rv,gU,N,hch,hci,hdo,hall,hle,hNb,hfb,hbel,hbase,fun t v hv => ⟨(hus t v hv).1,fun ht hx => ?_⟩,huk⟩
  by_cases htq : t = q
  · subst htq
    rw [hu] at hv;cases hv
    rw [he] at hx;cases hx
  · exact (hus t v hv).2 (by omega) hx
theorem P1.seen {u : ByteArray × Int} (hu : us[q]? = some u)
    (h : ∃ C rest f rv gU N,(ChgAt cb bC rb bu base N C rest f rv gU wr ∧ ChI old new L U C rest f ∧ (∀ z ∈ L.take j,DoneN old new C f z) ∧ (∀ x ∈ C,x ∈ rest) ∧ rest.length ≤ C.length ∧ N ≤ j * uB + (q + 1) ∧ (∀ u,(f u).length ≤ j * uB + (q + 1)) ∧ Below w8.heap.size w8 wr ∧ base ≤ wr.heap.size ∧
        (∀ t u,us[t]? = some u → (t < q + 1 → n ∈ f u) ∧ (t < q → exB old new u = false → u ∈ C)) ∧ ∀ k,uk k → ¬ (k = cb ∨ MineC bC rb bu rv gU k) ∧ k < wr.heap.size ∧ wr.heap[k]? = w13.heap[k]?) ∧ u ∈ C) : P1 old new L U cb bC rb bu base w8 j n us (q + 1) (q + 1) uk w13 wr:=by
  obtain ⟨C,rest,f,rv,gU,N,⟨hch,hci,hdo,hall,hle,hNb,hfb,hbel,hbase,hus,huk⟩,huC⟩:=h
  refine ⟨C,rest,f,rv,gU,N,hch,hci,hdo,hall,hle,hNb,hfb,hbel,hbase,fun t v hv => ⟨(hus t v hv).1,fun ht hx => ?_⟩,huk⟩
  by_cases htq : t = q
  · subst htq
    rw [hu] at hv;cases hv
    exact huC
  · exact (hus t v hv).2 (by omega) hx
theorem P1.before (h : P1 old new L U cb bC rb bu base w8 j n us q q uk w13 wr) (hN : Nums w8 cb bC rb bu base) (hjq : j * uB + q < 4000000000000) {u : ByteArray × Int} (hu : us[q]? = some u) (huok : NOk u) (hn : n ∈ L) (hg : gC old new n = some us) :
    ∃ gU N k xs,MapA nameK wr bu N gU ∧ N < maxLen ∧ wr.ownsRow base 24 2 (oldV gU u) k (namesC xs) ∧ xs.length = k ∧ k ≤ j * uB + q ∧ (∀ k',(oldV gU u).ownBlock = some k' → base ≤ k' ∧ k' < wr.heap.size) ∧ base ≤ wr.heap.size ∧
      ∀ (Y1 Y2 Y3 Y4 : World) (v3 : Value),Below wr.heap.size wr Y1 → Y1.grownBy Y2 (some bu) → Y3.ownsRow base 24 2 v3 (k + 1) (namesC xs ++ [.string n.1,.int .i64 n.2]) → Y2.grownBy Y3 (oldV gU u).ownBlock → (v3.ownBlock = (oldV gU u).ownBlock ∨ v3.ownBlock = some Y2.heap.size) → MapA nameK Y4 bu (N + 1) (updG gU u v3) → Y3.grownBy Y4 (some bu) →
        P1 old new L U cb bC rb bu base w8 j n us (q + 1) q uk w13 Y4:=by
  obtain ⟨C,rest,f,rv,gU,N,hch,hci,hdo,hall,hle,hNb,hfb,hbel,hbase,hus,huk⟩:=h
  refine ⟨gU,N,(f u).length,f u,hch.map,by unfold maxLen;omega,hch.oldRow huok,rfl,hfb u,fun k' hk => ⟨(hch.oldOff huok hk).2.2.1,(hch.oldOff huok hk).2.2.2⟩,hbase,fun Y1 Y2 Y3 Y4 v3 h1 h2 h3 hg3 hat h4 hg4 => ?_⟩
  obtain ⟨e1,e2,e3,e4,e5⟩:=hN
  obtain ⟨hp1,hp2,hp3⟩:=hch.pushed (n:=n) (by omega) (by omega) (by omega) (by omega) (by omega) (by omega) (by omega) huok h1 h2 h3 hg3 hat h4 hg4
  have hz1:=h1.size
  have hz2:=h2.size
  have hlo : ∀ k,k < w8.heap.size → Y4.heap[k]? = wr.heap[k]?:=fun k hk => hp2 k (by omega) (by omega) (fun e => by have:=(hch.oldOff huok e).2.2.1;omega)
  refine ⟨C,rest,addF f u n,rv,updG gU u v3,N + 1,hp1,hci.addF hn hg (List.mem_of_getElem? hu),fun z hz => (hdo z hz).mono (fun _ h => h) (fun x => addF_sub f u n x),hall,hle,by omega,fun x => ?_,?_,by omega,fun t v hv => ⟨fun ht => ?_,(hus t v hv).2⟩,fun k hk => ?_⟩
  · have:=hfb x
    unfold addF
    split <;> simp <;> omega
  · have hsz:=hbel.size
    have e : Y4.os = wr.os ∧ Y4.tape = wr.tape ∧ Y4.output = wr.output:=⟨hg4.os.trans (hg3.os.trans (h2.os.trans h1.os)),hg4.tape.trans (hg3.tape.trans (h2.tape.trans h1.tape)),hg4.output.trans (hg3.output.trans (h2.output.trans h1.output))⟩
    exact ⟨e.1.trans hbel.os,e.2.1.trans hbel.tape,e.2.2.trans hbel.output,by omega,fun k hk => (hlo k hk).trans (hbel.block k hk)⟩
  · by_cases htq : t = q
    · subst htq
      rw [hu] at hv;cases hv
      unfold addF
      rw [if_pos rfl]
      simp
    · exact addF_sub f u n v n ((hus t v hv).1 (by omega))
  · obtain ⟨k1,k2,k3⟩:=huk k hk
    refine ⟨fun h => k1 (h.imp id fun h => MineC.pushed huok hat (by omega) h),by omega,(hp2 k k2 (fun e => k1 (.inr (.inr (.inr (.inr (.inl e)))))) (fun e => k1 (.inr (hch.oldOff huok e).1))).trans k3⟩
end
def P2 (old new : List Mo) (L U : List (ByteArray × Int)) (cb bC rb bu base : Nat) (w8 : World) (g : Nat) (wr : World) : Prop:=
  ∃ C rest f rv gU N,ChgAt cb bC rb bu base N C rest f rv gU wr ∧ ChI old new L U C rest f ∧ (∀ z ∈ L,DoneN old new C f z) ∧ (∀ x ∈ C,x ∈ rest ∨ ∀ n ∈ f x,n ∈ C) ∧ g = cloM U C rest ∧ cloM U C rest ≤ 1000000 ∧ (∀ u,(f u).length ≤ 4000000000000) ∧ Below w8.heap.size w8 wr ∧ base ≤ wr.heap.size
theorem P1o.fin {old new : List Mo} {L U : List (ByteArray × Int)} {cb bC rb bu base : Nat} {w8 wr : World} (h : P1o old new L U cb bC rb bu base w8 L.length wr) (hL : L.length ≤ 800000) (hU : U.length ≤ 400000) : ∃ g,P2 old new L U cb bC rb bu base w8 g wr:=by
  obtain ⟨C,rest,f,rv,gU,N,hch,hci,hdo,hall,hle,hNb,hfb,hbel,hbase,_,_⟩:=h
  rw [List.take_length] at hdo
  have hcl:=hci.len
  refine ⟨_,C,rest,f,rv,gU,N,hch,hci,hdo,fun x hx => .inl (hall x hx),rfl,by unfold cloM;omega,fun u => ?_,hbel,hbase⟩
  have:=hfb u
  have h2 : L.length * uB ≤ 800000 * 400000:=Nat.mul_le_mul hL (Nat.le_of_eq uB_eq)
  omega
theorem chgAt_pop {cb bC rb bu base N : Nat} {C r : List (ByteArray × Int)} {x : ByteArray × Int} {f : ByteArray × Int → List (ByteArray × Int)} {gU : ByteArray × Int → Option Value} {X : World} {gb cap : Nat} (h : ChgAt cb bC rb bu base N C (r ++ [x]) f (.slice (some ⟨gb,0,none⟩) (r.length + 1) cap) gU X) (hrb : rb < base) (hcr : cb ≠ rb) (hbr : bC ≠ rb) (hur : bu ≠ rb) (o : Obj) :
    ChgAt cb bC rb bu base N C r f (.slice (some ⟨gb,0,none⟩) r.length cap) gU ((X.alloc o).setCell ⟨rb,0,none⟩ (.slice (some ⟨gb,0,none⟩) r.length cap)):=by
  have hrow:=h.vis.row
  simp only [List.length_append,List.length_cons,List.length_nil,Nat.zero_add,namesC_append] at hrow
  have hrow':=own_shrink (m:=r.length) hrow (by omega)
  rw [List.take_left' (namesC_length r)] at hrow'
  have hlt : rb < X.heap.size:=h.lt (.inr (.inr (.inl rfl)))
  have hk : ∀ k,k < X.heap.size → k ≠ rb → ((X.alloc o).setCell ⟨rb,0,none⟩ (.slice (some ⟨gb,0,none⟩) r.length cap)).heap[k]? = X.heap[k]?:=fun k hk hne => (Below.heap_setCell _ _ _ _ (by simpa using hne)).trans (Below.heap_alloc _ _ _ hk)
  have hbx : (X.alloc o).heap[rb]? = some (.cells #[.slice (some ⟨gb,0,none⟩) (r.length + 1) cap] 47 (0,0)):=(Below.heap_alloc _ _ _ hlt).trans h.vis.box
  refine ⟨⟨h.vis.cap.keep (hk cb h.vis.cap.lt.1 hcr) (hk bC h.vis.cap.lt.2 hbr),one_setCell hbx,own_of_blocks hrow' fun k e => ?_⟩,h.map.keep (hk bu h.map.lt hur),fun u v hu hv => own_of_blocks (h.rows u v hu hv) fun k e => ?_,h.none,h.apart,h.off⟩
  · have:=own_block_cells hrow' e
    exact hk k this.2.1 (by omega)
  · have:=own_block_cells (h.rows u v hu hv) e
    exact hk k this.2.1 (by omega)
def P2i (old new : List Mo) (L U : List (ByteArray × Int)) (cb bC rb bu base : Nat) (w8 : World) (g0 : Nat) (x : ByteArray × Int) (f : ByteArray × Int → List (ByteArray × Int)) (gU : ByteArray × Int → Option Value) (q : Nat) (wr : World) : Prop:=
  ∃ C rest rv N,ChgAt cb bC rb bu base N C rest f rv gU wr ∧ ChI old new L U C rest f ∧ (∀ z ∈ L,DoneN old new C f z) ∧ (∀ y ∈ C,y ∈ rest ∨ y = x ∨ ∀ n ∈ f y,n ∈ C) ∧ (∀ n ∈ (f x).take q,n ∈ C) ∧ cloM U C rest + 1 ≤ g0 ∧ g0 ≤ 1000000 ∧ (∀ u,(f u).length ≤ 4000000000000) ∧ Below w8.heap.size w8 wr ∧ base ≤ wr.heap.size ∧ x ∈ C
theorem P2i.leave {old new : List Mo} {L U : List (ByteArray × Int)} {cb bC rb bu base : Nat} {w8 wr : World} {g0 : Nat} {x : ByteArray × Int} {f : ByteArray × Int → List (ByteArray × Int)} {gU : ByteArray × Int → Option Value} (h : P2i old new L U cb bC rb bu base w8 g0 x f gU (f x).length wr) : ∃ g,P2 old new L U cb bC rb bu base w8 g wr ∧ g < g0:=by
  obtain ⟨C,rest,rv,N,hch,hci,hdo,hcl,htk,hg,hg0,hfb,hbel,hbase,hx⟩:=h
  rw [List.take_length] at htk
  exact ⟨_,⟨C,rest,f,rv,gU,N,hch,hci,hdo,fun y hy => (hcl y hy).imp id (fun h => h.elim (fun e => by rw [e];exact htk) id),rfl,by omega,hfb,hbel,hbase⟩,by omega⟩
theorem P2i.row {old new : List Mo} {L U : List (ByteArray × Int)} {cb bC rb bu base : Nat} {w8 wr : World} {g0 : Nat} {x : ByteArray × Int} {f : ByteArray × Int → List (ByteArray × Int)} {gU : ByteArray × Int → Option Value} {q : Nat} (h : P2i old new L U cb bC rb bu base w8 g0 x f gU q wr) : wr.ownsRow base 24 2 (oldV gU x) (f x).length (namesC (f x)) ∧ Below w8.heap.size w8 wr ∧ base ≤ wr.heap.size:=by
  obtain ⟨C,rest,rv,N,hch,hci,hdo,hcl,htk,hg,hg0,hfb,hbel,hbase,hx⟩:=h
  exact ⟨hch.oldRow (hci.sub x hx).1,hbel,hbase⟩
theorem P2i.visit {old new : List Mo} {L U : List (ByteArray × Int)} {cb bC rb bu base : Nat} {w8 wr X : World} {g0 : Nat} {x : ByteArray × Int} {f : ByteArray × Int → List (ByteArray × Int)} {gU : ByteArray × Int → Option Value} {q : Nat} (hN : Nums w8 cb bC rb bu base) (h : P2i old new L U cb bC rb bu base w8 g0 x f gU q wr) (hX : Below wr.heap.size wr X) (hU : U.length ≤ 400000) (hLU : ∀ n ∈ L,n ∈ U ∧ NOk n) {n : ByteArray × Int} (hn : (f x)[q]? = some n) :
    Calls Tryz.prog 49 #[.agg #[.string n.1,.int .i64 n.2],.pointer (some ⟨cb,0,none⟩),.pointer (some ⟨rb,0,none⟩)] X fun e Y => (∃ v,e = .returned v) ∧ P2i old new L U cb bC rb bu base w8 g0 x f gU (q + 1) Y:=by
  obtain ⟨C,rest,rv,N,hch,hci,hdo,hcl,htk,hg,hg0,hfb,hbel,hbase,hx⟩:=h
  obtain ⟨e1,e2,e3,e4,e5⟩:=hN
  have hlen:=hci.len
  have hchX:=hch.below hX
  obtain ⟨hnL,us,hus,hxu⟩:=hci.fs x n (List.mem_of_getElem? hn)
  have hnok:=(hLU n hnL).2
  have hclo : Clo (gC old new) n none:=clo_none_step hus hxu (hci.sub x hx).2.2
  have hrl : rest.length ≤ 1000000:=by unfold cloM at hg;omega
  refine (dChanged1_any n hnok cb bC rb base C rest rv X hchX.vis (by omega) (by omega) (by omega) (by have:=hX.size;omega) hrl (by omega)).mono ?_
  rintro e Y ⟨hv,rv',hvis,ho,hK⟩
  have hzX:=hX.size
  have hzY:=hK.size
  have hbY : Below w8.heap.size X Y:=keeps_below hK (by omega) (by omega) (by omega) hchX.vis.row (by omega)
  have hci':=hci.visit hnok (hLU n hnL).1 hclo
  refine ⟨hv,addN C n,addR C rest n,rv',N,hchX.visited (by omega) hvis ho hK (by omega),hci',fun z hz => (hdo z hz).mono (addN_sub C n) (fun _ _ h => h),fun y hy => ?_,fun z hz => ?_,?_,hg0,hfb,(hbel.trans (hX.mono hbel.size)).trans hbY,by omega,addN_sub C n x hx⟩
  · by_cases hyC : y ∈ C
    · rcases hcl y hyC with h | h | h
      · exact .inl (addR_sub C rest n y h)
      · exact .inr (.inl h)
      · exact .inr (.inr fun z hz => addN_sub C n z (h z hz))
    · rcases (mem_addN C n y).1 hy with h | rfl
      · exact absurd h hyC
      · refine .inl ?_
        unfold addR
        rw [if_neg (fun h => hyC (memN_iff.1 h))]
        simp
  · obtain ⟨hlt,he⟩:=List.getElem?_eq_some_iff.1 hn
    rw [List.take_succ_eq_append_getElem hlt,he] at hz
    rcases List.mem_append.1 hz with hz | hz
    · exact addN_sub C n z (htk z hz)
    · rw [List.mem_singleton.1 hz];exact (mem_addN C n n).2 (.inr rfl)
  · have h1:=addR_len (C:=C) (rest:=rest) n
    have h2:=hci'.len
    have h3 : C.length ≤ (addN C n).length:=by unfold addN;split <;> simp
    unfold cloM at hg ⊢
    omega
end Go.Proofs.YtnfndgmlnoeelaaGreatDoor
/- depend.Changed -/
namespace Go.Proofs.YtnfndgmlnoeelaaGreatDoor
open Go.RowKit Go.Proofs Go.Shelf
def exJ (old new : List Mo) (j : Nat) (n : ByteArray × Int) : Bool:=(decide (0 < j) && (bodyOf old n).isSome) || (decide (1 < j) && (bodyOf new n).isSome)
def exG (old new : List Mo) (j : Nat) (ss : List (ByteArray × Int)) (n : ByteArray × Int) : Option Value:=if (exJ old new j n || memN ss n) = true then some (.bool true) else none
theorem exG_add (old new : List Mo) (j : Nat) (ss : List (ByteArray × Int)) (u : ByteArray × Int) : (fun x => if x = u then some (.bool true) else exG old new j ss x) = exG old new j (ss ++ [u]):=by
  funext x
  unfold exG memN
  by_cases h : x = u
  · subst h;simp
  · have h2 : ∀ i : Decidable (u = x),@decide (u = x) i = false:=fun i => decide_eq_false (Ne.symm h)
    rw [if_neg h,List.any_append]
    simp only [List.any_cons,List.any_nil,h2,Bool.or_false]
def ChangedP (old new : List Mo) (w : World) (e : Ending) (w' : World) : Prop:=
  ∃ v R,e = .returned v ∧ w'.ownsRow w.heap.size 24 2 v R.length (namesC R) ∧ Below w.heap.size w w' ∧ R.Pairwise ltN ∧ (∀ n ∈ R,NOk n) ∧ R.length ≤ 800000 ∧ ∀ n,NOk n → (n ∈ R ↔ exB old new n = true ∧ (chkL old = 0 → chkL new = 0 → Clo (gC old new) n none))
def bodyG (l : List Mo) (n : ByteArray × Int) : Option Value:=(bodyOf l n).map bodyV
theorem bodyG_some (l : List Mo) (n : ByteArray × Int) : (bodyG l n).isSome = (bodyOf l n).isSome:=by simp [bodyG]
theorem exG_some (old new : List Mo) (n : ByteArray × Int) : (exG old new 2 [] n).isSome = true ↔ exB old new n = true:=by
  unfold exG exJ exB memN
  simp
theorem exKeys_len {old new : List Mo} {ss : List (ByteArray × Int)} (h : KeysIn (exG old new 2 []) ss) : ss.length ≤ totD old + totD new:=by
  have h1:=nodup_len ss (allN old ++ allN new) h.1 fun x hx => by
    have:=(exG_some old new x).1 ((h.2.2 x (h.2.1 x hx)).2 hx)
    unfold exB at this
    rcases Bool.or_eq_true_iff.1 this with h | h
    · exact List.mem_append_left _ (mem_allN h)
    · exact List.mem_append_right _ (mem_allN h)
  rwa [List.length_append,allN_len,allN_len] at h1
theorem lookE {l : List Mo} {X : World} {b N : Nat} (h : MapA nameK X b N (bodyG l)) {n : ByteArray × Int} (hn : NOk n) : ∃ (y0 : Dc) (q : Bool),
    (Instr.lookup 68 (.map (some b)) (.agg #[.string n.1,.int .i64 n.2]) true).run Tryz.prog X = .ok (.tuple #[.agg #[.int .i64 y0.k,.string y0.n,.string y0.m,.int .i64 y0.i,.int .i64 y0.d,.slice y0.A y0.s.len y0.c],.bool q]) X ∧ q = (bodyOf l n).isSome ∧ ∀ y,bodyOf l n = some y → y0 = y:=by
  have hlk:=h.look true Tryz.underlying68 (zeroE_run X) (a:=n) hn
  simp only [if_true] at hlk
  cases hb : bodyOf l n with
  | none =>
    have hg : bodyG l n = none:=by unfold bodyG;rw [hb];rfl
    rw [hg] at hlk
    exact ⟨zeroDc,false,hlk,rfl,fun y h => by cases h⟩
  | some y =>
    have hg : bodyG l n = some (bodyV y):=by unfold bodyG;rw [hb];rfl
    rw [hg] at hlk
    exact ⟨y,true,hlk,rfl,fun y' h => by cases h;rfl⟩
theorem zeroE_ex (w : World) : ∃ z,(zeroValue 60).run Tryz.prog w = .ok z w:=⟨_,zeroE_run w⟩
set_option maxRecDepth 100000 in
set_option maxHeartbeats 8000000 in
theorem dChanged_any (old new : List Mo) (A : Option Addr) (c : Nat) (A' : Option Addr) (c' : Nat) (w : World) (ho : SlM w w.heap.size A c old) (hn : SlM w w.heap.size A' c' new) (hwo : MoW old) (hwn : MoW new) (hto : totD old ≤ 400000) (htn : totD new ≤ 400000) (hlo : old.length ≤ 1000) (hln : new.length ≤ 1000)
    (hU : ∀ L : List (ByteArray × Int),(∀ n ∈ L,NOk n ∧ exB old new n = true) → L.Nodup → chkL old = 0 → chkL new = 0 → ∃ U,UC old L U) :
    Calls Tryz.prog 20 #[.slice A old.length c,.slice A' new.length c'] w (ChangedP old new w):=by
  have hmm:=@run_makeMap Tryz.prog
  obtain ⟨i0,hi,hz0',hz1',hz2'⟩:=info_parts Tryz.infoName
  have HB1:=Lib.hid (dBodies_any old A c w ho hwo (by omega) hlo)
  obtain ⟨NO,HNO⟩ : ∃ Q,Hid (old.length = Q):=⟨_,Lib.hid rfl⟩
  obtain ⟨NN,HNN⟩ : ∃ Q,Hid (new.length = Q):=⟨_,Lib.hid rfl⟩
  have HX:=Lib.hid (And.intro ho (And.intro hn (And.intro hwo (And.intro hwn (And.intro hU (And.intro hto (And.intro htn (And.intro hlo hln))))))))
  rw [HNO.out] at HB1
  rw [HNO.out,HNN.out]
  clear ho hn hwo hwn hto htn hlo hln hU
  go_enter Tryz.func20,Tryz.ntmps20
  go_wp2_with fail
  refine HB1.out.mono ?_
  rintro e w1 ⟨bA,rfl,hbA,hmA,hb1⟩
  have HA:=Lib.hid (And.intro hmA hb1)
  have HB2:=Lib.hid (dBodies_any new A' c' w1 (HX.out.2.1.keep hb1.size fun p hp => hb1.cell hp) HX.out.2.2.2.1 (by have:=HX.out.2.2.2.2.2.2.1;omega) HX.out.2.2.2.2.2.2.2.2)
  rw [HNN.out] at HB2
  have hzA:=hmA.lt
  clear hmA hb1
  go_wp2_with fail
  refine HB2.out.mono ?_
  rintro e w2 ⟨bB,rfl,hbB,hmB,hb2⟩
  have hz2:=hb2.size
  have hzB:=hmB.lt
  have HBM:=Lib.hid (And.intro (HA.out.1.keep (hb2.block _ hzA)) (And.intro hmB (HA.out.2.trans (hb2.mono HA.out.2.size))))
  have hzw:=HBM.out.2.2.size
  clear hmB hb2
  go_wp2
  obtain ⟨W3,hW3⟩ : ∃ W3,(w2.alloc (.map #[] 0)).alloc (.cells #[.map (some bA),.map (some bB)] 68) = W3:=⟨_,rfl⟩
  have hz3 : W3.heap.size = w2.heap.size + 1 + 1:=by subst hW3;simp
  have hb3 : Below w2.heap.size w2 W3:=by subst hW3;exact ((Below.refl _ _).alloc (Nat.le_refl _) _).alloc (by simp) _
  have hx3 : W3.heap[w2.heap.size + 1]? = some (.cells #[.map (some bA),.map (some bB)] 68 (0,0)):=by
    subst hW3
    have:=World.alloc_heap_new (w2.alloc (.map #[] 0)) (.cells #[.map (some bA),.map (some bB)] 68)
    simpa using this
  have hm3 : MapA nameK W3 w2.heap.size 0 (fun _ => none):=by
    subst hW3
    exact (MapA.made nameK w2).keep (Below.heap_alloc _ _ _ (by simp))
  have H3:=Lib.hid (And.intro hb3 (And.intro hx3 hm3))
  clear hb3 hx3 hm3
  go_loopg [9,10,36] 2 (fun g _ _ ct wr => ∃ (j N : Nat),g = 2 - j ∧ j ≤ 2 ∧ ct = .int .i64 j ∧ MapA nameK wr w2.heap.size N (exG old new j []) ∧ N ≤ j * 400000 ∧ Below w2.heap.size w2 wr ∧ w2.heap.size + 1 < wr.heap.size ∧ wr.heap[w2.heap.size + 1]? = some (.cells #[.map (some bA),.map (some bB)] 68 (0,0)))
  case atStart =>
    rw [hW3]
    refine ⟨0,0,rfl,by omega,rfl,H3.out.2.2.cong fun n _ => ?_,by omega,H3.out.1,by omega,H3.out.2.1⟩
    simp [exG,exJ,memN]
  case round =>
    obtain ⟨j,N,HG,hj,rfl,hm,hN,hB,hz,hx⟩:=hrel
    by_cases hlt : j < 2
    · obtain ⟨lx,bx,hcx,hmx,hexx,hbx⟩ : ∃ (lx : List Mo) (bx : Nat),wr.cell? ⟨w2.heap.size + 1,j,none⟩ = some (.map (some bx)) ∧ MapA nameK wr bx 400000 (bodyG lx) ∧ (∀ n,exJ old new (j + 1) n = (exJ old new j n || (bodyOf lx n).isSome)) ∧ bx < w2.heap.size:=by
        rcases (show j = 0 ∨ j = 1 by omega) with h | h
        · refine ⟨old,bA,?_,(HBM.out.1.keep (hB.block _ (by omega))).mono HX.out.2.2.2.2.2.1,fun n => by subst h;simp [exJ],by omega⟩
          rw [h];exact (cell_of_row wr _ 0 _ _ (0,0) hx)
        · refine ⟨new,bB,?_,(HBM.out.2.1.keep (hB.block _ hzB)).mono HX.out.2.2.2.2.2.2.1,fun n => by subst h;simp [exJ],hzB⟩
          rw [h];exact (cell_of_row wr _ 1 _ _ (0,0) hx)
      have HT:=Lib.hid (And.intro HG (And.intro hm (And.intro hN (And.intro hB (And.intro hx (And.intro hmx hexx))))))
      have hzr:=hB.size
      have hj2 : (j : Int) < 2:=by omega
      clear HG hm hN hB hx hmx hexx
      obtain ⟨wo,rfl⟩ : ∃ wo : World,wo = wr:=⟨_,rfl⟩
      go_wp2_with (first
        | (at_range;refine wpList_rngStart _ rfl _ 68 rfl nameK 60 Tryz.underlying68 (zeroE_ex _) bx 400000 _ rfl HT.out.2.2.2.2.2.1 ?_;intro w4 cnt hrg hg4 hs4)
        | go_in)
      go_frame
      have H4:=Lib.hid (And.intro hrg hg4)
      have hz4 : wo.heap.size < w4.heap.size:=by omega
      clear hrg hg4 hs4
      go_loopg [10] cnt (fun g _ wq => ∃ (ss : List (ByteArray × Int)) (N' : Nat),Rng nameK wq bx wo.heap.size 400000 (bodyG lx) ss g ∧ MapA nameK wq w2.heap.size N' (exG old new j ss) ∧ N' ≤ j * 400000 + ss.length ∧ Below w2.heap.size w2 wq ∧ wo.heap.size < wq.heap.size ∧ wq.heap[w2.heap.size + 1]? = some (.cells #[.map (some bA),.map (some bB)] 68 (0,0)))
      case atStart =>
        have hk : ∀ k,k < wo.heap.size → w4.heap[k]? = wo.heap[k]?:=fun k hk => H4.out.2.block k hk (by simp)
        exact ⟨[],N,H4.out.1,HT.out.2.1.keep (hk _ (by omega)),by simpa using HT.out.2.2.1,HT.out.2.2.2.1.grown H4.out.2 hzr (fun q e => by cases e),hz4,(hk _ hz).trans HT.out.2.2.2.2.1⟩
      case round =>
        obtain ⟨ss,N',hrg,hm,hN,hB,hzq,hx⟩:=hrel
        have HR:=Lib.hid (And.intro hrg (And.intro hm (And.intro hN (And.intro hB hx))))
        have hle:=hrg.le
        clear hrg hm hN hB hx
        go_wp2_with (first
          | (at_next;refine wpList_rngNext _ rfl _ rfl nameK bx wo.heap.size 400000 _ ss gk rfl HR.out.1 ?_ ?_)
          | go_in)
        · intro hc0 hl0
          have HL:=Lib.hid hl0
          clear hl0 hc0
          go_wp2
          go_roundg (2 - (j + 1))
          case measure => rw [HT.out.1];omega
          case rel =>
            refine ⟨j + 1,N',rfl,by omega,by go_num,HR.out.2.1.cong fun n hn => ?_,by have:=HR.out.2.2.1;omega,HR.out.2.2.2.1,by omega,HR.out.2.2.2.2⟩
            have h1:=HL.out n.1 n.2 hn
            unfold exG
            rw [HT.out.2.2.2.2.2.2 n]
            have h2 : memN ss n = (bodyOf lx n).isSome:=by
              rw [Bool.eq_iff_iff,memN_iff]
              rw [bodyG_some] at h1
              exact h1.symm
            rw [h2]
            simp [memN]
        · intro xa xi v w5 cnt5 hok hgx hxn hrg5 hlt5 hg5 hs5 hen
          have hbr:=isWalk_of HR.out.1
          have hk5 : ∀ k,k < wr.heap.size → k ≠ wo.heap.size → w5.heap[k]? = wr.heap[k]?:=fun k hk hne => hg5.block k hk (fun e => hne (by cases e;rfl))
          have hm5:=HR.out.2.1.keep (hk5 w2.heap.size (by omega) (by omega))
          have q0 : (w5.alloc (.cells #[.string xa,.int .i64 xi] 24)).cell? ⟨w5.heap.size,0,none⟩ = some (.string xa):=by go_simp
          have H5:=Lib.hid (And.intro hrg5 (And.intro hm5 (And.intro hlt5 (And.intro hk5 (And.intro hok hg5)))))
          have hz5 : w5.heap.size = wr.heap.size:=hs5
          change Sem.run Tryz.prog (Instr.entry _) w5 = .ok (.tuple #[.agg #[.string xa,.int .i64 xi],v]) w5 at hen
          have hNb : N' < maxLen:=by have:=HR.out.2.2.1;unfold maxLen;omega
          clear hrg5 hm5 hlt5 hk5 hok hg5 hgx hxn hs5 q0
          go_wp2_with (at_mapUpdate;refine wpList_mapPut _ rfl _ _ _ 114 (.inl rfl) nameK 4 Tryz.underlying114 w2.heap.size N' _ rfl (H5.out.2.1.keep (Below.heap_alloc _ _ _ (by omega))) hNb (xa,xi) H5.out.2.2.2.2.1 rfl (.bool true) rfl ?_;intro w6 hm6 hg6)
          go_roundg cnt5
          case measure => exact H5.out.2.2.1
          case rel =>
            have hz6:=hg6.size
            simp at hz6
            have hk6 : ∀ k,k < wr.heap.size → k ≠ w2.heap.size → w6.heap[k]? = w5.heap[k]?:=fun k hk hne => (hg6.block k (by simp;omega) (fun e => hne (by cases e;rfl))).trans (Below.heap_alloc _ _ _ (by omega))
            refine ⟨ss ++ [(xa,xi)],N' + 1,H5.out.1.keep (hk6 _ (by omega) (by omega)) (hk6 _ (by omega) (by omega)),?_,?_,?_,by omega,?_⟩
            · rw [← exG_add];exact hm6
            · rw [List.length_append,List.length_singleton];have:=HR.out.2.2.1;omega
            · exact ((HR.out.2.2.2.1.grown H5.out.2.2.2.2.2 (by omega) (fun q e => by cases e;omega)).alloc (by omega) _).grown hg6 (by simp;omega) (fun q e => by cases e;exact Nat.le_refl _)
            · exact (hk6 _ (by omega) (by omega)).trans ((H5.out.2.2.2.1 _ (by omega) (by omega)).trans HR.out.2.2.2.2)
    · obtain rfl : j = 2:=by omega
      have hto:=HX.out.2.2.2.2.2.1
      have htn:=HX.out.2.2.2.2.2.2.1
      have hzr:=hB.size
      have hSK:=sortedKeys_any w2.heap.size N wr.heap.size (exG old new 2 []) (wr.alloc (.cells #[.map (some w2.heap.size)] 114)) (by simp) (by go_simp) (hm.keep (Below.heap_alloc _ _ _ (by omega))) (by omega) (fun ss hss => by have:=exKeys_len hss;omega)
      have HSK:=Lib.hid hSK
      have HT:=Lib.hid (And.intro hm (And.intro (HBM.out.2.2.trans (hB.mono hzw)) hB))
      clear hm hB hx HG hN hSK
      go_wp2_with fail
      refine (mapsKeysN_any _ _).mono ?_
      rintro e w5 ⟨rfl,rfl⟩
      go_wp2_with fail
      refine HSK.out.mono ?_
      rintro e w6 ⟨v,ss,rfl,hss,hown6,hb6⟩
      have hsl : ss.length ≤ 800000:=by have:=exKeys_len hss;omega
      obtain ⟨L,HL⟩ : ∃ L,Hid (sortNames ss = L):=⟨_,Lib.hid rfl⟩
      have hLl : L.length = ss.length:=by rw [← HL.out];simp [sortNames]
      have hL1 : L.Pairwise ltN:=by rw [← HL.out];exact sorted_of_nodup hss.1
      have hL2 : ∀ n,n ∈ L ↔ n ∈ ss:=fun n => by rw [← HL.out];exact List.mem_mergeSort
      have hL3 : ∀ n ∈ L,NOk n:=fun n hn => hss.2.1 n ((hL2 n).1 hn)
      have hL4 : ∀ n,NOk n → (n ∈ L ↔ exB old new n = true):=fun n hn => by rw [hL2,← hss.2.2 n hn,exG_some]
      rw [HL.out,← hLl] at hown6
      rw [← hLl] at hsl
      simp only [World.size_alloc] at hown6 hb6
      have HLL:=Lib.hid (And.intro hL1 (And.intro hL3 hL4))
      have hb6':=hb6.mono (show wr.heap.size ≤ wr.heap.size + 1 by omega)
      have hbw6 : Below w.heap.size w w6:=(HT.out.2.1.alloc (by omega) _).trans (hb6.mono (by omega))
      have hk6 : ∀ k,k < wr.heap.size → w6.heap[k]? = wr.heap[k]?:=fun k hk => (hb6.block k (by omega)).trans (Below.heap_alloc _ _ _ hk)
      have hz6:=hb6.size
      simp at hz6
      have H6:=Lib.hid (And.intro hown6 (And.intro hbw6 hk6))
      have HCO:=Lib.hid (dCheck_any old A c w6 (HX.out.1.keep hbw6.size fun p hp => hbw6.cell hp))
      obtain ⟨LN,HLN⟩ : ∃ Q,Hid (L.length = Q):=⟨_,Lib.hid rfl⟩
      obtain ⟨LA,lc,rfl⟩:=own_formN hown6
      obtain ⟨CO,HCo⟩ : ∃ Q,Hid (chkL old = Q):=⟨_,Lib.hid rfl⟩
      obtain ⟨CN,HCn⟩ : ∃ Q,Hid (chkL new = Q):=⟨_,Lib.hid rfl⟩
      rw [HNO.out,HCo.out] at HCO
      rw [HLN.out] at hsl ⊢
      clear hss hown6 hb6 hb6' hbw6 hk6 hLl hL1 hL2 hL3 hL4 HSK
      have HEND:=Lib.hid (show ∀ w7,Below w6.heap.size w6 w7 → (CO ≠ 0 ∨ CN ≠ 0) → ChangedP old new w (.returned (.slice LA LN lc)) w7 from fun w7 hb7 hne => by
        refine ⟨_,L,rfl,?_,H6.out.2.1.trans (hb7.mono H6.out.2.1.size),HLL.out.1,HLL.out.2.1,by rw [HLN.out];exact hsl,fun n hn => ?_⟩
        · rw [← HLN.out]
          exact World.ownsRow.mono (own_of_blocks H6.out.1 fun k hk => hb7.block k (own_block_cells H6.out.1 hk).2.1) (by omega)
        · rw [HLL.out.2.2 n hn]
          refine ⟨fun h => ⟨h,fun h1 h2 => ?_⟩,fun h => h.1⟩
          rw [HCo.out] at h1
          rw [HCn.out] at h2
          rcases hne with h | h
          · exact absurd h1 h
          · exact absurd h2 h)
      by_cases hco : CO = 0
      · have HCN:=Lib.hid (fun w7 (hb7 : Below w6.heap.size w6 w7) => dCheck_any new A' c' w7 (HX.out.2.1.keep (H6.out.2.1.trans (hb7.mono H6.out.2.1.size)).size fun p hp => (H6.out.2.1.trans (hb7.mono H6.out.2.1.size)).cell hp))
        subst hco
        go_wp2_with fail
        refine HCO.out.mono ?_
        rintro e w7 ⟨rfl,hb7⟩
        have hCN:=HCN.out w7 hb7
        rw [HNN.out,HCn.out] at hCN
        have HCN2:=Lib.hid hCN
        have H7:=Lib.hid hb7
        have hz7:=hb7.size
        clear hCN hb7
        by_cases hcn : CN = 0
        · subst hcn
          go_wp2_with fail
          refine HCN2.out.mono ?_
          rintro e w8 ⟨rfl,hb8⟩
          have H8:=Lib.hid (And.intro (H6.out.2.1.trans ((H7.out.trans (hb8.mono hz7)).mono H6.out.2.1.size)) (fun k (hk : k < w6.heap.size) => (hb8.block k (by omega)).trans (H7.out.block k hk)))
          have hz8:=hb8.size
          clear hb8 HEND
          go_wp2
          obtain ⟨U,hU⟩:=HX.out.2.2.2.2.1 L (fun n hn => ⟨HLL.out.2.1 n hn,(HLL.out.2.2 n (HLL.out.2.1 n hn)).1 hn⟩) (ltN_nodup HLL.out.1) HCo.out HCn.out
          obtain ⟨W9,hW9⟩ : ∃ W9,(((w8.alloc (.map #[] 0)).alloc (.map #[] 0)).alloc (.cells #[.map (some (w8.heap.size + 1))] 114)).alloc (.cells #[.slice none 0 0] 47) = W9:=⟨_,rfl⟩
          have hNum : Nums w8 (w8.heap.size + 2) (w8.heap.size + 1) (w8.heap.size + 3) w8.heap.size (w8.heap.size + 4):=⟨rfl,rfl,rfl,rfl,rfl⟩
          have hz9 : W9.heap.size = w8.heap.size + 4:=by subst hW9;simp
          have hb9 : Below w8.heap.size w8 W9:=by subst hW9;exact ((((Below.refl _ _).alloc (Nat.le_refl _) _).alloc (by simp) _).alloc (by simp;omega) _).alloc (by simp;omega) _
          have hmu9 : MapA nameK W9 w8.heap.size 0 (fun _ => none):=by
            subst hW9
            exact (MapA.made nameK w8).keep ((Below.heap_alloc _ _ _ (by simp;omega)).trans ((Below.heap_alloc _ _ _ (by simp;omega)).trans (Below.heap_alloc _ _ _ (by simp))))
          have hms9 : MapA nameK W9 (w8.heap.size + 1) 0 (fun _ => none):=by
            have:=MapA.made nameK (w8.alloc (.map #[] 0))
            simp only [World.size_alloc] at this
            subst hW9
            exact this.keep ((Below.heap_alloc _ _ _ (by simp)).trans (Below.heap_alloc _ _ _ (by simp)))
          have hc9 : W9.heap[w8.heap.size + 2]? = some (.cells #[.map (some (w8.heap.size + 1))] 114 (0,0)):=by
            subst hW9
            refine (Below.heap_alloc _ _ _ (by simp)).trans ?_
            have:=World.alloc_heap_new ((w8.alloc (.map #[] 0)).alloc (.map #[] 0)) (.cells #[.map (some (w8.heap.size + 1))] 114)
            simpa using this
          have hr9 : W9.heap[w8.heap.size + 3]? = some (.cells #[.slice none 0 0] 47 (0,0)):=by
            subst hW9
            have:=World.alloc_heap_new (((w8.alloc (.map #[] 0)).alloc (.map #[] 0)).alloc (.cells #[.map (some (w8.heap.size + 1))] 114)) (.cells #[.slice none 0 0] 47)
            simpa using this
          have hP0 : P1o old new L U (w8.heap.size + 2) (w8.heap.size + 1) (w8.heap.size + 3) w8.heap.size (w8.heap.size + 4) w8 0 W9:=by
            refine ⟨[],[],fun _ => [],.slice none 0 0,fun _ => none,0,⟨⟨⟨hc9,hms9.cong fun _ _ => rfl⟩,hr9,World.ownsRow_nil _ _ _ _⟩,hmu9,fun _ _ _ h => (by cases h),fun _ _ _ => rfl,fun _ _ _ _ _ _ _ h => (by cases h),fun _ _ _ _ h => (by cases h)⟩,⟨List.nodup_nil,by simp,by simp,by simp⟩,by simp,by simp,by simp,by omega,by simp,hb9,by omega,fun t u h => by simp at h,fun _ h => h.elim⟩
          have HP:=Lib.hid (And.intro hP0 (And.intro hNum hU))
          have HZ9:=Lib.hid hz9
          clear hb9 hmu9 hms9 hc9 hr9 hP0 hNum hU hz9
          have hmO : MapA nameK w8 bA (totD old) (bodyG old):=HBM.out.1.keep ((H8.out.2 bA (by omega)).trans ((H6.out.2.2 bA (by omega)).trans (HT.out.2.2.block bA (by omega))))
          have hmN : MapA nameK w8 bB (totD new) (bodyG new):=HBM.out.2.1.keep ((H8.out.2 bB (by omega)).trans ((H6.out.2.2 bB (by omega)).trans (HT.out.2.2.block bB hzB)))
          have hmE : MapA nameK w8 w2.heap.size N (exG old new 2 []):=HT.out.1.keep ((H8.out.2 _ (by omega)).trans (H6.out.2.2 _ (by omega)))
          have hrow8 : w8.ownsRow (wr.heap.size + 1) 24 2 (.slice LA LN lc) LN (namesC L):=by
            rw [← HLN.out]
            exact own_of_blocks H6.out.1 fun k hk => H8.out.2 k (own_block_cells H6.out.1 hk).2.1
          have HM8:=Lib.hid (And.intro hmO (And.intro hmN (And.intro hmE hrow8)))
          clear hmO hmN hmE hrow8
          obtain ⟨wp,rfl⟩ : ∃ wp : World,wp = wr:=⟨_,rfl⟩
          go_loopg [17,18,19,20,21,23,66] LN (fun g _ _ _ _ _ _ ct wr => ∃ j : Nat,g = LN - j ∧ j ≤ LN ∧ ct = .int .i64 j ∧ P1o old new L U (w8.heap.size + 2) (w8.heap.size + 1) (w8.heap.size + 3) w8.heap.size (w8.heap.size + 4) w8 j wr)
          case atStart => rw [hW9];exact ⟨0,rfl,by omega,rfl,HP.out.1⟩
          case round =>
            obtain ⟨j,HG,hj,rfl,hP⟩:=hrel
            by_cases hlt : j < LN
            · have hlt' : j < L.length:=by rw [HLN.out];exact hlt
              obtain ⟨n,hn⟩ : ∃ n,L[j]? = some n:=⟨_,List.getElem?_eq_getElem hlt'⟩
              obtain ⟨hbel,hbas,_⟩:=P1.bel hP
              obtain ⟨gL,cL,hform,hcl1,hcl2⟩:=own_pos2 HM8.out.2.2.2 (by omega)
              simp only [Value.slice.injEq,true_and] at hform
              obtain ⟨rfl,rfl⟩:=hform
              obtain ⟨n0,n1⟩:=namesC_at n L j hn
              have hgl:=(HM8.out.2.2.2.lt gL rfl).2
              have c0 : wr.cell? ⟨gL,j * 2,none⟩ = some (.string n.1):=(hbel.cell (p:=⟨gL,j * 2,none⟩) hgl).trans ((HM8.out.2.2.2.cellAt _ (by omega)).trans n0)
              have c1 : wr.cell? ⟨gL,j * 2 + 1,none⟩ = some (.int .i64 n.2):=(hbel.cell (p:=⟨gL,j * 2 + 1,none⟩) hgl).trans ((HM8.out.2.2.2.cellAt _ (by omega)).trans n1)
              have hnL:=List.mem_of_getElem? hn
              have hnok:=HLL.out.2.1 n hnL
              have hzr:=hbel.size
              obtain ⟨W10,hW10⟩ : ∃ W10,wr.alloc (.cells #[.string n.1,.int .i64 n.2] 24) = W10:=⟨_,rfl⟩
              have hz10 : W10.heap.size = wr.heap.size + 1:=by subst hW10;simp
              have hb10 : Below wr.heap.size wr W10:=by subst hW10;exact (Below.refl _ _).alloc (Nat.le_refl _) _
              have p0 : W10.cell? ⟨wr.heap.size,0,none⟩ = some (.string n.1):=by subst hW10;go_simp
              have p1 : W10.cell? ⟨wr.heap.size,1,none⟩ = some (.int .i64 n.2):=by subst hW10;go_simp
              have hw10:=hbel.trans (hb10.mono hzr)
              obtain ⟨x,bo,hlo,hbo,hxo⟩:=lookE (HM8.out.1.keep (hw10.block bA (by omega))) hnok
              obtain ⟨W11,hW11⟩ : ∃ W11,W10.alloc (.cells #[.int .i64 x.k,.string x.n,.string x.m,.int .i64 x.i,.int .i64 x.d,.slice x.A x.s.len x.c] 60) = W11:=⟨_,rfl⟩
              have hz11 : W11.heap.size = wr.heap.size + 1 + 1:=by subst hW11;simp [hz10]
              have hb11 : Below wr.heap.size wr W11:=by subst hW11;exact hb10.alloc (by omega) _
              have r0 : W11.cell? ⟨wr.heap.size,0,none⟩ = some (.string n.1):=by subst hW11;exact (World.cell?_alloc_lt _ _ ⟨wr.heap.size,0,none⟩ (by simp;omega)).trans p0
              have r1 : W11.cell? ⟨wr.heap.size,1,none⟩ = some (.int .i64 n.2):=by subst hW11;exact (World.cell?_alloc_lt _ _ ⟨wr.heap.size,1,none⟩ (by simp;omega)).trans p1
              have hw11:=hbel.trans (hb11.mono hzr)
              obtain ⟨y,bn,hln,hbn,hyn⟩:=lookE (HM8.out.2.1.keep (hw11.block bB (by omega))) hnok
              obtain ⟨W12,hW12⟩ : ∃ W12,W11.alloc (.cells #[.int .i64 y.k,.string y.n,.string y.m,.int .i64 y.i,.int .i64 y.d,.slice y.A y.s.len y.c] 60) = W12:=⟨_,rfl⟩
              have hz12 : W12.heap.size = wr.heap.size + 1 + 1 + 1:=by subst hW12;simp [hz11]
              have hb12 : Below wr.heap.size wr W12:=by subst hW12;exact hb11.alloc (by omega) _
              have s0 : W12.cell? ⟨wr.heap.size,0,none⟩ = some (.string n.1):=by subst hW12;exact (World.cell?_alloc_lt _ _ ⟨wr.heap.size,0,none⟩ (by simp;omega)).trans r0
              have s1 : W12.cell? ⟨wr.heap.size,1,none⟩ = some (.int .i64 n.2):=by subst hW12;exact (World.cell?_alloc_lt _ _ ⟨wr.heap.size,1,none⟩ (by simp;omega)).trans r1
              have hUl:=HP.out.2.2.2.1
              have HT2:=Lib.hid (And.intro HG (And.intro hP (And.intro hn (And.intro hb12 (And.intro hbel (And.intro hnL (And.intro hnok (And.intro hxo (And.intro hyn (And.intro hbo hbn))))))))))
              have HVN:=Lib.hid (fun (hg : gC old new n = none) (X : World) (hX : Below wr.heap.size wr X) => P1.visit HP.out.2.1 HT2.out.2.1 hX hUl hnok (HP.out.2.2.1 n hnL) ⟨n,.refl,hg⟩)
              clear HG hP hn hb10 hb11 hb12 hw10 hw11 hbel hnL hxo hyn hbo hbn n0 n1 hUl
              cases bo with
              | false =>
                have HGN:=Lib.hid (show gC old new n = none by
                  have h : bodyOf old n = none:=by have:=HT2.out.2.2.2.2.2.2.2.2.2.1;cases hb : bodyOf old n <;> simp [hb] at this ⊢
                  unfold gC sameB;rw [h];rfl)
                have HV:=Lib.hid (HVN.out HGN.out W12 HT2.out.2.2.2.1)
                go_wp2_with fail
                refine HV.out.mono ?_
                rintro e w13 ⟨⟨v13,rfl⟩,_,hP13⟩
                have HP13:=Lib.hid hP13
                clear hP13 hW12 hW11 hW10
                go_wp2
                go_roundg (LN - (j + 1))
                case measure => rw [HT2.out.1];omega
                case rel => exact ⟨j + 1,rfl,by omega,by go_num,P1.next_bad HT2.out.2.2.1 HGN.out HP13.out (by omega)⟩
              | true =>
                cases bn with
                | false =>
                  have HGN:=Lib.hid (show gC old new n = none by
                    have h : bodyOf new n = none:=by have:=HT2.out.2.2.2.2.2.2.2.2.2.2;cases hb : bodyOf new n <;> simp [hb] at this ⊢
                    unfold gC sameB;rw [h];cases bodyOf old n <;> rfl)
                  have HV:=Lib.hid (HVN.out HGN.out W12 HT2.out.2.2.2.1)
                  go_wp2_with fail
                  refine HV.out.mono ?_
                  rintro e w13 ⟨⟨v13,rfl⟩,_,hP13⟩
                  have HP13:=Lib.hid hP13
                  clear hP13 hW12 hW11 hW10
                  go_wp2
                  go_roundg (LN - (j + 1))
                  case measure => rw [HT2.out.1];omega
                  case rel => exact ⟨j + 1,rfl,by omega,by go_num,P1.next_bad HT2.out.2.2.1 HGN.out HP13.out (by omega)⟩
                | true =>
                  have hxold : bodyOf old n = some x:=by
                    have h:=HT2.out.2.2.2.2.2.2.2.2.2.1
                    obtain ⟨x',hx'⟩:=Option.isSome_iff_exists.1 h.symm
                    rw [hx',HT2.out.2.2.2.2.2.2.2.1 x' hx']
                  have hynew : bodyOf new n = some y:=by
                    have h:=HT2.out.2.2.2.2.2.2.2.2.2.2
                    obtain ⟨y',hy'⟩:=Option.isSome_iff_exists.1 h.symm
                    rw [hy',HT2.out.2.2.2.2.2.2.2.2.1 y' hy']
                  have hww : Below w.heap.size w wr:=H8.out.1.trans (HT2.out.2.2.2.2.1.mono H8.out.1.size)
                  have hww12 : Below w.heap.size w W12:=hww.trans (HT2.out.2.2.2.1.mono hww.size)
                  have hsx:=HX.out.1.body hxold
                  have hsy:=HX.out.2.1.body hynew
                  have HEQ:=Lib.hid (deq_any x.s x.k x.n x.m x.i x.d x.A x.c y.k y.n y.m y.i y.d y.A y.c y.s W12 ((hsx.below hww12).keep (B':=W12.heap.size) hww12.size (fun _ _ => rfl)) ((hsy.below hww12).keep (B':=W12.heap.size) hww12.size (fun _ _ => rfl)))
                  have hsm : sameB old new n = eqNd x.k x.n x.m x.i x.d x.s y.k y.n y.m y.i y.d y.s:=by unfold sameB;rw [hxold,hynew];rfl
                  have hgs:=gC_of_same (old:=old) (new:=new) (n:=n) (x:=x)
                  obtain ⟨q,hq⟩ : ∃ q,eqNd x.k x.n x.m x.i x.d x.s y.k y.n y.m y.i y.d y.s = q:=⟨_,rfl⟩
                  rw [hq] at HEQ hsm
                  have t0 : W12.cell? ⟨wr.heap.size + 1,0,none⟩ = some (.int .i64 x.k):=by
                    refine Eq.trans ?_ (show W11.cell? ⟨wr.heap.size + 1,0,none⟩ = some (.int .i64 x.k) by rw [← hz10];subst hW11;go_simp)
                    subst hW12;exact World.cell?_alloc_lt _ _ _ (by simp;omega)
                  have t1 : W12.cell? ⟨wr.heap.size + 1,1,none⟩ = some (.string x.n):=by
                    refine Eq.trans ?_ (show W11.cell? ⟨wr.heap.size + 1,1,none⟩ = some (.string x.n) by rw [← hz10];subst hW11;go_simp)
                    subst hW12;exact World.cell?_alloc_lt _ _ _ (by simp;omega)
                  have t2 : W12.cell? ⟨wr.heap.size + 1,2,none⟩ = some (.string x.m):=by
                    refine Eq.trans ?_ (show W11.cell? ⟨wr.heap.size + 1,2,none⟩ = some (.string x.m) by rw [← hz10];subst hW11;go_simp)
                    subst hW12;exact World.cell?_alloc_lt _ _ _ (by simp;omega)
                  have t3 : W12.cell? ⟨wr.heap.size + 1,3,none⟩ = some (.int .i64 x.i):=by
                    refine Eq.trans ?_ (show W11.cell? ⟨wr.heap.size + 1,3,none⟩ = some (.int .i64 x.i) by rw [← hz10];subst hW11;go_simp)
                    subst hW12;exact World.cell?_alloc_lt _ _ _ (by simp;omega)
                  have t4 : W12.cell? ⟨wr.heap.size + 1,4,none⟩ = some (.int .i64 x.d):=by
                    refine Eq.trans ?_ (show W11.cell? ⟨wr.heap.size + 1,4,none⟩ = some (.int .i64 x.d) by rw [← hz10];subst hW11;go_simp)
                    subst hW12;exact World.cell?_alloc_lt _ _ _ (by simp;omega)
                  have t5 : W12.cell? ⟨wr.heap.size + 1,5,none⟩ = some (.slice x.A x.s.len x.c):=by
                    refine Eq.trans ?_ (show W11.cell? ⟨wr.heap.size + 1,5,none⟩ = some (.slice x.A x.s.len x.c) by rw [← hz10];subst hW11;go_simp)
                    subst hW12;exact World.cell?_alloc_lt _ _ _ (by simp;omega)
                  have f0 : W12.cell? ⟨wr.heap.size + 1 + 1,0,none⟩ = some (.int .i64 y.k):=by rw [← hz11];subst hW12;go_simp
                  have f1 : W12.cell? ⟨wr.heap.size + 1 + 1,1,none⟩ = some (.string y.n):=by rw [← hz11];subst hW12;go_simp
                  have f2 : W12.cell? ⟨wr.heap.size + 1 + 1,2,none⟩ = some (.string y.m):=by rw [← hz11];subst hW12;go_simp
                  have f3 : W12.cell? ⟨wr.heap.size + 1 + 1,3,none⟩ = some (.int .i64 y.i):=by rw [← hz11];subst hW12;go_simp
                  have f4 : W12.cell? ⟨wr.heap.size + 1 + 1,4,none⟩ = some (.int .i64 y.d):=by rw [← hz11];subst hW12;go_simp
                  have f5 : W12.cell? ⟨wr.heap.size + 1 + 1,5,none⟩ = some (.slice y.A y.s.len y.c):=by rw [← hz11];subst hW12;go_simp
                  have HS2:=Lib.hid (And.intro hxold (And.intro hww12 (And.intro hsx (And.intro hsm hgs))))
                  clear hxold hynew hww hww12 hsx hsy hsm hq hgs
                  cases q with
                  | false =>
                    have HGN:=Lib.hid (show gC old new n = none by unfold gC;rw [HS2.out.2.2.2.1];rfl)
                    go_wp2_with fail
                    refine HEQ.out.mono ?_
                    rintro e w13 ⟨rfl,hb13⟩
                    have v0:=(hb13.cell (p:=⟨wr.heap.size,0,none⟩) (by simp;omega)).trans s0
                    have v1:=(hb13.cell (p:=⟨wr.heap.size,1,none⟩) (by simp;omega)).trans s1
                    have HV:=Lib.hid (HVN.out HGN.out w13 (HT2.out.2.2.2.1.trans (hb13.mono (by omega))))
                    clear hb13 hW12 hW11 hW10 t0 t1 t2 t3 t4 t5 f0 f1 f2 f3 f4 f5 s0 s1 r0 r1 p0 p1
                    go_wp2_with fail
                    refine HV.out.mono ?_
                    rintro e w14 ⟨⟨v14,rfl⟩,_,hP14⟩
                    have HP14:=Lib.hid hP14
                    clear hP14
                    go_wp2
                    go_roundg (LN - (j + 1))
                    case measure => rw [HT2.out.1];omega
                    case rel => exact ⟨j + 1,rfl,by omega,by go_num,P1.next_bad HT2.out.2.2.1 HGN.out HP14.out (by omega)⟩
                  | true =>
                    have hgu:=HS2.out.2.2.2.2 HS2.out.2.2.2.1 HS2.out.1
                    obtain ⟨us,Hus⟩ : ∃ Q,Hid (usesOf n.1 x.body = Q):=⟨_,Lib.hid rfl⟩
                    rw [Hus.out] at hgu
                    have HUB : Hid (usesOf n.1 (Fo.cons x.k x.n x.m x.i x.d x.A x.c x.s .nil) = us):=Hus.out
                    have hcnt:=HP.out.2.2.2.2.2 n x HS2.out.1
                    have hgro : grf old n = some us:=(gC_some hgu).2
                    have husok : ∀ u ∈ us,u ∈ U ∧ NOk u:=HP.out.2.2.2.2.1 n us hgro
                    have HGU:=Lib.hid (And.intro hgu husok)
                    have HUS:=Lib.hid (fun (X : World) (hX : Below w.heap.size w X) => dUses_any n.1 x.k x.n x.m x.i x.d x.A x.c x.s X ((HS2.out.2.2.1.below hX).keep (B':=X.heap.size) hX.size (fun _ _ => rfl)) hcnt)
                    clear hgu hgro husok
                    go_wp2_with fail
                    refine HEQ.out.mono ?_
                    rintro e w13 ⟨rfl,hb13⟩
                    have v0:=(hb13.cell (p:=⟨wr.heap.size,0,none⟩) (by simp;omega)).trans s0
                    have v1:=(hb13.cell (p:=⟨wr.heap.size,1,none⟩) (by simp;omega)).trans s1
                    have b0:=(hb13.cell (p:=⟨wr.heap.size + 1,0,none⟩) (by simp;omega)).trans t0
                    have b1:=(hb13.cell (p:=⟨wr.heap.size + 1,1,none⟩) (by simp;omega)).trans t1
                    have b2:=(hb13.cell (p:=⟨wr.heap.size + 1,2,none⟩) (by simp;omega)).trans t2
                    have b3:=(hb13.cell (p:=⟨wr.heap.size + 1,3,none⟩) (by simp;omega)).trans t3
                    have b4:=(hb13.cell (p:=⟨wr.heap.size + 1,4,none⟩) (by simp;omega)).trans t4
                    have b5:=(hb13.cell (p:=⟨wr.heap.size + 1,5,none⟩) (by simp;omega)).trans t5
                    have hb013:=HT2.out.2.2.2.1.trans (hb13.mono (by omega))
                    have hz13a : wr.heap.size + 3 ≤ w13.heap.size:=by have:=hb13.size;omega
                    have hUS:=HUS.out w13 (HS2.out.2.1.trans (hb13.mono HS2.out.2.1.size))
                    rw [HUB.out] at hUS
                    have HUS2:=Lib.hid hUS
                    have H13:=Lib.hid hb013
                    have hz13:=hb013.size
                    clear hb13 hW12 hW11 hW10 t0 t1 t2 t3 t4 t5 f0 f1 f2 f3 f4 f5 s0 s1 r0 r1 p0 p1 hb013 hUS
                    go_wp2_with fail
                    refine HUS2.out.mono ?_
                    rintro e w14 ⟨v14,rfl,hown14,hb14⟩
                    obtain ⟨uA,uc,rfl⟩:=own_formN hown14
                    obtain ⟨M,HM⟩ : ∃ Q,Hid (us.length = Q):=⟨_,Lib.hid rfl⟩
                    have hMl : M ≤ 400000:=by
                      rw [← HM.out]
                      refine Nat.le_trans (nodup_len us U ?_ fun u hu => (HGU.out.2 u hu).1) HP.out.2.2.2.1
                      rw [← Hus.out]
                      exact ltN_nodup (ordN_sorted _)
                    rw [HM.out] at hown14 ⊢
                    have q0:=(hb14.cell (p:=⟨wr.heap.size,0,none⟩) (by simp;omega)).trans v0
                    have q1:=(hb14.cell (p:=⟨wr.heap.size,1,none⟩) (by simp;omega)).trans v1
                    have hb014:=H13.out.trans (hb14.mono hz13)
                    have hlt14 : wr.heap.size < w14.heap.size:=by have:=hb14.size;omega
                    have hub : ∀ k,(Value.slice uA M uc).ownBlock = some k → wr.heap.size ≤ k ∧ k < w14.heap.size:=fun k hk => by
                      have:=own_block_cells hown14 hk
                      omega
                    have hP14:=P1o.enter HT2.out.2.1 hb014 n us (fun k => k = wr.heap.size ∨ (Value.slice uA M uc).ownBlock = some k) (fun k hk => hk.elim (fun e => by rw [e];exact ⟨Nat.le_refl _,hlt14⟩) (fun e => hub k e))
                    have H14:=Lib.hid (And.intro hown14 hP14)
                    clear hown14 hb14 hb014 hP14 v0 v1 b0 b1 b2 b3 b4 b5
                    have H14c:=Lib.hid (And.intro q0 q1)
                    clear q0 q1
                    obtain ⟨wo,rfl⟩ : ∃ wo : World,wo = wr:=⟨_,rfl⟩
                    go_wp2
                    go_loopg [23,102] M (fun g _ ct wq => ∃ q : Nat,g = M - q ∧ q ≤ M ∧ ct = .int .i64 q ∧ P1 old new L U (w8.heap.size + 2) (w8.heap.size + 1) (w8.heap.size + 3) w8.heap.size (w8.heap.size + 4) w8 j n us q q (fun k => k = wo.heap.size ∨ (Value.slice uA M uc).ownBlock = some k) w14 wq)
                    case atStart => exact ⟨0,rfl,by omega,rfl,H14.out.2⟩
                    case round =>
                      obtain ⟨q,HG2,hq,rfl,hP2⟩:=hrel
                      obtain ⟨hbel2,hbas2,huk2⟩:=P1.bel hP2
                      by_cases hlt2 : q < M
                      · have hlt2' : q < us.length:=by rw [HM.out];exact hlt2
                        obtain ⟨u,hu⟩ : ∃ u,us[q]? = some u:=⟨_,List.getElem?_eq_getElem hlt2'⟩
                        obtain ⟨gu,ucap,hform,hc1,hc2⟩:=own_pos2 H14.out.1 (by omega)
                        simp only [Value.slice.injEq,true_and] at hform
                        obtain ⟨rfl,rfl⟩:=hform
                        obtain ⟨n0,n1⟩:=namesC_at _ us q hu
                        have hguk:=huk2 gu (.inr rfl)
                        have hnbk:=huk2 wo.heap.size (.inl rfl)
                        have c0' : wr.cell? ⟨gu,q * 2,none⟩ = some (.string u.1):=(World.cell?_of_block hguk.2).trans ((H14.out.1.cellAt _ (by omega)).trans n0)
                        have c1' : wr.cell? ⟨gu,q * 2 + 1,none⟩ = some (.int .i64 u.2):=(World.cell?_of_block hguk.2).trans ((H14.out.1.cellAt _ (by omega)).trans n1)
                        have m0 : wr.cell? ⟨wo.heap.size,0,none⟩ = some (.string n.1):=(World.cell?_of_block hnbk.2).trans H14c.out.1
                        have m1 : wr.cell? ⟨wo.heap.size,1,none⟩ = some (.int .i64 n.2):=(World.cell?_of_block hnbk.2).trans H14c.out.2
                        have humem:=List.mem_of_getElem? hu
                        have huok:=(HGU.out.2 u humem).2
                        obtain ⟨gU,NU,kU,xsU,hmapU,hNU,hrowU,hxsU,hkU,hoffU,hbasU,hnext⟩:=P1.before hP2 HP.out.2.1 (by have:=uB_eq;have : j * uB ≤ 800000 * 400000:=Nat.mul_le_mul (by omega) (by omega);omega) hu huok HT2.out.2.2.2.2.2.1 HGU.out.1
                        have hkU2 : kU ≤ 4000000000000:=by have:=uB_eq;have : j * uB ≤ 800000 * 400000:=Nat.mul_le_mul (by omega) (by omega);omega
                        obtain ⟨Y0,hY0⟩ : ∃ Y0,wr.alloc (.cells #[.string u.1,.int .i64 u.2] 24) = Y0:=⟨_,rfl⟩
                        have hYz0 : Y0.heap.size = wr.heap.size + 1:=by subst hY0;simp
                        have y00 : Y0.cell? ⟨wr.heap.size,0,none⟩ = some (.string u.1):=by subst hY0;go_simp
                        have y01 : Y0.cell? ⟨wr.heap.size,1,none⟩ = some (.int .i64 u.2):=by subst hY0;go_simp
                        have m00 : Y0.cell? ⟨wo.heap.size,0,none⟩ = some (.string n.1):=by subst hY0;exact (World.cell?_alloc_lt _ _ ⟨wo.heap.size,0,none⟩ hnbk.1).trans m0
                        have m01 : Y0.cell? ⟨wo.heap.size,1,none⟩ = some (.int .i64 n.2):=by subst hY0;exact (World.cell?_alloc_lt _ _ ⟨wo.heap.size,1,none⟩ hnbk.1).trans m1
                        obtain ⟨Y1,hY1e⟩ : ∃ Y1,Y0.alloc (.cells #[.string n.1,.int .i64 n.2] 24) = Y1:=⟨_,rfl⟩
                        have hYz1 : Y1.heap.size = wr.heap.size + 1 + 1:=by subst hY1e;simp [hYz0]
                        have hY1 : Below wr.heap.size wr Y1:=by subst hY1e;subst hY0;exact ((Below.refl _ _).alloc (Nat.le_refl _) _).alloc (by simp) _
                        have x10 : Y1.cell? ⟨wr.heap.size,0,none⟩ = some (.string u.1):=by subst hY1e;exact (World.cell?_alloc_lt _ _ ⟨wr.heap.size,0,none⟩ (by simp;omega)).trans y00
                        have x11 : Y1.cell? ⟨wr.heap.size,1,none⟩ = some (.int .i64 u.2):=by subst hY1e;exact (World.cell?_alloc_lt _ _ ⟨wr.heap.size,1,none⟩ (by simp;omega)).trans y01
                        have HQ2:=Lib.hid (And.intro HG2 (And.intro hu (And.intro humem hbel2)))
                        have hzwr:=hbel2.size
                        clear HG2 hu humem hP2 hbel2 huk2 n0 n1 hguk m0 m1
                        obtain ⟨st,Y2,he1,hg2,hst⟩:=(hmapU.keep (hY1.block w8.heap.size (by omega))).entry huok hNU
                        have hY2z : Y1.heap.size ≤ Y2.heap.size:=hg2.size
                        change Sem.run Tryz.prog (Instr.mapEntry 121 (.map (some w8.heap.size)) (.agg #[.string u.1,.int .i64 u.2])) Y1 = .ok (.tuple #[oldV gU u,.int .i64 st]) Y2 at he1
                        obtain ⟨V0,hV0⟩ : ∃ V0,oldV gU u = V0:=⟨_,rfl⟩
                        rw [hV0] at he1 hrowU hoffU hnext
                        obtain ⟨oA,oc,rfl⟩:=own_formN hrowU
                        have HROW2:=Lib.hid (own_abides (own_of_blocks hrowU fun k hk => hY1.block k (hoffU k hk).2) hg2 (fun r e => by cases e;exact (hmapU.keep (hY1.block _ (by omega))).obj))
                        have HNW2:=Lib.hid (show ∀ (t : Nat) (u' : Value),([.string n.1,.int .i64 n.2] : List Value)[t]? = some u' → Y2.cell? ((⟨wr.heap.size + 1,0,none⟩ : Addr).add t) = some u' from fun t u' hu' => by
                          have h1:=cell_pair_new Y0 (.string n.1) (.int .i64 n.2) 24 t u' hu'
                          rw [hY1e,hYz0] at h1
                          have hbk : ((⟨wr.heap.size + 1,0,none⟩ : Addr).add t).block = wr.heap.size + 1:=by unfold Addr.add;split <;> rfl
                          refine (World.cell?_of_block (hg2.block _ (by rw [hbk];omega) (fun e => ?_))).trans h1
                          rw [hbk] at e
                          simp at e
                          omega)
                        have HPUSH:=Lib.hid (show ∀ (v3 : Value) (Y3 : World),Y3.ownsRow (w8.heap.size + 4) 24 2 v3 (kU + 1) (namesC xsU ++ [.string n.1,.int .i64 n.2]) → Y2.grownBy Y3 (Value.slice oA kU oc).ownBlock → (v3.ownBlock = (Value.slice oA kU oc).ownBlock ∨ v3.ownBlock = some Y2.heap.size) →
                            ∃ Y4,Sem.run Tryz.prog (Instr.entryStore 121 (.map (some w8.heap.size)) (.int .i64 st) v3) Y3 = .ok () Y4 ∧ Y4.cell? ⟨wr.heap.size,0,none⟩ = some (.string u.1) ∧ Y4.cell? ⟨wr.heap.size,1,none⟩ = some (.int .i64 u.2) ∧
                              Sem.run Tryz.prog (Instr.lookup 114 (.map (some w2.heap.size)) (.agg #[.string u.1,.int .i64 u.2]) false) Y4 = .ok (.bool (exB old new u)) Y4 ∧ Hid (P1 old new L U (w8.heap.size + 2) (w8.heap.size + 1) (w8.heap.size + 3) w8.heap.size (w8.heap.size + 4) w8 j n us (q + 1) q (fun k => k = wo.heap.size ∨ (Value.slice (some ⟨gu,0,none⟩) M uc).ownBlock = some k) w14 Y4) from fun v3 Y3 hown3 hg3 hat3 => by
                          have hz3:=hg3.size
                          obtain ⟨Y4,hrun4,hmap4,hg4⟩:=hst Y3 v3 (hg3.block _ (by omega) (fun e => by have:=(hoffU _ e.symm).1;omega))
                          have hP4:=hnext Y1 Y2 Y3 Y4 v3 hY1 hg2 hown3 hg3 hat3 hmap4 hg4
                          have hY34 : ∀ k,k < Y1.heap.size → k ≠ w8.heap.size → wr.heap.size ≤ k → Y4.heap[k]? = Y1.heap[k]?:=fun k hk h1 h2 => (hg4.block k (by omega) (fun e => h1 (by cases e;rfl))).trans ((hg3.block k (by omega) (fun e => by have:=(hoffU _ e.symm).2;omega)).trans (hg2.block k hk (fun e => h1 (by cases e;rfl))))
                          have hlk4:=(HM8.out.2.2.1.keep ((P1.bel hP4).1.block w2.heap.size (by omega))).look false Tryz.underlying114 (zeroB_run Y4) (a:=u) huok
                          simp only [Bool.false_eq_true,if_false] at hlk4
                          have hv : (exG old new 2 [] u).getD (.bool false) = .bool (exB old new u):=by
                            unfold exG exJ exB memN
                            cases (bodyOf old u).isSome <;> cases (bodyOf new u).isSome <;> simp
                          rw [hv] at hlk4
                          exact ⟨Y4,hrun4,(World.cell?_of_block (hY34 wr.heap.size (by omega) (by omega) (Nat.le_refl _))).trans x10,(World.cell?_of_block (hY34 wr.heap.size (by omega) (by omega) (Nat.le_refl _))).trans x11,hlk4,Lib.hid hP4⟩)
                        clear hst hg2 hnext hV0 hmapU hrowU hoffU x10 x11
                        cases hex : exB old new u with
                        | true =>
                          rw [hex] at HPUSH
                          go_wp2_with (at_builtin;refine wpList_append_own_at _ rfl _ _ 47 rfl (w8.heap.size + 4) 24 i0 _ 2 24 Tryz.underlying47 hi hz0' hz1' hz2' rfl (by decide) _ _ _ rfl HROW2.out ⟨wr.heap.size + 1,0,none⟩ 1 1 [.string n.1,.int .i64 n.2] rfl rfl HNW2.out (by simp [Value.oneCell']) (by unfold maxLen;omega) (by omega) (by omega) ?_;intro v3 Y3 hown3 hg3 _ hat3;obtain ⟨Y4,hrun4,hx40,hx41,hlk4,HP4⟩:=HPUSH.out v3 Y3 hown3 hg3 hat3;obtain ⟨g3,c3,rfl⟩:=ownsRow_succ hown3;clear hown3 hg3 hat3)
                          have HSK2:=Lib.hid (P1.skip HP4.out HQ2.out.2.1 hex)
                          go_roundg (M - (q + 1))
                          case measure => rw [HQ2.out.1];omega
                          case rel => exact ⟨q + 1,rfl,by omega,by go_num,HSK2.out⟩
                        | false =>
                          have HGN:=Lib.hid (show gC old new u = none by
                            have h : bodyOf old u = none:=by unfold exB at hex;cases hb : bodyOf old u <;> simp [hb] at hex ⊢
                            unfold gC sameB;rw [h];rfl)
                          rw [hex] at HPUSH
                          go_wp2_with (at_builtin;refine wpList_append_own_at _ rfl _ _ 47 rfl (w8.heap.size + 4) 24 i0 _ 2 24 Tryz.underlying47 hi hz0' hz1' hz2' rfl (by decide) _ _ _ rfl HROW2.out ⟨wr.heap.size + 1,0,none⟩ 1 1 [.string n.1,.int .i64 n.2] rfl rfl HNW2.out (by simp [Value.oneCell']) (by unfold maxLen;omega) (by omega) (by omega) ?_;intro v3 Y3 hown3 hg3 _ hat3;obtain ⟨Y4,hrun4,hx40,hx41,hlk4,HP4⟩:=HPUSH.out v3 Y3 hown3 hg3 hat3;obtain ⟨g3,c3,rfl⟩:=ownsRow_succ hown3;clear hown3 hg3 hat3)
                          have HV4:=Lib.hid (P1.visit HP.out.2.1 HP4.out (Below.refl _ _) HP.out.2.2.2.1 huok (HGU.out.2 u HQ2.out.2.2.1).1 ⟨u,.refl,HGN.out⟩)
                          refine HV4.out.mono ?_
                          rintro e w15 ⟨⟨v15,rfl⟩,_,hP15⟩
                          have HP15:=Lib.hid (P1.seen HQ2.out.2.1 hP15)
                          clear hP15
                          go_wp2
                          go_roundg (M - (q + 1))
                          case measure => rw [HQ2.out.1];omega
                          case rel => exact ⟨q + 1,rfl,by omega,by go_num,HP15.out⟩
                      · obtain rfl : q = M:=by omega
                        have HX2:=Lib.hid (P1.next_good HT2.out.2.2.1 HGU.out.1 (by rw [HM.out];exact hP2) (by rw [HM.out];exact hMl))
                        clear hP2 hbel2 huk2
                        go_wp2
                        go_roundg (LN - (j + 1))
                        case measure => rw [HT2.out.1];omega
                        case rel => exact ⟨j + 1,rfl,by omega,by go_num,HX2.out⟩
            · obtain rfl : j = LN:=by omega
              have hbelp:=(P1.bel hP).1
              obtain ⟨g0,hP2⟩:=P1o.fin (by rw [HLN.out];exact hP) (by rw [HLN.out];exact hsl) HP.out.2.2.2.1
              have HLU:=Lib.hid (show ∀ n ∈ L,n ∈ U ∧ NOk n from fun n hn => ⟨HP.out.2.2.1 n hn,HLL.out.2.1 n hn⟩)
              have HP2:=Lib.hid hP2
              clear hP hP2 HG hbelp
              go_wp2
              go_loopg [24,26] g0 (fun g _ _ wr => P2 old new L U (w8.heap.size + 2) (w8.heap.size + 1) (w8.heap.size + 3) w8.heap.size (w8.heap.size + 4) w8 g wr)
              case atStart => exact HP2.out
              case round =>
                obtain ⟨C,rest,f,rv,gU,N,hch,hci,hdo,hcl,HG,hgm,hfb,hbel,hbas⟩:=hrel
                have hrow:=hch.vis.row
                have hbox:=hch.vis.box
                have hzr:=hbel.size
                have hcap:=hch.vis.cap
                rcases snocA rest with rfl | ⟨r,x,rfl⟩
                · obtain ⟨rA,rc,rfl⟩:=own_formN hrow
                  have hr0:=cell_of_one hbox
                  have hrowL:=own_of_blocks HM8.out.2.2.2 (fun k hk => hbel.block k (own_block_cells HM8.out.2.2.2 hk).2.1)
                  have hgk:=fun k hk => own_block_cells HM8.out.2.2.2 (k:=k) hk
                  have hus : ∀ x us,gC old new x = some us → ∀ u ∈ us,NOk u:=fun x us h u hu => (HP.out.2.2.2.2.1 x us (gC_some h).2 u hu).2
                  have hfin : ∀ n ∈ L,(n ∈ C ↔ Clo (gC old new) n none):=fun n hn => hci.done hdo HLL.out.2.2 HLL.out.2.1 hus (fun x hx n hn => (hcl x hx).elim (fun h => by simp at h) (fun h => h n hn)) hn
                  have HF:=Lib.hid (And.intro hfin (And.intro hbel (And.intro hcap hrowL)))
                  have hww : Below w.heap.size w wr:=H8.out.1.trans (hbel.mono H8.out.1.size)
                  have HWW:=Lib.hid hww
                  clear hch hci hdo hcl HG hgm hfb hbel hrow hbox hcap hus hfin hww hrowL
                  rcases (refs_tail L _ (.slice LA j lc) wr (by rw [HLN.out];exact HF.out.2.2.2)).2 with ⟨hnil,hLnil⟩ | ⟨gL,capL,hform⟩
                  · simp only [Value.slice.injEq] at hnil
                    obtain ⟨rfl,rfl,rfl⟩:=hnil
                    have HLN0:=Lib.hid hLnil
                    clear hLnil hgk
                    go_wp2_with fail
                    refine (deleteN_nil _ _).mono ?_
                    rintro e w20 ⟨rfl,rfl⟩
                    go_wp2
                    go_ret
                    refine ⟨.slice none 0 0,[],rfl,World.ownsRow_nil _ _ _ _,HWW.out,List.Pairwise.nil,by simp,by simp,fun n hn => ⟨fun h => by simp at h,fun h => ?_⟩⟩
                    have:=(HLL.out.2.2 n hn).2 h.1
                    rw [HLN0.out] at this
                    exact this
                  · simp only [Value.slice.injEq] at hform
                    obtain ⟨rfl,hjl,rfl⟩:=hform
                    clear hjl
                    obtain ⟨hgL1,hgL2,_⟩:=hgk gL rfl
                    clear hgk
                    have hDL:=deleteN_any L C gL lc (wp.heap.size + 1) (w8.heap.size + 2) (w8.heap.size + 1) wr (by rw [HLN.out];exact HF.out.2.2.2) (by rw [HLN.out];omega) HLL.out.2.1 HF.out.2.2.1 (by omega) (by omega)
                    rw [HLN.out] at hDL
                    have HDL:=Lib.hid hDL
                    clear hDL
                    go_wp2_with fail
                    refine HDL.out.mono ?_
                    rintro e w20 ⟨v20,rfl,hown20,hg20⟩
                    obtain ⟨fA,fc,rfl⟩:=own_formN hown20
                    have H20:=Lib.hid (And.intro hown20 hg20)
                    clear hown20 hg20
                    go_wp2
                    go_ret
                    refine ⟨_,keepL C L,rfl,World.ownsRow.mono H20.out.1 (by omega),HWW.out.grown H20.out.2 HWW.out.size (fun q e => by cases e;omega),HLL.out.1.filter _,fun n hn => HLL.out.2.1 n (List.mem_filter.1 hn).1,Nat.le_trans (keepL_len C L) (by rw [HLN.out];exact hsl),fun n hn => ?_⟩
                    unfold keepL
                    rw [List.mem_filter,memN_iff]
                    constructor
                    · rintro ⟨h1,h2⟩
                      exact ⟨(HLL.out.2.2 n hn).1 h1,fun _ _ => (HF.out.1 n h1).1 h2⟩
                    · rintro ⟨h1,h2⟩
                      have h3:=(HLL.out.2.2 n hn).2 h1
                      exact ⟨h3,(HF.out.1 n h3).2 (h2 HCo.out HCn.out)⟩
                · simp only [List.length_append,List.length_cons,List.length_nil,Nat.zero_add,namesC_append,namesC,List.append_nil] at hrow
                  obtain ⟨gb,cap,rfl⟩:=ownsRow_succ hrow
                  have hcap2 : r.length + 1 ≤ cap ∧ cap ≤ 9223372036854775807:=by
                    rcases hrow.2 with ⟨h,_⟩ | ⟨g',cap',cur,h,_,_,hle,hmx,_⟩
                    · cases h
                    · cases h;unfold maxLen at hmx;omega
                  have hrl:=namesC_length r
                  have x0 : wr.cell? ⟨gb,r.length * 2,none⟩ = some (.string x.1):=by
                    rw [hrow.cellAt (r.length * 2) (by omega),List.getElem?_append_right (by omega),hrl];simp [encN]
                  have x1 : wr.cell? ⟨gb,r.length * 2 + 1,none⟩ = some (.int .i64 x.2):=by
                    rw [hrow.cellAt (r.length * 2 + 1) (by omega),List.getElem?_append_right (by omega),hrl];simp [encN]
                  have hgb:=own_block_cells hrow rfl
                  have hr0:=cell_of_one hbox
                  have hrlen : r.length + 1 ≤ 1000000:=by
                    have h:=hgm
                    unfold cloM at h
                    simp at h
                    omega
                  have hxC:=hci.rsub x (by simp)
                  have hxok:=(hci.sub x hxC).1
                  obtain ⟨W4,hW4⟩ : ∃ W4,wr.alloc (.cells #[.string x.1,.int .i64 x.2] 24) = W4:=⟨_,rfl⟩
                  have hz4 : W4.heap.size = wr.heap.size + 1:=by subst hW4;simp
                  have hb4 : Below wr.heap.size wr W4:=by subst hW4;exact (Below.refl _ _).alloc (Nat.le_refl _) _
                  have hpop:=chgAt_pop hch (by omega) (by omega) (by omega) (by omega) (.cells #[.string x.1,.int .i64 x.2] 24)
                  rw [hW4] at hpop
                  have y0 : W4.cell? ⟨wr.heap.size,0,none⟩ = some (.string x.1):=by subst hW4;go_simp
                  have y1 : W4.cell? ⟨wr.heap.size,1,none⟩ = some (.int .i64 x.2):=by subst hW4;go_simp
                  have hbx4 : W4.heap[w8.heap.size + 3]? = some (.cells #[.slice (some ⟨gb,0,none⟩) (r.length + 1) cap] 47 (0,0)):=(hb4.block _ (by omega)).trans hbox
                  have hr4:=cell_of_one hbx4
                  have hf4:=free_of_one hbx4
                  obtain ⟨W5,hW5⟩ : ∃ W5,W4.setCell ⟨w8.heap.size + 3,0,none⟩ (.slice (some ⟨gb,0,none⟩) r.length cap) = W5:=⟨_,rfl⟩
                  rw [hW5] at hpop
                  have hz5 : W5.heap.size = wr.heap.size + 1:=by subst hW5;simpa [World.setCell] using hz4
                  have u0 : W5.cell? ⟨wr.heap.size,0,none⟩ = some (.string x.1):=by subst hW5;exact (World.cell?_of_block (Below.heap_setCell _ _ _ _ (by simp;omega))).trans y0
                  have u1 : W5.cell? ⟨wr.heap.size,1,none⟩ = some (.int .i64 x.2):=by subst hW5;exact (World.cell?_of_block (Below.heap_setCell _ _ _ _ (by simp;omega))).trans y1
                  have hlk:=hpop.map.look false (t:=121) (e:=47) Tryz.underlying121 (zeroNs_run W5) (a:=x) hxok
                  simp only [Bool.false_eq_true,if_false] at hlk
                  have hrowx:=hpop.oldRow hxok
                  obtain ⟨V0,hV0⟩ : ∃ V0,oldV gU x = V0:=⟨_,rfl⟩
                  change Sem.run Tryz.prog (Instr.lookup 121 (.map (some w8.heap.size)) (.agg #[.string x.1,.int .i64 x.2]) false) W5 = .ok (oldV gU x) W5 at hlk
                  rw [hV0] at hlk hrowx
                  obtain ⟨oA,oc,rfl⟩:=own_formN hrowx
                  have hbel5 : Below w8.heap.size w8 W5:=by subst hW5;exact (hbel.trans (hb4.mono hzr)).setCell (by simp) _
                  have hPi : P2i old new L U (w8.heap.size + 2) (w8.heap.size + 1) (w8.heap.size + 3) w8.heap.size (w8.heap.size + 4) w8 gk x f gU 0 W5:=by
                    refine ⟨C,r,_,N,hpop,⟨hci.nodup,hci.sub,fun z hz => hci.rsub z (List.mem_append_left _ hz),hci.fs⟩,hdo,fun z hz => ?_,by simp,?_,by omega,hfb,hbel5,by omega,hxC⟩
                    · rcases hcl z hz with h | h
                      · rcases List.mem_append.1 h with h | h
                        · exact .inl h
                        · exact .inr (.inl (List.mem_singleton.1 h))
                      · exact .inr (.inr h)
                    · rw [HG];unfold cloM;simp;omega
                  obtain ⟨M,HM⟩ : ∃ Q,Hid ((f x).length = Q):=⟨_,Lib.hid rfl⟩
                  have hMl : M ≤ 4000000000000:=by rw [← HM.out];exact hfb x
                  rw [HM.out] at hlk hV0
                  have HV0:=Lib.hid hV0
                  have HPi:=Lib.hid hPi
                  clear hch hci hdo hcl HG hgm hfb hbel hcap hpop hV0 hPi hrowx hbel5 hrow hbox hbx4 hgb hrl hb4
                  obtain ⟨wo,rfl⟩ : ∃ wo : World,wo = wr:=⟨_,rfl⟩
                  go_wp2
                  go_loopg [26,141] M (fun g _ ct wq => ∃ q : Nat,g = M - q ∧ q ≤ M ∧ ct = .int .i64 q ∧ P2i old new L U (w8.heap.size + 2) (w8.heap.size + 1) (w8.heap.size + 3) w8.heap.size (w8.heap.size + 4) w8 gk x f gU q wq)
                  case atStart => exact ⟨0,rfl,by omega,rfl,HPi.out⟩
                  case round =>
                    obtain ⟨q,HG2,hq,rfl,hP3⟩:=hrel
                    by_cases hlt2 : q < M
                    · have hlt2' : q < (f x).length:=by rw [HM.out];exact hlt2
                      obtain ⟨n,hn⟩ : ∃ n,(f x)[q]? = some n:=⟨_,List.getElem?_eq_getElem hlt2'⟩
                      obtain ⟨hrow3,hbel3,hbas3⟩:=hP3.row
                      rw [HV0.out,HM.out] at hrow3
                      obtain ⟨gx,xcap,hform,hc1,hc2⟩:=own_pos2 hrow3 (by omega)
                      simp only [Value.slice.injEq,true_and] at hform
                      obtain ⟨rfl,rfl⟩:=hform
                      obtain ⟨n0,n1⟩:=namesC_at n (f x) q hn
                      have c0 : wr.cell? ⟨gx,q * 2,none⟩ = some (.string n.1):=(hrow3.cellAt _ (by omega)).trans n0
                      have c1 : wr.cell? ⟨gx,q * 2 + 1,none⟩ = some (.int .i64 n.2):=(hrow3.cellAt _ (by omega)).trans n1
                      obtain ⟨W6,hW6⟩ : ∃ W6,wr.alloc (.cells #[.string n.1,.int .i64 n.2] 24) = W6:=⟨_,rfl⟩
                      have hb6 : Below wr.heap.size wr W6:=by subst hW6;exact (Below.refl _ _).alloc (Nat.le_refl _) _
                      have d0 : W6.cell? ⟨wr.heap.size,0,none⟩ = some (.string n.1):=by subst hW6;go_simp
                      have d1 : W6.cell? ⟨wr.heap.size,1,none⟩ = some (.int .i64 n.2):=by subst hW6;go_simp
                      have HVI:=Lib.hid (P2i.visit HP.out.2.1 hP3 hb6 HP.out.2.2.2.1 HLU.out hn)
                      have HG3:=Lib.hid HG2
                      clear hP3 hb6 hrow3 hbel3 n0 n1 hn HG2
                      go_wp2_with fail
                      refine HVI.out.mono ?_
                      rintro e w7' ⟨⟨v7,rfl⟩,hP4⟩
                      have HP4:=Lib.hid hP4
                      clear hP4 hW6 d0 d1 c0 c1
                      go_wp2
                      go_roundg (M - (q + 1))
                      case measure => rw [HG3.out];omega
                      case rel => exact ⟨q + 1,rfl,by omega,by go_num,HP4.out⟩
                    · obtain rfl : q = M:=by omega
                      obtain ⟨g1,hP5,hg1⟩:=P2i.leave (by rw [HM.out];exact hP3)
                      have HP5:=Lib.hid (And.intro hP5 hg1)
                      clear hP3 hP5 hg1 HG2
                      go_wp2
                      go_roundg g1
                      case measure => exact HP5.out.2
                      case rel => exact HP5.out.1
        · have hcn2 : (CN != 0) = true:=by simpa using hcn
          have HNE:=Lib.hid hcn
          clear hcn
          go_wp2_with fail
          refine HCN2.out.mono ?_
          rintro e w8 ⟨rfl,hb8⟩
          have H8:=Lib.hid hb8
          clear hb8
          go_wp2
          go_ret
          exact HEND.out _ (H7.out.trans (H8.out.mono hz7)) (.inr HNE.out)
      · have hco2 : (CO != 0) = true:=by simpa using hco
        have HNE:=Lib.hid hco
        clear hco
        go_wp2_with fail
        refine HCO.out.mono ?_
        rintro e w7 ⟨rfl,hb7⟩
        have H7:=Lib.hid hb7
        clear hb7
        go_wp2
        go_ret
        exact HEND.out _ H7.out (.inl HNE.out)
end Go.Proofs.YtnfndgmlnoeelaaGreatDoor
