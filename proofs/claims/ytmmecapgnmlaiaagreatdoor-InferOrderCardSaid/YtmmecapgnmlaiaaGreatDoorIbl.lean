/- infer.build -/
import Derived.Test.YtmmecapgnmlaiaaGreatDoorZxq
import Derived.Lib.OwnKind
namespace Go.Proofs.YtmmecapgnmlaiaaGreatDoor
open Go Go.RowKit Go.Proofs Go.Proofs.Unify
variable {D : Nat → Prop}
theorem Tryz.infoType : (Tryz.prog.info? 53).map (fun i => (i.zero,i.size,i.bytes)) = some (some (.agg #[.int .i64 0,.int .i64 0,.slice none 0 0]),3,40):=by kernel_rfl
theorem Tryz.undTypes : Tryz.prog.underlying 51 = some (.slice 53):=by kernel_rfl
def TgT (w : World) (k : Nat) : Prop:=∃ cur fz,w.heap[k]? = some (.cells cur 53 fz)
theorem TgT.congr {X Y : World} {k : Nat} (h : Y.heap[k]? = X.heap[k]?) : TgT Y k ↔ TgT X k:=by unfold TgT;rw [h]
theorem TgT.lt {X : World} {k : Nat} (h : TgT X k) : k < X.heap.size:=by
 obtain ⟨cur,fz,h⟩:=h
 exact (Array.getElem?_eq_some_iff.1 h).1
theorem TgT.not {X : World} {k : Nat} (h : TgT X k) : ¬ TgN X k:=by
 obtain ⟨cur,fz,h⟩:=h
 exact TgN.not h (by decide)
theorem posN_snoc (i : Nat) : ∀ (m : List Nat) (k : Nat),posN i m k = none → posN i (m ++ [i]) k = some (k + m.length)
 | [],k,_ => by simp [posN]
 | j :: m,k,h => by
  unfold posN at h ⊢
  by_cases e : i = j
  ·rw [if_pos e] at h;cases h
  ·rw [if_neg e] at h
   simp only [List.cons_append,if_neg e]
   rw [posN_snoc i m (k + 1) h,List.length_cons]
   congr 1
   omega
def BtP (D : Nat → Prop) (M : Nat → Prop) (w : World) (ix : List Nat) (S : St) (sz : Nat → Int) (nb : Nat) (R : (Int × Int × Tf) × List Nat) (e : Ending) (w' : World) : Prop:=
 ∃ A c,e = .returned (.agg #[.int .i64 R.1.1,.int .i64 R.1.2.1,.slice A R.1.2.2.len c]) ∧ R.1.2.2.Sl w' (fun k => w.heap.size ≤ k ∧ TgT w' k) A c ∧ StH D M w' ix S sz ∧ NmM w' nb ix R.2 ∧ Kx D (fun k => k = nb) w w'
structure BtI (D : Nat → Prop) (M : Nat → Prop) (w : World) (ix : List Nat) (S : St) (sz : Nat → Int) (nb b4 b7 : Nat) (kd : Int) (X : World) (v : Value) (t : Tf) (cs : List Value) (m : List Nat) : Prop where
 box : X.heap[b7]? = some (.cells #[.int .i64 kd,.int .i64 0,v] 53 (0,0))
 res : X.heap[b4]? = some (.cells #[.int .i64 0,.int .i64 0,.slice none 0 0] 53 (0,0))
 row : X.ownsRow (b7 + 1) 53 3 v t.len cs
 par : t.Row X (fun k => b7 < k ∧ TgT X k ∧ v.ownBlock ≠ some k) cs
 st : StH D (fun k => M k ∨ k = b4 ∨ k = b7 ∨ v.ownBlock = some k) X ix S sz
 nm : NmM X nb ix m
 kx : Kx D (fun k => k = nb) w X
 hm : M nb
 hml : ∀ k,M k → k < b4
 h4 : w.heap.size = b4
 h7 : b4 < b7
 hn : nb < b4
theorem row_alloc {w : World} {base : Nat} {e : TypeId} {size : Nat} {v : Value} {n : Nat} {xs : List Value} (h : w.ownsRow base e size v n xs) (o : Obj) : (w.alloc o).ownsRow base e size v n xs:=h.alloc o
section
variable {M : Nat → Prop} {w : World} {ix : List Nat} {S : St} {sz : Nat → Int} {nb b4 b7 : Nat} {kd : Int} {X : World} {v : Value} {t : Tf} {cs : List Value} {m : List Nat}
theorem BtI.call (h : BtI D M w ix S sz nb b4 b7 kd X v t cs m) {Y : World} {m' : List Nat} (hst : StH D (fun k => M k ∨ k = b4 ∨ k = b7 ∨ v.ownBlock = some k) Y ix S sz) (hnm : NmM Y nb ix m') (hk : Kx D (fun k => k = nb) X Y) : BtI D M w ix S sz nb b4 b7 kd Y v t cs m':=by
 have h4:=h.h4
 have h7:=h.h7
 have hn:=h.hn
 have same : ∀ k,nb < k → TgT X k → Y.heap[k]? = X.heap[k]?:=fun k h1 h2 => hk.block k h2.lt (.inr h2.not) (by omega)
 refine ⟨(same b7 (by omega) ⟨_,_,h.box⟩).trans h.box,(same b4 (by omega) ⟨_,_,h.res⟩).trans h.res,?_,?_,hst,hnm,h.kx.trans hk (fun _ _ e => e),h.hm,h.hml,h4,h7,hn⟩
 ·refine ⟨h.row.1,?_⟩
  rcases h.row.2 with h' | ⟨g,cap,cur,e1,e2,e3,e4⟩
  ·exact .inl h'
  ·exact .inr ⟨g,cap,cur,e1,e2,(same g (by omega) ⟨_,_,e3⟩).trans e3,e4⟩
 ·exact h.par.keep (fun k hk => same k (by omega) hk.2.1) fun k hk => ⟨hk.1,(TgT.congr (same k (by omega) hk.2.1)).2 hk.2.1,hk.2.2⟩
theorem BtI.drew (h : BtI D M w ix S sz nb b4 b7 kd X v t cs m) : BtI D M w ix S sz nb b4 b7 kd X.drew v t cs m:=
 h.call (h.st.keep (Below.refl _ _).drew) (h.nm.keep rfl) ((Kn.drew X).x _)
theorem BtI.own (h : BtI D M w ix S sz nb b4 b7 kd X v t cs m) {g : Nat} (hg : v.ownBlock = some g) : b7 < g ∧ g < X.heap.size ∧ TgT X g:=by
 have h1:=h.row.lt g hg
 obtain ⟨c,fz,h2⟩:=Lib.ownsRow_kind h.row g hg
 exact ⟨by omega,h1.2,c,fz,h2⟩
theorem BtI.push (h : BtI D M w ix S sz nb b4 b7 kd X v t cs m) {k' v' : Int} {s : Tf} {A : Option Addr} {c : Nat} {N0 : Nat} (hN0 : ∀ g,v.ownBlock = some g → g < N0) (h70 : b7 < N0) (hs : s.Sl X (fun k => N0 ≤ k ∧ TgT X k) A c) {O : Obj} {gg cap : Nat} {Y : World}
  (ho : Y.ownsRow (b7 + 1) 53 3 (.slice (some ⟨gg,0,none⟩) (t.len + 1) cap) (t.len + 1) (cs ++ [.int .i64 k',.int .i64 v',.slice A s.len c])) (hg : (X.alloc O).grownBy Y v.ownBlock) (hgg : v.ownBlock = some gg ∨ gg = (X.alloc O).heap.size) :
  BtI D M w ix S sz nb b4 b7 kd (Y.setCell ⟨b7,2,none⟩ (.slice (some ⟨gg,0,none⟩) (t.len + 1) cap)) (.slice (some ⟨gg,0,none⟩) (t.len + 1) cap) (t.app (.cons k' v' s .nil)) (cs ++ [.int .i64 k',.int .i64 v',.slice A s.len c]) m:=by
 have h4:=h.h4
 have h7:=h.h7
 have hn:=h.hn
 have hb7:=(Array.getElem?_eq_some_iff.1 h.box).1
 have hsz : (X.alloc O).heap.size = X.heap.size + 1:=by simp
 have hsY : X.heap.size + 1 ≤ Y.heap.size:=by rw [← hsz];exact hg.size
 have same : ∀ k,k < X.heap.size → k ≠ b7 → v.ownBlock ≠ some k → (Y.setCell ⟨b7,2,none⟩ (.slice (some ⟨gg,0,none⟩) (t.len + 1) cap)).heap[k]? = X.heap[k]?:=fun k h1 h2 h3 =>
  (Below.heap_setCell _ _ _ _ h2).trans ((hg.block k (by omega) (fun e => h3 e.symm)).trans (Below.heap_alloc _ _ _ h1))
 have ob7 : v.ownBlock ≠ some b7:=fun e => by have:=(h.own e).1;omega
 have ob4 : v.ownBlock ≠ some b4:=fun e => by have:=(h.own e).1;omega
 have ggb : b7 < gg:=by
  rcases hgg with e | e
  ·exact (h.own e).1
  ·omega
 have hboxY : Y.heap[b7]? = some (.cells #[.int .i64 kd,.int .i64 0,v] 53 (0,0)):=((hg.block b7 (by omega) (fun e => ob7 e.symm)).trans (Below.heap_alloc _ _ _ hb7)).trans h.box
 have hkeep : ∀ k,(b7 < k ∧ TgT X k ∧ v.ownBlock ≠ some k) → (Y.setCell ⟨b7,2,none⟩ (.slice (some ⟨gg,0,none⟩) (t.len + 1) cap)).heap[k]? = X.heap[k]?:=fun k hk => same k hk.2.1.lt (by omega) hk.2.2
 have hnew : ∀ k,(b7 < k ∧ TgT X k ∧ v.ownBlock ≠ some k) → some gg ≠ some k:=fun k hk e => by
  cases e
  rcases hgg with e | e
  ·exact hk.2.2 e
  ·have:=hk.2.1.lt;omega
 have hP : ∀ k,(b7 < k ∧ TgT X k ∧ v.ownBlock ≠ some k) → (b7 < k ∧ TgT (Y.setCell ⟨b7,2,none⟩ (.slice (some ⟨gg,0,none⟩) (t.len + 1) cap)) k ∧ some gg ≠ some k):=fun k hk => ⟨hk.1,(TgT.congr (hkeep k hk)).2 hk.2.1,hnew k hk⟩
 have hN : ∀ k,(N0 ≤ k ∧ TgT X k) → (b7 < k ∧ TgT X k ∧ v.ownBlock ≠ some k):=fun k hk => ⟨by omega,hk.2,fun e => by have:=hN0 k e;omega⟩
 have hggY : TgT Y gg:=by
  obtain ⟨c,fz,h2⟩:=Lib.ownsRow_kind ho gg rfl
  exact ⟨c,fz,h2⟩
 have hggZ : TgT (Y.setCell ⟨b7,2,none⟩ (.slice (some ⟨gg,0,none⟩) (t.len + 1) cap)) gg:=(TgT.congr (Below.heap_setCell _ _ _ _ (by show gg ≠ b7;omega))).2 hggY
 have hlen : (t.app (.cons k' v' s .nil)).len = t.len + 1:=by rw [Tf.app_len];rfl
 have hnmb : v.ownBlock ≠ some nb:=fun e => by have:=(h.own e).1;omega
 refine ⟨heap_set hboxY _,(same b4 (by omega) (by omega) ob4).trans h.res,?_,?_,?_,?_,?_,h.hm,h.hml,h4,h7,hn⟩
 ·rw [hlen]
  refine ⟨ho.1,?_⟩
  rcases ho.2 with ⟨e,_⟩ | ⟨g,cap',cur,e1,e2,e3,e4⟩
  ·cases e
  ·exact .inr ⟨g,cap',cur,e1,e2,(Below.heap_setCell _ _ _ _ (by show g ≠ b7;omega)).trans e3,e4⟩
 ·exact (h.par.keep hkeep hP).snoc ((hs.keep (P':=fun k => b7 < k ∧ TgT X k ∧ v.ownBlock ≠ some k) (fun _ _ => rfl) hN).keep hkeep hP)
 ·refine h.st.shift (by simp [World.setCell];omega) (fun k hk hm => same k hk (fun e => hm (.inr (.inr (.inl e)))) (fun e => hm (.inr (.inr (.inr e))))) (fun k hk => ?_) (fun k hk => ?_)
  ·rcases hk with hk | hk | hk | hk
   ·exact .inl (.inl hk)
   ·exact .inl (.inr (.inl hk))
   ·exact .inl (.inr (.inr (.inl hk)))
   ·simp only [Value.ownBlock,Option.some.injEq] at hk
    subst hk
    rcases hgg with e | e
    ·exact .inl (.inr (.inr (.inr e)))
    ·exact .inr (by omega)
  ·have hlt : ∀ k,k < Y.heap.size → k < (Y.setCell ⟨b7,2,none⟩ (.slice (some ⟨gg,0,none⟩) (t.len + 1) cap)).heap.size:=fun k hk => by simpa [World.setCell] using hk
   rcases hk with hk | rfl | rfl | hk
   ·have h3:=h.st.not k (.inl hk)
    have h5:=h.hml k hk
    exact ⟨hlt _ (by omega),fun ht => h3.2 ((TgN.congr (same k h3.1 (by omega) (fun e => by have:=(h.own e).1;omega))).1 ht)⟩
   ·exact ⟨hlt _ (by omega),TgN.not ((same k (by omega) (by omega) ob4).trans h.res) (by decide)⟩
   ·exact ⟨hlt _ (by omega),TgN.not (heap_set hboxY _) (by decide)⟩
   ·simp only [Value.ownBlock,Option.some.injEq] at hk
    subst hk
    exact ⟨hggZ.lt,hggZ.not⟩
 ·exact h.nm.keep (same nb (by omega) (by omega) hnmb)
 ·refine h.kx.new' ⟨hg.os.trans rfl,hg.tape.trans rfl,hg.output.trans rfl,by simp [World.setCell];omega,fun k hk => ?_⟩
  exact same k (by have:=h.kx.size;omega) (by omega) (fun e => by have:=(h.own e).1;omega)
end
def BtOK (D : Nat → Prop) (ix : List Nat) (S : St) (sz : Nat → Int) (nb f : Nat) : Prop:=∀ (M : Nat → Prop) (i : Nat) (m : List Nat) (w : World),M nb → i < S.length → Bl S f i → (∀ j ∈ m,j < S.length) → StH D M w ix S sz → NmM w nb ix m →
 Calls Tryz.prog 101 #[nP (blk ix i),.map (some nb)] w (BtP D M w ix S sz nb (bT S f i m))
set_option maxRecDepth 100000 in
set_option maxHeartbeats 4000000 in
theorem build_step (ar : Int → Nat) (har : ∀ k,ar k ≤ 1000) (S : St) (hw : Wf ar S) (ix : List Nat) (sz : Nat → Int) (nb f : Nat) (ih : BtOK D ix S sz nb f) : BtOK D ix S sz nb (f + 1):=by
 intro M i m w hMn hi hbl hm h hn
 obtain ⟨x,hx1,hx2⟩:=rt_top hw hi
 have hr:=rt_lt hw hi
 obtain ⟨R,HR⟩ : ∃ R,Hid (bT S (f + 1) i m = R):=⟨_,Lib.hid rfl⟩
 rw [HR.out]
 have HU:=Lib.hid (show R = if x.kind = 5 then (((5,((numV m (rt S i)).1 : Int),.nil) : Int × Int × Tf),(numV m (rt S i)).2) else ((x.kind,0,(bL (bT S f) x.sub m).1),(bL (bT S f) x.sub m).2) by
  rw [← HR.out]
  show (match S[rt S i]? with
   | none => (((0,0,.nil) : Int × Int × Tf),m)
   | some x => if x.kind = 5 then ((5,((numV m (rt S i)).1 : Int),.nil),(numV m (rt S i)).2) else ((x.kind,0,(bL (bT S f) x.sub m).1),(bL (bT S f) x.sub m).2)) = _
  rw [hx1])
 have HB:=Lib.hid (show x.kind ≠ 5 → ∀ s ∈ x.sub,Bl S f s from hbl x hx1)
 obtain ⟨b4,Hb4⟩ : ∃ b,w.heap.size = b:=⟨_,rfl⟩
 obtain ⟨M',HM'⟩ : ∃ M' : Nat → Prop,Hid (M' = fun k => M k ∨ k = b4):=⟨_,Lib.hid rfl⟩
 obtain ⟨W0,hW0⟩ : ∃ W0,w.alloc (.cells #[.int .i64 0,.int .i64 0,.slice none 0 0] 53) = W0:=⟨_,rfl⟩
 have hb0 : Below b4 w W0:=by subst hW0 Hb4;exact (Below.refl _ _).alloc (Nat.le_refl _) _
 have hz0 : W0.heap.size = b4 + 1:=by subst hW0 Hb4;simp
 have hr0 : W0.heap[b4]? = some (.cells #[.int .i64 0,.int .i64 0,.slice none 0 0] 53 (0,0)):=by subst hW0 Hb4;exact heap_alloc_new w _
 have h0 : StH D M' W0 ix S sz:=by
  refine h.shift (by omega) (fun k hk _ => hb0.block k (by omega)) (fun k hk => ?_) (fun k hk => ?_)
  ·rw [HM'.out] at hk
   exact hk.imp id (fun e => by omega)
  ·rw [HM'.out] at hk
   rcases hk with hk | rfl
   ·obtain ⟨k1,k2⟩:=h.not k hk
    exact ⟨by omega,fun ht => k2 ((TgN.congr (hb0.block k (by omega))).1 ht)⟩
   ·exact ⟨by omega,TgN.not hr0 (by decide)⟩
 have HA:=Lib.hid (find_any hw hi h0)
 generalize hgr : rt S i = r at *
 have H0:=Lib.hid (And.intro hm (And.intro hMn (And.intro (hn.keep (hb0.block nb (by have:=hn.lt;omega))) (And.intro hb0 (And.intro hr0 ih)))))
 have HX:=Lib.hid (And.intro hx1 (And.intro (hw.sub r x hx1) hr))
 have hnb : nb < b4:=by have:=hn.lt;omega
 have HO:=Lib.hid (fun k hk => h.not k hk)
 clear hm h hn hb0 hr0 hbl hx1 hx2 hgr hi h0 hMn ih
 unfold nP at HA ⊢
 go_enter Tryz.func101,Tryz.ntmps101
 go_wp2_with fail
 try rw [hW0]
 try rw [Hb4]
 refine HA.out.mono ?_
 rintro e w1 ⟨rfl,h1,hk1⟩
 have hr1:=hk1.box H0.out.2.2.2.2.1 (by decide)
 obtain ⟨p0,p1,p2,q0,q1,q2⟩ : w1.cell? ⟨b4,0,none⟩ = some (.int .i64 0) ∧ w1.cell? ⟨b4,1,none⟩ = some (.int .i64 0) ∧ w1.cell? ⟨b4,2,none⟩ = some (.slice none 0 0) ∧ w1.frozen? ⟨b4,0,none⟩ = false ∧ w1.frozen? ⟨b4,1,none⟩ = false ∧ w1.frozen? ⟨b4,2,none⟩ = false:=
  ⟨cell_of_row w1 _ 0 _ _ (0,0) hr1,cell_of_row w1 _ 1 _ _ (0,0) hr1,cell_of_row w1 _ 2 _ _ (0,0) hr1,frozen_of_row w1 _ 0 _ _ hr1,frozen_of_row w1 _ 1 _ _ hr1,frozen_of_row w1 _ 2 _ _ hr1⟩
 have hn1 : NmM w1 nb ix m:=H0.out.2.2.1.keep (hk1.block nb (by omega) (.inr H0.out.2.2.1.not))
 obtain ⟨ua,A,c,hb1,hc1,hc2,hs1⟩:=h1.at_ HX.out.1
 obtain ⟨c0,c1,c2,c3,f0,f1,f2,f3⟩:=row4 hb1
 have hKW : Kx D (fun k => k = nb) w w1:=((Kn.below (D:=D) (by rw [Hb4];exact H0.out.2.2.2.1)).trans hk1).x _
 have hb4r : blk ix r ≠ b4:=fun e => by rw [e,hr1] at hb1;simp at hb1
 by_cases e0 : x.kind = 5
 ·have HV:=Lib.hid (show R = (((5,((numV m r).1 : Int),.nil) : Int × Int × Tf),(numV m r).2) by rw [HU.out,if_pos e0])
  have hl1:=hn1.look h1 HX.out.2.2 H0.out.1 true
  rw [e0] at c1
  have HEnd:=Lib.hid (show ∀ (w2 Z : World) (m2 : List Nat) (v : Int),R = ((5,v,.nil),m2) → (∀ k,k ≠ nb → w2.heap[k]? = w1.heap[k]?) → w1.heap.size ≤ w2.heap.size → NmM w2 nb ix m2 → Kx D (fun k => k = nb) w1 w2 → Below b4 w2 Z → (∀ k,k ≠ b4 → Z.heap[k]? = w2.heap[k]?) → BtP D M w ix S sz nb R (.returned (.agg #[.int .i64 5,.int .i64 v,.slice none 0 0])) Z from fun w2 Z m2 v hR hne hsz hnm hkx hbz hzz => by
   have hnZ : NmM Z nb ix m2:=hnm.keep (hzz nb (by omega))
   refine ⟨none,0,by rw [hR];rfl,by rw [hR];exact ⟨Nat.le_refl _,Nat.zero_le _,fun h => absurd rfl h⟩,?_,by rw [hR];exact hnZ,((hKW.trans hkx (fun k _ h => h)).new' (by rw [Hb4];exact hbz))⟩
   have hsame : ∀ k,k ≠ nb → k ≠ b4 → Z.heap[k]? = w1.heap[k]?:=fun k h1 h2 => (hzz k h2).trans (hne k h1)
   refine h1.shift (Nat.le_trans hsz hbz.size) (fun k hk hm => hsame k (fun e => hm ?_) (fun e => hm ?_)) (fun k hk => .inl ?_) (fun k hk => ?_)
   ·rw [HM'.out,e];exact .inl H0.out.2.1
   ·rw [HM'.out,e];exact .inr rfl
   ·rw [HM'.out];exact .inl hk
   ·have h2:=HO.out k hk
    by_cases e : k = nb
    ·subst e
     exact ⟨hnZ.lt,hnZ.not⟩
    ·have h3:=h1.not k (by rw [HM'.out];exact .inl hk)
     exact ⟨Nat.lt_of_lt_of_le h3.1 (Nat.le_trans hsz hbz.size),fun ht => h3.2 ((TgN.congr (hsame k e (by omega))).1 ht)⟩)
  rcases posN_numV r m 0 with ⟨k1,k2,k3⟩ | ⟨k1,k2⟩
  ·rw [k1] at hl1
   obtain ⟨O,hO1,hO2⟩:=hn1.push h1 HX.out.2.2 H0.out.1 k1
   have hle:=hn1.len
   have hst2 : StH D M' (w1.putObj nb O) ix S sz:=by
    refine h1.shift (by simp [World.putObj]) (fun k _ hm => World.putObj_heap_other fun e => hm (by rw [HM'.out,e];exact .inl H0.out.2.1)) (fun k hk => .inl hk) (fun k hk => ?_)
    have h2:=h1.not k hk
    refine ⟨by simpa [World.putObj] using h2.1,?_⟩
    by_cases e : k = nb
    ·subst e;exact hO2.not
    ·exact fun ht => h2.2 ((TgN.congr (World.putObj_heap_other e)).1 ht)
   have hl2:=hO2.look hst2 HX.out.2.2 (fun j hj => by
    rcases List.mem_append.1 hj with h' | h'
    ·exact H0.out.1 j h'
    ·have : j = r:=by simpa using h'
     rw [this];exact HX.out.2.2) false
   rw [posN_snoc _ _ _ k1] at hl2
   simp only [nP,Option.getD_some,Nat.zero_add] at hl1 hl2 hO1
   have hpc : ∀ q,(w1.putObj nb O).cell? ⟨b4,q,none⟩ = w1.cell? ⟨b4,q,none⟩:=fun q => World.cell?_of_block (World.putObj_heap_other (show b4 ≠ nb by omega))
   have hpf : ∀ q,(w1.putObj nb O).frozen? ⟨b4,q,none⟩ = w1.frozen? ⟨b4,q,none⟩:=fun q => World.frozen?_of_block (World.putObj_heap_other (show b4 ≠ nb by omega))
   have HF:=Lib.hid (And.intro hO2 (And.intro (show R = ((5,((m.length : Nat) : Int),.nil),m ++ [r]) by rw [HV.out,k2,k3]) (And.intro (show Kx D (fun k => k = nb) w1 (w1.putObj nb O) from Kx.put O rfl hn1.not) h1.len)))
   have hz1 : ∀ k,k ≠ nb → (w1.putObj nb O).heap[k]? = w1.heap[k]?:=fun k hk => World.putObj_heap_other hk
   obtain ⟨w2,hw2⟩ : ∃ w2,w1.putObj nb O = w2:=⟨_,rfl⟩
   rw [hw2] at hO1 hl2 hpc hpf HF hz1
   have hs2 : w2.heap.size = w1.heap.size:=by rw [← hw2];simp [World.putObj]
   have r0:=(hpc 0).trans p0
   have r1:=(hpc 1).trans p1
   have r2:=(hpc 2).trans p2
   have s0:=(hpf 0).trans q0
   have s1:=(hpf 1).trans q1
   have s2:=(hpf 2).trans q2
   have HZ:=Lib.hid hz1
   have HS2:=Lib.hid hs2
   simp only [Option.getD_none,Option.isSome_none,if_true] at hl1
   simp only [Bool.false_eq_true,if_false] at hl2
   clear p0 p1 p2 q0 q1 q2 hpc hpf hz1 hs2 hb1 hc1 hc2 hs1 hr1 h1 hk1 hn1 hst2 k1 k2 k3 hKW
   go_wp2
   refine bodyPost_ret (v:=.agg #[.int .i64 5,.int .i64 (m.length : Int),.slice none 0 0]) (by simp [results,Tryz.results101,go_sem,r0,r1,r2]) rfl ?_
   refine HEnd.out w2 _ _ _ HF.out.2.1 HZ.out (Nat.le_of_eq HS2.out.symm) HF.out.1 HF.out.2.2.1 ?_ ?_
   ·exact (((Below.refl b4 w2).setCell (Nat.le_refl _) _).setCell (Nat.le_refl _) _).setCell (Nat.le_refl _) _
   ·exact fun k hk => (Below.heap_setCell _ _ _ _ hk).trans ((Below.heap_setCell _ _ _ _ hk).trans (Below.heap_setCell _ _ _ _ hk))
  ·rw [k1] at hl1
   have hl2:=hn1.look h1 HX.out.2.2 H0.out.1 false
   rw [k1] at hl2
   simp only [nP,Option.getD_some,Option.isSome_some,if_true,Nat.zero_add] at hl1
   simp only [nP,Bool.false_eq_true,if_false,Option.getD_some,Nat.zero_add] at hl2
   have HF:=Lib.hid (And.intro hn1 (show R = ((5,(((numV m r).1 : Nat) : Int),.nil),m) by rw [HV.out,k2]))
   clear hb1 hc1 hc2 hs1 hr1 h1 hk1 hn1 k1 k2 hKW
   go_wp2
   refine bodyPost_ret (v:=.agg #[.int .i64 5,.int .i64 ((numV m r).1 : Int),.slice none 0 0]) (by simp [results,Tryz.results101,go_sem,p0,p1,p2]) rfl ?_
   refine HEnd.out w1 _ _ _ HF.out.2 (fun _ _ => rfl) (Nat.le_refl _) HF.out.1 (Kx.refl _ _) ?_ ?_
   ·exact (((Below.refl b4 w1).setCell (Nat.le_refl _) _).setCell (Nat.le_refl _) _).setCell (Nat.le_refl _) _
   ·exact fun k hk => (Below.heap_setCell _ _ _ _ hk).trans ((Below.heap_setCell _ _ _ _ hk).trans (Below.heap_setCell _ _ _ _ hk))
 ·obtain ⟨T,HT⟩ : ∃ T,Hid (bL (bT S f) x.sub m = T):=⟨_,Lib.hid rfl⟩
  have HV:=Lib.hid (show R = (((x.kind,0,T.1) : Int × Int × Tf),T.2) by rw [HU.out,if_neg e0,HT.out])
  have hN : x.sub.length ≤ 1000:=by rw [HX.out.2.1.1];exact har _
  obtain ⟨N,HN⟩ : ∃ N,Hid (x.sub.length = N):=⟨_,Lib.hid rfl⟩
  rw [HN.out] at c2 hN
  have HSub:=Lib.hid (show ∀ (j p : Nat),x.sub[j]? = some p → ∃ g o,A = some ⟨g,o,none⟩ ∧ g < w1.heap.size ∧ ¬ TgN w1 g ∧ ¬ M' g ∧ w1.cell? ⟨g,o + j,none⟩ = some (.pointer (some ⟨blk ix p,0,none⟩)) from fun j p hp => by
   obtain ⟨g,o,e,k1,k2,k3,k4⟩:=hs1 (by intro e;rw [e] at hp;simp at hp)
   exact ⟨g,o,e,k1,k2,k3,k4 j p hp⟩)
  obtain ⟨b7,Hb7⟩ : ∃ b,w1.heap.size = b:=⟨_,rfl⟩
  have hb47 : b4 < b7:=by have:=hk1.size;omega
  have HI0:=Lib.hid (show ∀ W1 : World,W1 = w1.alloc (.cells #[.int .i64 x.kind,.int .i64 0,.slice none 0 0] 53) → BtI D M w ix S sz nb b4 b7 x.kind W1 (.slice none 0 0) .nil [] m ∧ Below b7 w1 W1 from fun W1 e => by
   have hbx : W1.heap[b7]? = some (.cells #[.int .i64 x.kind,.int .i64 0,.slice none 0 0] 53 (0,0)):=by
    subst e Hb7
    exact heap_alloc_new w1 _
   have hbl : Below b7 w1 W1:=by
    subst e Hb7
    exact (Below.refl _ _).alloc (Nat.le_refl _) _
   refine ⟨⟨hbx,(hbl.block b4 (by omega)).trans hr1,World.ownsRow_nil _ _ _ _,rfl,?_,hn1.keep (hbl.block nb (by omega)),hKW.new' (hbl.mono (by omega)),H0.out.2.1,fun k hk => by have:=(HO.out k hk).1;omega,Hb4,hb47,hnb⟩,hbl⟩
   refine h1.shift hbl.size (fun k hk _ => hbl.block k (by omega)) (fun k hk => ?_) (fun k hk => ?_)
   ·rw [HM'.out]
    rcases hk with hk | hk | hk | hk
    ·exact .inl (.inl hk)
    ·exact .inl (.inr hk)
    ·exact .inr (by omega)
    ·cases hk
   ·rcases hk with hk | hk | hk | hk
    ·have h3:=h1.not k (by rw [HM'.out];exact .inl hk)
     exact ⟨Nat.lt_of_lt_of_le h3.1 hbl.size,fun ht => h3.2 ((TgN.congr (hbl.block k (by omega))).1 ht)⟩
    ·subst hk
     exact ⟨by have:=hbl.size;omega,TgN.not ((hbl.block k (by omega)).trans hr1) (by decide)⟩
    ·subst hk
     exact ⟨(Array.getElem?_eq_some_iff.1 hbx).1,TgN.not hbx (by decide)⟩
    ·cases hk)
  have HK1:=Lib.hid hk1
  clear hs1 hc1 hc2 hb1 h1 hk1 hn1 hr1 hKW
  have k5 : (x.kind == 5) = false:=by simpa using e0
  have HBl:=Lib.hid (HB.out e0)
  clear e0
  go_upto_region 8 with fail
  obtain ⟨W1,hW1⟩ : ∃ W1,w1.alloc (.cells #[.int .i64 x.kind,.int .i64 0,.slice none 0 0] 53) = W1:=⟨_,rfl⟩
  obtain ⟨hBI,hBW⟩:=HI0.out W1 hW1.symm
  have c2' : W1.cell? ⟨blk ix r,2,none⟩ = some (.slice A N c):=(hBW.cell (p:=⟨blk ix r,2,none⟩) (by have h9 : blk ix r < w1.heap.size:=World.block_lt_of_cell? w1 ⟨blk ix r,2,none⟩ c2;show blk ix r < b7;omega)).trans c2
  have HI:=Lib.hid (And.intro hBI hBW)
  rw [hW1]
  clear hBI hBW hW1 c0 c1 c2 c3 f0 f1 f2 f3 p0 p1 p2 q0 q1 q2
  go_wp2
  go_loopg [9,43] N (fun g _ ct wr => ∃ (j : Nat) (mj : List Nat) (t : Tf) (v : Value) (cs : List Value),g = N - j ∧ j ≤ N ∧ ct = .int .i64 j ∧ t.len = j ∧ T.1 = t.app (bL (bT S f) (x.sub.drop j) mj).1 ∧ T.2 = (bL (bT S f) (x.sub.drop j) mj).2 ∧ (∀ q ∈ mj,q < S.length) ∧ BtI D M w ix S sz nb b4 b7 x.kind wr v t cs mj ∧ ∀ k,k < b7 → ¬ TgN w1 k → ¬ M' k → wr.heap[k]? = w1.heap[k]?)
  case atStart => exact ⟨0,m,.nil,.slice none 0 0,[],rfl,Nat.zero_le _,rfl,rfl,by rw [List.drop_zero,HT.out];rfl,by rw [List.drop_zero,HT.out],H0.out.1,HI.out.1,fun k hk _ _ => HI.out.2.block k hk⟩
  case round =>
   obtain ⟨j,mj,t,v,cs,hg,hj,rfl,htl,hT1,hT2,hmj,hBI,hkx⟩:=hrel
   clear c2'
   have HG:=Lib.hid (And.intro hg (And.intro htl hkx))
   have bx:=hBI.box
   have y0:=cell_of_row wr b7 0 _ _ (0,0) bx
   have y1:=cell_of_row wr b7 1 _ _ (0,0) bx
   have y2:=cell_of_row wr b7 2 _ _ (0,0) bx
   have z2:=frozen_of_row wr b7 2 _ _ bx
   by_cases hlt : j < N
   ·obtain ⟨p,hp⟩ : ∃ p,x.sub[j]? = some p:=⟨_,List.getElem?_eq_getElem (by rw [HN.out];exact hlt)⟩
    obtain ⟨ga,oa,rfl,hga,hta,hMa,ea⟩:=HSub.out j p hp
    have ea' : wr.cell? ⟨ga,oa + j,none⟩ = some (.pointer (some ⟨blk ix p,0,none⟩)):=by
     exact (World.cell?_of_block (hkx ga (by omega) hta hMa)).trans ea
    have hpl : p < S.length:=HX.out.2.1.2 p (List.mem_of_getElem? hp)
    have HC:=Lib.hid (fun (X : World) (hX : BtI D M w ix S sz nb b4 b7 x.kind X v t cs mj) => H0.out.2.2.2.2.2 (fun k => M k ∨ k = b4 ∨ k = b7 ∨ v.ownBlock = some k) p mj X (.inl hX.hm) hpl (HBl.out p (List.mem_of_getElem? hp)) hmj hX.st hX.nm)
    rw [drop_cons hp] at hT1 hT2
    have HMem:=Lib.hid (bT_mem hw f p mj hpl hmj)
    have HTT:=Lib.hid (show T.1 = t.app (.cons (bT S f p mj).1.1 (bT S f p mj).1.2.1 (bT S f p mj).1.2.2 (bL (bT S f) (x.sub.drop (j + 1)) (bT S f p mj).2).1) ∧ T.2 = (bL (bT S f) (x.sub.drop (j + 1)) (bT S f p mj).2).2 from ⟨hT1,hT2⟩)
    generalize hq : bT S f p mj = q at HC HTT HMem
    obtain ⟨⟨qk,qv,qs⟩,qm⟩:=q
    have HBI:=Lib.hid hBI
    have hb7l : b7 < wr.heap.size:=(Array.getElem?_eq_some_iff.1 bx).1
    have HOW:=Lib.hid (fun g (hg : v.ownBlock = some g) => (hBI.own hg).2.1)
    clear hg htl hT1 hT2 hmj hBI hkx ea hga hta hMa hp hpl hq bx
    unfold nP at HC
    obtain ⟨i0,hi,hz0,hz1,hz2⟩:=info_parts Tryz.infoType
    go_upto_region 11 with fail
    go_region_law (first
     | (go_simp;go_at_call 101;(with_reducible refine Calls.mono (HC.out _ HBI.out.drew) ?_);rintro e w6 ⟨A6,c6,rfl,hsl,hst,hnm,hkx6⟩;have hB6:=HBI.out.drew.call hst hnm hkx6;have bx6:=hB6.box;have u0:=cell_of_row w6 b7 0 _ _ (0,0) bx6;have u1:=cell_of_row w6 b7 1 _ _ (0,0) bx6;have u2:=cell_of_row w6 b7 2 _ _ (0,0) bx6;have u2a : (w6.alloc (.cells #[.int .i64 qk,.int .i64 qv,.slice A6 qs.len c6] 53)).cell? ⟨b7,2,none⟩ = some v:=(World.cell?_of_block (Below.heap_alloc _ _ _ (Array.getElem?_eq_some_iff.1 bx6).1)).trans u2;have HKX6:=Lib.hid hkx6;have HB6:=Lib.hid (And.intro hB6 hsl);clear hB6 hsl hst hnm hkx6 bx6;have tokA : True:=trivial)
     | (have _t:=tokA;refine step_append_lies _ rfl (.tmp 48) (.tmp 52) 51 rfl (b7 + 1) 53 i0 _ 3 40 Tryz.undTypes hi hz0 hz1 hz2 rfl (by omega) v t.len cs rfl (row_alloc HB6.out.1.row _) ⟨w6.heap.size,0,none⟩ 1 1 [.int .i64 qk,.int .i64 qv,.slice A6 qs.len c6] rfl rfl (World.news_of_block (cs:=#[.int .i64 qk,.int .i64 qv,.slice A6 qs.len c6]) (t:=53) (fr:=(0,0)) (heap_alloc_new _ _)) (by simp [Value.oneCell']) (by omega) (by have:=HG.out.2.1;unfold maxLen;omega) (by have:=HG.out.2.1;omega) (by have h1:=HB6.out.1.box;have h2 : b7 < w6.heap.size:=(Array.getElem?_eq_some_iff.1 h1).1;simp;omega) _ rfl ?_;intro gg cap w7 hown7 hgrow7 hat7 hlt7;have hBp:=BtI.push HB6.out.1 (N0:=wr.heap.size) HOW.out hb7l HB6.out.2 hown7 hgrow7 hat7;have hbc:=hgrow7.block b7 (by have h1:=HB6.out.1.box;have h2 : b7 < w6.heap.size:=(Array.getElem?_eq_some_iff.1 h1).1;simp;omega) (fun e => by have:=HOW.out b7 e.symm;have:=(HB6.out.1.own e.symm).1;omega);have hbd:=(hbc.trans (Below.heap_alloc _ _ _ ((Array.getElem?_eq_some_iff.1 HB6.out.1.box).1))).trans HB6.out.1.box;have x2:=cell_of_row w7 b7 2 _ _ (0,0) hbd;have x2':=frozen_of_row w7 b7 2 _ _ hbd;have HBP:=Lib.hid hBp;have HGR:=Lib.hid hgrow7;clear hBp hbc hbd))
    all_goals (
     go_wp2
     go_roundg (N - (j + 1))
     case measure => have:=HG.out.1;omega
     case rel =>
      have htl:=HG.out.2.1
      refine ⟨j + 1,qm,t.app (.cons qk qv qs .nil),_,_,rfl,by omega,val_int (by push_cast;rfl),by rw [Tf.app_len];show t.len + 1 = j + 1;omega,?_,HTT.out.2,HMem.out,HBP.out,fun k h1 h2 h3 => ?_⟩
      ·rw [HTT.out.1,Tf.app_assoc]
       rfl
      ·have e0:=HG.out.2.2 k h1 h2 h3
       have hl : k < wr.heap.size:=by omega
       have hl6 : k < w6.heap.size:=Nat.lt_of_lt_of_le hl HKX6.out.size
       have hnt : ¬ TgN wr k:=fun ht => h2 ((TgN.congr e0).1 ht)
       refine (Below.heap_setCell _ _ _ _ (by show k ≠ b7;omega)).trans ((HGR.out.block k (by simp;omega) (fun e => ?_)).trans ((Below.heap_alloc _ _ _ hl6).trans ((HKX6.out.block k hl (.inr hnt) (fun e => h3 ?_)).trans e0)))
       ·have:=(HB6.out.1.own e.symm).1
        omega
       ·rw [HM'.out,e];exact .inl H0.out.2.1)
   ·have HE:=Lib.hid (show T = (t,mj) by
     rw [List.drop_eq_nil_of_le (by rw [HN.out];omega)] at hT1 hT2
     refine Prod.ext (hT1.trans (Tf.app_nil t)) hT2)
    obtain ⟨AR,cR,hv,hslR⟩:=sl_of_row (P:=fun k => b7 < k ∧ TgT wr k) hBI.row (hBI.par.keep (fun _ _ => rfl) (fun k hk => ⟨hk.1,hk.2.1⟩)) (fun g hg => by have h1:=hBI.own hg;exact ⟨h1.1,h1.2.2⟩)
    subst hv
    have HBI:=Lib.hid (And.intro hBI hslR)
    have x4:=hBI.res
    have w0:=cell_of_row wr b4 0 _ _ (0,0) x4
    have w1':=cell_of_row wr b4 1 _ _ (0,0) x4
    have w2':=cell_of_row wr b4 2 _ _ (0,0) x4
    have v0:=frozen_of_row wr b4 0 _ _ x4
    have v1:=frozen_of_row wr b4 1 _ _ x4
    have v2:=frozen_of_row wr b4 2 _ _ x4
    have HX4:=Lib.hid x4
    clear hg htl hT1 hT2 hmj hBI hkx bx x4 hslR
    go_wp2
    refine bodyPost_ret (v:=.agg #[.int .i64 x.kind,.int .i64 0,.slice AR t.len cR]) (by simp [results,Tryz.results101,go_sem,w0,w1',w2']) rfl ?_
    obtain ⟨Z,hZ⟩ : ∃ Z,((wr.setCell ⟨b4,0,none⟩ (.int .i64 x.kind)).setCell ⟨b4,1,none⟩ (.int .i64 0)).setCell ⟨b4,2,none⟩ (.slice AR t.len cR) = Z:=⟨_,rfl⟩
    have hbz : Below b4 wr Z:=by rw [← hZ];exact (((Below.refl b4 wr).setCell (Nat.le_refl _) _).setCell (Nat.le_refl _) _).setCell (Nat.le_refl _) _
    have hsame : ∀ k,k ≠ b4 → Z.heap[k]? = wr.heap[k]?:=fun k hk => by rw [← hZ];exact (Below.heap_setCell _ _ _ _ hk).trans ((Below.heap_setCell _ _ _ _ hk).trans (Below.heap_setCell _ _ _ _ hk))
    rw [hZ]
    have hB:=HBI.out.1
    have h4:=hB.h4
    have h7:=hB.h7
    refine ⟨AR,cR,by rw [HV.out,HE.out],?_,?_,?_,hB.kx.new' (by rw [h4];exact hbz)⟩
    ·rw [HV.out,HE.out]
     exact HBI.out.2.keep (fun k hk => hsame k (by omega)) (fun k hk => ⟨by omega,(TgT.congr (hsame k (by omega))).2 hk.2⟩)
    ·refine hB.st.shift hbz.size (fun k hk hm => hsame k fun e => hm (.inr (.inl e))) (fun k hk => .inl (.inl hk)) (fun k hk => ?_)
     have h5:=hB.hml k hk
     have h6:=hB.st.not k (.inl hk)
     exact ⟨Nat.lt_of_lt_of_le h6.1 hbz.size,fun ht => h6.2 ((TgN.congr (hsame k (by omega))).1 ht)⟩
    ·rw [HV.out,HE.out]
     exact hB.nm.keep (hsame nb (by have:=hB.hn;omega))
theorem build_any (ar : Int → Nat) (har : ∀ k,ar k ≤ 1000) (S : St) (hw : Wf ar S) (ix : List Nat) (sz : Nat → Int) (nb : Nat) : ∀ f,BtOK D ix S sz nb f
 | 0 => fun _ _ _ _ _ _ hb => hb.elim
 | f + 1 => build_step ar har S hw ix sz nb f (build_any ar har S hw ix sz nb f)
end Go.Proofs.YtmmecapgnmlaiaaGreatDoor
