/- syntax.CheckExpr -/
import Derived.Test.YtmmecapgnmlaiaaGreatDoorItn
import Derived.Test.YtmmecapgnmlaiaaGreatDoorZxg
namespace Go.Proofs.YtmmecapgnmlaiaaGreatDoor
open Go.RowKit Go.Proofs Go.Shelf
attribute [local go_sem] Oper.semAt_some wide_fn wide_depth
def Nd.err (x : Nd) : Int:=nodeE x.k x.n x.m x.i x.d x.len
def limB (l : List Nd) : Bool:=decide (400 < l.length) || l.any fun x => decide (40 < x.dep)
def firstE : List Nd → Int
 | [] => 0
 | x :: r => if x.err = 0 then firstE r else x.err
def exprE (l : List Nd) : Int:=if limB l then 4 else firstE l
theorem nodes_fn (k : Int) (n m : ByteArray) (i d : Int) (v : Value) (w : World) : Calls Tryz.prog 60 #[.agg #[.int .i64 k,.string n,.string m,.int .i64 i,.int .i64 d,v]] w fun e w' =>
  e = .returned (.func (.func 129) #[] #[.pointer (some ⟨w.heap.size,0,none⟩)]) ∧ w.alloc (.cells #[.int .i64 k,.string n,.string m,.int .i64 i,.int .i64 d,v] 44) = w':=by
 have hmf : ∀ (fn : Fn) (first cap : Array Value) (w : World),(Instr.makeFunc fn first cap).run Tryz.prog w = .ok (.func fn first cap) w:=fun _ _ _ _ => rfl
 go_enter Tryz.func60,Tryz.ntmps60
 go_wp2
 go_ret
 exact ⟨rfl,rfl⟩
theorem limB_of (l : List Nd) (pre : List Nd) (x : Nd) (h : pre ++ [x] <+: l) (hx : 400 ≤ pre.length ∨ 40 < x.dep) : limB l = true:=by
 obtain ⟨r,rfl⟩:=h
 unfold limB
 rcases hx with hx | hx
 ·simp;left;omega
 ·simp [hx]
theorem limB_not (l : List Nd) (h1 : l.length ≤ 400) (h2 : ∀ x ∈ l,x.dep ≤ 40) : limB l = false:=by
 unfold limB
 simp only [Bool.or_eq_false_iff,decide_eq_false_iff_not,List.any_eq_false,decide_eq_true_eq]
 exact ⟨by omega,fun x hx => by have:=h2 x hx;omega⟩
theorem firstE_of (l : List Nd) (pre : List Nd) (x : Nd) (h : pre ++ [x] <+: l) (hp : ∀ y ∈ pre,y.err = 0) (hx : x.err ≠ 0) : firstE l = x.err:=by
 obtain ⟨r,rfl⟩:=h
 induction pre with
 | nil => simp [firstE,hx]
 | cons y pre ih =>
  simp only [List.cons_append,firstE]
  rw [if_pos (hp y (List.mem_cons_self ..))]
  exact ih (fun z hz => hp z (List.mem_cons_of_mem _ hz))
theorem firstE_not (l : List Nd) (h : ∀ x ∈ l,x.err = 0) : firstE l = 0:=by
 induction l with
 | nil => rfl
 | cons y l ih => simp only [firstE];rw [if_pos (h y (List.mem_cons_self ..))];exact ih (fun z hz => h z (List.mem_cons_of_mem _ hz))
set_option maxRecDepth 100000 in
set_option maxHeartbeats 2000000 in
theorem checkExpr_any (k : Int) (n m : ByteArray) (i d : Int) (A : Option Addr) (c : Nat) (s : Fo) (w : World) (hs : s.Sl w w.heap.size A c) :
  Calls Tryz.prog 124 #[.agg #[.int .i64 k,.string n,.string m,.int .i64 i,.int .i64 d,.slice A s.len c]] w fun e w' =>
   e = .returned (.int .i64 (exprE (⟨1,k,n,m,i,d,A,s.len,c⟩ :: s.pre 2))) ∧ Below w.heap.size w w':=by
 have HS:=Lib.hid hs
 clear hs
 obtain ⟨L,HL⟩ : ∃ L,Hid ((⟨1,k,n,m,i,d,A,s.len,c⟩ :: s.pre 2 : List Nd) = L):=⟨_,rfl⟩
 rw [HL.out]
 refine (callsIn_wide (n:=0)).1 ?_
 refine callsIn_of_wp_marks Tryz.func124 rfl trivial ?_ rfl
 simp only [Tryz.ntmps124,List.size_toArray,List.length_cons,List.length_nil,Nat.reduceAdd,Nat.reduceSub,Array.replicate_succ,Array.replicate_zero,List.push_toArray,List.append_toArray,List.nil_append,List.cons_append]
 gi_wp2_with (gi_at_call 60;refine (callsIn_wide.2 (nodes_fn _ _ _ _ _ _ _)).mono ?_;rintro e w' ⟨rfl,rfl⟩)
 obtain ⟨W0,hW0⟩ : ∃ W0,(((w.alloc (.cells #[.int .i64 k,.string n,.string m,.int .i64 i,.int .i64 d,.slice A s.len c] 44)).alloc (.cells #[.int .i64 0] 29)).alloc (.cells #[.int .i64 0] 3)).alloc (.cells #[.int .i64 k,.string n,.string m,.int .i64 i,.int .i64 d,.slice A s.len c] 44) = W0:=⟨_,rfl⟩
 have z0 : W0.heap.size = w.heap.size + 4:=by subst hW0;simp
 have c0 : W0.cell? ⟨w.heap.size,0,none⟩ = some (.int .i64 k):=by subst hW0;go_simp
 have c1 : W0.cell? ⟨w.heap.size,1,none⟩ = some (.string n):=by subst hW0;go_simp
 have c2 : W0.cell? ⟨w.heap.size,2,none⟩ = some (.string m):=by subst hW0;go_simp
 have c3 : W0.cell? ⟨w.heap.size,3,none⟩ = some (.int .i64 i):=by subst hW0;go_simp
 have c4 : W0.cell? ⟨w.heap.size,4,none⟩ = some (.int .i64 d):=by subst hW0;go_simp
 have c5 : W0.cell? ⟨w.heap.size,5,none⟩ = some (.slice A s.len c):=by subst hW0;go_simp
 have r0 : W0.cell? ⟨w.heap.size + 1,0,none⟩ = some (.int .i64 0):=by subst hW0;go_simp
 have q0 : W0.cell? ⟨w.heap.size + 1 + 1,0,none⟩ = some (.int .i64 0):=by subst hW0;go_simp
 have rf : W0.frozen? ⟨w.heap.size + 1,0,none⟩ = false:=by subst hW0;go_simp
 have qf : W0.frozen? ⟨w.heap.size + 1 + 1,0,none⟩ = false:=by subst hW0;go_simp
 have b0 : W0.cell? ⟨w.heap.size + 1 + 1 + 1,0,none⟩ = some (.int .i64 k):=by subst hW0;go_simp
 have b1 : W0.cell? ⟨w.heap.size + 1 + 1 + 1,1,none⟩ = some (.string n):=by subst hW0;go_simp
 have b2 : W0.cell? ⟨w.heap.size + 1 + 1 + 1,2,none⟩ = some (.string m):=by subst hW0;go_simp
 have b3 : W0.cell? ⟨w.heap.size + 1 + 1 + 1,3,none⟩ = some (.int .i64 i):=by subst hW0;go_simp
 have b4 : W0.cell? ⟨w.heap.size + 1 + 1 + 1,4,none⟩ = some (.int .i64 d):=by subst hW0;go_simp
 have b5 : W0.cell? ⟨w.heap.size + 1 + 1 + 1,5,none⟩ = some (.slice A s.len c):=by subst hW0;go_simp
 have hB0 : Below w.heap.size w W0:=by rw [← hW0];exact ((((Below.refl _ _).alloc (Nat.le_refl _) _).alloc (by simp) _).alloc (by simp;omega) _).alloc (by simp;omega) _
 rw [hW0]
 clear hW0
 have hS0 : s.Sl W0 w.heap.size A c:=HS.out.below hB0
 have hit:=nodes1_iter (w.heap.size + 1 + 1 + 1) w.heap.size k n m i d A c s W0 b0 b1 b2 b3 b4 b5 hS0 (by omega)
 rw [HL.out] at hit
 have e0 : Keeps (fun k => k = w.heap.size) W0 W0:=Keeps.refl _ _
 refine wpIn_range (P:=Tryz.prog) (w0:=W0) (gf:=129) rfl (fun args w => Tryz.call129 args w) hit (Keeps.refl _ _) (fun _ => rfl) (by omega) (by rintro k rfl;omega)
  (fun pre W => W.cell? ⟨w.heap.size + 1 + 1,0,none⟩ = some (.int .i64 pre.length) ∧ W.frozen? ⟨w.heap.size + 1 + 1,0,none⟩ = false ∧ W.cell? ⟨w.heap.size + 1,0,none⟩ = some (.int .i64 0) ∧ W.frozen? ⟨w.heap.size + 1,0,none⟩ = false ∧
   pre.length ≤ 400 ∧ (∀ x ∈ pre,x.dep ≤ 40) ∧ Below w.heap.size w W ∧ W.heap[w.heap.size]? = W0.heap[w.heap.size]?)
  (fun c pre W => c = .ret ∧ W.cell? ⟨w.heap.size + 1,0,none⟩ = some (.int .i64 4) ∧ limB L = true ∧ Below w.heap.size w W)
  ?told1 ?told2 (fun pre W h x hx => by have:=h.2.2.2.2.2.1 x hx;omega) ⟨q0,qf,r0,rf,by simp,by simp,hB0,rfl⟩
  (fun x => { tmps:=#[.agg #[.int .i64 k,.string n,.string m,.int .i64 i,.int .i64 d,.slice A s.len c],.pointer (some ⟨w.heap.size,0,none⟩),.pointer (some ⟨w.heap.size + 1,0,none⟩),.pointer (some ⟨w.heap.size + 1 + 1,0,none⟩),.int .i64 x.dep,undef,undef,undef,.agg #[.int .i64 k,.string n,.string m,.int .i64 i,.int .i64 d,.slice A s.len c],.func (.func 129) #[] #[.pointer (some ⟨w.heap.size + 1 + 1 + 1,0,none⟩)],.int .i64 x.dep,.agg #[.int .i64 x.k,.string x.n,.string x.m,.int .i64 x.i,.int .i64 x.d,.slice x.A x.len x.c],undef,undef,undef,undef,undef,undef,undef,undef,undef,undef,undef,undef,undef,undef,undef,undef,undef],defers:=[] })
  ?assign ?body ?done ?stop
 case told1 =>
  intro pre X Y ⟨h1,h2,h3,h4,h5,h6,h7,h8⟩ hk
  have hl : w.heap.size + 1 + 1 < X.heap.size:=World.block_lt_of_cell? X ⟨w.heap.size + 1 + 1,0,none⟩ h1
  exact ⟨hk.cell (p:=⟨w.heap.size + 1 + 1,0,none⟩) ⟨by simp;omega,by simp⟩ h1,(hk.frozen (p:=⟨w.heap.size + 1 + 1,0,none⟩) hl ⟨by simp;omega,by simp⟩).trans h2,
   hk.cell (p:=⟨w.heap.size + 1,0,none⟩) ⟨by simp;omega,by simp⟩ h3,(hk.frozen (p:=⟨w.heap.size + 1,0,none⟩) (by simp;omega) ⟨by simp;omega,by simp⟩).trans h4,h5,h6,
   h7.trans (hk.to_below (by omega) fun k hk => ⟨by omega,by omega⟩),(hk.block _ (by omega) ⟨by omega,by omega⟩).trans h8⟩
 case told2 =>
  intro c pre X Y ⟨h0,h1,h3,h4⟩ hk
  have hl : w.heap.size + 1 < X.heap.size:=World.block_lt_of_cell? X ⟨w.heap.size + 1,0,none⟩ h1
  exact ⟨h0,hk.cell (p:=⟨w.heap.size + 1,0,none⟩) ⟨by simp;omega,by simp⟩ h1,h3,h4.trans (hk.to_below (by omega) fun k hk => ⟨by omega,by omega⟩)⟩
 case assign =>
  intro l x W K hK
  simp only [Nd.encs]
  gi_wp2
  exact hK
 case body =>
  rintro l pre x W hpre ⟨h1,h2,h3,h4,h5,h6,h7,h8⟩ hsz
  have HH:=Lib.hid (And.intro hpre (And.intro h6 (And.intro h7 h8)))
  clear hpre hit b0 b1 b2 b3 b4 b5 c0 c1 c2 c3 c4 c5 r0 q0 rf qf hB0 h6 h7 h8 e0 hS0
  have hx0 : (0 : Int) ≤ x.dep:=by omega
  by_cases h400 : pre.length = 400
  ·have g1 : decide (400 < (pre.length : Int) + 1) = true:=by simp;omega
   have hlim:=Lib.hid (limB_of L pre x HH.out.1 (.inl (by omega)))
   clear h400
   gi_wp2
   refine ⟨((Keeps.refl _ _).setCell (by simp;omega) _).setCell (by simp;omega) _,rfl,World.cell?_setCell_same' _ _ _ ?_,hlim.out,(HH.out.2.2.1.setCell (by simp;omega) _).setCell (by simp) _⟩
   rw [World.cell?_setCell_other _ _ _ _ (by simp),h3];rfl
  ·have g1 : decide (400 < (pre.length : Int) + 1) = false:=by simp;omega
   by_cases h40 : 40 < x.dep
   ·have g2 : decide (40 < (x.dep : Int)) = true:=by simp;omega
    have hlim:=Lib.hid (limB_of L pre x HH.out.1 (.inr h40))
    clear h40
    gi_wp2
    refine ⟨((Keeps.refl _ _).setCell (by simp;omega) _).setCell (by simp;omega) _,rfl,World.cell?_setCell_same' _ _ _ ?_,hlim.out,(HH.out.2.2.1.setCell (by simp;omega) _).setCell (by simp) _⟩
    rw [World.cell?_setCell_other _ _ _ _ (by simp),h3];rfl
   ·have g2 : decide (40 < (x.dep : Int)) = false:=by simp;omega
    gi_wp2
    refine ⟨(Keeps.refl _ _).setCell (by simp;omega) _,?_,?_,?_,?_,by simp;omega,?_,HH.out.2.2.1.setCell (by simp;omega) _,?_⟩
    ·rw [World.cell?_setCell_same' _ _ _ (by rw [h1];rfl)];simp
    ·rw [World.frozen?_setCell];exact h2
    ·rw [World.cell?_setCell_other _ _ _ _ (by simp)];exact h3
    ·rw [World.frozen?_setCell];exact h4
    ·intro y hy
     rcases List.mem_append.1 hy with hy | hy
     ·exact HH.out.2.1 y hy
     ·simp only [List.mem_singleton] at hy;subst hy;omega
    ·exact (Below.heap_setCell _ _ _ _ (by simp;omega)).trans HH.out.2.2.2
 case done =>
  rintro D W hD ⟨h1,h2,h3,h4,h5,h6,h7,h8⟩ hK
  have hlim:=Lib.hid (limB_not L h5 h6)
  have d0:=(World.cell?_of_block (a:=⟨w.heap.size,0,none⟩) h8).trans c0
  have d1:=(World.cell?_of_block (a:=⟨w.heap.size,1,none⟩) h8).trans c1
  have d2:=(World.cell?_of_block (a:=⟨w.heap.size,2,none⟩) h8).trans c2
  have d3:=(World.cell?_of_block (a:=⟨w.heap.size,3,none⟩) h8).trans c3
  have d4:=(World.cell?_of_block (a:=⟨w.heap.size,4,none⟩) h8).trans c4
  have d5:=(World.cell?_of_block (a:=⟨w.heap.size,5,none⟩) h8).trans c5
  have HH:=Lib.hid (And.intro h6 (And.intro h7 h8))
  clear hit b0 b1 b2 b3 b4 b5 c0 c1 c2 c3 c4 c5 r0 q0 rf qf hB0 h5 h6 h7 h8 e0 hS0
  gi_wp2_with (gi_at_call 60;refine (callsIn_wide.2 (nodes_fn _ _ _ _ _ _ _)).mono ?_;rintro e w' ⟨rfl,rfl⟩)
  obtain ⟨V0,hV0⟩ : ∃ V0,W.alloc (.cells #[.int .i64 k,.string n,.string m,.int .i64 i,.int .i64 d,.slice A s.len c] 44) = V0:=⟨_,rfl⟩
  have z1 : V0.heap.size = W.heap.size + 1:=by subst hV0;simp
  have hlr : w.heap.size + 1 < W.heap.size:=World.block_lt_of_cell? W ⟨w.heap.size + 1,0,none⟩ h3
  have hDW : D < W.heap.size:=(Array.getElem?_eq_some_iff.1 hK).1
  have b0 : V0.cell? ⟨W.heap.size,0,none⟩ = some (.int .i64 k):=by subst hV0;go_simp
  have b1 : V0.cell? ⟨W.heap.size,1,none⟩ = some (.string n):=by subst hV0;go_simp
  have b2 : V0.cell? ⟨W.heap.size,2,none⟩ = some (.string m):=by subst hV0;go_simp
  have b3 : V0.cell? ⟨W.heap.size,3,none⟩ = some (.int .i64 i):=by subst hV0;go_simp
  have b4 : V0.cell? ⟨W.heap.size,4,none⟩ = some (.int .i64 d):=by subst hV0;go_simp
  have b5 : V0.cell? ⟨W.heap.size,5,none⟩ = some (.slice A s.len c):=by subst hV0;go_simp
  have hKV : Below W.heap.size W V0:=by rw [← hV0];exact (Below.refl _ _).alloc (Nat.le_refl _) _
  have r3 : V0.cell? ⟨w.heap.size + 1,0,none⟩ = some (.int .i64 0):=(hKV.cell (p:=⟨w.heap.size + 1,0,none⟩) hlr).trans h3
  have r4 : V0.frozen? ⟨w.heap.size + 1,0,none⟩ = false:=(hKV.frozen (p:=⟨w.heap.size + 1,0,none⟩) hlr).trans h4
  have rD : V0.heap[D]? = some (.deferred (some [])):=(hKV.block D hDW).trans hK
  have hBV : Below w.heap.size w V0:=HH.out.2.1.trans (hKV.mono (by omega))
  have hS0 : s.Sl V0 w.heap.size A c:=HS.out.below hBV
  rw [hV0]
  clear hV0 d0 d1 d2 d3 d4 d5 h1 h2 h3 h4 hK hKV
  have hit:=nodes1_iter W.heap.size w.heap.size k n m i d A c s V0 b0 b1 b2 b3 b4 b5 hS0 (by omega)
  rw [HL.out] at hit
  refine wpIn_rangeA (P:=Tryz.prog) (w0:=V0) (gf:=129) rfl (fun args w => Tryz.call129 args w) hit (Keeps.refl _ _) (fun _ => rfl) (by omega) (by rintro k rfl;omega)
   (fun pre X => X.cell? ⟨w.heap.size + 1,0,none⟩ = some (.int .i64 0) ∧ X.frozen? ⟨w.heap.size + 1,0,none⟩ = false ∧ (∀ x ∈ pre,x.err = 0) ∧ (∀ x ∈ pre,x.dep ≤ 40) ∧ Below w.heap.size w X ∧ X.heap[D]? = some (.deferred (some [])))
   (fun c pre X => c = .ret ∧ X.cell? ⟨w.heap.size + 1,0,none⟩ = some (.int .i64 (firstE L)) ∧ Below w.heap.size w X ∧ X.heap[D]? = some (.deferred (some [])))
   ?told3 ?told4 (fun pre X h x hx => by have:=h.2.2.2.1 x hx;omega) ⟨r3,r4,by simp,by simp,hBV,rD⟩
   (fun x a' X => ∃ bx,V0.heap.size + 2 ≤ bx ∧ X.heap[bx]? = some (.cells #[.int .i64 x.k,.string x.n,.string x.m,.int .i64 x.i,.int .i64 x.d,.slice x.A x.len x.c] 44 (0,0)) ∧ a' = { tmps:=#[.agg #[.int .i64 k,.string n,.string m,.int .i64 i,.int .i64 d,.slice A s.len c],.pointer (some ⟨w.heap.size,0,none⟩),.pointer (some ⟨w.heap.size + 1,0,none⟩),.pointer (some ⟨w.heap.size + 1 + 1,0,none⟩),undef,undef,.pointer (some ⟨bx,0,none⟩),undef,.agg #[.int .i64 k,.string n,.string m,.int .i64 i,.int .i64 d,.slice A s.len c],.func (.func 129) #[] #[.pointer (some ⟨w.heap.size + 1 + 1 + 1,0,none⟩)],undef,undef,undef,undef,undef,undef,undef,undef,undef,undef,.agg #[.int .i64 k,.string n,.string m,.int .i64 i,.int .i64 d,.slice A s.len c],.func (.func 129) #[] #[.pointer (some ⟨W.heap.size,0,none⟩)],.int .i64 x.dep,.agg #[.int .i64 x.k,.string x.n,.string x.m,.int .i64 x.i,.int .i64 x.d,.slice x.A x.len x.c],undef,undef,undef,undef,undef],defers:=[] })
   ?tax ?assign2 ?body2 ?done2 ?stop2
  case told3 =>
   intro pre X Y ⟨h1,h2,h3,h4,h5,h6⟩ hk
   have hl : w.heap.size + 1 < X.heap.size:=World.block_lt_of_cell? X ⟨w.heap.size + 1,0,none⟩ h1
   exact ⟨hk.cell (p:=⟨w.heap.size + 1,0,none⟩) ⟨by simp;omega,by simp;omega⟩ h1,(hk.frozen (p:=⟨w.heap.size + 1,0,none⟩) hl ⟨by simp;omega,by simp;omega⟩).trans h2,h3,h4,
    h5.trans (hk.to_below (by omega) fun k hk => ⟨by omega,by omega⟩),(hk.block _ (Array.getElem?_eq_some_iff.1 h6).1 ⟨by omega,by omega⟩).trans h6⟩
  case told4 =>
   intro c pre X Y ⟨h0,h1,h5,h6⟩ hk
   have hl : w.heap.size + 1 < X.heap.size:=World.block_lt_of_cell? X ⟨w.heap.size + 1,0,none⟩ h1
   exact ⟨h0,hk.cell (p:=⟨w.heap.size + 1,0,none⟩) ⟨by simp;omega,by simp;omega⟩ h1,h5.trans (hk.to_below (by omega) fun k hk => ⟨by omega,by omega⟩),(hk.block _ (Array.getElem?_eq_some_iff.1 h6).1 ⟨by omega,by omega⟩).trans h6⟩
  case tax =>
   rintro x a' X Y ⟨bx,h1,h2,h3⟩ hk
   exact ⟨bx,h1,(hk.block bx (Array.getElem?_eq_some_iff.1 h2).1 ⟨by omega,by omega⟩).trans h2,h3⟩
  case assign2 =>
   rintro l pre x X K hpre ⟨h1,h2,h3,h4,h5,h6⟩ hsz hK
   have hl : w.heap.size + 1 < X.heap.size:=World.block_lt_of_cell? X ⟨w.heap.size + 1,0,none⟩ h1
   have HK:=Lib.hid hK
   clear hK
   simp only [Nd.encs]
   gi_wp2
   refine HK.out _ _ ((Keeps.refl _ _).alloc _) ⟨?_,?_,h3,h4,h5.alloc (by omega) _,(Below.heap_alloc _ _ _ (Array.getElem?_eq_some_iff.1 h6).1).trans h6⟩ ⟨X.heap.size,by omega,World.alloc_heap_new X _,rfl⟩
   ·exact (World.cell?_alloc_lt X _ ⟨w.heap.size + 1,0,none⟩ hl).trans h1
   ·exact (World.frozen?_of_block (Below.heap_alloc X _ _ hl)).trans h2
  case body2 =>
   rintro l pre x a' X hpre ⟨h1,h2,h3,h4,h5,h6⟩ ⟨bx,g1,g2,rfl⟩ hsz
   have hl : w.heap.size + 1 < X.heap.size:=World.block_lt_of_cell? X ⟨w.heap.size + 1,0,none⟩ h1
   have x0 : X.cell? ⟨bx,0,none⟩ = some (.int .i64 x.k):=cell_of_row X bx 0 _ _ (0,0) g2
   have x1 : X.cell? ⟨bx,1,none⟩ = some (.string x.n):=cell_of_row X bx 1 _ _ (0,0) g2
   have x2 : X.cell? ⟨bx,2,none⟩ = some (.string x.m):=cell_of_row X bx 2 _ _ (0,0) g2
   have x3 : X.cell? ⟨bx,3,none⟩ = some (.int .i64 x.i):=cell_of_row X bx 3 _ _ (0,0) g2
   have x4 : X.cell? ⟨bx,4,none⟩ = some (.int .i64 x.d):=cell_of_row X bx 4 _ _ (0,0) g2
   have x5 : X.cell? ⟨bx,5,none⟩ = some (.slice x.A x.len x.c):=cell_of_row X bx 5 _ _ (0,0) g2
   have hDX : D < X.heap.size:=(Array.getElem?_eq_some_iff.1 h6).1
   have hdep : x.dep ≤ 40:=HH.out.1 x (by obtain ⟨r,hr⟩:=hpre;rw [← hr];simp)
   have HX:=Lib.hid (And.intro hpre (And.intro h3 (And.intro h4 (And.intro h5 (And.intro h6 hdep)))))
   clear hit b0 b1 b2 b3 b4 b5 r3 r4 rD hBV hS0 hpre h3 h4 h5 h6 g2 hdep
   by_cases he : x.err = 0
   ·have he' : (nodeE x.k x.n x.m x.i x.d x.len != 0) = false:=by simpa [Nd.err] using he
    have HE:=Lib.hid he
    clear he
    gi_wp2_with (gi_at_call 173;refine (CallsIn.inRound l (callsIn_wide.2 (checkNode_any _ _ _ _ _ _ _ _ _))).mono ?_;rintro e w1 ⟨rfl,hb⟩)
    refine ⟨Keeps.whole hb _,(hb.cell (p:=⟨w.heap.size + 1,0,none⟩) hl).trans h1,(hb.frozen (p:=⟨w.heap.size + 1,0,none⟩) hl).trans h2,?_,?_,HX.out.2.2.2.1.trans (hb.mono (by omega)),(hb.block D hDX).trans HX.out.2.2.2.2.1⟩
    ·intro y hy
     rcases List.mem_append.1 hy with hy | hy
     ·exact HX.out.2.1 y hy
     ·simp only [List.mem_singleton] at hy;subst hy;exact HE.out
    ·intro y hy
     rcases List.mem_append.1 hy with hy | hy
     ·exact HX.out.2.2.1 y hy
     ·simp only [List.mem_singleton] at hy;subst hy;exact HX.out.2.2.2.2.2
   ·have he' : (nodeE x.k x.n x.m x.i x.d x.len != 0) = true:=by simpa [Nd.err] using he
    have HE:=Lib.hid (firstE_of L pre x HX.out.1 HX.out.2.1 he)
    clear he
    gi_wp2_with (gi_at_call 173;refine (CallsIn.inRound l (callsIn_wide.2 (checkNode_any _ _ _ _ _ _ _ _ _))).mono ?_;rintro e w1 ⟨rfl,hb⟩;have k1:=(hb.cell (p:=⟨w.heap.size + 1,0,none⟩) hl).trans h1;have k2:=(hb.frozen (p:=⟨w.heap.size + 1,0,none⟩) hl).trans h2)
    refine ⟨(Keeps.whole hb _).setCell (by simp;omega) _,rfl,?_,(HX.out.2.2.2.1.trans (hb.mono (by omega))).setCell (by simp) _,(Below.heap_setCell _ _ _ _ (by simp;omega)).trans ((hb.block D hDX).trans HX.out.2.2.2.2.1)⟩
    rw [World.cell?_setCell_same' _ _ _ (by rw [k1];rfl),HE.out]
    rfl
  case done2 =>
   rintro D' X hD' ⟨h1,h2,h3,h4,h5,h6⟩ hK
   have H3:=Lib.hid (firstE_not L h3)
   clear h3 h4 hit b0 b1 b2 b3 b4 b5 r3 r4 rD hBV hS0
   gi_wp2
   have hs : (X.setCell ⟨w.heap.size + 1,0,none⟩ (.int .i64 0)).cell? ⟨w.heap.size + 1,0,none⟩ = some (.int .i64 0):=World.cell?_setCell_same' _ _ _ (by rw [h1];rfl)
   have hK' : (X.setCell ⟨w.heap.size + 1,0,none⟩ (.int .i64 0)).heap[D']? = some (.deferred (some [])):=(Below.heap_setCell _ _ _ _ (by simp;omega)).trans hK
   have hK6 : (X.setCell ⟨w.heap.size + 1,0,none⟩ (.int .i64 0)).heap[D]? = some (.deferred (some [])):=(Below.heap_setCell _ _ _ _ (by simp;omega)).trans h6
   have hc:=cell_putObj (o':=.deferred none) ((World.putObj_heap_other (by omega)).trans hK6) rfl (cell_putObj (o':=.deferred none) hK' rfl hs)
   refine ret_mark2 (v:=.int .i64 0) hK' hK6 (by omega) ?_ ⟨by simp [exprE,hlim.out,H3.out],below_putObj (below_putObj (h5.setCell (by simp) _) (by omega) _) (by omega) _⟩
   simp [results,Tryz.results124,go_sem,hc]
  case stop2 =>
   rintro D' c' pre X hD' hpre ⟨rfl,h1,h5,h6⟩ hK
   clear hit b0 b1 b2 b3 b4 b5 r3 r4 rD hBV hS0
   gi_wp2
   have hc:=cell_putObj (o':=.deferred none) ((World.putObj_heap_other (by omega)).trans h6) rfl (cell_putObj (o':=.deferred none) hK rfl h1)
   refine ret_mark2 (v:=.int .i64 (firstE L)) hK h6 (by omega) ?_ ⟨by simp [exprE,hlim.out],below_putObj (below_putObj h5 (by omega) _) (by omega) _⟩
   simp [results,Tryz.results124,go_sem,hc]
 case stop =>
  rintro D c pre W hD hpre ⟨rfl,h1,h3,h4⟩ hK
  have H3:=Lib.hid h3
  clear h3
  gi_wp2
  have hc:=cell_putObj (o':=.deferred none) hK rfl h1
  refine ret_mark (v:=.int .i64 4) hK ?_ ⟨by simp [exprE,H3.out],below_putObj h4 (by omega) _⟩
  simp [results,Tryz.results124,go_sem,hc]
end Go.Proofs.YtmmecapgnmlaiaaGreatDoor
/- bind.isName, strings.LastIndexByte, bind.Alias -/
namespace Go.Proofs.YtmmecapgnmlaiaaGreatDoor
open Go.RowKit Go.Proofs
theorem isName_e (s : ByteArray) : exprE [⟨1,3,s,⟨#[]⟩,0,0,none,0,0⟩] = if nameB s then 0 else 6:=by
  have h1 : nodeE 3 s ⟨#[]⟩ 0 0 0 = if argB 1 0 0 s ⟨#[]⟩ 0 0 0 then 1 else if namesE 3 s ⟨#[]⟩ 1 = 0 then numE 3 0 0 else namesE 3 s ⟨#[]⟩ 1:=rfl
  have h2 : argB 1 0 0 s ⟨#[]⟩ 0 0 0 = false:=by simp [argB,ByteArray.toList_eq]
  have h3 : namesE 3 s ⟨#[]⟩ 1 = if nameB s then 0 else 6:=by cases h : nameB s <;> simp [namesE,nmB,h]
  rw [h2,h3] at h1
  have h4 : nodeE 3 s ⟨#[]⟩ 0 0 0 = if nameB s then 0 else 6:=by
    rw [h1]
    cases nameB s <;> simp [numE,numB]
  simp only [exprE,limB,firstE,Nd.err,h4]
  cases nameB s <;> simp
set_option maxHeartbeats 400000 in
theorem isName_any (s : ByteArray) (w : World) : Calls Tryz.prog 61 #[.string s] w fun e w' => e = .returned (.bool (nameB s)) ∧ Below w.heap.size w w':=by
  obtain ⟨E,HE⟩ : ∃ E,Hid (exprE [⟨1,3,s,⟨#[]⟩,0,0,none,0,0⟩] = E):=⟨_,rfl⟩
  cases hn : nameB s
  · have h0:=Lib.hid (show E = 6 by rw [← HE.out,isName_e,hn];rfl)
    go_enter Tryz.func61,Tryz.ntmps61
    go_wp2_with fail
    refine (checkExpr_any 3 s ⟨#[]⟩ 0 0 none 0 .nil _ (Fo.Sl.nil _ _ _ _ (by simp [maxLen]))).mono ?_
    rintro e w' ⟨rfl,hb⟩
    simp only [Fo.pre,Fo.len]
    rw [HE.out,h0.out]
    go_wp2
    go_ret
    exact ⟨rfl,hb⟩
  · have h0:=Lib.hid (show E = 0 by rw [← HE.out,isName_e,hn];rfl)
    go_enter Tryz.func61,Tryz.ntmps61
    go_wp2_with fail
    refine (checkExpr_any 3 s ⟨#[]⟩ 0 0 none 0 .nil _ (Fo.Sl.nil _ _ _ _ (by simp [maxLen]))).mono ?_
    rintro e w' ⟨rfl,hb⟩
    simp only [Fo.pre,Fo.len]
    rw [HE.out,h0.out]
    go_wp2
    go_ret
    exact ⟨rfl,hb⟩
def lastI (l : List UInt8) (c : UInt8) : Nat → Int
  | 0 => -1
  | k + 1 => if l[k]? = some c then k else lastI l c k
theorem lastI_bd (l : List UInt8) (c : UInt8) : ∀ k,-1 ≤ lastI l c k ∧ lastI l c k < k
  | 0 => by simp [lastI]
  | k + 1 => by
    have:=lastI_bd l c k
    unfold lastI
    split <;> omega
set_option maxHeartbeats 400000 in
theorem lastIndexByteString_any (s : ByteArray) (w : World) (hs : s.size ≤ 1000) : Calls Tryz.prog 232 #[.string s,.int .u8 47] w fun e w' => e = .returned (.int .i64 (lastI s.data.toList 47 s.size)) ∧ w = w':=by
  go_enter Tryz.func232,Tryz.ntmps232
  go_wp2
  go_loopg [5] s.size (fun g i wr => ∃ k : Nat,g = k ∧ k ≤ s.size ∧ i = .int .i64 ((k : Int) - 1) ∧ wr = w ∧ lastI s.data.toList 47 s.size = lastI s.data.toList 47 k)
  case atStart => exact ⟨s.size,rfl,Nat.le_refl _,by go_num,rfl,rfl⟩
  case round =>
    obtain ⟨k,HG,hk,rfl,rfl,HL⟩:=hrel
    have HG':=Lib.hid HG
    clear HG
    have HL':=Lib.hid HL
    clear HL
    cases k with
    | zero =>
      have : ¬ (0 : Int) ≤ ((0 : Nat) : Int) - 1:=by omega
      go_wp2
      go_ret
      exact ⟨by rw [HL'.out];rfl,rfl⟩
    | succ k =>
      have hk1 : ((k + 1 : Nat) : Int) - 1 = k:=by omega
      rw [hk1]
      clear hk1
      have hlt : k < s.size:=by omega
      have hg:=getElem_data s k hlt
      by_cases h : s[k] = 47
      · have h1 : ((s[k].toNat : Int) == 47) = true:=by rw [h];rfl
        have H:=Lib.hid (HL'.out.trans (show lastI s.data.toList 47 (k + 1) = k by unfold lastI;rw [hg,h,if_pos rfl]))
        clear hg h
        go_wp2
        go_ret
        exact ⟨by rw [H.out];rfl,rfl⟩
      · have h1 : ((s[k].toNat : Int) == 47) = false:=by
          simp only [beq_eq_false_iff_ne,ne_eq]
          intro e
          exact h (UInt8.toNat.inj (by have : s[k].toNat = 47:=by omega
                                       rw [this];rfl))
        have H:=Lib.hid (HL'.out.trans (show lastI s.data.toList 47 (k + 1) = lastI s.data.toList 47 k by conv => lhs;unfold lastI;rw [hg,if_neg (by intro e;injection e with e;exact h e)]))
        clear hg h
        go_wp2
        go_roundg k
        case measure => rw [HG'.out];omega
        case rel => exact ⟨k,rfl,by omega,by go_num,rfl,H.out⟩
theorem lastIndexByte_any (s : ByteArray) (w : World) (hs : s.size ≤ 1000) : Calls Tryz.prog 172 #[.string s,.int .u8 47] w fun e w' => e = .returned (.int .i64 (lastI s.data.toList 47 s.size)) ∧ w = w':=by
  go_enter Tryz.func172,Tryz.ntmps172
  go_wp2_with (go_at_call 232;refine (lastIndexByteString_any _ _ hs).mono ?_;rintro e w' ⟨rfl,rfl⟩)
  go_ret
  exact ⟨rfl,rfl⟩
def aliasB (s : ByteArray) : ByteArray:=if labelB s then s.extract (lastI s.data.toList 47 s.size + 1).toNat s.size else ⟨#[]⟩
set_option maxHeartbeats 400000 in
theorem alias_any (s : ByteArray) (w : World) : Calls Tryz.prog 122 #[.string s] w fun e w' => e = .returned (.string (aliasB s)) ∧ Below w.heap.size w w':=by
  cases hl : labelB s
  · have H:=Lib.hid (show aliasB s = ⟨#[]⟩ by simp [aliasB,hl])
    go_enter Tryz.func122,Tryz.ntmps122
    go_wp2_with (go_at_call 55;refine (label_any _ _).mono ?_;rintro e w' ⟨rfl,hb⟩)
    go_ret
    exact ⟨by rw [H.out];rfl,hb⟩
  · have hs : s.size ≤ 90:=by
      simp only [labelB,Bool.and_eq_true,decide_eq_true_eq] at hl
      exact hl.1
    obtain ⟨k,hk⟩ : ∃ k : Nat,lastI s.data.toList 47 s.size + 1 = k:=⟨(lastI s.data.toList 47 s.size + 1).toNat,by have:=lastI_bd s.data.toList 47 s.size;omega⟩
    have hk2 : k ≤ s.size:=by have:=lastI_bd s.data.toList 47 s.size;omega
    have H:=Lib.hid (show aliasB s = s.extract k s.size by simp [aliasB,hl,hk])
    have hk3:=Lib.hid (show lastI s.data.toList 47 s.size = (k : Int) - 1 by omega)
    clear hk
    go_enter Tryz.func122,Tryz.ntmps122
    go_wp2_with (first | (go_at_call 55;refine (label_any _ _).mono ?_;rintro e w' ⟨rfl,hb⟩) | (go_at_call 172;refine (lastIndexByte_any _ _ (by omega)).mono ?_;rintro e w' ⟨rfl,rfl⟩;rw [hk3.out]))
    go_ret
    exact ⟨by rw [H.out];rfl,hb⟩
end Go.Proofs.YtmmecapgnmlaiaaGreatDoor
/- bind.checkUse, bind.checkNames -/
namespace Go.Proofs.YtmmecapgnmlaiaaGreatDoor
open Go.RowKit Go.Proofs
def useE (label : ByteArray) (l : List ByteArray) (i : Nat) : Int:=
 if nameB (aliasB (l.getD i ⟨#[]⟩)) = false then 6 else
 if ((l.take i).any fun v => (aliasB v).toList == (aliasB (l.getD i ⟨#[]⟩)).toList) = true then 7 else
 if ((l.getD i ⟨#[]⟩).toList == label.toList) = true then 23 else 0
set_option maxHeartbeats 1000000 in
theorem checkUse_any (label : ByteArray) (l : List ByteArray) (i : Nat) (A : Option Addr) (c : Nat) (w : World) (hi : i < l.length) (hs : SlS w w.heap.size A c l) :
  Calls Tryz.prog 57 #[.string label,.slice A l.length c,.int .i64 i] w fun e w' => e = .returned (.int .i64 (useE label l i)) ∧ Below w.heap.size w w':=by
 have hc1:=hs.1
 have hc2:=hs.2.1
 unfold maxLen at hc2
 obtain ⟨b,o,rfl,hb,hcell⟩:=hs.2.2 (by intro e;subst e;simp at hi)
 have hu : l[i]? = some l[i]:=List.getElem?_eq_getElem hi
 have h0:=hcell i _ hu
 have hd : l.getD i ⟨#[]⟩ = l[i]:=by simp [List.getD,hu]
 have HU : Hid (useE label l i = if nameB (aliasB l[i]) = false then 6 else if ((l.take i).any fun v => (aliasB v).toList == (aliasB l[i]).toList) = true then 7 else if (l[i].toList == label.toList) = true then 23 else 0):=by
  show useE label l i = _
  unfold useE
  rw [hd]
 have HC:=Lib.hid hcell
 clear hu hd hcell hs
 generalize l[i] = u at h0 HU
 cases hn : nameB (aliasB u)
 ·have HR:=Lib.hid (show useE label l i = 6 by rw [HU.out,if_pos hn])
  go_enter Tryz.func57,Tryz.ntmps57
  go_wp2_with (first | (go_at_call 122;refine (alias_any _ _).mono ?_;rintro e w1 ⟨rfl,hb1⟩;obtain ⟨hc1',hf1⟩:=bcell hb1;have hz1:=hb1.size) | (go_at_call 61;refine (isName_any _ _).mono ?_;rintro e w2 ⟨rfl,hb2⟩;have hB2:=hb1.trans (hb2.mono (by omega))))
  go_ret
  exact ⟨by rw [HR.out];rfl,hB2⟩
 ·have HU':=Lib.hid (HU.out.trans (if_neg (by rw [hn];simp)))
  clear HU
  go_enter Tryz.func57,Tryz.ntmps57
  go_wp2_with (first | (go_at_call 122;refine (alias_any _ _).mono ?_;rintro e w1 ⟨rfl,hb1⟩;obtain ⟨hc1',hf1⟩:=bcell hb1;have hz1:=hb1.size) | (go_at_call 61;refine (isName_any _ _).mono ?_;rintro e w2 ⟨rfl,hb2⟩;have hB2:=hb1.trans (hb2.mono (by omega))))
  generalize aliasB u = au at *
  clear hc1' hf1 hb1 hb2 hz1
  go_loopg [9,22] i (fun g _ ct wr => ∃ j : Nat,g = i - j ∧ j ≤ i ∧ ct = .int .i64 j ∧ ((l.take j).any fun v => (aliasB v).toList == au.toList) = false ∧ Below w.heap.size w wr)
  case atStart => exact ⟨0,rfl,by omega,rfl,by simp,hB2⟩
  case round =>
   obtain ⟨j,HG,hj,rfl,HA,HB⟩:=hrel
   have HG':=Lib.hid HG
   have HA':=Lib.hid HA
   clear HG HA
   have hz:=HB.size
   by_cases hlt : j < i
   ·have hj2 : l[j]? = some l[j]:=List.getElem?_eq_getElem (by omega)
    have hcj : wr.cell? ⟨b,o + j,none⟩ = some (.string l[j]):=(HB.cell (p:=⟨b,o + j,none⟩) hb).trans (HC.out j _ hj2)
    have hstep : ((l.take (j + 1)).any fun v => (aliasB v).toList == au.toList) = ((aliasB l[j]).toList == au.toList):=by
     rw [List.take_succ_eq_append_getElem (by omega),List.any_append,HA'.out]
     simp
    have htake : (aliasB l[j]).toList == au.toList → ((l.take i).any fun v => (aliasB v).toList == au.toList) = true:=by
     intro h
     rw [List.any_eq_true]
     exact ⟨l[j],by rw [List.mem_take_iff_getElem];exact ⟨j,by omega,rfl⟩,h⟩
    have HS:=Lib.hid (And.intro hstep htake)
    clear hstep htake hj2
    generalize l[j] = v at hcj HS
    cases he : (aliasB v).toList == au.toList
    ·go_wp2_with (go_at_call 122;refine (alias_any _ _).mono ?_;rintro e w3 ⟨rfl,hb3⟩)
     go_roundg (i - (j + 1))
     case measure => rw [HG'.out];omega
     case rel => exact ⟨j + 1,rfl,by omega,by go_num,by rw [HS.out.1,he],HB.trans (hb3.mono (by omega))⟩
    ·have HR:=Lib.hid (HU'.out.trans (if_pos (HS.out.2 he)))
     go_wp2_with (go_at_call 122;refine (alias_any _ _).mono ?_;rintro e w3 ⟨rfl,hb3⟩)
     go_ret
     exact ⟨by rw [HR.out];rfl,HB.trans (hb3.mono (by omega))⟩
   ·obtain rfl : j = i:=by omega
    have hcu : wr.cell? ⟨b,o + j,none⟩ = some (.string u):=(HB.cell (p:=⟨b,o + j,none⟩) hb).trans h0
    have HU2:=Lib.hid (HU'.out.trans (if_neg (by rw [HA'.out];simp)))
    cases hq : u.toList == label.toList
    ·have HR:=Lib.hid (HU2.out.trans (if_neg (by rw [hq];simp)))
     go_wp2
     go_ret
     exact ⟨by rw [HR.out];rfl,HB⟩
    ·have HR:=Lib.hid (HU2.out.trans (if_pos hq))
     go_wp2
     go_ret
     exact ⟨by rw [HR.out];rfl,HB⟩
end Go.Proofs.YtmmecapgnmlaiaaGreatDoor
/- bind.checkNames -/
namespace Go.Proofs.YtmmecapgnmlaiaaGreatDoor
open Go.RowKit Go.Proofs
def dnB (n : Nat) (s : ByteArray) : Bool:=nameB s || (!(n == 1) && s.toList.isEmpty)
def dnE (l : List ByteArray) : Int:=
  if l.length ≠ 1 ∧ l.length ≠ 3 then 1 else if l.all (dnB l.length) = true then 0 else 6
set_option maxHeartbeats 1000000 in
theorem bCheckNames_any (l : List ByteArray) (A : Option Addr) (c : Nat) (w : World) (hs : SlS w w.heap.size A c l) :
    Calls Tryz.prog 123 #[.slice A l.length c] w fun e w' => e = .returned (.int .i64 (dnE l)) ∧ Below w.heap.size w w':=by
  have hc1:=hs.1
  have hc2:=hs.2.1
  unfold maxLen at hc2
  obtain ⟨E,HE⟩ : ∃ E,Hid (E = dnE l):=⟨_,rfl⟩
  rw [← HE.out]
  by_cases h1 : l.length = 1 ∨ l.length = 3
  · have HE1:=Lib.hid (HE.out.trans (show dnE l = if l.all (dnB l.length) = true then 0 else 6 by unfold dnE;rw [if_neg (by omega)]))
    obtain ⟨n,hn⟩ : ∃ n,l.length = n:=⟨_,rfl⟩
    rw [hn] at h1 hc1 ⊢
    have HE2:=Lib.hid (show E = if l.all (dnB n) = true then 0 else 6 by rw [HE1.out,hn])
    clear HE HE1
    have go : (n = 1 ∨ n = 3) → ∀ (bq : Bool),((n : Int) == 1) = bq → ((n : Int) == 3) = !bq → ((n : Int) != 1) = !bq → ((n : Int) != 3) = bq →
        Calls Tryz.prog 123 #[.slice A n c] w fun e w' => e = .returned (.int .i64 E) ∧ Below w.heap.size w w':=by
      intro hn13 bq hq1 hq3 hq2 hq4
      have hnz : n ≠ 0:=by omega
      obtain ⟨b,o,rfl,hb,hcell⟩:=hs.2.2 (by intro e;subst e;simp at hn;omega)
      have HC:=Lib.hid hcell
      have hn3 : n ≤ 3:=by omega
      have Hbq:=Lib.hid (show bq = (n == 1) by rw [← hq1];rcases hn13 with h | h <;> subst h <;> rfl)
      clear hn13 hcell hs
      cases bq <;> (
      go_enter Tryz.func123,Tryz.ntmps123
      go_wp2
      go_loopg [4,15] n (fun g _ ct wr => ∃ j : Nat,g = n - j ∧ j ≤ n ∧ ct = .int .i64 j ∧ (l.take j).all (dnB n) = true ∧ Below w.heap.size w wr)
      case atStart => exact ⟨0,rfl,by omega,rfl,by simp,Below.refl _ _⟩
      case round =>
        obtain ⟨j,HG,hj,rfl,HA,HB⟩:=hrel
        have HG':=Lib.hid HG
        have HA':=Lib.hid HA
        clear HG HA
        have hz:=HB.size
        by_cases hlt : j < n
        · have hjl : j < l.length:=by omega
          have hj2 : l[j]? = some l[j]:=List.getElem?_eq_getElem hjl
          have hcj : wr.cell? ⟨b,o + j,none⟩ = some (.string l[j]):=(HB.cell (p:=⟨b,o + j,none⟩) hb).trans (HC.out j _ hj2)
          have hstep : (l.take (j + 1)).all (dnB n) = dnB n l[j]:=by
            rw [List.take_succ_eq_append_getElem hjl,List.all_append,HA'.out]
            simp
          have hno : dnB n l[j] = false → l.all (dnB n) = false:=by
            intro h
            rw [List.all_eq_false]
            exact ⟨l[j],List.getElem_mem hjl,by rw [h];simp⟩
          have HS:=Lib.hid (And.intro hstep hno)
          clear hstep hno hj2
          generalize l[j] = v at hcj HS
          clear hjl
          have HD:=Lib.hid (show dnB n v = (nameB v || (!(n == 1) && v.toList.isEmpty)) from rfl)
          cases hv : nameB v <;> cases hem : v.toList.isEmpty <;> (
            rw [hv,hem,← Hbq.out] at HD
            go_wp2_with (go_at_call 61;refine (isName_any _ _).mono ?_;rintro e w3 ⟨rfl,hb3⟩;rw [hv])
            first
            | (go_roundg (n - (j + 1))
               case measure => rw [HG'.out];omega
               case rel => exact ⟨j + 1,rfl,by omega,by go_num,by rw [HS.out.1,HD.out];rfl,HB.trans (hb3.mono (by omega))⟩)
            | (go_ret
               exact ⟨by rw [HE2.out,HS.out.2 (by rw [HD.out];rfl)];rfl,HB.trans (hb3.mono (by omega))⟩))
        · obtain rfl : j = n:=by omega
          go_wp2
          go_ret
          exact ⟨by rw [HE2.out,if_pos (by rw [← HA'.out,List.take_of_length_le (by omega)])];rfl,HB⟩)
    rcases h1 with h | h
    · exact go (.inl h) true (by rw [h];rfl) (by rw [h];rfl) (by rw [h];rfl) (by rw [h];rfl)
    · exact go (.inr h) false (by rw [h];rfl) (by rw [h];rfl) (by rw [h];rfl) (by rw [h];rfl)
  · have h2 : ((l.length : Int) != 1) = true:=by simp;omega
    have h3 : ((l.length : Int) != 3) = true:=by simp;omega
    have HR:=Lib.hid (HE.out.trans (show dnE l = 1 by unfold dnE;rw [if_pos (by omega)]))
    clear hs
    go_enter Tryz.func123,Tryz.ntmps123
    go_wp2
    go_ret
    exact ⟨by rw [HR.out];rfl,Below.refl _ _⟩
end Go.Proofs.YtmmecapgnmlaiaaGreatDoor
