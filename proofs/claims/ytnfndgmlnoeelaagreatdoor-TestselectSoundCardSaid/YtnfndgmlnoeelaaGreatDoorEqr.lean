/- eval.run -/
import Derived.Test.YtnfndgmlnoeelaaGreatDoorZem
namespace Go.Proofs.YtnfndgmlnoeelaaGreatDoor
open Go Go.RowKit Go.Proofs Go.Shelf
theorem enterFe {fid : Nat} {fn : Func} {body : Go.Code} (h : Tryz.prog.funcs[fid]? = some fn) (hn : (fn.name == "runtime.NumGoroutine") = false) (hb : fn.body = some body) (args : Array Value) (W : World) : (callFunc fid args).run Tryz.prog W = .ok (.enter fid args) W := by
 have hn' : fn.name ≠ "runtime.NumGoroutine" := by simpa using hn
 simp [callFunc,h,hb,hn']
theorem kinds_one {k : Int} (h : 1 ≤ k ∧ k ≤ 15) : k = 1 ∨ k = 2 ∨ k = 3 ∨ k = 4 ∨ k = 5 ∨ k = 6 ∨ k = 7 ∨ k = 8 ∨ k = 9 ∨ k = 10 ∨ k = 11 ∨ k = 12 ∨ k = 13 ∨ k = 14 ∨ k = 15:=by omega
set_option maxRecDepth 100000 in
theorem kind_enter {k : Int} {F : Nat} (hk : 1 ≤ k ∧ k ≤ 15) (h : kindG k = some (.func (.func F) #[] #[])) (args : Array Value) (W : World) : (callFunc F args).run Tryz.prog W = .ok (.enter F args) W:=by
 rcases kinds_one hk with rfl | rfl | rfl | rfl | rfl | rfl | rfl | rfl | rfl | rfl | rfl | rfl | rfl | rfl | rfl
 ·obtain rfl : 86 = F:=by
   have h' : some (Value.func (.func 86) #[] #[]) = some (.func (.func F) #[] #[]):=h
   simpa using h'
  exact enterFe Tryz.func86 (by kernel_rfl) rfl args W
 ·obtain rfl : 86 = F:=by
   have h' : some (Value.func (.func 86) #[] #[]) = some (.func (.func F) #[] #[]):=h
   simpa using h'
  exact enterFe Tryz.func86 (by kernel_rfl) rfl args W
 ·obtain rfl : 87 = F:=by
   have h' : some (Value.func (.func 87) #[] #[]) = some (.func (.func F) #[] #[]):=h
   simpa using h'
  exact enterFe Tryz.func87 (by kernel_rfl) rfl args W
 ·obtain rfl : 88 = F:=by
   have h' : some (Value.func (.func 88) #[] #[]) = some (.func (.func F) #[] #[]):=h
   simpa using h'
  exact enterFe Tryz.func88 (by kernel_rfl) rfl args W
 ·obtain rfl : 89 = F:=by
   have h' : some (Value.func (.func 89) #[] #[]) = some (.func (.func F) #[] #[]):=h
   simpa using h'
  exact enterFe Tryz.func89 (by kernel_rfl) rfl args W
 ·obtain rfl : 90 = F:=by
   have h' : some (Value.func (.func 90) #[] #[]) = some (.func (.func F) #[] #[]):=h
   simpa using h'
  exact enterFe Tryz.func90 (by kernel_rfl) rfl args W
 ·obtain rfl : 91 = F:=by
   have h' : some (Value.func (.func 91) #[] #[]) = some (.func (.func F) #[] #[]):=h
   simpa using h'
  exact enterFe Tryz.func91 (by kernel_rfl) rfl args W
 ·obtain rfl : 92 = F:=by
   have h' : some (Value.func (.func 92) #[] #[]) = some (.func (.func F) #[] #[]):=h
   simpa using h'
  exact enterFe Tryz.func92 (by kernel_rfl) rfl args W
 ·obtain rfl : 93 = F:=by
   have h' : some (Value.func (.func 93) #[] #[]) = some (.func (.func F) #[] #[]):=h
   simpa using h'
  exact enterFe Tryz.func93 (by kernel_rfl) rfl args W
 ·obtain rfl : 94 = F:=by
   have h' : some (Value.func (.func 94) #[] #[]) = some (.func (.func F) #[] #[]):=h
   simpa using h'
  exact enterFe Tryz.func94 (by kernel_rfl) rfl args W
 ·obtain rfl : 86 = F:=by
   have h' : some (Value.func (.func 86) #[] #[]) = some (.func (.func F) #[] #[]):=h
   simpa using h'
  exact enterFe Tryz.func86 (by kernel_rfl) rfl args W
 ·obtain rfl : 95 = F:=by
   have h' : some (Value.func (.func 95) #[] #[]) = some (.func (.func F) #[] #[]):=h
   simpa using h'
  exact enterFe Tryz.func95 (by kernel_rfl) rfl args W
 ·obtain rfl : 96 = F:=by
   have h' : some (Value.func (.func 96) #[] #[]) = some (.func (.func F) #[] #[]):=h
   simpa using h'
  exact enterFe Tryz.func96 (by kernel_rfl) rfl args W
 ·obtain rfl : 97 = F:=by
   have h' : some (Value.func (.func 97) #[] #[]) = some (.func (.func F) #[] #[]):=h
   simpa using h'
  exact enterFe Tryz.func97 (by kernel_rfl) rfl args W
 ·obtain rfl : 98 = F:=by
   have h' : some (Value.func (.func 98) #[] #[]) = some (.func (.func F) #[] #[]):=h
   simpa using h'
  exact enterFe Tryz.func98 (by kernel_rfl) rfl args W
theorem kind_wf {k : Int} (hk : 1 ≤ k ∧ k ≤ 15) : intK.ok k:=by
 show (Lit.int .i64 k).wf = true
 rcases kinds_one hk with rfl | rfl | rfl | rfl | rfl | rfl | rfl | rfl | rfl | rfl | rfl | rfl | rfl | rfl | rfl <;> rfl
structure Ev0 (w : World) (vb rb : Nat) (m : Value) (L z : Int) : Prop where
 blk : w.heap[vb]? = some (.cells (evC m 0 L z (.slice none 0 0) (.slice none 0 0) (.map (some rb))) 83 (0,0))
 rm : ∃ c,w.heap[rb]? = some (.map #[] c)
theorem CdW_eq {W0 W1 : World} {B0 : Nat} (hB : ∀ k,k < B0 → W1.heap[k]? = W0.heap[k]?) : CdW W1 B0 = CdW W0 B0:=by
 funext A c s
 refine propext ⟨fun ⟨f,e,h⟩ => ⟨f,e,h.keep (Nat.le_refl _) fun p hp => ?_⟩,fun ⟨f,e,h⟩ => ⟨f,e,h.keep (Nat.le_refl _) fun p hp => ?_⟩⟩
 ·exact (World.cell?_of_block (hB p.block hp)).symm
 ·exact World.cell?_of_block (hB p.block hp)
theorem XpA.keep {W0 W1 : World} {B0 b o : Nat} {x : Xp} (hB : ∀ k,k < B0 → W1.heap[k]? = W0.heap[k]?) (h : XpA W0 B0 b o x) : XpA W1 B0 b o x:=by
 have hc : ∀ o,W1.cell? ⟨b,o,none⟩ = W0.cell? ⟨b,o,none⟩:=fun o => World.cell?_of_block (hB b h.lt)
 obtain ⟨A,c,h5,h6⟩:=h.c5
 exact ⟨h.lt,(hc _).trans h.c0,(hc _).trans h.c1,(hc _).trans h.c2,(hc _).trans h.c3,(hc _).trans h.c4,A,c,(hc _).trans h5,by rw [CdW_eq hB];exact h6⟩
theorem LkR.keep {W0 W1 : World} {B0 vb rb base base' mb : Nat} {look : ByteArray → Int → Option Xp} (h : LkR W0 B0 vb rb base mb look) (hb : base ≤ base') (hB0 : B0 ≤ base) (hB : ∀ k,k < base → W1.heap[k]? = W0.heap[k]?) : LkR W1 B0 vb rb base' mb look:=by
 obtain ⟨N,g,h1,⟨h2,h3,h4⟩,h5,h6⟩:=h.ex
 refine ⟨N,g,h1.keep (hB _ h2),⟨by omega,h3,h4⟩,h5,fun p u hp hu => ?_⟩
 obtain ⟨ib,N',gi,e,g1,⟨g2,g3,g4⟩,g5,g6⟩:=h6 p u hp hu
 refine ⟨ib,N',gi,e,g1.keep (hB _ g2),⟨by omega,g3,g4⟩,g5,fun i v hi hv => ?_⟩
 obtain ⟨db,o,x,e1,e2,e3⟩:=g6 i v hi hv
 exact ⟨db,o,x,e1,e2,e3.keep fun k hk => hB k (by omega)⟩
theorem Ev.go {look : ByteArray → Int → Option Xp} {L n z : Int} {f : Fe} {fs : List Fe} {vs : List Va} {r : Va × Int × Int} {t : Nat} {s : Es} (h : Ev look L ⟨n,z,f :: fs,vs⟩ r t) (e : stepE look L n z f fs vs = .go s) : ∃ t',t = t' + 1 ∧ Ev look L s r t':=by
 cases h with
 | bad e' =>
  rw [e] at e'
  cases e'
 | step e' h' =>
  rw [e] at e'
  cases e'
  exact ⟨_,rfl,h'⟩
theorem Ev.no {look : ByteArray → Int → Option Xp} {L n z : Int} {f : Fe} {fs : List Fe} {vs : List Va} {r : Va × Int × Int} {t : Nat} {err k : Int} (h : Ev look L ⟨n,z,f :: fs,vs⟩ r t) (e : stepE look L n z f fs vs = .bad err k) : r = (vaI 0 0,k,err):=by
 cases h with
 | bad e' =>
  rw [e] at e'
  cases e'
  rfl
 | step e' h' =>
  rw [e] at e'
  cases e'
theorem Ev.fin {look : ByteArray → Int → Option Xp} {L n z : Int} {vs : List Va} {r : Va × Int × Int} {t : Nat} (h : Ev look L ⟨n,z,[],vs⟩ r t) : ∃ v vs',vs = v :: vs' ∧ (L ≤ n → r = (vaI 0 0,n,27)) ∧ (n < L → r = (v,n + 1,0)):=by
 cases h with
 | stop h => exact ⟨_,_,rfl,fun _ => rfl,fun h' => absurd h (by omega)⟩
 | done h => exact ⟨_,_,rfl,fun h' => absurd h (by omega),fun _ => rfl⟩
theorem Oth.trans' {p q : Nat → Prop} {a b c : World} (h : Oth p a b) (k : Oth q b c) (hq : ∀ i,i < a.heap.size → q i → p i) : Oth p a c:=
 ⟨k.os.trans h.os,k.tape.trans h.tape,k.output.trans h.output,Nat.le_trans h.size k.size,fun i hi hp => (k.block i (Nat.lt_of_lt_of_le hi h.size) (fun e => hp (hq i hi e))).trans (h.block i hi hp)⟩
theorem EvI.oth {W0 w : World} {B0 vb rb : Nat} {m : Value} {L : Int} {s : Es} {fv : Value} {fc : List Value} {gv : Value} {gc : List Value} {rs : List Rm} (h : EvI W0 B0 vb rb W0.heap.size m L w s fv fc gv gc rs) (hst : St W0 w) : Oth (fun k => k = vb ∨ k = rb) W0 w:=
 ⟨hst.1,hst.2.1,hst.2.2,h.ev.le,fun k hk hp => h.old k hk (fun e => hp (.inl e)) (fun e => hp (.inr e))⟩
def Away (w w' : World) : Prop:=w.heap.size ≤ w'.heap.size ∧ ∀ g o,g < w.heap.size → ((∃ u,w.cell? ⟨g,o + 8,none⟩ = some u) ∨ ∃ k u,k ≠ 0 ∧ w.cell? ⟨g,o,none⟩ = some (.int .i64 k) ∧ w.cell? ⟨g,o + 7,none⟩ = some u) → w'.heap[g]? = w.heap[g]?
theorem Vl.At.away {Cd : Code} {D : Dead} {w w' : World} {S : ByteArray → Prop} {I : Int → Prop} {M B : Nat} (ha : Away w w') : ∀ {nm : Bool} {l : Vl} {g o : Nat},l.Sz S I M B → g < w.heap.size → l.At Cd w D nm g o → l.At Cd w' (fun _ _ => False) nm g o
 | _,.nil,_,_,_,_,_ => trivial
 | nm,.cons x k i l p q b e r,g,o,hz,hg,h => by
  obtain ⟨⟨h1,h1'⟩,⟨hd,h2,h3,h4,h5,h6⟩,⟨A,c,h7,hc,hm,hl⟩,⟨bA,bc,h8,hb⟩,⟨eA,ec,h9,hec,hem,he⟩,hr⟩:=h
  have hgb : w'.heap[g]? = w.heap[g]?:=by
   cases nm with
   | true => exact ha.2 g o hg (.inl ⟨_,h9⟩)
   | false => exact ha.2 g o hg (.inr ⟨k,_,hz.1.2.2.2,h2,h9⟩)
  have cl : ∀ j,w'.cell? ⟨g,j,none⟩ = w.cell? ⟨g,j,none⟩:=fun j => World.cell?_of_block hgb
  have hka : ∀ g o n,g < w.heap.size → (∀ l : Vl,l ≠ .nil → l.Sz S I M B → l.At Cd w D false g o → Ka w g n → Ka w' g n):=fun g o n hg l hne hz h ⟨cs,hcs,hn⟩ => by
   cases l with
   | nil => exact absurd rfl hne
   | cons x k i l p q b e r => exact ⟨cs,(ha.2 g o hg (.inr ⟨k,_,hz.1.2.2.2,h.2.1.2.1,h.2.2.2.2.1.choose_spec.choose_spec.1⟩)).trans hcs,hn⟩
  refine ⟨⟨fun e' => ⟨fun e => e,(cl _).trans (h1 e').2⟩,h1'⟩,⟨fun j hj e => e,(cl _).trans h2,(cl _).trans h3,(cl _).trans h4,(cl _).trans h5,(cl _).trans h6⟩,
   ⟨A,c,(cl _).trans h7,hc,hm,fun hne => ?_⟩,⟨bA,bc,(cl _).trans h8,hb⟩,⟨eA,ec,(cl _).trans h9,hec,hem,fun hne => ?_⟩,Vl.At.away ha hz.2.2.2 hg hr⟩
  ·obtain ⟨g',o',e1,e2,e3,e4⟩:=hl hne
   exact ⟨g',o',e1,Nat.lt_of_lt_of_le e2 ha.1,Vl.At.away ha hz.2.1.2 e2 e3,fun e => hka g' o' _ e2 l hne hz.2.1.2 e3 (e4 e)⟩
  ·obtain ⟨g',o',e1,e2,e3,e4⟩:=he hne
   exact ⟨g',o',e1,Nat.lt_of_lt_of_le e2 ha.1,Vl.At.away ha hz.2.2.1.2 e2 e3,fun e => by cases e⟩
theorem Vl.Sl.away {Cd : Code} {D : Dead} {w w' : World} {S : ByteArray → Prop} {I : Int → Prop} {M B : Nat} (ha : Away w w') {nm : Bool} {A : Option Addr} {c : Nat} {l : Vl} (hz : l.Sz S I M B) (h : l.Sl Cd w D nm A c) : l.Sl Cd w' (fun _ _ => False) nm A c:=
 ⟨h.1,h.2.1,fun hne => by
  obtain ⟨g,o,e1,e2,e3,e4⟩:=h.2.2 hne
  refine ⟨g,o,e1,Nat.lt_of_lt_of_le e2 ha.1,e3.away ha hz e2,fun e => ?_⟩
  obtain ⟨cs,hcs,hn⟩:=e4 e
  subst e
  cases l with
  | nil => exact absurd rfl hne
  | cons x k i l p q b e r => exact ⟨cs,(ha.2 g o e2 (.inr ⟨k,_,hz.1.2.2.2,e3.2.1.2.1,e3.2.2.2.2.1.choose_spec.choose_spec.1⟩)).trans hcs,hn⟩⟩
theorem VaR.away {Cd : Code} {D : Dead} {w w' : World} {S : ByteArray → Prop} {I : Int → Prop} {M B : Nat} (ha : Away w w') {v : Va} {lA : Option Addr} {lc : Nat} {bA : Option Addr} {bc : Nat} {eA : Option Addr} {ec : Nat} (hz : v.l.Sz S I M B ∧ v.e.Sz S I M B) (h : VaR Cd w D v lA lc bA bc eA ec) : VaR Cd w' (fun _ _ => False) v lA lc bA bc eA ec:=
 ⟨h.l.away ha hz.1,h.b,h.e.away ha hz.2⟩
theorem away_three {w w' : World} {b6 b7 b8 : Nat} {c1 c2 c3 c4 c5 c6 c7 d e : Value} (h6 : w.heap[b6]? = some (.cells #[.int .i64 0,c1,c2,c3,c4,c5,c6,c7] 36 (0,0))) (h7 : w.heap[b7]? = some (.cells #[d] 3 (0,0))) (h8 : w.heap[b8]? = some (.cells #[e] 29 (0,0)))
  (ho : Oth (fun k => k = b6 ∨ k = b7 ∨ k = b8) w w') : Away w w':=by
 have cc : ∀ (b : Nat) (cs : Array Value) (t : TypeId) (o : Nat) (u : Value),w.heap[b]? = some (.cells cs t (0,0)) → w.cell? ⟨b,o,none⟩ = some u → cs[o]? = some u:=fun b cs t o u hb hc => by
  simp [World.cell?,hb] at hc
  exact hc
 refine ⟨ho.size,fun g o hg hx => ho.block g hg fun hg' => ?_⟩
 rcases hg' with rfl | rfl | rfl
 ·rcases hx with ⟨u,hu⟩ | ⟨k,u,hk,h0,hu⟩
  ·have:=cc _ _ _ _ _ h6 hu
   simp at this
  ·have h1:=cc _ _ _ _ _ h6 hu
   have h2:=cc _ _ _ _ _ h6 h0
   have ho : o = 0:=by
    rw [Array.getElem?_eq_some_iff] at h1
    obtain ⟨hl,_⟩:=h1
    simp at hl
    omega
   subst ho
   simp at h2
   exact hk h2.symm
 ·rcases hx with ⟨u,hu⟩ | ⟨k,u,hk,h0,hu⟩
  ·have:=cc _ _ _ _ _ h7 hu
   simp at this
  ·have:=cc _ _ _ _ _ h7 hu
   simp at this
 ·rcases hx with ⟨u,hu⟩ | ⟨k,u,hk,h0,hu⟩
  ·have:=cc _ _ _ _ _ h8 hu
   simp at this
  ·have:=cc _ _ _ _ _ h8 hu
   simp at this
def RunS (n0 vb : Nat) (k : Int) (Y : World) : Prop:=Y.cell? ⟨n0,0,none⟩ = some (.pointer (some ⟨vb,0,none⟩)) ∧ Y.cell? ⟨vb,1,none⟩ = some (.int .i64 k)
theorem RunS.set {n0 vb b o : Nat} {k : Int} {Y : World} {v : Value} (h : RunS n0 vb k Y) (h1 : n0 ≠ b) (h2 : vb ≠ b) : RunS n0 vb k (Y.setCell ⟨b,o,none⟩ v):=
 ⟨(World.cell?_setCell_other _ ⟨b,o,none⟩ ⟨n0,0,none⟩ _ (fun e => h1 (congrArg Addr.block e).symm)).trans h.1,(World.cell?_setCell_other _ ⟨b,o,none⟩ ⟨vb,1,none⟩ _ (fun e => h2 (congrArg Addr.block e).symm)).trans h.2⟩
theorem start_ok {x : Xp} {p : ByteArray} {z : Int} (h : x.Ok) : Es.Ok ⟨0,z,[⟨x,0,p,.nil⟩],[]⟩:=by
 refine ⟨fun f hf => ?_,fun v hv => by simp at hv,fun f hf => by simp at hf,?_⟩
 ·obtain rfl:=List.mem_singleton.1 hf
  exact ⟨h,trivial,fun _ => Nat.zero_le _,fun _ => Nat.zero_le _,fun _ => Nat.zero_le _,fun _ => Nat.zero_le _,fun _ => Nat.zero_le _,fun _ => Nat.zero_le _,fun _ => Nat.zero_le _⟩
 ·show 0 = held x.k 0 + 0
  rw [held_zero]
theorem start_sz {x : Xp} {p : ByteArray} {z : Int} (h : x.Fit strK.ok intK.ok 400) (hp : strK.ok p) : EsB strK.ok intK.ok 400 ⟨0,z,[⟨x,0,p,.nil⟩],[]⟩:=by
 refine ⟨Int.le_refl _,fun f hf => ?_,fun v hv => by simp at hv,?_⟩
 ·obtain rfl:=List.mem_singleton.1 hf
  exact ⟨h,hp,Nat.zero_le _,trivial⟩
 ·have c1:=Sk.drop_count x.s 0
  have c2:=h.c
  show 1 + ((x.s.drop 0).count + 0) ≤ (0 + 1) * (2 * 400 + 2)
  omega
theorem start_evi {w W3 : World} {B0 vb rb : Nat} {m : Value} {L z : Int} (h0 : Ev0 w vb rb m L z) (hlv : B0 ≤ vb) (hlr : B0 ≤ rb) (ho : Oth (fun _ => False) w W3) : EvI W3 B0 vb rb W3.heap.size m L W3 ⟨0,z,[],[]⟩ (.slice none 0 0) [] (.slice none 0 0) [] []:=by
 have hvl:=lt_of_block h0.blk
 obtain ⟨rc,hrm⟩:=h0.rm
 have hrl:=lt_of_block hrm
 have hz:=ho.size
 have hrv : rb ≠ vb:=fun e => by
  have:=h0.blk
  rw [← e,hrm] at this
  cases this
 refine ⟨⟨(ho.block vb hvl (fun e => e)).trans h0.blk,⟨rfl,.inl ⟨rfl,rfl⟩⟩,⟨rfl,.inl ⟨rfl,rfl⟩⟩,(fun k _ => by simp [Value.ownBlock]),Nat.lt_of_lt_of_le hvl hz,Nat.le_refl _⟩,rfl,rfl,⟨⟨#[],rc,(ho.block rb hrl (fun e => e)).trans hrm,rfl⟩,fun x hx => by simp at hx,fun x hx => by simp at hx,List.Pairwise.nil⟩,fun k _ _ _ => rfl,hlv,hlr,Nat.lt_of_lt_of_le hrl hz,hrv⟩
def RunR (w : World) (B0 vb rb : Nat) (look : ByteArray → Int → Option Xp) (L z : Int) (x : Xp) (p : ByteArray) (e : Ending) (w' : World) : Prop:=
 ∃ (v : Va) (n err : Int) (t : Nat) (lA : Option Addr) (lc : Nat) (bA : Option Addr) (bc : Nat) (eA : Option Addr) (ec : Nat) (D : Dead),Ev look L ⟨0,z,[⟨x,0,p,.nil⟩],[]⟩ (v,n,err) t ∧
  e = .returned (.tuple #[.agg #[.int .i64 v.k,.int .i64 v.i,.slice lA v.l.len lc,.int .i64 0,.string v.p,.string v.q,.slice bA v.b.len bc,.slice eA v.e.len ec],.int .i64 n,.int .i64 err]) ∧
  VaR (CdW w B0) w' D v lA lc bA bc eA ec ∧ Oth (fun k => k = vb ∨ k = rb) w w' ∧ ∃ B,v.l.Sz strK.ok intK.ok 400 B ∧ v.e.Sz strK.ok intK.ok 400 B
set_option maxRecDepth 100000 in
set_option maxHeartbeats 8000000 in
theorem evRun_any {w : World} {B0 vb rb mb : Nat} {m : Value} {L z : Int} {look : ByteArray → Int → Option Xp} {x : Xp} {eb eo : Nat} {p : ByteArray} (h0 : Ev0 w vb rb m L z) (hlv : B0 ≤ vb) (hlr : B0 ≤ rb) (hm : m = .map (some mb)) (hlk : LkR w B0 vb rb w.heap.size mb look)
  (hx : XpA w B0 eb eo x) (hok : x.Ok) (hft : x.Fit strK.ok intK.ok 400) (hp : strK.ok p) (hL0 : 0 ≤ L) (hL : L ≤ 100000) (hlo : ∀ p i x,look p i = some x → x.Ok) (hlf : ∀ p i x,look p i = some x → x.Fit strK.ok intK.ok 400) :
  Calls Tryz.prog 27 #[.pointer (some ⟨vb,0,none⟩),.pointer (some ⟨eb,eo,none⟩),.string p] w (RunR w B0 vb rb look L z x p):=by
 have hvl:=lt_of_block h0.blk
 obtain ⟨rc,hrm⟩:=h0.rm
 have hrl:=lt_of_block hrm
 have hrv : rb ≠ vb:=fun e => by
  have:=h0.blk
  rw [← e,hrm] at this
  cases this
 obtain ⟨r,t,hEv⟩:=ev_ends (look:=look) (L:=L) hlo (L - 0).toNat (pot [⟨x,0,p,.nil⟩]) ⟨0,z,[⟨x,0,p,.nil⟩],[]⟩ (start_ok hok) (Nat.le_refl _) (Nat.le_refl _)
 obtain ⟨W1,hW1⟩ : ∃ Q9,(((w.alloc (.cells #[.pointer (some ⟨vb,0,none⟩)] 75)).alloc (.cells #[.int .i64 0,.int .i64 0,.slice none 0 0,.int .i64 0,.string ⟨#[]⟩,.string ⟨#[]⟩,.slice none 0 0,.slice none 0 0] 36)).alloc (.cells #[.int .i64 0] 3)).alloc (.cells #[.int .i64 0] 29) = Q9:=⟨_,rfl⟩
 have hz1 : W1.heap.size = w.heap.size + 4:=by rw [← hW1];simp
 have ho1 : Oth (fun _ => False) w W1:=by rw [← hW1];exact ((((Oth.refl _ _).alloc _).alloc _).alloc _).alloc _
 have a0 : W1.heap[w.heap.size]? = some (.cells #[.pointer (some ⟨vb,0,none⟩)] 75 (0,0)):=by
  rw [← hW1,Below.heap_alloc _ _ _ (by simp;omega),Below.heap_alloc _ _ _ (by simp;omega),Below.heap_alloc _ _ _ (by simp)]
  exact heap_alloc_new w _
 have a1 : W1.heap[w.heap.size + 1]? = some (.cells #[.int .i64 0,.int .i64 0,.slice none 0 0,.int .i64 0,.string ⟨#[]⟩,.string ⟨#[]⟩,.slice none 0 0,.slice none 0 0] 36 (0,0)):=by
  rw [← hW1,Below.heap_alloc _ _ _ (by simp),Below.heap_alloc _ _ _ (by simp)]
  have:=heap_alloc_new (w.alloc (.cells #[.pointer (some ⟨vb,0,none⟩)] 75)) (.cells #[.int .i64 0,.int .i64 0,.slice none 0 0,.int .i64 0,.string ⟨#[]⟩,.string ⟨#[]⟩,.slice none 0 0,.slice none 0 0] 36)
  simpa using this
 have a2 : W1.heap[w.heap.size + 1 + 1]? = some (.cells #[.int .i64 0] 3 (0,0)):=by
  rw [← hW1,Below.heap_alloc _ _ _ (by simp)]
  have:=heap_alloc_new ((w.alloc (.cells #[.pointer (some ⟨vb,0,none⟩)] 75)).alloc (.cells #[.int .i64 0,.int .i64 0,.slice none 0 0,.int .i64 0,.string ⟨#[]⟩,.string ⟨#[]⟩,.slice none 0 0,.slice none 0 0] 36)) (.cells #[.int .i64 0] 3)
  simpa using this
 have a3 : W1.heap[w.heap.size + 1 + 1 + 1]? = some (.cells #[.int .i64 0] 29 (0,0)):=by
  rw [← hW1]
  have:=heap_alloc_new (((w.alloc (.cells #[.pointer (some ⟨vb,0,none⟩)] 75)).alloc (.cells #[.int .i64 0,.int .i64 0,.slice none 0 0,.int .i64 0,.string ⟨#[]⟩,.string ⟨#[]⟩,.slice none 0 0,.slice none 0 0] 36)).alloc (.cells #[.int .i64 0] 3)) (.cells #[.int .i64 0] 29)
  simpa using this
 have HA:=Lib.hid (And.intro a0 (And.intro a1 (And.intro a2 (And.intro a3 (And.intro hz1 ho1)))))
 have HW1:=Lib.hid hW1
 clear hW1 a0 a1 a2 a3 hz1 ho1
 have HM:=Lib.hid (evMethods_any W1)
 go_enter_defers Tryz.func27,Tryz.ntmps27
 go_wp2_with fail
 rw [HW1.out]
 refine HM.out.mono ?_
 rintro e w2 ⟨kb,rfl,hkb,hkm,ho2⟩
 obtain ⟨W3,hW3⟩ : ∃ Q9,w2.alloc (.cells #[.string p,.slice none 0 0] 140) = Q9:=⟨_,rfl⟩
 have ho3 : Oth (fun _ => False) w2 W3:=by rw [← hW3];exact (Oth.refl _ _).alloc _
 have hz3 : W3.heap.size = w2.heap.size + 1:=by rw [← hW3];simp
 have hpl : W3.heap[w2.heap.size]? = some (.cells #[.string p,.slice none 0 0] 140 (0,0)):=by rw [← hW3];exact heap_alloc_new _ _
 have ho13 : Oth (fun _ => False) W1 W3:=ho2.trans ho3
 have ho03:=HA.out.2.2.2.2.2.trans ho13
 have hz:=HA.out.2.2.2.2.1
 have hz2:=ho2.size
 have old : ∀ k,k < w.heap.size → W3.heap[k]? = w.heap[k]?:=fun k hk => ho03.block k hk (fun e => e)
 have a0:=(ho13.block _ (by omega) (fun e => e)).trans HA.out.1
 have x0:=cell_of_row w2 w.heap.size 0 _ _ (0,0) ((ho2.block _ (by omega) (fun e => e)).trans HA.out.1)
 simp only [List.getElem?_toArray,List.getElem?_cons_zero] at x0
 have hI : EvI W3 B0 vb rb W3.heap.size m L W3 ⟨0,z,[],[]⟩ (.slice none 0 0) [] (.slice none 0 0) [] []:=start_evi h0 hlv hlr ho03
 have hd0 : ∀ o,¬ Dd vb rb (.slice none 0 0) (.slice none 0 0) [] w2.heap.size o:=fun o e => by
  rcases e with e | e | e | e | ⟨y,hy,_⟩
  ·omega
  ·omega
  ·cases e
  ·cases e
  ·simp at hy
 have hpl0 : PlA (CdW W3 B0) W3 (Dd vb rb (.slice none 0 0) (.slice none 0 0) []) w2.heap.size p .nil:=⟨cell_of_row W3 _ 0 _ _ (0,0) hpl,hd0 0,⟨none,0,cell_of_row W3 _ 1 _ _ (0,0) hpl,Vl.Sl.nil _ _ _ _ _⟩,hd0 1⟩
 have hB0:=beginI hI ⟨Int.le_refl _,by omega,Nat.zero_le _,Nat.zero_le _⟩ (hx.keep fun k hk => old k (by omega)) (p:=p) (v:=.nil) (pb:=w2.heap.size) hpl0
 have HB:=Lib.hid hB0
 have HS:=Lib.hid (And.intro hkb (And.intro hkm (And.intro ho2 (And.intro ho3 (And.intro hz3 (And.intro hpl (And.intro ho13 (And.intro ho03 (And.intro hz (And.intro hz2 (And.intro old (And.intro a0 hI))))))))))))
 clear hB0 hpl0 hd0 hkb hkm ho2 ho3 hz3 hpl ho13 ho03 hz hz2 old a0 hI
 go_wp2_with fail
 refine HB.out.mono ?_
 rintro e w4 ⟨rfl,fv,fc,gv,gc,rs,hE4,hK4,hst4⟩
 have hsb : EsB strK.ok intK.ok 400 ⟨0,z,[⟨x,0,p,.nil⟩],[]⟩:=start_sz hft hp
 have hso : Es.Ok ⟨0,z,[⟨x,0,p,.nil⟩],[]⟩:=start_ok hok
 clear hW3 x0
 have HK : Hid (∀ (wx : World) (s9 : Es) (fv9 : Value) (fc9 : List Value) (gv9 : Value) (gc9 : List Value) (rs9 : List Rm),EvI W3 B0 vb rb W3.heap.size m L wx s9 fv9 fc9 gv9 gc9 rs9 → wx.heap[w.heap.size]? = some (.cells #[.pointer (some ⟨vb,0,none⟩)] 75 (0,0)) ∧
   wx.heap[w.heap.size + 1]? = some (.cells #[.int .i64 0,.int .i64 0,.slice none 0 0,.int .i64 0,.string ⟨#[]⟩,.string ⟨#[]⟩,.slice none 0 0,.slice none 0 0] 36 (0,0)) ∧ wx.heap[w.heap.size + 1 + 1]? = some (.cells #[.int .i64 0] 3 (0,0)) ∧ wx.heap[w.heap.size + 1 + 1 + 1]? = some (.cells #[.int .i64 0] 29 (0,0))):=Lib.hid fun wx s9 fv9 fc9 gv9 gc9 rs9 hE9 => by
  have hz:=HS.out.2.2.2.2.2.2.2.2.1
  have hz2:=HS.out.2.2.2.2.2.2.2.2.2.1
  have hz3:=HS.out.2.2.2.2.1
  have hk : ∀ k,w.heap.size ≤ k → k < W1.heap.size → wx.heap[k]? = W1.heap[k]?:=fun k h1 h2 => (hE9.old k (by omega) (by omega) (by omega)).trans (HS.out.2.2.2.2.2.2.1.block k h2 (fun e => e))
  exact ⟨(hk _ (Nat.le_refl _) (by omega)).trans HA.out.1,(hk _ (by omega) (by omega)).trans HA.out.2.1,(hk _ (by omega) (by omega)).trans HA.out.2.2.1,(hk _ (by omega) (by omega)).trans HA.out.2.2.2.1⟩
 have HEND : Hid (∀ (err : Int) (wx : World) (s9 : Es) (fv9 : Value) (fc9 : List Value) (gv9 : Value) (gc9 : List Value) (rs9 : List Rm),EvI W3 B0 vb rb W3.heap.size m L wx s9 fv9 fc9 gv9 gc9 rs9 → St W3 wx → r = (vaI 0 0,s9.n,err) →
   CallsD Tryz.prog 58 #[.pointer (some ⟨w.heap.size,0,none⟩),.pointer (some ⟨w.heap.size + 1,0,none⟩),.pointer (some ⟨w.heap.size + 1 + 1,0,none⟩),.pointer (some ⟨w.heap.size + 1 + 1 + 1,0,none⟩)] (.panicking [stopped err false]) wx fun e u' w' => e = .returned (.tuple #[]) ∧ u' = .panicking [stopped err true] ∧
    w'.heap[w.heap.size + 1]? = some (.cells #[.int .i64 0,.int .i64 0,.slice none 0 0,.int .i64 0,.string ⟨#[]⟩,.string ⟨#[]⟩,.slice none 0 0,.slice none 0 0] 36 (0,0)) ∧ w'.heap[w.heap.size + 1 + 1]? = some (.cells #[.int .i64 s9.n] 3 (0,0)) ∧ w'.heap[w.heap.size + 1 + 1 + 1]? = some (.cells #[.int .i64 err] 29 (0,0)) ∧
    RunR w B0 vb rb look L z x p (.returned (.tuple #[.agg #[.int .i64 0,.int .i64 0,.slice none 0 0,.int .i64 0,.string ⟨#[]⟩,.string ⟨#[]⟩,.slice none 0 0,.slice none 0 0],.int .i64 s9.n,.int .i64 err])) w'):=Lib.hid fun err wx s9 fv9 fc9 gv9 gc9 rs9 hE9 hst9 hr => by
  obtain ⟨b0,b1,b2,b3⟩:=HK.out _ _ _ _ _ _ _ hE9
  refine (run1_panicking w.heap.size (w.heap.size + 1) (w.heap.size + 1 + 1) (w.heap.size + 1 + 1 + 1) vb err s9.n _ _ _ _ _ _ _ _ _ _ _ _ _ _ _ _ wx b0 b1 b2 b3 hE9.ev.blk (by omega) (by omega) (by omega) (by omega) (by omega) (by omega) (by omega) (by omega) (by omega)).mono ?_
  rintro e u' w' ⟨rfl,rfl,h6,h7,h8,ho⟩
  refine ⟨rfl,rfl,h6,h7,h8,vaI 0 0,s9.n,err,t,none,0,none,0,none,0,fun _ _ => False,hr ▸ hEv,rfl,VaR.plain _ _ _ (CdW.nil _ _ _) _ _,?_,0,trivial,trivial⟩
  exact ((HS.out.2.2.2.2.2.2.2.1.mono (fun _ _ e => e.elim)).trans (hE9.oth hst9)).trans' ho fun k hk e => by rcases e with e | e | e <;> omega
 go_wp2_with fail
 go_loopg [10] t (fun g _ wr => ∃ (s : Es) (fv : Value) (fc : List Value) (gv : Value) (gc : List Value) (rs : List Rm),Ev look L s r g ∧ EvI W3 B0 vb rb W3.heap.size m L wr s fv fc gv gc rs ∧ s.Ok ∧ EsB strK.ok intK.ok 400 s ∧ s.n ≤ L ∧ St W3 wr)
 case atStart => exact ⟨_,_,_,_,_,_,hEv,hE4,hso,hsb,hL0,hst4⟩
 case round =>
  obtain ⟨s,fv1,fc1,gv1,gc1,rs1,hev,hE,hso1,hsb1,hn1,hst1⟩:=hrel
  obtain ⟨n,z1,fs,vs⟩:=s
  have x0:=cell_of_row wr w.heap.size 0 _ _ (0,0) ((hE.old w.heap.size (by have:=HS.out.2.2.2.2.2.2.2.2.1;have:=HS.out.1;have:=HS.out.2.2.2.2.1;have:=HS.out.2.2.2.2.2.2.2.2.2.1;omega) (by omega) (by omega)).trans HS.out.2.2.2.2.2.2.2.2.2.2.2.1)
  have x4:=cell_of_row wr vb 4 _ _ (0,0) hE.ev.blk
  simp [evC] at x0 x4
  cases fs with
  | nil =>
   obtain ⟨v,vs',rfl,hfin1,hfin2⟩:=hev.fin
   obtain ⟨fA,fcp,rfl⟩ : ∃ A c,fv1 = .slice A 0 c:=by
    rcases hE.ev.fr.2 with ⟨h1,h2⟩ | ⟨g,cap,cur,h1,_⟩
    ·exact ⟨none,0,h1⟩
    ·exact ⟨_,_,h1⟩
   by_cases hl : L ≤ n
   ·have HP:=Lib.hid (stepI_no hE hl)
    have hr:=hfin1 hl
    have HH:=Lib.hid (And.intro hst1 hr)
    clear hev hE hso1 hsb1 hn1 hst1 hfin1 hfin2 hl hr
    go_wp2_with fail
    refine HP.out.mono ?_
    rintro e w5 ⟨he,hE5,hst5⟩
    have HF:=Lib.hid (HEND.out 27 w5 _ _ _ _ _ _ hE5 (HH.out.1.trans hst5) HH.out.2)
    clear hE5 hst5 x0 x4
    unfold failed at he
    subst he
    go_wp2
    refine leaves_cons (f:=58) (args:=#[.pointer (some ⟨w.heap.size,0,none⟩),.pointer (some ⟨w.heap.size + 1,0,none⟩),.pointer (some ⟨w.heap.size + 1 + 1,0,none⟩),.pointer (some ⟨w.heap.size + 1 + 1 + 1,0,none⟩)]) (by simp) (by simp [go_sem]) ?_
    refine HF.out.mono ?_
    rintro e u' w' ⟨rfl,rfl,h6,h7,h8,HRR⟩
    obtain ⟨s0,s1,s2,s3,s4,s5,s6,s7,_,_,_,_,_,_,_,_⟩:=row8 h6
    have s8:=cell_of_row w' (w.heap.size + 1 + 1) 0 _ _ (0,0) h7
    have s9:=cell_of_row w' (w.heap.size + 1 + 1 + 1) 0 _ _ (0,0) h8
    have HRR:=Lib.hid HRR
    clear h6 h7 h8
    simp [stopped,Leaves,settle,results,Tryz.results27,go_sem,s0,s1,s2,s3,s4,s5,s6,s7,s8,s9]
    exact HRR.out
   ·have hsm:=hsb1.sm hso1 hL hn1
    have HP:=Lib.hid (stepI_ok hE hsm (by show n < L;omega))
    have hr:=hfin2 (by omega)
    have HH:=Lib.hid (And.intro hst1 (And.intro hr (hsb1.vs v List.mem_cons_self)))
    clear hev hE hso1 hsb1 hn1 hst1 hfin1 hfin2 hl hr hsm
    go_wp2_with fail
    refine HP.out.mono ?_
    rintro e w5 ⟨rfl,hE5,hk5,hst5⟩
    have HPP:=Lib.hid (fun (Y : World) (ho : Oth (fun _ => False) w5 Y) => popI (hE5.same ho).1)
    obtain ⟨b0,b1,b2,b3⟩:=HK.out _ _ _ _ _ _ _ hE5
    clear x0 x4
    have x0:=cell_of_row w5 w.heap.size 0 _ _ (0,0) b0
    have x4:=cell_of_row w5 vb 1 _ _ (0,0) hE5.ev.blk
    simp [evC] at x0 x4
    have HE5:=Lib.hid (And.intro hE5 (And.intro hk5 hst5))
    clear hE5 hk5 hst5 b0 b1 b2 b3
    have HX5:=Lib.hid (show RunS w.heap.size vb (n + 1) w5.drew from ⟨x0,x4⟩)
    go_wp2
    go_region_held3 (fun Y => Y.cell? ⟨w.heap.size,0,none⟩ = some (.pointer (some ⟨vb,0,none⟩)) ∧ Y.cell? ⟨vb,1,none⟩ = some (.int .i64 (n + 1)))
     (focus (change RunS w.heap.size vb (n + 1) _;first | with_reducible exact HX6.out | with_reducible exact HX5.out | ((repeat (refine RunS.set ?_ (by omega) (by omega)));with_reducible exact HX6.out) | fail))
     (first | (go_at_call 62;(with_reducible refine Calls.mono (HPP.out _ ?_) ?_);exact (Oth.refl _ _).drew;rintro e w6 ⟨lA,lc,bA,bc,eA,ec,rfl,gv6,gc6,hE6,hk6,hst6,hv6⟩;obtain ⟨b0,b1,b2,b3⟩:=HK.out _ _ _ _ _ _ _ hE6;have y0:=cell_of_row w6 w.heap.size 0 _ _ (0,0) b0;have y4:=cell_of_row w6 vb 1 _ _ (0,0) hE6.ev.blk;simp [evC] at y0 y4;have HX6:=Lib.hid (show RunS w.heap.size vb (n + 1) w6 from ⟨y0,y4⟩);obtain ⟨s0,s1,s2,s3,s4,s5,s6,s7,t0,t1,t2,t3,t4,t5,t6,t7⟩:=row8 b1;have s8:=cell_of_row w6 (w.heap.size + 1 + 1) 0 _ _ (0,0) b2;have s9:=cell_of_row w6 (w.heap.size + 1 + 1 + 1) 0 _ _ (0,0) b3;have t8:=frozen_of_row w6 (w.heap.size + 1 + 1) 0 _ _ b2;have t9:=frozen_of_row w6 (w.heap.size + 1 + 1 + 1) 0 _ _ b3;simp only [List.getElem?_toArray,List.getElem?_cons_zero] at s8 s9;have HE6:=Lib.hid (And.intro hE6 (And.intro hk6 (And.intro hst6 (And.intro hv6 (And.intro b0 (And.intro b1 (And.intro b2 b3)))))));clear hE6 hk6 hst6 hv6 b0 b1 b2 b3) | fail)
    all_goals (
     obtain ⟨hE6,hk6,hst6,hv6,b0,b1,b2,b3⟩:=HE6.out
     generalize hW9 : (((((((((w6.setCell ⟨w.heap.size + 1,0,none⟩ (.int .i64 v.k)).setCell ⟨w.heap.size + 1,1,none⟩ (.int .i64 v.i)).setCell ⟨w.heap.size + 1,2,none⟩ (.slice lA v.l.len lc)).setCell ⟨w.heap.size + 1,3,none⟩ (.int .i64 0)).setCell ⟨w.heap.size + 1,4,none⟩ (.string v.p)).setCell ⟨w.heap.size + 1,5,none⟩ (.string v.q)).setCell ⟨w.heap.size + 1,6,none⟩ (.slice bA v.b.len bc)).setCell ⟨w.heap.size + 1,7,none⟩ (.slice eA v.e.len ec)).setCell ⟨w.heap.size + 1 + 1,0,none⟩ (.int .i64 (n + 1))).setCell ⟨w.heap.size + 1 + 1 + 1,0,none⟩ (.int .i64 0) = W9
     have g6 : W9.heap[w.heap.size + 1]? = some (.cells #[.int .i64 v.k,.int .i64 v.i,.slice lA v.l.len lc,.int .i64 0,.string v.p,.string v.q,.slice bA v.b.len bc,.slice eA v.e.len ec] 36 (0,0)):=by
      rw [← hW9,Below.heap_setCell _ _ _ _ (show w.heap.size + 1 ≠ w.heap.size + 1 + 1 + 1 by omega),Below.heap_setCell _ _ _ _ (show w.heap.size + 1 ≠ w.heap.size + 1 + 1 by omega)]
      exact set8 _ _ _ _ _ _ _ _ b1
     have g7 : W9.heap[w.heap.size + 1 + 1]? = some (.cells #[.int .i64 (n + 1)] 3 (0,0)):=by
      rw [← hW9,Below.heap_setCell _ _ _ _ (show w.heap.size + 1 + 1 ≠ w.heap.size + 1 + 1 + 1 by omega)]
      refine set_one (c:=.int .i64 0) ?_ _
      iterate 8 rw [Below.heap_setCell _ _ _ _ (show w.heap.size + 1 + 1 ≠ w.heap.size + 1 by omega)]
      exact b2
     have g8 : W9.heap[w.heap.size + 1 + 1 + 1]? = some (.cells #[.int .i64 0] 29 (0,0)):=by
      rw [← hW9]
      refine set_one (c:=.int .i64 0) ?_ _
      rw [Below.heap_setCell _ _ _ _ (show w.heap.size + 1 + 1 + 1 ≠ w.heap.size + 1 + 1 by omega)]
      iterate 8 rw [Below.heap_setCell _ _ _ _ (show w.heap.size + 1 + 1 + 1 ≠ w.heap.size + 1 by omega)]
      exact b3
     have ho9 : Oth (fun k => k = w.heap.size + 1 ∨ k = w.heap.size + 1 + 1 ∨ k = w.heap.size + 1 + 1 + 1) w6 W9:=by
      rw [← hW9]
      exact ((((((((((Oth.refl _ _).setCell (fun _ => .inl rfl) _).setCell (fun _ => .inl rfl) _).setCell (fun _ => .inl rfl) _).setCell (fun _ => .inl rfl) _).setCell (fun _ => .inl rfl) _).setCell (fun _ => .inl rfl) _).setCell (fun _ => .inl rfl) _).setCell (fun _ => .inl rfl) _).setCell (fun _ => .inr (.inl rfl)) _).setCell (fun _ => .inr (.inr rfl)) _
     have HRR : RunR w B0 vb rb look L z x p (.returned (.tuple #[.agg #[.int .i64 v.k,.int .i64 v.i,.slice lA v.l.len lc,.int .i64 0,.string v.p,.string v.q,.slice bA v.b.len bc,.slice eA v.e.len ec],.int .i64 (n + 1),.int .i64 0])) W9:=by
      refine ⟨v,n + 1,0,t,lA,lc,bA,bc,eA,ec,fun _ _ => False,HH.out.2.1 ▸ hEv,rfl,?_,?_,_,HH.out.2.2.2.1.2,HH.out.2.2.2.2.2⟩
      ·have hv9:=hv6.away (away_three b1 b2 b3 ho9) ⟨HH.out.2.2.2.1.2,HH.out.2.2.2.2.2⟩
       rw [CdW_eq fun k hk => HS.out.2.2.2.2.2.2.2.2.2.2.1 k (by omega)] at hv9
       exact hv9
      ·exact ((HS.out.2.2.2.2.2.2.2.1.mono (fun _ _ e => e.elim)).trans (hE6.oth (HH.out.1.trans (HE5.out.2.2.trans (((Oth.refl (fun _ => False) w5).drew.st).trans hst6))))).trans' ho9 fun k hk e => by rcases e with e | e | e <;> omega
     clear hW9 ho9 hE6 hk6 hst6 hv6 b0 b1 b2 b3 s0 s1 s2 s3 s4 s5 s6 s7 s8 s9 t0 t1 t2 t3 t4 t5 t6 t7 t8 t9
     obtain ⟨s0,s1,s2,s3,s4,s5,s6,s7,_,_,_,_,_,_,_,_⟩:=row8 g6
     have s8:=cell_of_row W9 (w.heap.size + 1 + 1) 0 _ _ (0,0) g7
     have s9:=cell_of_row W9 (w.heap.size + 1 + 1 + 1) 0 _ _ (0,0) g8
     have HRR:=Lib.hid HRR
     clear g6 g7 g8
     go_wp2
     refine leaves_cons (f:=58) (args:=#[.pointer (some ⟨w.heap.size,0,none⟩),.pointer (some ⟨w.heap.size + 1,0,none⟩),.pointer (some ⟨w.heap.size + 1 + 1,0,none⟩),.pointer (some ⟨w.heap.size + 1 + 1 + 1,0,none⟩)]) (by simp) (by simp [go_sem]) ?_
     refine (run1_idle ⟨w.heap.size,0,none⟩ ⟨w.heap.size + 1,0,none⟩ ⟨w.heap.size + 1 + 1,0,none⟩ ⟨w.heap.size + 1 + 1 + 1,0,none⟩ _).mono ?_
     rintro e u' w' ⟨rfl,rfl,rfl⟩
     simp [Leaves,settle,results,Tryz.results27,go_sem,s0,s1,s2,s3,s4,s5,s6,s7,s8,s9]
     exact HRR.out)
  | cons f fs =>
   obtain ⟨g,cap,fc',eb',eo',pb',rfl,_,_,_,_,_⟩:=hE.top
   have hsm:=hsb1.sm hso1 hL hn1
   obtain ⟨eb1,eo1,pb1,sA1,sc1,vA1,vc1,hT⟩:=hE.facts
   have p0:=hT.p0
   have k0:=hT.k0
   have hfl : ((fs.length : Nat) : Int) + 1 ≤ 1000000000:=by have:=hsm.f;simp only [List.length_cons] at this;omega
   have HE:=Lib.hid (And.intro hev (And.intro hE (And.intro hso1 (And.intro hsb1 (And.intro hn1 (And.intro hst1 hsm))))))
   clear hev hE hso1 hsb1 hn1 hst1 hsm hT
   go_wp2
   go_quiet (fail)
   have hq0 : Oth (fun _ => False) wr (wr.drewN nq):=(Oth.refl _ _).drewN nq
   have hp0 : (wr.drewN nq).heap = wr.heap:=rfl
   generalize wr.drewN nq = wq at hq0 hp0 ⊢
   obtain ⟨hev,hE,hso1,hsb1,hn1,hst1,hsm⟩:=HE.out
   have hq : Oth (fun _ => False) wr wq.drew:=hq0.drew
   have hE2:=hE.same hq
   have hcw : ∀ a,wq.cell? a = wr.cell? a:=fun a => World.cell?_of_block (by rw [hp0])
   have hkb:=HS.out.1
   have hkl:=HS.out.2.1.lt
   have hz3:=HS.out.2.2.2.2.1
   have hz1:=HA.out.2.2.2.2.1
   have hz2:=HS.out.2.2.1.size
   obtain ⟨F,hF,HMt⟩:=meth_any hE2.1 hm (hlk.keep (by have:=HS.out.2.2.2.2.2.2.2.1.size;omega) (by omega) HS.out.2.2.2.2.2.2.2.2.2.2.1) hL hn1 hso1 hsb1
   have hkm : ∀ W,W.heap = wr.heap → (Instr.lookup 135 (.map (some kb)) (.int .i64 f.e.k) false).run Tryz.prog W = .ok (.func (.func F) #[] #[]) W:=fun W hW => by
    have h1:=HS.out.2.1.keep (w':=W) (by rw [hW,hE.old kb (by omega) (by omega) (by omega)];exact HS.out.2.2.2.1.block kb hkl (fun e => e))
    have h2:=h1.look false Tryz.undKinds (zeroKind W) (a:=f.e.k) (kind_wf ⟨(hso1.fr f List.mem_cons_self).1.1.1,(hso1.fr f List.mem_cons_self).1.1.2.1⟩)
    rw [hF] at h2
    exact h2
   have hk15 : 1 ≤ f.e.k ∧ f.e.k ≤ 15:=⟨(hso1.fr f List.mem_cons_self).1.1.1,(hso1.fr f List.mem_cons_self).1.1.2.1⟩
   have hen:=kind_enter hk15 hF
   have l1:=hkm wq hp0
   have l2:=hkm wq.drew hp0
   rw [← hcw] at x0 x4 p0 k0
   clear hcw hp0 hq0 hk15
   have HMT:=Lib.hid HMt
   have HE2:=Lib.hid hE2
   have HQ:=Lib.hid hq
   clear hev hE hso1 hsb1 hn1 hst1 hsm hq hE2 hkb hkl hz3 hz1 hz2 HMt hkm hF
   go_wp2
   go_still_tail 11,(by kernel_rfl)
   change wpList _ _ _ _ _ wq.drew
   generalize wq.drew = wd at HMT HE2 HQ ⊢
   clear x0 x4 p0 k0 l1 l2
   go_wp2_with fail
   refine HMT.out.mono ?_
   clear hen
   intro e w5 hR
   obtain ⟨hev,hE,hso1,hsb1,hn1,hst1,hsm⟩:=HE.out
   have hso2:=stepE_ok (L:=L) hlo hso1
   have hsb2:=stepE_sz (L:=L) (by show (noB).size ≤ maxLen;unfold noB maxLen;decide) hlf hsb1
   have hn2:=stepE_top (look:=look) (z:=z1) (f:=f) (fs:=fs) (vs:=vs) hn1
   cases hst : stepE look L n z1 f fs vs with
   | go s' =>
    rw [hst] at hR hso2 hsb2 hn2
    obtain ⟨rfl,fv5,fc5,gv5,gc5,rs5,hE5,hK5,hst5⟩:=hR
    obtain ⟨t',rfl,hev'⟩:=hev.go hst
    have HF:=Lib.hid (And.intro hev' (And.intro hE5 (And.intro hso2 (And.intro hsb2 (And.intro hn2 ((hst1.trans HQ.out.st).trans hst5))))))
    clear hev hE hso1 hsb1 hn1 hst1 hsm hso2 hsb2 hn2 hst hE5 hK5 hst5 hev'
    go_wp2
    go_roundg t'
    case measure => omega
    case rel => exact ⟨_,_,_,_,_,_,HF.out.1,HF.out.2.1,HF.out.2.2.1,HF.out.2.2.2.1,HF.out.2.2.2.2.1,HF.out.2.2.2.2.2⟩
   | bad err k =>
    rw [hst] at hR
    obtain ⟨he,s9,fv9,fc9,gv9,gc9,rs9,hE9,hn9,hst9⟩:=hR
    have hr:=hev.no hst
    subst hn9
    have HF:=Lib.hid (HEND.out err w5 s9 _ _ _ _ _ hE9 ((hst1.trans HQ.out.st).trans hst9) hr)
    clear hev hE hso1 hsb1 hn1 hst1 hsm hso2 hsb2 hn2 hst hE9 hst9 hr
    unfold failed at he
    subst he
    go_wp2
    refine leaves_cons (f:=58) (args:=#[.pointer (some ⟨w.heap.size,0,none⟩),.pointer (some ⟨w.heap.size + 1,0,none⟩),.pointer (some ⟨w.heap.size + 1 + 1,0,none⟩),.pointer (some ⟨w.heap.size + 1 + 1 + 1,0,none⟩)]) (by simp) (by simp [go_sem]) ?_
    refine HF.out.mono ?_
    rintro e u' w' ⟨rfl,rfl,h6,h7,h8,HRR⟩
    obtain ⟨s0,s1,s2,s3,s4,s5,s6,s7,_,_,_,_,_,_,_,_⟩:=row8 h6
    have s8:=cell_of_row w' (w.heap.size + 1 + 1) 0 _ _ (0,0) h7
    have s9:=cell_of_row w' (w.heap.size + 1 + 1 + 1) 0 _ _ (0,0) h8
    have HRR:=Lib.hid HRR
    clear h6 h7 h8
    simp [stopped,Leaves,settle,results,Tryz.results27,go_sem,s0,s1,s2,s3,s4,s5,s6,s7,s8,s9]
    exact HRR.out
end Go.Proofs.YtnfndgmlnoeelaaGreatDoor
