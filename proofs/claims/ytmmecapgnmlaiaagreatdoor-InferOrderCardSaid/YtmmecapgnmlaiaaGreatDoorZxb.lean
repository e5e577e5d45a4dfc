/- bind.visit: forests as stacks, and the law of a visit -/
import Derived.Test.YtmmecapgnmlaiaaGreatDoorItn
import Derived.Laws.AppendOwnNone
namespace Go.Proofs.YtmmecapgnmlaiaaGreatDoor
open Go.RowKit Go.Proofs Go.Shelf
section
variable {P : Program} {w : World}
theorem run_append_owned_no (base : Nat) (t ty e : TypeId) (i : TypeInfo) (size : Nat) (ht : P.underlying t = some (.slice e)) (hi : P.info? e = some i)
  (v : Value) (n c : Nat) (xs : List Value) (hown : w.ownsRow base e size v n xs) :
  (Builtin.append_ #[t,t] ty #[v,.slice none 0 c]).run P w = .ok v w:=by
 rcases hown.2 with ⟨rfl,rfl⟩ | ⟨g,cap,cur,rfl,_,_,hnc,_⟩
 ·simp [Builtin.append_,run_underlying ht,sizeOf,typeInfo,hi,Builtin.lenOf,Builtin.firstCells]
 ·simp [Builtin.append_,run_underlying ht,sizeOf,typeInfo,hi,Builtin.lenOf,Builtin.firstCells,hnc,storeCells]
theorem wpList_append_own_any (w : World) {ops : Array Oper} {rest : List Oper} {o : Oper} {a : Act} {Q : Exit → Act → World → Prop} (hgd : o.guard = none) (s x : Operand) (t : TypeId)
  (ho : o.op = .call { callee:=.builtin .append,args:=#[s,x],argTypes:=#[t,t] })
  (base : Nat) (e : TypeId) (i : TypeInfo) (z : Value) (size bytes : Nat) (ht : P.underlying t = some (.slice e)) (hi : P.info? e = some i) (hz : i.zero = some z)
  (hsize : i.size = size) (hby : i.bytes = bytes) (hzs : z.cells.size = size) (hsz : 0 < size)
  (v : Value) (n : Nat) (xs : List Value) (hs : a.eval s = v) (hown : w.ownsRow base e size v n xs)
  (A : Option Addr) (m c : Nat) (news : List Value) (hx : a.eval x = .slice A m c) (hl : news.length = m * size) (hA : A = none → m = 0) (hnews : ∀ ad,A = some ad → ∀ j u,news[j]? = some u → w.cell? (ad.add j) = some u) (h1 : ∀ u ∈ news,u.oneCell' = true)
  (h63 : n + m ≤ maxLen) (hbytes : (n + m) * bytes ≤ 140737488355328) (hbase : base ≤ w.heap.size)
  (h : ∀ v' w',w'.ownsRow base e size v' (n + m) (xs ++ news) → w.grownBy w' v.ownBlock → wpList P ops Q rest (a.put o.dst v') w') : wpList P ops Q (o :: rest) a w:=by
 cases A with
 | some ad => exact wpList_append_own w hgd s x t ho base e i z size bytes ht hi hz hsize hby hzs hsz v n xs hs hown ad m c news hx hl (hnews ad rfl) h1 h63 hbytes hbase fun v' w' h2 h3 _ => h v' w' h2 h3
 | none =>
  obtain rfl:=hA rfl
  refine wpList_plain hgd fun K hK => ?_
  have hrun:=run_append_owned_no (P:=P) (w:=w) base t o.type e i size ht hi v n c xs hown
  unfold Oper.wp
  simp [execOp,ho,resolve,invoke,builtin,hs,hx,hrun,Result.andThen]
  have hn : news = []:=List.length_eq_zero_iff.1 (by simpa using hl)
  subst hn
  exact hK _ _ (h v w (by simpa using hown) (World.grownBy.refl _ _))
end
namespace Fo
def cells : Fo → List Value
 | .nil => []
 | .cons k n m i d A c s r => [.int .i64 k,.string n,.string m,.int .i64 i,.int .i64 d,.slice A s.len c] ++ r.cells
def Subs (w : World) (B : Nat) : Fo → Prop
 | .nil => True
 | .cons _ _ _ _ _ A c s r => s.Sl w B A c ∧ r.Subs w B
def app : Fo → Fo → Fo
 | .nil,g => g
 | .cons k n m i d A c s r,g => .cons k n m i d A c s (r.app g)
def vis : Fo → List Nd
 | .nil => []
 | .cons k n m i d A c s r => r.vis ++ ⟨0,k,n,m,i,d,A,s.len,c⟩ :: s.vis
theorem cells_length : ∀ f : Fo,f.cells.length = f.len * 6
 | .nil => rfl
 | .cons _ _ _ _ _ _ _ _ r => by simp [cells,len,r.cells_length];omega
theorem cells_one : ∀ f : Fo,∀ u ∈ f.cells,u.oneCell' = true
 | .nil,u,h => by simp [cells] at h
 | .cons _ _ _ _ _ _ _ _ r,u,h => by
  simp only [cells,List.mem_append,List.mem_cons,List.not_mem_nil,or_false] at h
  rcases h with (rfl | rfl | rfl | rfl | rfl | rfl) | h
  all_goals first | rfl | exact r.cells_one u h
theorem At.cells {w : World} {B : Nat} : ∀ {f : Fo} {b o : Nat},f.At w B b o → ∀ j u,f.cells[j]? = some u → w.cell? ⟨b,o + j,none⟩ = some u
 | .nil,_,_,_,_,_,h => by simp [Fo.cells] at h
 | .cons _ _ _ _ _ _ _ _ r,b,o,⟨h0,h1,h2,h3,h4,⟨h5,_⟩,hr⟩,j,u,h => by
  simp only [Fo.cells] at h
  match j with
  | 0 => simpa using h0.trans (by simpa using h)
  | 1 => simpa using h1.trans (by simpa using h)
  | 2 => simpa using h2.trans (by simpa using h)
  | 3 => simpa using h3.trans (by simpa using h)
  | 4 => simpa using h4.trans (by simpa using h)
  | 5 => simpa using h5.trans (by simpa using h)
  | j + 6 =>
   have:=At.cells hr j u (by simpa using h)
   rw [show o + (j + 6) = o + 6 + j by omega]
   exact this
theorem At.subs {w : World} {B : Nat} : ∀ {f : Fo} {b o : Nat},f.At w B b o → f.Subs w B
 | .nil,_,_,_ => trivial
 | .cons _ _ _ _ _ _ _ _ _,_,_,⟨_,_,_,_,_,⟨_,hc,hm,hs⟩,hr⟩ => ⟨⟨hc,hm,hs⟩,At.subs hr⟩
theorem Sl.subs {w : World} {B : Nat} {A : Option Addr} {c : Nat} {f : Fo} (h : f.Sl w B A c) : f.Subs w B:=by
 cases f with
 | nil => trivial
 | cons => obtain ⟨b,o,_,_,h⟩:=h.2.2 (by simp);exact h.subs
theorem Subs.keep {w w' : World} {B B' : Nat} (hB : B ≤ B') (hk : ∀ p : Addr,p.block < B → w'.cell? p = w.cell? p) : ∀ {f : Fo},f.Subs w B → f.Subs w' B'
 | .nil,_ => trivial
 | .cons _ _ _ _ _ _ _ _ _,⟨h1,h2⟩ => ⟨h1.keep hB hk,Subs.keep hB hk h2⟩
theorem Subs.app {w : World} {B : Nat} {g : Fo} (hg : g.Subs w B) : ∀ {f : Fo},f.Subs w B → (f.app g).Subs w B
 | .nil,_ => hg
 | .cons _ _ _ _ _ _ _ _ _,⟨h1,h2⟩ => ⟨h1,Subs.app hg h2⟩
theorem Subs.split {w : World} {B : Nat} {g : Fo} : ∀ {f : Fo},(f.app g).Subs w B → f.Subs w B ∧ g.Subs w B
 | .nil,h => ⟨trivial,h⟩
 | .cons _ _ _ _ _ _ _ _ _,⟨h1,h2⟩ => ⟨⟨h1,(Subs.split h2).1⟩,(Subs.split h2).2⟩
theorem cells_app (g : Fo) : ∀ f : Fo,(f.app g).cells = f.cells ++ g.cells
 | .nil => rfl
 | .cons _ _ _ _ _ _ _ _ r => by simp [app,cells,cells_app g r]
theorem len_app (g : Fo) : ∀ f : Fo,(f.app g).len = f.len + g.len
 | .nil => by simp [app,len]
 | .cons _ _ _ _ _ _ _ _ r => by simp [app,len,len_app g r];omega
theorem count_app (g : Fo) : ∀ f : Fo,(f.app g).count = f.count + g.count
 | .nil => by simp [app,count]
 | .cons _ _ _ _ _ _ _ _ r => by simp [app,count,count_app g r];omega
theorem vis_app (g : Fo) : ∀ f : Fo,(f.app g).vis = g.vis ++ f.vis
 | .nil => by simp [app,vis]
 | .cons _ _ _ _ _ _ _ _ r => by simp [app,vis,vis_app g r]
theorem len_count : ∀ f : Fo,f.len ≤ f.count
 | .nil => by simp [len,count]
 | .cons _ _ _ _ _ _ _ _ r => by have:=r.len_count;simp [len,count];omega
theorem snoc : ∀ f : Fo,f = .nil ∨ ∃ g k n m i d A c s,f = app g (.cons k n m i d A c s .nil)
 | .nil => .inl rfl
 | .cons k n m i d A c s r => by
  rcases r.snoc with rfl | ⟨g,k',n',m',i',d',A',c',s',rfl⟩
  ·exact .inr ⟨.nil,k,n,m,i,d,A,c,s,rfl⟩
  ·exact .inr ⟨.cons k n m i d A c s g,k',n',m',i',d',A',c',s',rfl⟩
end Fo
theorem Tryz.infoExpr : (Tryz.prog.info? 44).map (fun i => (i.zero,i.size,i.bytes)) = some (some (.agg #[.int .i64 0,.string ⟨#[]⟩,.string ⟨#[]⟩,.int .i64 0,.int .i64 0,.slice none 0 0]),6,80):=by kernel_rfl
end Go.Proofs.YtmmecapgnmlaiaaGreatDoor
/- bind.visit: the law of a visit -/
namespace Go.Proofs.YtmmecapgnmlaiaaGreatDoor
open Go.RowKit Go.Proofs Go.Shelf
def Nd.enc (x : Nd) : Value:=.agg #[.int .i64 x.k,.string x.n,.string x.m,.int .i64 x.i,.int .i64 x.d,.slice x.A x.len x.c]
def IsE (X : World) (k : Nat) : Prop:=∃ cur fz,X.heap[k]? = some (.cells cur 44 fz)
theorem IsE.alloc {X : World} {k : Nat} (h : IsE X k) (o : Obj) : IsE (X.alloc o) k:=by
 obtain ⟨cur,fz,h⟩:=h
 exact ⟨cur,fz,(Below.heap_alloc _ _ _ (Array.getElem?_eq_some_iff.1 h).1).trans h⟩
theorem isE_row {X : World} {base g n cap : Nat} {xs : List Value} (h : X.ownsRow base 44 6 (.slice (some ⟨g,0,none⟩) n cap) n xs) : IsE X g:=by
 rcases h.2 with ⟨h,_⟩ | ⟨g',cap',cur,h,_,hg,_⟩
 ·cases h
 ·cases h;exact ⟨cur,(0,0),hg⟩
theorem isE_own {X : World} {base g n cap : Nat} {xs : List Value} (h : X.ownsRow base 44 6 (.slice (some ⟨g,0,none⟩) n cap) n xs) : IsE X g:=isE_row h
def TellsE (N : Nat) (J : List Nd → World → Prop) : Prop:=∀ pre X Y g,J pre X → N ≤ g → (g < X.heap.size → IsE X g) → Keeps (fun k => k ≠ g) X Y → J pre Y
theorem TellsE.alloc {N : Nat} {J : List Nd → World → Prop} (h : TellsE N J) {pre : List Nd} {X : World} (hJ : J pre X) (hX : N ≤ X.heap.size) (o : Obj) : J pre (X.alloc o):=
 h pre X _ X.heap.size hJ hX (fun h => absurd h (by omega)) ((Keeps.refl _ X).alloc o)
def VsR (xs : List Nd) (J : List Nd → World → Prop) (B n₀ : Nat) (g : Nat) (v : Value) (wr : World) : Prop:=
 ∃ (st : Fo) (pre : List Nd),g = st.count ∧ pre ++ st.vis = xs ∧ J pre wr ∧ B ≤ wr.heap.size ∧ wr.ownsRow B 44 6 v st.len st.cells ∧ st.Subs wr n₀ ∧ st.count ≤ 100001
set_option maxRecDepth 100000 in
set_option maxHeartbeats 2000000 in
theorem visit_law2 (fid : Nat) (hfn : ∀ (args : Array Value) (W : World),(callFunc fid args).run Tryz.prog W = .ok (.enter fid args) W) (lb : Array Value) (n₀ : Nat) (J Jx : List Nd → World → Prop) (k : Int) (n m : ByteArray) (i d : Int) (A : Option Addr) (c : Nat) (s : Fo) (w : World)
  (hs : s.Sl w n₀ A c) (hn : n₀ ≤ w.heap.size) (hcnt : s.count ≤ 100000) (hJ : TellsE w.heap.size J)
  (hF : ∀ pre x X,pre ++ [x] <+: (Fo.cons k n m i d A c s .nil).vis → J pre X → w.heap.size ≤ X.heap.size → Calls Tryz.prog fid (#[x.enc] ++ lb) X fun e Y =>
   (e = .returned (.bool true) ∧ J (pre ++ [x]) Y ∧ Keeps (fun k => k < n₀ ∨ (w.heap.size ≤ k ∧ IsE X k)) X Y) ∨ (e = .returned (.bool false) ∧ Jx (pre ++ [x]) Y))
  (hJ0 : J [] w) :
  Calls Tryz.prog 111 #[.agg #[.int .i64 k,.string n,.string m,.int .i64 i,.int .i64 d,.slice A s.len c],.func (.func fid) #[] lb] w fun e w' =>
   (∃ v,e = .returned v) ∧ (J (Fo.cons k n m i d A c s .nil).vis w' ∨ ∃ pre,pre <+: (Fo.cons k n m i d A c s .nil).vis ∧ Jx pre w'):=by
 obtain ⟨i0,hi,hz0,hz1,hz2⟩:=info_parts Tryz.infoExpr
 have HH:=Lib.hid (And.intro hJ (And.intro trivial (And.intro hF (And.intro hs hJ0))))
 clear hJ hF hs hJ0
 obtain ⟨xs,Hxs⟩ : ∃ xs,Hid ((Fo.cons k n m i d A c s .nil).vis = xs):=⟨_,rfl⟩
 rw [Hxs.out] at HH ⊢
 go_enter Tryz.func111,Tryz.ntmps111
 go_wp2
 go_loopg [4,5] (s.count + 1) (fun g v _ wr => VsR xs J w.heap.size n₀ g v wr)
 case atStart =>
  refine ⟨.cons k n m i d A c s .nil,[],by simp [Fo.count],by simpa using Hxs.out,?_,?_,?_,?_,by simp [Fo.count];omega⟩
  ·exact HH.out.1.alloc (HH.out.1.alloc HH.out.2.2.2.2 (Nat.le_refl _) _) (by simp) _
  ·simp only [World.size_alloc];omega
  ·have h:=World.ownsRow_lit (e:=44) (base:=w.heap.size) (size:=6) (w.alloc (.cells #[.int .i64 k,.string n,.string m,.int .i64 i,.int .i64 d,.slice A s.len c] 44)) #[.int .i64 k,.string n,.string m,.int .i64 i,.int .i64 d,.slice A s.len c] 1 (by simp only [World.size_alloc];omega) (by simp [maxLen]) rfl
   simp only [World.size_alloc] at h
   exact h
  ·refine ⟨HH.out.2.2.2.1.keep (Nat.le_refl _) fun p hp => ?_,trivial⟩
   rw [World.cell?_alloc_lt _ _ p (by simp;omega),World.cell?_alloc_lt _ _ p (by omega)]
 case round =>
  obtain ⟨st,pre,hg,hpr,hJp,hsz,hown,hst,hct⟩:=hrel
  have HP:=Lib.hid (And.intro hg (And.intro hpr (And.intro hst hJp)))
  clear hg hpr hst hJp
  rcases st.snoc with rfl | ⟨g,tk,tn,tm,ti,td,tA,tc,ts,rfl⟩
  ·obtain ⟨o3,c3,rfl⟩ : ∃ (o3 : Option Addr) (c3 : Nat),u4 = .slice o3 0 c3:=by
    rcases hown.2 with ⟨rfl,_⟩ | ⟨g',cap',cur,rfl,_⟩
    ·exact ⟨_,_,rfl⟩
    ·exact ⟨_,_,rfl⟩
   clear hown
   go_wp2
   go_end0
   refine ⟨⟨_,rfl⟩,.inl ?_⟩
   have:=HP.out.2.1
   simp only [Fo.vis,List.append_nil] at this
   rw [← this]
   exact HP.out.2.2.2
  ·rw [Fo.len_app,Fo.cells_app] at hown
   simp only [Fo.len,Fo.cells,Nat.zero_add,List.append_nil] at hown
   obtain ⟨gb,cap,rfl⟩:=ownsRow_succ hown
   have hcap : g.len + 1 ≤ cap ∧ cap ≤ 9223372036854775807:=by
    rcases hown.2 with ⟨h,_⟩ | ⟨g',cap',cur,h,_,_,hle,hmx,_⟩
    ·cases h
    ·cases h;unfold maxLen at hmx;omega
   have hcl:=g.cells_length
   have htop : ∀ j : Nat,j < 6 → wr.cell? ⟨gb,g.len * 6 + j,none⟩ = ([.int .i64 tk,.string tn,.string tm,.int .i64 ti,.int .i64 td,.slice tA ts.len tc] : List Value)[j]?:=by
    intro j hj
    rw [hown.cellAt (g.len * 6 + j) (by omega),List.getElem?_append_right (by omega),hcl]
    congr 1
    omega
   have t0 : wr.cell? ⟨gb,g.len * 6,none⟩ = some (.int .i64 tk):=htop 0 (by omega)
   have t1 : wr.cell? ⟨gb,g.len * 6 + 1,none⟩ = some (.string tn):=htop 1 (by omega)
   have t2 : wr.cell? ⟨gb,g.len * 6 + 2,none⟩ = some (.string tm):=htop 2 (by omega)
   have t3 : wr.cell? ⟨gb,g.len * 6 + 3,none⟩ = some (.int .i64 ti):=htop 3 (by omega)
   have t4 : wr.cell? ⟨gb,g.len * 6 + 4,none⟩ = some (.int .i64 td):=htop 4 (by omega)
   have t5 : wr.cell? ⟨gb,g.len * 6 + 5,none⟩ = some (.slice tA ts.len tc):=htop 5 (by omega)
   have hgb:=(hown.lt gb rfl).1
   have HGE:=Lib.hid (isE_own hown)
   have hpop:=Lib.hid (ownsRow_pop (by rw [hcl]) hown)
   have HC:=Lib.hid (And.intro hct hcl)
   clear hown htop hct hcl
   have hsub:=HP.out.2.2.1.split
   have HX : Hid (pre ++ [⟨0,tk,tn,tm,ti,td,tA,ts.len,tc⟩] <+: xs):=by
    show _ <+: _
    rw [← HP.out.2.1,Fo.vis_app]
    exact ⟨ts.vis ++ g.vis,by simp [Fo.vis]⟩
   have hz1' : wr.heap.size < (wr.alloc (.cells #[.int .i64 tk,.string tn,.string tm,.int .i64 ti,.int .i64 td,.slice tA ts.len tc] 44)).heap.size:=by simp
   have hJ1:=HH.out.1.alloc HP.out.2.2.2 hsz (.cells #[.int .i64 tk,.string tn,.string tm,.int .i64 ti,.int .i64 td,.slice tA ts.len tc] 44)
   have HF:=Lib.hid (HH.out.2.2.1 pre ⟨0,tk,tn,tm,ti,td,tA,ts.len,tc⟩ _ HX.out hJ1 (by omega))
   go_wp2_with fail
   refine HF.out.mono ?_
   rintro e Y (⟨rfl,hJ2,hk2⟩ | ⟨rfl,hJ2⟩)
   ·have hyz:=hk2.size
    have hbx:=Lib.hid (hk2.cell (p:=⟨wr.heap.size,5,none⟩) (v:=.slice tA ts.len tc) (.inr ⟨by simp;omega,_,_,heap_alloc_new wr _⟩) (by go_simp))
    have b5:=hbx.out
    have hpop2:=Lib.hid (hk2.ownsRow (hpop.out.alloc _) (fun g' hg' => by simp only [Value.ownBlock,Option.some.injEq] at hg';subst hg';exact .inr ⟨hgb,HGE.out.alloc _⟩))
    have hcell : ∀ p : Addr,p.block < n₀ → Y.cell? p = wr.cell? p:=fun p hp =>
     (World.cell?_of_block (hk2.block p.block (by omega) (.inl hp))).trans (World.cell?_alloc_lt wr _ p (by omega))
    have hts:=hsub.2.1.keep (Nat.le_refl _) hcell
    have hgs:=hsub.1.keep (Nat.le_refl _) hcell
    have HT:=Lib.hid (And.intro hts hgs)
    have hcount : g.count + (ts.count + 1) ≤ 100001:=by have:=HC.out.1;rw [Fo.count_app] at this;simpa [Fo.count] using this
    have hl1:=g.len_count
    have hl2:=ts.len_count
    have HGE2:=Lib.hid (isE_row hpop2.out)
    clear hts hgs hsub hcell hk2 HF t0 t1 t2 t3 t4 t5 hJ1
    have hcase : tA = none → ts.len = 0:=by
     intro h
     cases ts with
     | nil => rfl
     | cons => obtain ⟨b',o',e,_⟩:=HT.out.1.2.2 (by simp);rw [h] at e;cases e
    have hnews : ∀ ad,tA = some ad → ∀ j u,ts.cells[j]? = some u → Y.cell? (ad.add j) = some u:=by
     intro ad had j u hu
     cases ts with
     | nil => simp [Fo.cells] at hu
     | cons =>
      obtain ⟨b',o',e,_,hat⟩:=HT.out.1.2.2 (by simp)
      rw [had] at e
      cases e
      have:=hat.cells j u hu
      cases j <;> simpa [Addr.add] using this
    have HN:=Lib.hid (And.intro hcase hnews)
    clear hcase hnews
    go_wp2_with (at_builtin;refine wpList_append_own_any _ rfl _ _ 42 rfl w.heap.size 44 i0 _ 6 80 Tryz.underlying42 hi hz0 hz1 hz2 rfl (by decide) _ _ _ rfl hpop2.out tA ts.len tc ts.cells rfl (Fo.cells_length ts) HN.out.1 HN.out.2 (Fo.cells_one ts) (by unfold maxLen;omega) (by omega) (by omega) ?_;intro v' w1 hown' hgrow)
    go_roundg (g.count + ts.count)
    case measure =>
     rw [HP.out.1,Fo.count_app]
     simp [Fo.count]
    case rel =>
     refine ⟨g.app ts,_,(Fo.count_app _ _).symm,?_,HH.out.1 _ _ _ gb hJ2 hgb (fun _ => HGE2.out) ((Keeps.refl _ _).grown hgrow (by rintro k hk;cases hk;simp)),by have:=hgrow.size;omega,?_,?_,by rw [Fo.count_app];omega⟩
     ·rw [← HP.out.2.1,Fo.vis_app,Fo.vis_app];simp [Fo.vis]
     ·rw [Fo.len_app,Fo.cells_app];exact hown'
     ·have hcell : ∀ p : Addr,p.block < n₀ → w1.cell? p = Y.cell? p:=fun p hp =>
       World.cell?_of_block (hgrow.block p.block (by omega) (by intro e;have e' : p.block = gb:=Option.some.inj e;omega))
      exact Fo.Subs.app (HT.out.1.subs.keep (Nat.le_refl _) hcell) (HT.out.2.keep (Nat.le_refl _) hcell)
   ·go_wp2
    refine bodyPost_ret (results_none rfl _ _ _) rfl ?_
    exact ⟨⟨_,rfl⟩,.inr ⟨_,HX.out,hJ2⟩⟩
theorem visit_law (fid : Nat) (hfn : ∀ (args : Array Value) (W : World),(callFunc fid args).run Tryz.prog W = .ok (.enter fid args) W) (lb : Array Value) (n₀ : Nat) (J Jx : List Nd → World → Prop) (k : Int) (n m : ByteArray) (i d : Int) (A : Option Addr) (c : Nat) (s : Fo) (w : World)
  (hs : s.Sl w n₀ A c) (hn : n₀ ≤ w.heap.size) (hcnt : s.count ≤ 100000) (hJ : Told (fun k => k < w.heap.size) J)
  (hF : ∀ pre x X,pre ++ [x] <+: (Fo.cons k n m i d A c s .nil).vis → J pre X → w.heap.size ≤ X.heap.size → Calls Tryz.prog fid (#[x.enc] ++ lb) X fun e Y =>
   (e = .returned (.bool true) ∧ J (pre ++ [x]) Y ∧ Keeps (fun k => w.heap.size ≤ k ∨ k < n₀) X Y) ∨ (e = .returned (.bool false) ∧ Jx (pre ++ [x]) Y))
  (hJ0 : J [] w) :
  Calls Tryz.prog 111 #[.agg #[.int .i64 k,.string n,.string m,.int .i64 i,.int .i64 d,.slice A s.len c],.func (.func fid) #[] lb] w fun e w' =>
   (∃ v,e = .returned v) ∧ (J (Fo.cons k n m i d A c s .nil).vis w' ∨ ∃ pre,pre <+: (Fo.cons k n m i d A c s .nil).vis ∧ Jx pre w'):=
 visit_law2 fid hfn lb n₀ J Jx k n m i d A c s w hs hn hcnt (fun pre X Y g hJX hg _ hk => hJ pre X Y hJX (hk.mono fun k hk => by omega))
  (fun pre x X hpx hJX hX => (hF pre x X hpx hJX hX).mono fun e Y h => h.elim (fun ⟨h1,h2,h3⟩ => .inl ⟨h1,h2,h3.mono fun k hk => by rcases hk with h | h;exact .inr h;exact .inl h.1⟩) .inr) hJ0
end Go.Proofs.YtmmecapgnmlaiaaGreatDoor
/- bind.contains -/
namespace Go.Proofs.YtmmecapgnmlaiaaGreatDoor
open Go.RowKit Go.Proofs Go.Shelf
theorem enterFn {fid : Nat} {fn : Func} {body : Code} (h : Tryz.prog.funcs[fid]? = some fn) (hn : (fn.name == "runtime.NumGoroutine") = false) (hb : fn.body = some body) (args : Array Value) (W : World) : (callFunc fid args).run Tryz.prog W = .ok (.enter fid args) W := by
 have hn' : fn.name ≠ "runtime.NumGoroutine" := by simpa using hn
 simp [callFunc,h,hb,hn']
set_option maxRecDepth 100000 in
set_option maxHeartbeats 1000000 in
theorem contains1_any (gid : Nat) (hgn : ∀ (args : Array Value) (W : World),(callFunc gid args).run Tryz.prog W = .ok (.enter gid args) W) (gb : Array Value) (bf bd : Nat) (x : Nd) (q : Bool) (X : World)
  (hf : X.cell? ⟨bf,0,none⟩ = some (.func (.func gid) #[] gb)) (hd : X.heap[bd]? = some (.cells #[.bool false] 4 (0,0)))
  (hG : ∀ Z,Below X.heap.size X Z → Calls Tryz.prog gid (#[x.enc] ++ gb) Z fun e Y => e = .returned (.bool q) ∧ Below Z.heap.size Z Y) :
  Calls Tryz.prog 174 #[x.enc,.pointer (some ⟨bf,0,none⟩),.pointer (some ⟨bd,0,none⟩)] X fun e Y => e = .returned (.bool (!q)) ∧ Y.heap[bd]? = some (.cells #[.bool q] 4 (0,0)) ∧ Keeps (fun k => k ≠ bd) X Y:=by
 have hbd : bd < X.heap.size:=lt_of_block hd
 have hbf : bf < X.heap.size:=World.block_lt_of_cell? X ⟨bf,0,none⟩ hf
 obtain ⟨dp,k,n,m,i,d,A,len,c⟩:=x
 simp only [Nd.enc] at hG ⊢
 have HG:=Lib.hid hG
 clear hG
 have hf1 : (X.alloc (.cells #[.int .i64 k,.string n,.string m,.int .i64 i,.int .i64 d,.slice A len c] 44)).cell? ⟨bf,0,none⟩ = some (.func (.func gid) #[] gb):=(World.cell?_alloc_lt X _ _ hbf).trans hf
 have hbe:=(Below.refl X.heap.size X).alloc (Nat.le_refl _) (.cells #[.int .i64 k,.string n,.string m,.int .i64 i,.int .i64 d,.slice A len c] 44)
 have HB:=Lib.hid hbe
 have HD:=Lib.hid hd
 clear hbe hf hd
 go_enter Tryz.func174,Tryz.ntmps174
 go_wp2_with fail
 refine (HG.out _ HB.out).mono ?_
 rintro e Y ⟨rfl,hY⟩
 have hYd : Y.heap[bd]? = some (.cells #[.bool false] 4 (0,0)):=(hY.block bd (by simp;omega)).trans ((HB.out.block bd hbd).trans HD.out)
 have hc:=cell_of_one hYd
 have hfr:=free_of_one hYd
 have hY2:=one_setCell (u:=.bool q) hYd
 have hc2:=cell_of_one hY2
 have HK : Keeps (fun k => k ≠ bd) X (Y.setCell ⟨bd,0,none⟩ (.bool q)):=(((Keeps.refl _ X).alloc _).trans (Keeps.whole hY _)).setCell (by simp) _
 have HF:=Lib.hid (And.intro hY2 HK)
 clear hY2 HK hYd hY
 cases q <;> (
  go_wp2
  go_ret
  exact ⟨rfl,HF.out⟩)
theorem any_prefix {α : Type} {p : α → Bool} {a b : List α} (h : a <+: b) (ha : a.any p = true) : b.any p = true:=by
 obtain ⟨c,rfl⟩:=h
 rw [List.any_append,ha]
 rfl
set_option maxRecDepth 100000 in
set_option maxHeartbeats 1000000 in
theorem contains_any (gid : Nat) (hgn : ∀ (args : Array Value) (W : World),(callFunc gid args).run Tryz.prog W = .ok (.enter gid args) W) (gb : Array Value) (p : Nd → Bool)
  (k : Int) (n m : ByteArray) (i d : Int) (A : Option Addr) (c : Nat) (s : Fo) (w : World) (hs : s.Sl w w.heap.size A c) (hcnt : s.count ≤ 100000)
  (hG : ∀ (x : Nd) Z,Below w.heap.size w Z → Calls Tryz.prog gid (#[x.enc] ++ gb) Z fun e Y => e = .returned (.bool (p x)) ∧ Below Z.heap.size Z Y) :
  Calls Tryz.prog 125 #[.agg #[.int .i64 k,.string n,.string m,.int .i64 i,.int .i64 d,.slice A s.len c],.func (.func gid) #[] gb] w fun e w' =>
   e = .returned (.bool ((Fo.cons k n m i d A c s .nil).vis.any p)) ∧ Below w.heap.size w w':=by
 obtain ⟨xs,Hxs⟩ : ∃ xs,Hid ((Fo.cons k n m i d A c s .nil).vis = xs):=⟨_,rfl⟩
 have HS:=Lib.hid (And.intro hs hG)
 clear hs hG
 rw [Hxs.out]
 have hfn1:=enterFn (fid:=174) rfl rfl rfl
 go_enter Tryz.func125,Tryz.ntmps125
 go_wp2_with fail
 obtain ⟨W0,hW0⟩ : ∃ W0,((w.alloc (.cells #[.int .i64 k,.string n,.string m,.int .i64 i,.int .i64 d,.slice A s.len c] 44)).alloc (.cells #[.func (.func gid) #[] gb] 141)).alloc (.cells #[.bool false] 4) = W0:=⟨_,rfl⟩
 have hB0 : Below w.heap.size w W0:=by subst hW0;exact (((Below.refl _ _).alloc (Nat.le_refl _) _).alloc (by simp) _).alloc (by simp;omega) _
 have hz0 : W0.heap.size = w.heap.size + 3:=by subst hW0;simp
 have hx0 : W0.cell? ⟨w.heap.size + 1,0,none⟩ = some (.func (.func gid) #[] gb):=by subst hW0;go_simp
 have hx1 : W0.heap[w.heap.size + 1 + 1]? = some (.cells #[.bool false] 4 (0,0)):=by
  have h:=World.alloc_heap_new ((w.alloc (.cells #[.int .i64 k,.string n,.string m,.int .i64 i,.int .i64 d,.slice A s.len c] 44)).alloc (.cells #[.func (.func gid) #[] gb] 141)) (.cells #[.bool false] 4)
  rw [hW0] at h
  simpa using h
 rw [hW0]
 clear hW0
 refine (visit_law 174 hfn1 _ w.heap.size
  (fun pre X => Below w.heap.size w X ∧ w.heap.size + 3 ≤ X.heap.size ∧ X.cell? ⟨w.heap.size + 1,0,none⟩ = some (.func (.func gid) #[] gb) ∧ X.heap[w.heap.size + 1 + 1]? = some (.cells #[.bool false] 4 (0,0)) ∧ pre.any p = false)
  (fun pre X => Below w.heap.size w X ∧ w.heap.size + 3 ≤ X.heap.size ∧ X.heap[w.heap.size + 1 + 1]? = some (.cells #[.bool true] 4 (0,0)) ∧ pre.any p = true)
  k n m i d A c s W0 (HS.out.1.below hB0) hB0.size hcnt ?_ ?_ ⟨hB0,by omega,hx0,hx1,rfl⟩).mono ?_
 ·rintro pre X Y ⟨h1,h2,h3,h4,h5⟩ hk
  have:=hk.size
  refine ⟨h1.trans (hk.to_below (by omega) fun k hk => by omega),by omega,hk.cell (p:=⟨w.heap.size + 1,0,none⟩) (by simp;omega) h3,(hk.block _ (by omega) (by omega)).trans h4,h5⟩
 ·rintro pre x X hpx ⟨h1,h2,h3,h4,h5⟩ hX
  have hc:=contains1_any gid hgn gb (w.heap.size + 1) (w.heap.size + 1 + 1) x (p x) X h3 h4 (fun Z hZ => HS.out.2 x Z (h1.trans (hZ.mono h1.size)))
  refine hc.mono ?_
  rintro e Y ⟨rfl,hd,hk⟩
  have:=hk.size
  have hb:=h1.trans (hk.to_below (B:=w.heap.size) (by omega) fun k hk => by omega)
  cases hp : p x
  ·rw [hp] at hd
   exact .inl ⟨rfl,⟨hb,by omega,hk.cell (p:=⟨w.heap.size + 1,0,none⟩) (by simp) h3,hd,by simp [h5,hp]⟩,hk.mono fun k hk => by omega⟩
  ·rw [hp] at hd
   exact .inr ⟨rfl,hb,by omega,hd,by simp [hp]⟩
 ·rintro e w' ⟨⟨v,rfl⟩,hpost⟩
  rw [Hxs.out] at hpost
  have hfin : w'.cell? ⟨w.heap.size + 1 + 1,0,none⟩ = some (.bool (xs.any p)) ∧ Below w.heap.size w w':=by
   rcases hpost with ⟨h1,h2,h3,h4,h5⟩ | ⟨pre,hpre,h1,h2,h4,h5⟩
   ·rw [h5];exact ⟨cell_of_one h4,h1⟩
   ·rw [any_prefix hpre h5];exact ⟨cell_of_one h4,h1⟩
  obtain ⟨hf1,hf2⟩:=hfin
  clear hpost
  go_wp2
  go_ret
  exact ⟨rfl,hf2⟩
end Go.Proofs.YtmmecapgnmlaiaaGreatDoor
/- bind.Refs: the visit -/
namespace Go.Proofs.YtmmecapgnmlaiaaGreatDoor
open Go.RowKit Go.Proofs Go.Shelf
theorem Tryz.infoName : (Tryz.prog.info? 102).map (fun i => (i.zero,i.size,i.bytes)) = some (some (.agg #[.string ⟨#[]⟩,.int .i64 0]),2,24):=by kernel_rfl
def refC (l : List Nd) : List Value:=l.flatMap fun x => if x.k = 5 then [.string x.n,.int .i64 x.i] else []
def refN (l : List Nd) : Nat:=(l.filter fun x => x.k = 5).length
def RfJ (w : World) (n₀ lb base : Nat) (pre : List Nd) (X : World) : Prop:=
 Below n₀ w X ∧ base ≤ X.heap.size ∧ ∃ v,X.heap[lb]? = some (.cells #[v] 99 (0,0)) ∧ X.ownsRow base 102 2 v (refN pre) (refC pre)
theorem cell_pair_new (w : World) (a b : Value) (t : TypeId) : ∀ j u,([a,b] : List Value)[j]? = some u → (w.alloc (.cells #[a,b] t)).cell? ((⟨w.heap.size,0,none⟩ : Addr).add j) = some u:=by
 intro j u hu
 have h:=heap_alloc_new w (.cells #[a,b] t)
 have hadd : (⟨w.heap.size,0,none⟩ : Addr).add j = ⟨w.heap.size,j,none⟩:=by unfold Addr.add;split <;> simp_all
 rw [hadd,cell_of_row _ _ _ _ _ _ h]
 simpa using hu
set_option maxRecDepth 100000 in
set_option maxHeartbeats 1000000 in
theorem refs1_any (x : Nd) (lb base nn : Nat) (v : Value) (xs : List Value) (X : World) (hb : X.heap[lb]? = some (.cells #[v] 99 (0,0))) (hown : X.ownsRow base 102 2 v nn xs) (hlb : lb < base) (hsz : base ≤ X.heap.size) (hn : nn ≤ 1000000) :
  Calls Tryz.prog 112 (#[x.enc] ++ #[.pointer (some ⟨lb,0,none⟩)]) X fun e Y => e = .returned (.bool true) ∧ ∃ v',Y.heap[lb]? = some (.cells #[v'] 99 (0,0)) ∧
   Y.ownsRow base 102 2 v' (if x.k = 5 then nn + 1 else nn) (xs ++ if x.k = 5 then [.string x.n,.int .i64 x.i] else []) ∧ Keeps (fun k => k ≠ lb ∧ v.ownBlock ≠ some k) X Y:=by
 obtain ⟨i0,hi,hz0,hz1,hz2⟩:=info_parts Tryz.infoName
 obtain ⟨dp,k,n,m,i,d,A,len,c⟩:=x
 simp only [Nd.enc,List.append_toArray,List.cons_append,List.nil_append]
 obtain ⟨W0,hW0⟩ : ∃ W0,X.alloc (.cells #[.int .i64 k,.string n,.string m,.int .i64 i,.int .i64 d,.slice A len c] 44) = W0:=⟨_,rfl⟩
 have hzw : X.heap.size < W0.heap.size:=by subst hW0;simp
 have h0 : W0.cell? ⟨X.heap.size,0,none⟩ = some (.int .i64 k):=by subst hW0;go_simp
 have h1 : W0.cell? ⟨X.heap.size,1,none⟩ = some (.string n):=by subst hW0;go_simp
 have h3 : W0.cell? ⟨X.heap.size,3,none⟩ = some (.int .i64 i):=by subst hW0;go_simp
 have HK0:=Lib.hid (show Keeps (fun _ => True) X W0 by subst hW0;exact (Keeps.refl _ X).alloc _)
 have hb0 : W0.heap[lb]? = some (.cells #[v] 99 (0,0)):=(HK0.out.block lb (by omega) trivial).trans hb
 have hown0:=Lib.hid (show W0.ownsRow base 102 2 v nn xs by subst hW0;exact hown.alloc _)
 have hlc:=cell_of_one hb0
 have HB0:=Lib.hid hb0
 clear hb hown hb0
 by_cases hk : k = 5
 ·subst hk
  have hne : ∀ q,v.ownBlock = some q → lb ≠ q:=fun q hq e => by have:=(hown0.out.lt q hq).1;omega
  have HNE:=Lib.hid hne
  clear hne
  go_enter Tryz.func112,Tryz.ntmps112
  go_wp2_with (at_builtin;refine wpList_append_own _ rfl _ _ 99 rfl base 102 i0 _ 2 24 Tryz.underlying99 hi hz0 hz1 hz2 rfl (by decide) _ _ _ rfl (hown0.out.alloc _) ⟨W0.heap.size,0,none⟩ 1 1 [.string n,.int .i64 i] rfl rfl (cell_pair_new _ _ _ _) (by simp [Value.oneCell']) (by unfold maxLen;omega) (by omega) (by simp;omega) ?_;intro v' w1 hown1 hg1 _;have hb1 : w1.heap[lb]? = some (.cells #[v] 99 (0,0)):=(hg1.block lb (by simp;omega) (fun e => HNE.out lb e.symm rfl)).trans ((Below.heap_alloc _ _ _ (by omega)).trans HB0.out);have hc1:=cell_of_one hb1;have hf1:=free_of_one hb1;obtain ⟨gg,cc,rfl⟩:=ownsRow_succ hown1)
  go_ret
  refine ⟨rfl,_,one_setCell hb1,?_,?_⟩
  ·refine ownsRow_setCell_other hown1 ?_ _
   have:=(hown1.lt gg rfl).1
   simp [Value.ownBlock]
   omega
  ·exact (((HK0.out.mono fun _ _ => trivial).alloc _).grown hg1 (by rintro k hk ⟨_,h⟩;exact h hk)).setCell (by simp) _
 ·have hk' : (k == 5) = false:=by simpa using hk
  go_enter Tryz.func112,Tryz.ntmps112
  go_wp2
  go_ret
  exact ⟨rfl,v,HB0.out,by simpa [hk] using hown0.out,HK0.out.mono fun _ _ => trivial⟩
theorem refC_snoc (pre : List Nd) (x : Nd) : refC (pre ++ [x]) = refC pre ++ if x.k = 5 then [.string x.n,.int .i64 x.i] else []:=by simp [refC]
theorem refN_snoc (pre : List Nd) (x : Nd) : refN (pre ++ [x]) = if x.k = 5 then refN pre + 1 else refN pre:=by
 unfold refN
 rw [List.filter_append,List.length_append]
 by_cases h : x.k = 5 <;> simp [h]
theorem refN_le (l : List Nd) : refN l ≤ l.length:=List.length_filter_le _ _
theorem Fo.vis_length : ∀ f : Fo,f.vis.length = f.count
 | .nil => rfl
 | .cons _ _ _ _ _ _ _ s r => by simp [Fo.vis,Fo.count,s.vis_length,r.vis_length];omega
set_option maxRecDepth 100000 in
theorem refs_visit (k : Int) (n m : ByteArray) (i d : Int) (A : Option Addr) (c : Nat) (s : Fo) (w : World) (n₀ lb : Nat) (hs : s.Sl w n₀ A c) (hn : n₀ ≤ lb) (hcnt : s.count ≤ 100000)
  (hb : w.heap[lb]? = some (.cells #[.slice none 0 0] 99 (0,0))) :
  Calls Tryz.prog 111 #[.agg #[.int .i64 k,.string n,.string m,.int .i64 i,.int .i64 d,.slice A s.len c],.func (.func 112) #[] #[.pointer (some ⟨lb,0,none⟩)]] w fun e w' =>
   (∃ v,e = .returned v) ∧ RfJ w n₀ lb w.heap.size (Fo.cons k n m i d A c s .nil).vis w':=by
 have hlb:=lt_of_block hb
 have hfn:=enterFn (fid:=112) rfl rfl rfl
 refine (visit_law2 112 hfn #[.pointer (some ⟨lb,0,none⟩)] n₀ (RfJ w n₀ lb w.heap.size) (fun _ _ => False) k n m i d A c s w hs (by omega) hcnt ?_ ?_ ?_).mono ?_
 ·rintro pre X Y g ⟨h1,h2,v,h3,h4⟩ hg hE hk
  have hsz:=hk.size
  refine ⟨h1.trans (hk.to_below (by omega) fun k hk => by omega),by omega,v,(hk.block lb (by omega) (by omega)).trans h3,?_⟩
  refine hk.ownsRow h4 fun q hq e => ?_
  subst e
  obtain ⟨hq1,hq2⟩:=h4.lt _ hq
  obtain ⟨cur,fz,hc⟩:=hE hq2
  rcases h4.2 with ⟨rfl,_⟩ | ⟨g',cap',cur',rfl,_,hg',_⟩
  ·simp [Value.ownBlock] at hq
  ·simp only [Value.ownBlock,Option.some.injEq] at hq
   subst hq
   rw [hc] at hg'
   simp at hg'
 ·rintro pre x X hpx ⟨h1,h2,v,h3,h4⟩ hX
  have hlen : refN pre ≤ 1000000:=by
   have:=refN_le pre
   have hp:=hpx.length_le
   rw [Fo.vis_length,List.length_append] at hp
   simp [Fo.count] at hp
   omega
  refine (refs1_any x lb w.heap.size (refN pre) v (refC pre) X h3 h4 hlb h2 hlen).mono ?_
  rintro e Y ⟨rfl,v',h5,h6,h7⟩
  have hsz:=h7.size
  have hkeep : Keeps (fun k => k < n₀ ∨ (w.heap.size ≤ k ∧ IsE X k)) X Y:=h7.mono fun q hq => by
   rcases hq with hq | ⟨hq,cur,fz,hc⟩
   ·exact ⟨by omega,fun e => by have:=(h4.lt q e).1;omega⟩
   ·refine ⟨by omega,fun e => ?_⟩
    rcases h4.2 with ⟨rfl,_⟩ | ⟨g',cap',cur',rfl,_,hg',_⟩
    ·simp [Value.ownBlock] at e
    ·simp only [Value.ownBlock,Option.some.injEq] at e
     subst e
     rw [hc] at hg'
     simp at hg'
  refine .inl ⟨rfl,⟨h1.trans (hkeep.to_below (by have:=h1.size;omega) fun q hq => .inl hq),by omega,v',h5,?_⟩,hkeep⟩
  rw [refC_snoc,refN_snoc]
  exact h6
 ·exact ⟨Below.refl _ _,Nat.le_refl _,_,hb,by simpa [refN,refC] using World.ownsRow_nil w w.heap.size 102 2⟩
 ·rintro e w' ⟨hv,h | ⟨_,_,h⟩⟩
  ·exact ⟨hv,h⟩
  ·exact h.elim
end Go.Proofs.YtmmecapgnmlaiaaGreatDoor
