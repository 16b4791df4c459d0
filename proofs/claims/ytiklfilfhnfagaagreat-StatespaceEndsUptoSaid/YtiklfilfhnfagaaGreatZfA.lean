/- A block's number against the next free one. · The abstractio -/
import Derived.Orders
import Derived.Laws.AppendOwn
import Derived.Laws.OwnMore
import Derived.Below
import Derived.Laws.StructEq
import Derived.WalkKit
import Derived.ChangeKeysEq
set_option linter.unusedVariables false
set_option linter.unusedSimpArgs false
section
namespace Go.Abs
abbrev aA := @List.getElem?_eq_getElem
abbrev aC := @List.getElem_mem
abbrev aD := @Nat.le_of_ble_eq_true
abbrev aF := @Option.getD_some
abbrev aG := @List.take_succ_eq_append_getElem
abbrev aI := @List.getElem?_eq_some_iff
abbrev aJ := @List.mem_of_getElem?
abbrev aK := @List.take_of_length_le
abbrev aL := @Nat.le_refl
abbrev aM := @List.getElem_of_mem
abbrev aN := @List.getElem?_map
abbrev aO := @List.mem_cons
abbrev aQ := @Bool.and_eq_true
abbrev aR := @List.mem_singleton
abbrev aS := @List.mem_map
abbrev aT := @List.length_append
abbrev aV := @List.eq_nil_of_length_eq_zero
abbrev aW := @List.mem_append
abbrev aX := @List.getElem?_append_left
abbrev aY := @Option.some.injEq
abbrev aZ := @Array.getElem?_eq_getElem
abbrev bA := @List.getElem?_eq_none
abbrev bC := @Option.map_eq_some_iff
abbrev bE := @List.getElem?_append_right
abbrev bF := @Bool.eq_iff_iff
abbrev bG := @List.getElem?_drop
abbrev bH := @List.mem_cons_of_mem
abbrev bI := @List.getElem?_take
abbrev bJ := @Classical.byContradiction
abbrev bK := @List.mem_flatMap
abbrev bL := @List.length_take
abbrev bM := @List.length_map
abbrev bN := @List.mem_of_mem_take
abbrev bP := @List.map_congr_left
abbrev bQ := @Nat.lt_or_ge
abbrev bR := @List.getElem?_set
abbrev bS := @Nat.le_add_right
abbrev bW := @List.length_cons
abbrev bX := @List.any_eq_true
abbrev bZ := @Nat.mul_le_mul_right
abbrev b6 := @List.pairwise_iff_getElem
abbrev b7 := @List.mem_range
abbrev b8 := @Nat.lt_of_lt_of_le
abbrev cA := @List.range_succ
abbrev cG := @List.foldl_append
abbrev cH := @Bool.not_eq_true'
abbrev cK := @Bool.or_eq_true
abbrev cQ := @Nat.le_trans
abbrev c8 := @List.foldl_cons
abbrev dA := @List.mem_cons_self
abbrev dE := @Nat.zero_le
abbrev dJ := @List.all_eq_true
abbrev dK := @Option.map_some
abbrev dL := @List.mem_of_mem_drop
abbrev dM := @List.mem_filter
abbrev dR := @Nat.zero_add
abbrev dV := @Bool.false_eq_true
abbrev dW := @List.drop_of_length_le
abbrev dY := @List.length_drop
abbrev dZ := @List.flatten_cons
abbrev eD := @List.ext_getElem?
abbrev eE := @Bool.eq_false_iff
abbrev eF := @List.map_set
abbrev eG := @List.getElem?_replicate
abbrev eI := @Int.eq_ofNat_of_zero_le
abbrev eU := @List.filter_append
abbrev eW := @List.not_mem_nil
abbrev eX := @List.nil_append
abbrev eY := @List.cons_append
abbrev fC := @List.findIdx?_eq_some_iff_getElem
abbrev fI := @List.length_set
abbrev fJ := @List.length_filter_le
abbrev fL := @Array.length_toList
abbrev fQ := @List.mem_flatten
abbrev fS := @List.ext_getElem
abbrev gJ := @List.append_nil
abbrev gL := @Bool.true_and
abbrev iR := @List.drop_eq_nil_of_le
abbrev iW := @List.getElem?_range
abbrev iX := @Nat.lt_irrefl
abbrev iY := @List.mem_or_eq_of_mem_set
abbrev i6 := @List.map_cons
abbrev jR := @Option.isSome_iff_exists
abbrev jS := @List.eq_of_mem_replicate
abbrev jX := @List.getElem?_cons_zero
abbrev j4 := @Int.le_of_lt
abbrev j7 := @List.pairwise_map
abbrev j8 := @Decidable.not_not
abbrev kD := @List.flatten_append
abbrev kF := @Array.getD_eq_getD_getElem?
abbrev kT := @Array.getElem?_eq_some_iff
abbrev kX := @List.set_cons_zero
abbrev lT := @Nat.mul_le_mul
abbrev mF := @List.size_toArray
abbrev mG := @List.nodup_append
abbrev mH := @List.length_nil
abbrev mI := @List.any_eq_false
abbrev nG := @List.take_succ_cons
abbrev nH := @List.replicate_succ
abbrev oD := @List.getElem_range
abbrev oZ := @Nat.mul_comm
abbrev o4 := @Nat.add_zero
abbrev o5 := @List.length_replicate
abbrev pW := @List.pairwise_append
abbrev pX := @Bool.or_eq_false_iff
abbrev qG := @List.findIdx?_eq_none_iff
abbrev rM := @List.getElem_map
abbrev rR := @Nat.sub_self
abbrev rS := @List.map_nil
abbrev rT := @List.getElem?_take_of_lt
abbrev sX := @Nat.min_eq_left
abbrev sY := @Nat.add_sub_cancel_left
abbrev sZ := @List.set_cons_succ
abbrev s4 := @List.nodup_cons
abbrev s5 := @List.filter_cons_of_neg
abbrev s6 := @List.any_append
abbrev s8 := @Bool.or_false
abbrev vS := @Nat.one_mul
abbrev vU := @List.flatMap_cons
abbrev v8 := @List.set_append_right
abbrev wA := @List.length_singleton
abbrev wB := @List.contains_iff_mem
abbrev wC := @Classical.choose_spec
abbrev yR := @List.take_append
abbrev yS := @List.getElem_set
abbrev y5 := @Array.replicate_zero
abbrev y6 := @Array.replicate_succ
abbrev zN := @Nat.add_assoc
abbrev Ao := @List.flatMap_append
abbrev Ap := @List.append_toArray
abbrev CB := @List.pairwise_cons
abbrev DN := @List.push_toArray
abbrev F9 := @List.getElem?_cons_succ
abbrev Ga := @List.filter_cons_of_pos
abbrev GP := @List.getElem_inj
end Go.Abs
namespace Go.Abs
theorem cO {a n:Nat}(h:a<n):(a=n)=False∧(∀ k,(a=n+k)=False)∧(∀ k l,(a=n+k+l)=False)∧(n=a)=False∧(∀ k,(n+k=a)=False)∧(∀ k l,(n+k+l=a)=False) ∧
  (∀ k l m,(a=n+k+l+m)=False)∧(∀ k l m,(n+k+l+m=a)=False)∧(∀ k l m p,(a=n+k+l+m+p)=False)∧(∀ k l m p,(n+k+l+m+p=a)=False) :=
 ⟨eq_false (by omega),fun _=>eq_false (by omega),fun _ _=>eq_false (by omega),eq_false (by omega),fun _=>eq_false (by omega),fun _ _=>eq_false (by omega),
  fun _ _ _=>eq_false (by omega),fun _ _ _=>eq_false (by omega),fun _ _ _ _=>eq_false (by omega),fun _ _ _ _=>eq_false (by omega)⟩
theorem dP {a b:Nat}(h:a≠b):(a=b)=False∧(b=a)=False:=⟨eq_false h,eq_false (Ne.symm h)⟩
theorem VD (n:Nat):(∀ a,(n=n+a)=(a=0))∧(∀ a b,(n=n+a+b)=(a+b=0))∧(∀ a b c,(n=n+a+b+c)=(a+b+c=0))∧(∀ a b c d,(n=n+a+b+c+d)=(a+b+c+d=0)) :=
 ⟨fun _=>propext (by omega),fun _ _=>propext (by omega),fun _ _ _=>propext (by omega),fun _ _ _ _=>propext (by omega)⟩
end Go.Abs
end
section
namespace Go.Abs
inductive D where
 | int (k:IntKind) (n:Int)
 | bool (b:Bool)
 | str (s:ByteArray)
 | agg (cs:List D)
 | tup (vs:List D)
 | nil
 | list (es:List (List D))
 | adr (cs:List D)
 | ne
 | nilp
 | ptr (id ver i off:Nat)
 | own (id n:Nat)
 | win (id ver lo hi:Nat)
 | fn (f:FuncId) (caps:List D)
 | nilf
 | opt (g:Bool) (d:D)
 | cst (v:Value)
 | junk
 deriving Inhabited
structure Ow where
 ver:Nat
 val:Value
 esz:Nat
 ty:TypeId
def Ow.block (o:Ow):Option Nat:=o.val.ownBlock
def M7 (o:Ow)(v:Value)(ver lo hi:Nat):Prop :=
 (o.val=.slice none 0 0∧v=.slice none 0 0∧hi=0) ∨
 ∃ b cap,o.val=.slice (some ⟨b,0,none⟩) ver cap∧ver≤cap∧v=.slice (some (if cap=lo then ⟨b,0,none⟩ else ⟨b,lo * o.esz,none⟩)) (hi - lo) (cap - lo)
inductive RepV (M:Nat→Prop) (σ:Nat→Option Ow) (N:Nat→Prop) (w:World):Value→D→Prop
 | int (k:IntKind) (n:Int):RepV M σ N w (.int k n) (.int k n)
 | bool (b:Bool):RepV M σ N w (.bool b) (.bool b)
 | str (s:ByteArray):RepV M σ N w (.string s) (.str s)
 | agg (vs:List Value) (ds:List D) (hl:vs.length=ds.length) (h1:∀ u∈vs,u.oneCell'=true)
   (hr:∀ (j:Nat) (u:Value) (d:D),vs[j]?=some u→ds[j]?=some d→RepV M σ N w u d):RepV M σ N w (.agg vs.toArray) (.agg ds)
 | tup (vs:List Value) (ds:List D) (hl:vs.length=ds.length)
   (hr:∀ (j:Nat) (u:Value) (d:D),vs[j]?=some u→ds[j]?=some d→RepV M σ N w u d):RepV M σ N w (.tuple vs.toArray) (.tup ds)
 | nil:RepV M σ N w (.slice none 0 0) .nil
 | listN:RepV M σ N w (.slice none 0 0) (.list [])
 | list (ad:Addr) (cap sz:Nat) (xs:List Value) (es:List (List D)) (hc:es.length≤cap) (hm:cap≤maxLen) (hsz:∀ c∈es,c.length=sz)
   (hl:xs.length=es.flatten.length) (h1:∀ u∈xs,u.oneCell'=true)
   (hcell:∀ (j:Nat) (u:Value),xs[j]?=some u→¬ M ad.block∧w.cell? (ad.add j)=some u)
   (hr:∀ (j:Nat) (u:Value) (d:D),xs[j]?=some u→es.flatten[j]?=some d→RepV M σ N w u d) :
   RepV M σ N w (.slice (some ad) es.length cap) (.list es)
 | adr (ad:Addr) (xs:List Value) (ds:List D) (hl:xs.length=ds.length) (h1:∀ u∈xs,u.oneCell'=true)
   (hcell:∀ (j:Nat) (u:Value),xs[j]?=some u→¬ M ad.block∧w.cell? (ad.add j)=some u)
   (hr:∀ (j:Nat) (u:Value) (d:D),xs[j]?=some u→ds[j]?=some d→RepV M σ N w u d) :
   RepV M σ N w (.pointer (some ad)) (.adr ds)
 | ne (ad:Addr) (cap:Nat) (hm:cap≤maxLen):RepV M σ N w (.slice (some ad) 0 cap) .ne
 | nilp:RepV M σ N w (.pointer none) .nilp
 | ptr (v:Value) (id ver i off:Nat) (hN:N id) (h1:v.oneCell'=true)
   (h:∀ o,σ id=some o→ver<o.ver∨(ver=o.ver∧∃ b,o.block=some b∧v=.pointer (some ⟨b,i * o.esz+off,none⟩))) :
   RepV M σ N w v (.ptr id ver i off)
 | own (v:Value) (id n:Nat) (hN:N id) (h1:v.oneCell'=true) (h:∀ o,σ id=some o→n<o.ver∨(n=o.ver∧v=o.val)) :
   RepV M σ N w v (.own id n)
 | win (v:Value) (id ver lo hi:Nat) (hN:N id) (h1:v.oneCell'=true) (hlh:lo≤hi∧hi≤ver) (h:∀ o,σ id=some o→ver<o.ver∨(ver=o.ver∧M7 o v ver lo hi)) :
   RepV M σ N w v (.win id ver lo hi)
 | fn (f:FuncId) (vs:List Value) (ds:List D) (hl:vs.length=ds.length)
   (hr:∀ (j:Nat) (u:Value) (d:D),vs[j]?=some u→ds[j]?=some d→RepV M σ N w u d):RepV M σ N w (.func (.func f) #[] vs.toArray) (.fn f ds)
 | nilf:RepV M σ N w .nilFunc .nilf
 | opt (v:Value) (g:Bool) (d:D) (hf:g=false→v=.tuple #[]) (h:g=true→RepV M σ N w v d):RepV M σ N w v (.opt g d)
 | cst (v:Value):RepV M σ N w v (.cst v)
 | junk (v:Value):RepV M σ N w v .junk
structure RepL (M:Nat→Prop) (σ:Nat→Option Ow) (N:Nat→Prop) (w:World) (vs:List Value) (ds:List D):Prop where
 len:vs.length=ds.length
 rep:∀ (j:Nat) (u:Value) (d:D),vs[j]?=some u→ds[j]?=some d→RepV M σ N w u d
structure Keeps (M:Nat→Prop) (σ:Nat→Option Ow) (N:Nat→Prop) (w:World) (M':Nat→Prop) (σ':Nat→Option Ow) (N':Nat→Prop) (w':World):Prop where
 cell:∀ (ad:Addr) (u:Value),¬ M ad.block→w.cell? ad=some u→¬ M' ad.block∧w'.cell? ad=some u
 own:∀ id o',N id→σ' id=some o'→∃ o,σ id=some o∧(o=o'∨o.ver<o'.ver)
 le:∀ id,N id→N' id
theorem gP (a:Addr)(n:Nat):(a.add n).block=a.block:=by unfold Addr.add;split<;>rfl
theorem RepV.keep {M:Nat→Prop}{σ:Nat→Option Ow}{N:Nat→Prop}{w:World}{M':Nat→Prop}{σ':Nat→Option Ow}{N':Nat→Prop}{w':World}
  (k:Keeps M σ N w M' σ' N' w') {v:Value} {d:D} (h:RepV M σ N w v d):RepV M' σ' N' w' v d:=by
 induction h with
 | int=>exact .int _ _
 | bool=>exact .bool _
 | str=>exact .str _
 | agg vs ds hl h1 _ ih=>exact .agg vs ds hl h1 ih
 | tup vs ds hl _ ih=>exact .tup vs ds hl ih
 | nil=>exact .nil
 | listN=>exact .listN
 | list ad cap sz xs es hc hm hsz hl h1 hcell _ ih =>
  refine .list ad cap sz xs es hc hm hsz hl h1 (fun j u hu=>?_) ih
  obtain ⟨hM,hcl⟩:=hcell j u hu
  have:=k.cell (ad.add j) u (by rw [gP];exact hM) hcl
  rw [gP] at this;exact this
 | adr ad xs ds hl h1 hcell _ ih =>
  refine .adr ad xs ds hl h1 (fun j u hu=>?_) ih
  obtain ⟨hM,hcl⟩:=hcell j u hu
  have:=k.cell (ad.add j) u (by rw [gP];exact hM) hcl
  rw [gP] at this;exact this
 | ne ad cap hm=>exact .ne ad cap hm
 | nilp=>exact .nilp
 | ptr v id ver i off hN h1 h =>
  refine .ptr v id ver i off (k.le id hN) h1 fun o' ho'=>?_
  obtain ⟨o,ho,he⟩:=k.own id o' hN ho'
  rcases he with rfl|hlt
  ·exact h _ ho
  ·rcases h o ho with h'|⟨h',_⟩<;>exact .inl (by omega)
 | own v id n hN h1 h =>
  refine .own v id n (k.le id hN) h1 fun o' ho'=>?_
  obtain ⟨o,ho,he⟩:=k.own id o' hN ho'
  rcases he with rfl|hlt
  ·exact h _ ho
  ·rcases h o ho with h'|⟨h',_⟩<;>exact .inl (by omega)
 | win v id ver lo hi hN h1 hlh h =>
  refine .win v id ver lo hi (k.le id hN) h1 hlh fun o' ho'=>?_
  obtain ⟨o,ho,he⟩:=k.own id o' hN ho'
  rcases he with rfl|hlt
  ·exact h _ ho
  ·rcases h o ho with h'|⟨h',_⟩<;>exact .inl (by omega)
 | fn f vs ds hl _ ih=>exact .fn f vs ds hl ih
 | nilf=>exact .nilf
 | opt v g d hf _ ih=>exact .opt v g d hf ih
 | cst v=>exact .cst v
 | junk v=>exact .junk v
theorem RepL.keep {M:Nat→Prop}{σ:Nat→Option Ow}{N:Nat→Prop}{w:World}{M':Nat→Prop}{σ':Nat→Option Ow}{N':Nat→Prop}{w':World}
  (k:Keeps M σ N w M' σ' N' w') {v:List Value} {d:List D} (h:RepL M σ N w v d):RepL M' σ' N' w' v d :=
 ⟨h.len,fun j u x hu hx=>(h.rep j u x hu hx).keep k⟩
def D.cell:D→Bool
 | .agg _ | .tup _ | .opt _ _ | .cst _ | .junk=>false
 | _=>true
theorem RepV.oneCell {M:Nat→Prop}{σ:Nat→Option Ow}{N:Nat→Prop}{w:World}{v:Value}{d:D}(h:RepV M σ N w v d)(hc:d.cell=true):v.oneCell'=true:=by
 cases h<;>first|rfl|assumption|(simp [D.cell] at hc)
def D.cells:D→List D
 | .agg cs=>cs
 | d=>[d]
mutual
def D.cl:D→Bool
 | .agg cs=>D.clL cs
 | .tup cs=>D.clL cs
 | .list es=>D.clLL es
 | .adr cs=>D.clL cs
 | .fn _ cs=>D.clL cs
 | .ptr .. | .own .. | .win .. | .opt .. | .junk=>false
 | _=>true
def D.clL:List D→Bool
 | []=>true
 | d :: l=>D.cl d&&D.clL l
def D.clLL:List (List D)→Bool
 | []=>true
 | d :: l=>D.clL d&&D.clLL l
end
theorem gF {l:List D}(h:D.clL l=true):∀ d∈l,d.cl=true:=by
 induction l with
 | nil=>simp
 | cons a l ih=>simp only [D.clL,aQ] at h;intro d hd;cases hd with
  | head=>exact h.1
  | tail _ hm=>exact ih h.2 d hm
theorem mY {l:List (List D)}(h:D.clLL l=true):∀ d∈l,D.clL d=true:=by
 induction l with
 | nil=>simp
 | cons a l ih=>simp only [D.clLL,aQ] at h;intro d hd;cases hd with
  | head=>exact h.1
  | tail _ hm=>exact ih h.2 d hm
theorem RepV.closed {M:Nat→Prop}{σ:Nat→Option Ow}{N:Nat→Prop}{w:World}{M':Nat→Prop}{σ':Nat→Option Ow}{N':Nat→Prop}
  {w':World} (hc:∀ (ad:Addr) (u:Value),¬ M ad.block→w.cell? ad=some u→¬ M' ad.block∧w'.cell? ad=some u) {v:Value} {d:D} (h:RepV M σ N w v d) (hd:d.cl=true):RepV M' σ' N' w' v d:=by
 induction h with
 | int=>exact .int _ _
 | bool=>exact .bool _
 | str=>exact .str _
 | agg vs ds hl h1 _ ih =>
  simp only [D.cl] at hd
  exact .agg vs ds hl h1 fun j u x hu hx=>ih j u x hu hx (gF hd x (aJ hx))
 | tup vs ds hl _ ih =>
  simp only [D.cl] at hd
  exact .tup vs ds hl fun j u x hu hx=>ih j u x hu hx (gF hd x (aJ hx))
 | nil=>exact .nil
 | listN=>exact .listN
 | list ad cap sz xs es hcp hm hsz hl h1 hcell _ ih =>
  simp only [D.cl] at hd
  refine .list ad cap sz xs es hcp hm hsz hl h1 (fun j u hu=>?_) fun j u x hu hx=>ih j u x hu hx ?_
  ·obtain ⟨hM,hcl⟩:=hcell j u hu
   have:=hc (ad.add j) u (by rw [gP];exact hM) hcl
   rw [gP] at this;exact this
  ·obtain ⟨c,hcm,hxm⟩:=fQ.1 (aJ hx)
   exact gF (mY hd c hcm) x hxm
 | adr ad xs ds hl h1 hcell _ ih =>
  simp only [D.cl] at hd
  refine .adr ad xs ds hl h1 (fun j u hu=>?_) fun j u x hu hx=>ih j u x hu hx (gF hd x (aJ hx))
  obtain ⟨hM,hcl⟩:=hcell j u hu
  have:=hc (ad.add j) u (by rw [gP];exact hM) hcl
  rw [gP] at this;exact this
 | ne ad cap hm=>exact .ne ad cap hm
 | nilp=>exact .nilp
 | ptr=>simp [D.cl] at hd
 | own=>simp [D.cl] at hd
 | win=>simp [D.cl] at hd
 | fn f vs ds hl _ ih =>
  simp only [D.cl] at hd
  exact .fn f vs ds hl fun j u x hu hx=>ih j u x hu hx (gF hd x (aJ hx))
 | nilf=>exact .nilf
 | opt=>simp [D.cl] at hd
 | cst v=>exact .cst v
 | junk v=>simp [D.cl] at hd
end Go.Abs
end
section
namespace Go.Abs
structure Blk where
 ty:TypeId
 sz:Nat
 es:List (List D)
 fz:Bool
structure AHeap where
 next:Nat
 al:Nat→Prop
 get:Nat→Option Blk
def AHeap.emp:AHeap:=⟨0,fun _=>False,fun _=>none⟩
def AHeap.push (H:AHeap)(id:Nat)(b:Blk):AHeap:=⟨if id<H.next then H.next else id+1,fun i=>i=id∨H.al i,fun i=>if i=id then some b else H.get i⟩
def AHeap.put (H:AHeap)(id:Nat)(b:Blk):AHeap:=⟨H.next,H.al,fun i=>if i=id then some b else H.get i⟩
def cF (M0:Nat→Prop)(H:AHeap)(σ:Nat→Option Ow)(b:Nat):Prop :=
 M0 b∨∃ id k o,H.get id=some k∧k.fz=false∧σ id=some o∧o.block=some b
structure Lies (M:Nat→Prop) (σ:Nat→Option Ow) (N:Nat→Prop) (w:World) (k:Blk) (o:Ow):Prop where
 ver:o.ver=k.es.length
 ty:o.ty=k.ty
 sz:o.esz=k.sz
 esz:∀ c∈k.es,c.length=o.esz
 row:∃ xs,w.ownsRow 0 k.ty o.esz o.val k.es.length xs∧(∀ u∈xs,u.oneCell'=true)∧RepL M σ N w xs k.es.flatten
structure Rel (M0:Nat→Prop) (H:AHeap) (σ:Nat→Option Ow) (w:World):Prop where
 top:∀ id,¬ H.al id→σ id=none∧H.get id=none
 nxt:∀ id,H.al id→id<H.next
 lies:∀ id k,H.get id=some k→∃ o,σ id=some o∧Lies (cF M0 H σ) σ H.al w k o
 inj:∀ i j o o' b,σ i=some o→σ j=some o'→o.block=some b→o'.block=some b→i=j
 lt:∀ i o b,σ i=some o→o.block=some b→b<w.heap.size∧¬ M0 b
 m0:∀ b,M0 b→b<w.heap.size
structure Stp (σ:Nat→Option Ow) (w:World) (σ':Nat→Option Ow) (w':World):Prop where
 os:w'.os=w.os
 tape:w'.tape=w.tape
 output:w'.output=w.output
 size:w.heap.size≤w'.heap.size
 old:∀ b,b<w.heap.size→(∀ i o,σ i=some o→o.block≠some b)→w'.heap[b]?=w.heap[b]?
 new:∀ i o' b,σ' i=some o'→o'.block=some b→w.heap.size≤b∨∃ j o,σ j=some o∧o.block=some b
theorem Stp.refl (σ:Nat→Option Ow)(w:World):Stp σ w σ w :=
 ⟨rfl,rfl,rfl,aL _,fun _ _ _=>rfl,fun i o b h hb=>.inr ⟨i,o,h,hb⟩⟩
theorem Stp.trans {σ σ' σ'':Nat→Option Ow}{w w' w'':World}(h:Stp σ w σ' w')(k:Stp σ' w' σ'' w''):Stp σ w σ'' w'' where
 os:=k.os.trans h.os
 tape:=k.tape.trans h.tape
 output:=k.output.trans h.output
 size:=cQ h.size k.size
 old b hb hn:=by
  rw [k.old b (b8 hb h.size) (fun i o ho hob=>?_),h.old b hb hn]
  rcases h.new i o b ho hob with h1|⟨j1,o1,h1,h2⟩
  ·omega
  ·exact hn j1 o1 h1 h2
 new i o b ho hb:=by
  rcases k.new i o b ho hb with h1|⟨j1,o1,h1,h2⟩
  ·exact .inl (cQ h.size h1)
  ·exact h.new j1 o1 b h1 h2
theorem Keeps.refl (M:Nat→Prop)(σ:Nat→Option Ow)(N:Nat→Prop)(w:World):Keeps M σ N w M σ N w :=
 ⟨fun _ _ h k=>⟨h,k⟩,fun id o' _ h=>⟨o',h,.inl rfl⟩,fun _ h=>h⟩
theorem Keeps.trans {M M' M'':Nat→Prop}{σ σ' σ'':Nat→Option Ow}{N N' N'':Nat→Prop}{w w' w'':World}
  (h:Keeps M σ N w M' σ' N' w') (k:Keeps M' σ' N' w' M'' σ'' N'' w''):Keeps M σ N w M'' σ'' N'' w'' where
 cell ad u hm hc:=let ⟨h1,h2⟩:=h.cell ad u hm hc;k.cell ad u h1 h2
 own id o'' hid ho:=by
  obtain ⟨o',ho',he'⟩:=k.own id o'' (h.le id hid) ho
  obtain ⟨o,ho,he⟩:=h.own id o' hid ho'
  refine ⟨o,ho,?_⟩
  rcases he with rfl|he<;>rcases he' with rfl|he'
  ·exact .inl rfl
  ·exact .inr he'
  ·exact .inr he
  ·exact .inr (by omega)
 le:=fun id h'=>k.le id (h.le id h')
section
variable {M0:Nat→Prop} {H:AHeap} {σ:Nat→Option Ow} {w:World}
theorem Da {o:Ow}{e:TypeId}{n:Nat}{xs:List Value}(h:w.ownsRow 0 e o.esz o.val n xs){b:Nat}(hb:o.block=some b):b<w.heap.size :=
 (h.lt b hb).2
theorem Rel.drew (h:Rel M0 H σ w):Rel M0 H σ w.drew∧Stp σ w σ w.drew∧Keeps (cF M0 H σ) σ H.al w (cF M0 H σ) σ H.al w.drew:=by
 have hk:Keeps (cF M0 H σ) σ H.al w (cF M0 H σ) σ H.al w.drew:=⟨fun _ _ h k=>⟨h,k⟩,fun id o' _ h=>⟨o',h,.inl rfl⟩,fun _ h=>h⟩
 refine ⟨⟨h.top,h.nxt,fun id k hk'=>?_,h.inj,h.lt,h.m0⟩,⟨rfl,rfl,rfl,aL _,fun _ _ _=>rfl,fun i o b h hb=>.inr ⟨i,o,h,hb⟩⟩,hk⟩
 obtain ⟨o,ho,l⟩:=h.lies id k hk'
 obtain ⟨xs,h1,h2,h3⟩:=l.row
 exact ⟨o,ho,l.ver,l.ty,l.sz,l.esz,xs,h1,h2,h3.keep hk⟩
theorem Rel.grow {w':World}(h:Rel M0 H σ w)(hos:w'.os=w.os)(htape:w'.tape=w.tape)(hout:w'.output=w.output)(hsize:w.heap.size≤w'.heap.size)
  (hold:∀ b,b<w.heap.size→w'.heap[b]?=w.heap[b]?) :
  Rel M0 H σ w'∧Stp σ w σ w'∧Keeps (cF M0 H σ) σ H.al w (cF M0 H σ) σ H.al w':=by
 have hcell:∀ (ad:Addr) (u:Value),w.cell? ad=some u→w'.cell? ad=some u:=fun ad u hu =>
  (World.cell?_of_block (hold ad.block (World.block_lt_of_cell? w ad hu))).trans hu
 have hk:Keeps (cF M0 H σ) σ H.al w (cF M0 H σ) σ H.al w':=⟨fun ad u hm hu=>⟨hm,hcell ad u hu⟩,fun id o' _ h=>⟨o',h,.inl rfl⟩,fun _ h=>h⟩
 refine ⟨⟨h.top,h.nxt,fun id k hk'=>?_,h.inj,fun i o b ho hb=>?_,fun b hb=>b8 (h.m0 b hb) hsize⟩,⟨hos,htape,hout,hsize,fun b hb _=>hold b hb,fun i o b h hb=>.inr ⟨i,o,h,hb⟩⟩,hk⟩
 ·obtain ⟨o,ho,l⟩:=h.lies id k hk'
  obtain ⟨xs,h1,h2,h3⟩:=l.row
  refine ⟨o,ho,l.ver,l.ty,l.sz,l.esz,xs,?_,h2,h3.keep hk⟩
  exact h1.kept (row:=none) ⟨hos,htape,hout,hsize,fun b hb _=>hold b hb⟩ (by cases o.val.ownBlock<;>simp)
 ·exact ⟨b8 (h.lt i o b ho hb).1 hsize,(h.lt i o b ho hb).2⟩
theorem Rel.pushG {w':World}(h:Rel M0 H σ w)(id:Nat)(hal:¬ H.al id)(hos:w'.os=w.os)(htape:w'.tape=w.tape)(hout:w'.output=w.output)(hsize:w.heap.size≤w'.heap.size)
  (hold:∀ b,b<w.heap.size→w'.heap[b]?=w.heap[b]?) (k:Blk) (o:Ow) (hb:∀ b,o.block=some b→w.heap.size≤b) (hver:o.ver=k.es.length) (hty:o.ty=k.ty) (hsz:o.esz=k.sz)
  (hesz:∀ c∈k.es,c.length=o.esz) (xs:List Value) (hrow:w'.ownsRow 0 k.ty o.esz o.val k.es.length xs) (h1:∀ u∈xs,u.oneCell'=true)
  (hrep:let σ':Nat→Option Ow:=fun i=>if i=id then some o else σ i
   Keeps (cF M0 H σ) σ H.al w (cF M0 (H.push id k) σ') σ' (H.push id k).al w'→RepL (cF M0 (H.push id k) σ') σ' (H.push id k).al w' xs k.es.flatten) :
  let σ':Nat→Option Ow:=fun i=>if i=id then some o else σ i
  Rel M0 (H.push id k) σ' w'∧Stp σ w σ' w'∧Keeps (cF M0 H σ) σ H.al w (cF M0 (H.push id k) σ') σ' (H.push id k).al w':=by
 intro σ'
 have hne:∀ i o',σ i=some o'→i≠id:=fun i o' hi he=>by subst he;rw [(h.top _ hal).1] at hi;cases hi
 have hσ:∀ i o',σ i=some o'→σ' i=some o':=fun i o' hi=>by simp [σ',hne i o' hi,hi]
 have hmut:∀ b,b<w.heap.size→¬ cF M0 H σ b→¬ cF M0 (H.push id k) σ' b:=by
  rintro b hlt hm (hm'|⟨i,k',o',hk',hf,ho',hb'⟩)
  ·exact hm (.inl hm')
  ·by_cases hii:i=id
   ·simp only [σ',hii,if_true,aY] at ho'
    subst ho'
    have:=hb b hb'
    omega
   ·simp only [σ',hii,if_false] at ho'
    simp only [AHeap.push,hii,if_false] at hk'
    exact hm (.inr ⟨i,k',o',hk',hf,ho',hb'⟩)
 have hkeep:Keeps (cF M0 H σ) σ H.al w (cF M0 (H.push id k) σ') σ' (H.push id k).al w':=by
  refine ⟨fun ad u hm hu=>?_,fun i o' hi ho'=>?_,fun i hi=>.inr hi⟩
  ·have hlt:=World.block_lt_of_cell? w ad hu
   exact ⟨hmut _ hlt hm,(World.cell?_of_block (hold ad.block hlt)).trans hu⟩
  ·have:i≠id:=fun e=>hal (e ▸ hi)
   simp only [σ',this,if_false] at ho'
   exact ⟨o',ho',.inl rfl⟩
 have hg:w.grownBy w' none:=⟨hos,htape,hout,hsize,fun b hb _=>hold b hb⟩
 refine ⟨⟨fun i hi=>?_,fun i hi=>?_,fun i k' hk'=>?_,fun i j oi oj b hi hj hbi hbj=>?_,fun i oi b hi hbi=>?_,fun b hb=>b8 (h.m0 b hb) hsize⟩,
  ⟨hos,htape,hout,hsize,fun b hb _=>hold b hb,fun i o' b ho' hb'=>?_⟩,hkeep⟩
 ·have hi':¬ (i=id∨H.al i):=hi
  have hne':i≠id:=fun e=>hi' (.inl e)
  simp only [σ',AHeap.push,hne',if_false]
  exact h.top i (fun e=>hi' (.inr e))
 ·have hi':i=id∨H.al i:=hi
  simp only [AHeap.push]
  rcases hi' with rfl|hi'
  ·split<;>omega
  ·have:=h.nxt i hi'
   split<;>omega
 ·by_cases hid:i=id
  ·simp only [AHeap.push,hid,if_true,aY] at hk'
   subst hk'
   exact ⟨o,by simp [σ',hid],hver,hty,hsz,hesz,xs,hrow,h1,hrep hkeep⟩
  ·simp only [AHeap.push,hid,if_false] at hk'
   obtain ⟨o',ho',l⟩:=h.lies i k' hk'
   obtain ⟨xs',h1',h2',h3'⟩:=l.row
   exact ⟨o',hσ _ _ ho',l.ver,l.ty,l.sz,l.esz,xs',h1'.kept hg (by cases o'.val.ownBlock<;>simp),h2',h3'.keep hkeep⟩
 ·by_cases hi':i=id<;>by_cases hj':j=id
  ·rw [hi',hj']
  ·simp only [σ',hi',if_true,aY] at hi
   simp only [σ',hj',if_false] at hj
   subst hi
   have h1:=hb b hbi
   have h2:=(h.lt j oj b hj hbj).1
   omega
  ·simp only [σ',hj',if_true,aY] at hj
   simp only [σ',hi',if_false] at hi
   subst hj
   have h1:=hb b hbj
   have h2:=(h.lt i oi b hi hbi).1
   omega
  ·simp only [σ',hi',hj',if_false] at hi hj
   exact h.inj i j oi oj b hi hj hbi hbj
 ·by_cases hi':i=id
  ·simp only [σ',hi',if_true,aY] at hi
   subst hi
   exact ⟨Da hrow hbi,fun hm=>by have h1:=hb b hbi;have h2:=h.m0 b hm;omega⟩
  ·simp only [σ',hi',if_false] at hi
   exact ⟨b8 (h.lt i oi b hi hbi).1 hsize,(h.lt i oi b hi hbi).2⟩
 ·by_cases hi':i=id
  ·simp only [σ',hi',if_true,aY] at ho'
   subst ho'
   exact .inl (hb b hb')
  ·simp only [σ',hi',if_false] at ho'
   exact .inr ⟨i,o',ho',hb'⟩
theorem Rel.push {w':World}(h:Rel M0 H σ w)(id:Nat)(hal:¬ H.al id)(hos:w'.os=w.os)(htape:w'.tape=w.tape)(hout:w'.output=w.output)(hsize:w.heap.size≤w'.heap.size)
  (hold:∀ b,b<w.heap.size→w'.heap[b]?=w.heap[b]?) (k:Blk) (o:Ow) (hb:∀ b,o.block=some b→w.heap.size≤b) (hver:o.ver=k.es.length) (hty:o.ty=k.ty) (hsz:o.esz=k.sz)
  (hesz:∀ c∈k.es,c.length=o.esz) (xs:List Value) (hrow:w'.ownsRow 0 k.ty o.esz o.val k.es.length xs) (h1:∀ u∈xs,u.oneCell'=true)
  (hrep:RepL (cF M0 H σ) σ H.al w xs k.es.flatten) :
  let σ':Nat→Option Ow:=fun i=>if i=id then some o else σ i
  Rel M0 (H.push id k) σ' w'∧Stp σ w σ' w'∧Keeps (cF M0 H σ) σ H.al w (cF M0 (H.push id k) σ') σ' (H.push id k).al w' :=
 h.pushG id hal hos htape hout hsize hold k o hb hver hty hsz hesz xs hrow h1 fun hk=>hrep.keep hk
theorem Rel.put {w':World}(h:Rel M0 H σ w){id:Nat}{k:Blk}{o:Ow}(hk:H.get id=some k)(hfz:k.fz=false)(ho:σ id=some o)
  (k':Blk) (o':Ow) (hg:w.grownBy w' o.block) (hb:∀ b,o'.block=some b→o.block=some b∨w.heap.size≤b)
  (hle:o=o'∨o.ver<o'.ver) (hver:o'.ver=k'.es.length) (hty:o'.ty=k'.ty) (hsz:o'.esz=k'.sz) (hesz:∀ c∈k'.es,c.length=o'.esz)
  (xs:List Value) (hrow:w'.ownsRow 0 k'.ty o'.esz o'.val k'.es.length xs) (h1:∀ u∈xs,u.oneCell'=true)
  (hrep:RepL (cF M0 H σ) σ H.al w xs k'.es.flatten) :
  let σ':Nat→Option Ow:=fun i=>if i=id then some o' else σ i
  Rel M0 (H.put id k') σ' w'∧Stp σ w σ' w'∧Keeps (cF M0 H σ) σ H.al w (cF M0 (H.put id k') σ') σ' (H.put id k').al w':=by
 intro σ'
 have hid:H.al id:=bJ fun hn=>by rw [(h.top id hn).1] at ho;cases ho
 have hmutk:∀ b,o.block=some b→cF M0 H σ b:=fun b hb=>.inr ⟨id,k,o,hk,hfz,ho,hb⟩
 have hmut:∀ b,b<w.heap.size→¬ cF M0 H σ b→¬ cF M0 (H.put id k') σ' b:=by
  rintro b hlt hm (hm'|⟨i,ki,oi,hki,hf,hoi,hbi⟩)
  ·exact hm (.inl hm')
  ·by_cases hi:i=id
   ·simp only [σ',hi,if_true,aY] at hoi
    subst hoi
    rcases hb b hbi with h1|h1
    ·exact hm (hmutk b h1)
    ·omega
   ·simp only [σ',hi,if_false] at hoi
    simp only [AHeap.put,hi,if_false] at hki
    exact hm (.inr ⟨i,ki,oi,hki,hf,hoi,hbi⟩)
 have hcell:∀ (ad:Addr) (u:Value),¬ cF M0 H σ ad.block→w.cell? ad=some u→w'.cell? ad=some u:=fun ad u hm hu =>
  (World.cell?_of_block (hg.block ad.block (World.block_lt_of_cell? w ad hu) (fun e=>hm (hmutk _ e.symm)))).trans hu
 have hkeep:Keeps (cF M0 H σ) σ H.al w (cF M0 (H.put id k') σ') σ' (H.put id k').al w':=by
  refine ⟨fun ad u hm hu=>⟨hmut _ (World.block_lt_of_cell? w ad hu) hm,hcell ad u hm hu⟩,fun i oi hi hoi=>?_,fun _ h=>h⟩
  by_cases he:i=id
  ·simp only [σ',he,if_true,aY] at hoi
   subst hoi
   exact ⟨o,he ▸ ho,hle⟩
  ·simp only [σ',he,if_false] at hoi
   exact ⟨oi,hoi,.inl rfl⟩
 have hoth:∀ i oi,i≠id→σ i=some oi→oi.val.ownBlock=none∨oi.val.ownBlock≠o.block:=fun i oi hne hoi=>by
  cases hb':oi.val.ownBlock with
  | none=>exact .inl rfl
  | some b=>exact .inr fun e=>hne (h.inj i id oi o b hoi ho hb' e.symm)
 refine ⟨⟨fun i hi=>?_,h.nxt,fun i ki hki=>?_,fun i j oi oj b hi hj hbi hbj=>?_,fun i oi b hi hbi=>?_,fun b hb=>b8 (h.m0 b hb) hg.size⟩,
  ⟨hg.os,hg.tape,hg.output,hg.size,fun b hb hn=>hg.block b hb (fun e=>hn id o ho e.symm),fun i oi b hoi hbi=>?_⟩,hkeep⟩
 ·have hi':¬ H.al i:=hi
  have hne:i≠id:=fun e=>hi' (e ▸ hid)
  simp only [σ',AHeap.put,hne,if_false]
  exact h.top i hi'
 ·by_cases he:i=id
  ·simp only [AHeap.put,he,if_true,aY] at hki
   subst hki
   exact ⟨o',by simp [σ',he],hver,hty,hsz,hesz,xs,hrow,h1,hrep.keep hkeep⟩
  ·simp only [AHeap.put,he,if_false] at hki
   obtain ⟨oi,hoi,l⟩:=h.lies i ki hki
   obtain ⟨xs',h1',h2',h3'⟩:=l.row
   exact ⟨oi,by simp [σ',he,hoi],l.ver,l.ty,l.sz,l.esz,xs',h1'.kept hg (hoth i oi he hoi),h2',h3'.keep hkeep⟩
 ·have key:∀ i oi b,i≠id→σ i=some oi→oi.block=some b→o'.block=some b→False:=fun i oi b hne hoi hbi hb'=>by
   rcases hb b hb' with h1|h1
   ·exact hne (h.inj i id oi o b hoi ho hbi h1)
   ·have:=(h.lt i oi b hoi hbi).1;omega
  by_cases hi':i=id<;>by_cases hj':j=id
  ·rw [hi',hj']
  ·simp only [σ',hi',if_true,aY] at hi
   simp only [σ',hj',if_false] at hj
   subst hi
   exact (key j oj b hj' hj hbj hbi).elim
  ·simp only [σ',hj',if_true,aY] at hj
   simp only [σ',hi',if_false] at hi
   subst hj
   exact (key i oi b hi' hi hbi hbj).elim
  ·simp only [σ',hi',hj',if_false] at hi hj
   exact h.inj i j oi oj b hi hj hbi hbj
 ·by_cases hi':i=id
  ·simp only [σ',hi',if_true,aY] at hi
   subst hi
   refine ⟨Da hrow hbi,fun hm=>?_⟩
   rcases hb b hbi with h1|h1
   ·exact (h.lt id o b ho h1).2 hm
   ·have:=h.m0 b hm;omega
  ·simp only [σ',hi',if_false] at hi
   exact ⟨b8 (h.lt i oi b hi hbi).1 hg.size,(h.lt i oi b hi hbi).2⟩
 ·by_cases hi':i=id
  ·simp only [σ',hi',if_true,aY] at hoi
   subst hoi
   rcases hb b hbi with h1|h1
   ·exact .inr ⟨id,o,ho,h1⟩
   ·exact .inl h1
  ·simp only [σ',hi',if_false] at hoi
   exact .inr ⟨i,oi,hoi,hbi⟩
end
end Go.Abs
end
section
namespace Go.Abs
/-! ### what is asked of the table of types -/
inductive TK where
 | bad
 | one
 | agg (n:Nat)
 deriving DecidableEq
def tk (P:Program)(t:TypeId):TK :=
 match P.underlying t,P.info? t with
 | some (.struct _),some i=>.agg i.size
 | some (.array _ _),some i=>.agg i.size
 | some _,some i=>if i.size=1 then .one else .bad
 | _,_=>.bad
def oT:Value→D
 | .int k n=>.int k n
 | .bool b=>.bool b
 | .string s=>.str s
 | .slice none 0 0=>.nil
 | .pointer none=>.nilp
 | .nilFunc=>.nilf
 | _=>.junk
def wE (i:TypeInfo):List D:=match i.zero with|some v=>v.cells.toList.map oT|none=>[]
structure SlI where
 e:TypeId
 sz:Nat
 by_:Nat
 z:List D
def sl (P:Program)(t:TypeId):Option SlI :=
 match P.underlying t with
 | some (.slice e)=>match P.info? e with
  | some i=>if 0<i.size∧i.bytes≤4096∧(wE i).length=i.size∧(wE i).all D.cell=true then some ⟨e,i.size,i.bytes,wE i⟩ else none
  | none=>none
 | _=>none
def zd (P:Program)(t:TypeId):Option (List D) :=
 match P.underlying t,P.info? t with
 | some _,some i=>if (wE i).length=i.size∧0<i.size∧(wE i).all D.cell=true then some (wE i) else none
 | _,_=>none
inductive BK where
 | st (l:List (Nat × Nat))
 | ar (sz:Nat)
def bk (P:Program)(t:TypeId):Option BK :=
 match P.underlying t with
 | some (.struct fs)=>(fs.toList.mapM fun f=>(P.info? f.type).map fun i=>(f.offset,i.size)).map .st
 | some (.array _ e)=>(P.info? e).map fun i=>.ar i.size
 | _=>none
def BK.place:BK→Nat→Option (Nat × Nat)
 | .st l,i=>l[i]?
 | .ar sz,i=>some (i * sz,sz)
def Rx (P:Program)(t:TypeId):Option (Nat × Nat) :=
 match P.underlying t with
 | some (.array n e)=>match P.info? e with
  | some i=>some (n,i.size)
  | none=>none
 | _=>none
/-! ### numbers -/
def Ob (k:IntKind)(n:Int):Prop:=k.min≤n∧n≤k.max
theorem qI {k:IntKind}{n:Int}(h:Ob k n):k.wrap n=n:=by
 obtain ⟨h1,h2⟩:=h
 cases k<;>simp [IntKind.min,IntKind.max,IntKind.signed,IntKind.bits] at h1 h2<;>simp [IntKind.wrap,IntKind.signed,IntKind.bits]<;>omega
theorem eO {n:Int}(h1 : -9223372036854775808≤n)(h2:n≤9223372036854775807):Ob .i64 n:=by
 unfold Ob;simp [IntKind.min,IntKind.max,IntKind.signed,IntKind.bits];omega
theorem uR {n:Int}(h1:0≤n)(h2:n≤18446744073709551615):Ob .u64 n:=by
 unfold Ob;simp [IntKind.min,IntKind.max,IntKind.signed,IntKind.bits];omega
/-! ### splicing cells -/
def qO (zs:List D)(off:Nat)(cs:List D):List D:=zs.take off++cs++zs.drop (off+cs.length)
def zI (places:Nat→Option (Nat × Nat))(zs:List D):List (Nat × D)→Option (List D)
 | []=>some zs
 | (i,d) :: rest =>
  match places i with
  | none=>none
  | some (off,size)=>if d.cells.length=size∧off+size≤zs.length then zI places (qO zs off d.cells) rest else none
/-! ### the result of an operation -/
structure AOut where
 cond:Prop
 fact:Prop
 val:D
 heap:AHeap
def eK (e:Nat→D):Operand→D
 | .tmp t=>e t
 | .const v=>oT v
 | .func f=>.fn f []
 | .global _=>.junk
def AOut.bad (H:AHeap):AOut:=⟨False,True,.junk,H⟩
def GN (op:BinOp)(x y:D)(H:AHeap):AOut :=
 match op,x,y with
 | .add,.int k a,.int k' b=>⟨k=k'∧Ob k (a+b),True,.int k (a+b),H⟩
 | .sub,.int k a,.int k' b=>⟨k=k'∧Ob k (a - b),True,.int k (a - b),H⟩
 | .mul,.int k a,.int k' b=>⟨k=k'∧Ob k (a * b),True,.int k (a * b),H⟩
 | .quo,.int k a,.int k' b=>⟨k=k'∧b≠0∧Ob k (a.tdiv b),True,.int k (a.tdiv b),H⟩
 | .rem,.int k a,.int k' b=>⟨k=k'∧b≠0,True,.int k (a.tmod b),H⟩
 | .eql,.int k a,.int k' b=>⟨k=k',True,.bool (a==b),H⟩
 | .neq,.int k a,.int k' b=>⟨k=k',True,.bool (a != b),H⟩
 | .lss,.int k a,.int k' b=>⟨k=k',True,.bool (decide (a<b)),H⟩
 | .leq,.int k a,.int k' b=>⟨k=k',True,.bool (decide (a≤b)),H⟩
 | .gtr,.int k a,.int k' b=>⟨k=k',True,.bool (decide (b<a)),H⟩
 | .geq,.int k a,.int k' b=>⟨k=k',True,.bool (decide (b≤a)),H⟩
 | .eql,.str a,.str b=>⟨True,True,.bool (decide (a=b)),H⟩
 | .neq,.str a,.str b=>⟨True,True,.bool (!decide (a=b)),H⟩
 | _,_,_=>AOut.bad H
def Gt (g:TypeId→Option Nat):List Field→Nat→Option Nat
 | [],o=>some o
 | f :: fs,o=>if f.name≠"_"∧f.offset=o then match g f.type with
   | some n=>Gt g fs (o+n)
   | none=>none
  else none
def Pl (P:Program):Nat→TypeId→Option Nat
 | 0,_=>none
 | d+1,t=>match P.underlying t with
  | some (.int _)=>some 1
  | some (.struct fs)=>if P.stoodInHeld t=false∧(P.info? t).isSome=true then
    match Gt (Pl P d) fs.toList 0 with
    | some n=>if P.cellsOf t=n then some n else none
    | none=>none
   else none
  | _=>none
def QU (P:Program)(t:TypeId):Option Nat :=
 match P.underlying t with
 | some (.struct fs)=>if P.stoodInHeld t=false∧P.eqGuardType P.depth t=false then Gt (Pl P 3) fs.toList 0 else none
 | _=>none
def rH:List D→Option (List Int)
 | []=>some []
 | .int .i64 n :: l=>(rH l).map (n :: ·)
 | _=>none
def F5 (P:Program)(t:TypeId)(op:BinOp)(x y:D)(H:AHeap):AOut :=
 match op,x,y with
 | .eql,.nil,.nil=>⟨(sl P t).isSome=true,True,.bool true,H⟩
 | .eql,.ne,.nil=>⟨(sl P t).isSome=true,True,.bool false,H⟩
 | .eql,.list es,.nil=>⟨(sl P t).isSome=true∧es≠[],True,.bool false,H⟩
 | .neq,.nil,.nil=>⟨(sl P t).isSome=true,True,.bool false,H⟩
 | .neq,.ne,.nil=>⟨(sl P t).isSome=true,True,.bool true,H⟩
 | .neq,.list es,.nil=>⟨(sl P t).isSome=true∧es≠[],True,.bool true,H⟩
 | .eql,.bool a,.bool b=>⟨P.underlying t=some .bool,True,.bool (a==b),H⟩
 | .neq,.bool a,.bool b=>⟨P.underlying t=some .bool,True,.bool (!(a==b)),H⟩
 | .eql,.agg xs,.agg ys=>match rH xs,rH ys with
  | some a,some b=>⟨QU P t=some a.length∧a.length=b.length,True,.bool (decide (a=b)),H⟩
  | _,_=>AOut.bad H
 | .neq,.agg xs,.agg ys=>match rH xs,rH ys with
  | some a,some b=>⟨QU P t=some a.length∧a.length=b.length,True,.bool (!decide (a=b)),H⟩
  | _,_=>AOut.bad H
 | .shr,.int k a,.int _ b=>⟨0≤b,True,.int k (a.fdiv (2 ^ (min b.toNat k.bits))),H⟩
 | .and,.int k a,.int k' b=>⟨k=.u64∧k'=.u64∧b=1,True,.int .u64 (a % 2),H⟩
 | _,_,_=>GN op x y H
def qA (w:Bool)(P:Program)(t:TypeId)(op:BinOp)(x y:D)(H:AHeap):AOut :=
 match w,op,x,y with
 | true,.sub,.int k a,.int k' b=>⟨k=k',True,.int k (k.wrap (a - b)),H⟩
 | _,op,x,y=>F5 P t op x y H
def fU (H:AHeap):D→Option (List D)
 | .adr cs=>some cs
 | .ptr id ver i off=>match H.get id with
  | some k=>if k.es.length=ver then (k.es[i]?).map (·.drop off) else none
  | none=>none
 | _=>none
def mO (P:Program)(t:TypeId)(x:D)(H:AHeap):AOut :=
 match fU H x with
 | none=>AOut.bad H
 | some cs=>match tk P t with
  | .bad=>AOut.bad H
  | .one=>⟨cs≠[],True,cs.headD .junk,H⟩
  | .agg n=>⟨n≤cs.length∧0<n,True,.agg (cs.take n),H⟩
def kP (P : Program) (t : TypeId) (x v : D) (H : AHeap) : AOut :=
  match x with
  | .ptr id ver i off => match H.get id with
    | some k => match k.es[i]? with
      | some c => ⟨k.fz = false ∧ k.es.length = ver ∧ v.cells.length = P.cellsOf t ∧ (P.info? t).isSome = true ∧ v.cells.all D.cell = true ∧ off + v.cells.length ≤ c.length, True, .junk,
          H.put id { k with es := k.es.set i (qO c off v.cells) }⟩
      | none => AOut.bad H
    | none => AOut.bad H
  | _ => AOut.bad H
def dS (x:D)(off:Nat)(H:AHeap):AOut :=
 match x with
 | .adr cs=>⟨True,True,.adr (cs.drop off),H⟩
 | .ptr id ver i o=>match H.get id with
  | some k=>⟨k.es.length=ver,True,.ptr id ver i (o+off),H⟩
  | none=>AOut.bad H
 | _=>AOut.bad H
def gS (P:Program)(t:TypeId)(x:D)(f:Nat)(H:AHeap):AOut :=
 match bk P t with
 | some (.st l)=>match l[f]? with
  | some (off,sz)=>⟨(dS x off H).cond∧0<sz,(dS x off H).fact,(dS x off H).val,(dS x off H).heap⟩
  | none=>AOut.bad H
 | _=>AOut.bad H
def gQ (P : Program) (t : TypeId) (x i : D) (H : AHeap) : AOut :=
  match i with
  | .int _ n => match x with
    | .list es => match sl P t with
      | some s => ⟨(0 ≤ n ∧ n < es.length) ∧ (es[n.toNat]?.getD s.z).length = s.sz, True, .adr (es[n.toNat]?.getD s.z), H⟩
      | none => AOut.bad H
    | .own id m => match sl P t, H.get id with
      | some s, some k => ⟨(0 ≤ n ∧ n < m) ∧ k.es.length = m ∧ (k.es[n.toNat]?.getD s.z).length = s.sz, True, .ptr id m n.toNat 0, H⟩
      | _, _ => AOut.bad H
    | _ => match Rx P t with
      | some (len, sz) => ⟨(dS x (n.toNat * sz) H).cond ∧ 0 ≤ n ∧ n < len, (dS x (n.toNat * sz) H).fact, (dS x (n.toNat * sz) H).val, (dS x (n.toNat * sz) H).heap⟩
      | none => AOut.bad H
  | _ => AOut.bad H
def Dx (P : Program) (t : TypeId) (x : D) (H : AHeap) : AOut :=
  match P.underlying t with
  | some (.slice _) => match x with
    | .nil => ⟨True, True, .int .i64 0, H⟩
    | .list es => ⟨True, (es.length : Int) ≤ 9223372036854775807, .int .i64 es.length, H⟩
    | .own id n => match H.get id with
      | some k => ⟨k.es.length = n, (n : Int) ≤ 9223372036854775807, .int .i64 n, H⟩
      | none => AOut.bad H
    | _ => AOut.bad H
  | some .string => match x with
    | .str s => ⟨True, True, .int .i64 s.size, H⟩
    | _ => AOut.bad H
  | some (.array n _) => ⟨True, True, .int .i64 n, H⟩
  | _ => AOut.bad H
def mR (H:AHeap):D→Option (List (List D))
 | .nil=>some []
 | .ne=>some []
 | .list es=>some es
 | .own id n=>match H.get id with
  | some k=>if k.es.length=n then some k.es else none
  | none=>none
 | .win id n lo hi=>match H.get id with
  | some k=>if k.es.length=n then some ((k.es.take hi).drop lo) else none
  | none=>none
 | _=>none
def Mn (P:Program)(t:TypeId):Option IntKind:=match P.underlying t with|some (.int k)=>some k|_=>none
def oC (P:Program)(s:SlI)(t':TypeId)(x y:D)(H:AHeap):AOut :=
 match y,x,Mn P t' with
 | .int _ m,.own id n,some _=>match H.get id with
  | some k=>⟨0≤m∧k.fz=false∧k.ty=s.e∧k.es.length=n∧n+m.toNat≤4294967296∧k.sz=s.sz,True,.own id (n+m.toNat),H.put id { k with es:=k.es++List.replicate m.toNat s.z }⟩
  | none=>AOut.bad H
 | _,_,_=>AOut.bad H
def jM (P : Program) (nid : Nat) (t t' : TypeId) (x y : D) (H : AHeap) : AOut :=
  match sl P t, mR H y with
  | some s, some ys =>
    match x with
    | .nil => ⟨t = t' ∧ ys.length ≤ 4294967296 ∧ (∀ c ∈ ys, c.length = s.sz) ∧ ys.flatten.all D.cell = true, True, .own nid ys.length, H.push nid ⟨s.e, s.sz, ys, false⟩⟩
    | .own id n => match H.get id with
      | some k => ⟨t = t' ∧ k.fz = false ∧ k.ty = s.e ∧ k.es.length = n ∧ n + ys.length ≤ 4294967296 ∧ k.sz = s.sz ∧ (∀ c ∈ ys, c.length = s.sz) ∧ ys.flatten.all D.cell = true, True,
          .own id (n + ys.length), H.put id { k with es := k.es ++ ys }⟩
      | none => AOut.bad H
    | _ => AOut.bad H
  | some s, none => oC P s t' x y H
  | _, _ => AOut.bad H
def Bv (P:Program)(nid:Nat)(t:TypeId)(l c:D)(H:AHeap):AOut :=
 match sl P t,l,c with
 | some s,.int _ n,.int _ m=>⟨n=m∧0≤n∧n≤4294967296,True,.own nid n.toNat,H.push nid ⟨s.e,s.sz,List.replicate n.toNat s.z,false⟩⟩
 | _,_,_=>AOut.bad H
def Jj (P:Program)(nid:Nat)(m:Bool)(t:TypeId)(x:D)(H:AHeap):AOut :=
 if m then ⟨x.cells.all D.cell=true,True,.ptr nid 1 0 0,H.push nid ⟨t,x.cells.length,[x.cells],false⟩⟩
 else ⟨x.cells.all D.cell=true,True,.adr x.cells,H⟩
def vB (P:Program)(nid:Nat)(m:Bool)(t:TypeId)(H:AHeap):AOut :=
 match zd P t with
 | some z=>if m then ⟨True,True,.ptr nid 1 0 0,H.push nid ⟨t,z.length,[z],false⟩⟩ else ⟨True,True,.adr z,H⟩
 | none=>AOut.bad H
def rK (P:Program)(t:TypeId)(parts:List (Nat × D))(H:AHeap):AOut :=
 match zd P t,bk P t with
 | some z,some b=>match zI b.place z parts with
  | some cs=>⟨(parts.all fun p=>p.2.cells.all D.cell)=true,True,.agg cs,H⟩
  | none=>AOut.bad H
 | _,_=>AOut.bad H
def pP (sz:Nat):Nat→List D→List (List D)
 | 0,_=>[]
 | n+1,l=>l.take sz :: pP sz n (l.drop sz)
def iD (P : Program) (nid : Nat) (m : Bool) (t : TypeId) (n : Nat) (parts : List (Nat × D)) (H : AHeap) : AOut :=
  match sl P t with
  | some s => match zI (fun i => some (i * s.sz, s.sz)) (List.replicate n s.z).flatten parts with
    | some cs =>
      if m then ⟨n ≤ 1000 ∧ s.sz ≤ 1000 ∧ (parts.all fun p => p.2.cells.all D.cell) = true, True, .own nid n, H.push nid ⟨s.e, s.sz, pP s.sz n cs, false⟩⟩
      else ⟨n ≤ 1000 ∧ s.sz ≤ 1000 ∧ (parts.all fun p => p.2.cells.all D.cell) = true, True, .list (pP s.sz n cs), H⟩
    | none => AOut.bad H
  | none => AOut.bad H
def RI (x:Option D)(dflt:Int):Option Int :=
 match x with
 | none=>some dflt
 | some (.int _ n)=>some n
 | _=>none
def oU (P:Program)(t:TypeId)(x:D)(lo hi:Option D)(H:AHeap):AOut :=
 match x with
 | .list es=>match sl P t,RI lo 0,RI hi es.length with
  | some s,some l,some h=>⟨0≤l∧l≤h∧h≤es.length∧(es.head?.getD s.z).length=s.sz,True,.list ((es.take h.toNat).drop l.toNat),H⟩
  | _,_,_=>AOut.bad H
 | .own id m=>match sl P t,H.get id,RI lo 0,RI hi m with
  | some s,some k,some l,some h=>⟨(0≤l∧l≤h∧h≤m)∧k.es.length=m∧k.sz=s.sz,True,.win id m l.toNat h.toNat,H⟩
  | _,_,_,_=>AOut.bad H
 | .str s=>match P.underlying t,RI lo 0,RI hi s.size with
  | some .string,some l,some h=>⟨0≤l∧l≤h∧h≤s.size,True,.str (s.extract l.toNat h.toNat),H⟩
  | _,_,_=>AOut.bad H
 | _=>AOut.bad H
def rJ (P : Program) (t : TypeId) (x i : D) (H : AHeap) : AOut :=
  match x, i with
  | .str s, .int _ n => match P.underlying t with
    | some .string => ⟨0 ≤ n ∧ n < s.size, True, .int .u8 ((s.data[n.toNat]?.getD 0).toNat : Int), H⟩
    | _ => AOut.bad H
  | .agg cs, .int _ n => match Rx P t, (P.underlying t) with
    | some (len, sz), some (.array _ e) => match tk P e with
      | .one => ⟨(0 ≤ n ∧ n < len) ∧ sz = 1 ∧ n.toNat < cs.length, True, cs[n.toNat]?.getD .junk, H⟩
      | _ => AOut.bad H
    | _, _ => AOut.bad H
  | _, _ => AOut.bad H
def lS (P:Program)(src dst:TypeId)(x:D)(H:AHeap):AOut :=
 match x with
 | .int _ n=>match Mn P dst with
  | some k=>⟨(P.underlying src).isSome=true∧Ob k n,True,.int k n,H⟩
  | none=>AOut.bad H
 | .str s=>match P.underlying src,P.underlying dst with
  | some .string,some .string=>⟨True,True,.str s,H⟩
  | _,_=>AOut.bad H
 | _=>AOut.bad H
def sV (c a b:D)(H:AHeap):AOut :=
 match c,a,b with
 | .bool true,.bool a,_=>⟨True,True,.bool a,H⟩
 | .bool true,.opt g (.bool a),_=>⟨g=true,True,.bool a,H⟩
 | .bool false,_,.bool b=>⟨True,True,.bool b,H⟩
 | .bool false,_,.opt g (.bool b)=>⟨g=true,True,.bool b,H⟩
 | _,_,_=>AOut.bad H
def xY (c a b:D)(H:AHeap):AOut :=
 match c,a,b with
 | .bool c,.bool a,.bool b=>⟨True,True,.bool (if c then a else b),H⟩
 | .bool c,.bool a,.opt g (.bool b)=>⟨c=false→g=true,True,.bool (if c then a else b),H⟩
 | .bool c,.opt g (.bool a),.bool b=>⟨c=true→g=true,True,.bool (if c then a else b),H⟩
 | .bool c,.opt g (.bool a),.opt g' (.bool b)=>⟨(c=true→g=true)∧(c=false→g'=true),True,.bool (if c then a else b),H⟩
 | c,a,b=>sV c a b H
def Bu (mx:Bool)(x y:D)(H:AHeap):AOut :=
 match x,y with
 | .int k a,.int k' b=>⟨k=k',True,.int k (if mx then (if a<b then b else a) else (if b<a then b else a)),H⟩
 | _,_=>AOut.bad H
def iQ (x:D)(H:AHeap):AOut :=
 match x with
 | .adr cs=>⟨True,True,.adr cs,H⟩
 | .ptr id ver i o=>match H.get id with
  | some k=>⟨k.es.length=ver,True,.ptr id ver i o,H⟩
  | none=>AOut.bad H
 | _=>AOut.bad H
def RB (op:UnOp)(x:D)(H:AHeap):AOut :=
 match op,x with
 | .not,.bool b=>⟨True,True,.bool (!b),H⟩
 | .neg,.int k n=>⟨Ob k (0 - n),True,.int k (0 - n),H⟩
 | _,_=>AOut.bad H
def lR (x:D)(i:Nat)(H:AHeap):AOut :=
 match x with
 | .tup vs=>⟨i<vs.length,True,vs[i]?.getD .junk,H⟩
 | _=>AOut.bad H
def Cy (P:Program)(nid:Nat)(m:Bool)(t:TypeId)(H:AHeap):AOut :=
 if m then match sl P t with
  | some s=>⟨True,True,.own nid 0,H.push nid ⟨s.e,s.sz,[],false⟩⟩
  | none=>AOut.bad H
 else ⟨True,True,.nil,H⟩
def AHeap.frz (H:AHeap)(id:Nat):AHeap :=
 match H.get id with
 | some k=>H.put id { k with fz:=true }
 | none=>H
def eT:List Nat→AHeap→AHeap
 | [],H=>H
 | i :: l,H=>eT l (H.frz i)
def eQ (H:AHeap)(d:D):D :=
 match d with
 | .win id ver lo hi=>match H.get id with
  | some k=>if k.es.length=ver then .list ((k.es.take hi).drop lo) else d
  | none=>d
 | .own id n=>match H.get id with
  | some k=>if k.es.length=n then .list k.es else d
  | none=>d
 | d=>d
def iE (H:AHeap):D→D
 | .agg cs=>.agg (cs.map (eQ H))
 | d=>eQ H d
def jZ:D→List Nat
 | .own id _=>[id]
 | .win id _ _ _=>[id]
 | _=>[]
def dC:D→List Nat
 | .agg cs=>cs.flatMap jZ
 | d=>jZ d
def iN:Operand→Bool
 | .const (.slice none 0 0)=>true
 | _=>false
def CR (md:Nat→Bool):Option Tmp→Bool
 | some d=>md d
 | none=>false
def sW (P:Program)(t:TypeId)(x:D)(H:AHeap):AOut :=
 match x with
 | .win id ver lo hi=>match sl P t,H.get id with
  | some s,some k=>⟨k.fz=false∧k.es.length=ver∧k.ty=s.e∧k.sz=s.sz,True,.tup [],H.put id { k with es:=k.es.take lo++List.replicate (hi - lo) s.z++k.es.drop hi }⟩
  | _,_=>AOut.bad H
 | _=>AOut.bad H
def uC (P:Program)(nid:Nat)(b:Builtin)(args:List D)(ts:List TypeId)(H:AHeap):AOut :=
 match b,args,ts with
 | .len,[x],[t]=>Dx P t x H
 | .append,[x,y],[t,t']=>jM P nid t t' x y H
 | .clear,[x],[t]=>sW P t x H
 | .min,[x,y],_=>Bu false x y H
 | .max,[x,y],_=>Bu true x y H
 | _,_,_=>AOut.bad H
def NZ (md:Nat→Bool)(H:AHeap)(d:D):D:=if md 1000001 then d else iE H d
def I7 (md:Nat→Bool)(d:D):List Nat:=if md 1000001 then [] else dC d
theorem SX {md:Nat→Bool}{d:D}{i:Nat}(h:i∈I7 md d):i∈dC d:=by
 unfold I7 at h;split at h
 ·cases h
 ·exact h
def Dv (P:Program)(nid:Nat)(md:Nat→Bool)(e:Nat→D)(o:Oper)(H:AHeap):AOut :=
 match o.op with
 | .move x=>if iN x then Cy P nid (CR md o.dst) o.type H else ⟨True,True,eK e x,H⟩
 | .assign x=>if iN x then Cy P nid (CR md o.dst) o.type H else ⟨True,True,eK e x,H⟩
 | .pick c a b=>xY (eK e c) (eK e a) (eK e b) H
 | .alloc t=>vB P nid (CR md o.dst) t H
 | .box t x=>Jj P nid (CR md o.dst) t (eK e x) H
 | .build t ps=>rK P t (ps.toList.map fun p=>(p.1,eK e p.2)) H
 | .buildSlice t n ps=>iD P nid (CR md o.dst) t n (ps.toList.map fun p=>(p.1,NZ md H (eK e p.2))) (eT (ps.toList.flatMap fun p=>I7 md (eK e p.2)) H)
 | .load t a=>mO P t (eK e a) H
 | .store t a v=>if md 1000000 then kP P t (eK e a) (iE H (eK e v)) (eT (dC (eK e v)) H) else kP P t (eK e a) (eK e v) H
 | .nilCheck x=>iQ (eK e x) H
 | .binOp op t x y _=>qA (md 2000000) P t op (eK e x) (eK e y) H
 | .unOp op _ x=>RB op (eK e x) H
 | .convert s d x=>lS P s d (eK e x) H
 | .makeFunc (.func f) first caps=>if first.isEmpty then ⟨True,True,.fn f (caps.toList.map (eK e)),H⟩ else AOut.bad H
 | .makeSlice t l c=>Bv P nid t (eK e l) (eK e c) H
 | .slice t x lo hi none=>oU P t (eK e x) (lo.map (eK e)) (hi.map (eK e)) H
 | .fieldAddr t x f=>gS P t (eK e x) f H
 | .indexAddr t x i=>gQ P t (eK e x) (eK e i) H
 | .index t x i=>rJ P t (eK e x) (eK e i) H
 | .extract t i=>lR (eK e t) i H
 | .call { callee:=.builtin b,args:=args,argTypes:=ts }=>uC P nid b (args.toList.map (eK e)) ts.toList H
 | _=>AOut.bad H
def f7 (e:Nat→D)(o:Oper):Option (FuncId × List D) :=
 match o.op with
 | .call { callee:=.value f,args:=args,argTypes:=_ }=>match eK e f with
  | .fn g caps=>some (g,args.toList.map (eK e)++caps)
  | _=>none
 | _=>none
end Go.Abs
end
section
namespace Go.Abs
def OpS (P:Program)(x:Sem Value)(M0:Nat→Prop)(H:AHeap)(σ:Nat→Option Ow)(w:World)(d:D)(H':AHeap):Prop :=
 ∃ v w' σ',x.run P w=.ok v w'∧Rel M0 H' σ' w'∧RepV (cF M0 H' σ') σ' H'.al w' v d∧Stp σ w σ' w'∧Keeps (cF M0 H σ) σ H.al w (cF M0 H' σ') σ' H'.al w'
section
variable {P:Program} {M0:Nat→Prop} {H:AHeap} {σ:Nat→Option Ow} {w:World}
theorem OpS.pure {x:Sem Value}{v:Value}{d:D}(hR:Rel M0 H σ w)(hx:x.run P w=.ok v w)(hv:RepV (cF M0 H σ) σ H.al w v d):OpS P x M0 H σ w d H :=
 ⟨v,w,σ,hx,hR,hv,.refl _ _,.refl _ _ _ _⟩
theorem fB (op:BinOp)(t:TypeId)(x y:Operand)(k:IntKind)(n:Int)(v:Value):eqGuard op t x y (.int k n) v=(Pure.pure ():Sem Unit):=by cases op<;>rfl
theorem C1 (op:BinOp)(t:TypeId)(x y:Operand)(s:ByteArray)(v:Value):eqGuard op t x y (.string s) v=(Pure.pure ():Sem Unit):=by cases op<;>rfl
theorem D2 (a b:ByteArray):(a.toList==b.toList)=decide (a=b):=by
 rw [bF]
 simp only [beq_iff_eq,decide_eq_true_eq]
 constructor
 ·intro h
  have h1:=congrArg List.toArray h
  rw [ByteArray.toList_eq,ByteArray.toList_eq] at h1
  simp at h1
  cases a;cases b;simp at h1;subst h1;rfl
 ·intro h;rw [h]
theorem PL {op:BinOp}{t:TypeId}{ox oy:Operand}{vx vy:Value}{x y:D}(hR:Rel M0 H σ w)
  (hx:RepV (cF M0 H σ) σ H.al w vx x) (hy:RepV (cF M0 H σ) σ H.al w vy y) (hc:(GN op x y H).cond) :
  (GN op x y H).fact∧OpS P (do eqGuard op t ox oy vx vy;binOp op t vx vy) M0 H σ w (GN op x y H).val (GN op x y H).heap:=by
 unfold GN at *
 split at hc<;>(try (exact hc.elim))<;>refine ⟨trivial,?_⟩<;>cases hx<;>cases hy
 ·obtain ⟨rfl,hr⟩:=hc
  exact .pure hR (by simp [fB,binOp,Op.intArith,qI hr]) (.int _ _)
 ·obtain ⟨rfl,hr⟩:=hc
  exact .pure hR (by simp [fB,binOp,Op.intArith,qI hr]) (.int _ _)
 ·obtain ⟨rfl,hr⟩:=hc
  exact .pure hR (by simp [fB,binOp,Op.intArith,qI hr]) (.int _ _)
 ·obtain ⟨rfl,h0,hr⟩:=hc
  exact .pure hR (by simp [fB,binOp,Op.intDiv,h0,qI hr]) (.int _ _)
 ·obtain ⟨rfl,h0⟩:=hc
  exact .pure hR (by simp [fB,binOp,Op.intDiv,h0]) (.int _ _)
 ·obtain rfl:=hc
  exact .pure hR (by simp [fB,binOp,Op.intCmp]) (.bool _)
 ·obtain rfl:=hc
  exact .pure hR (by simp [fB,binOp,Op.intCmp]) (.bool _)
 ·obtain rfl:=hc
  exact .pure hR (by simp [fB,binOp,Op.intCmp]) (.bool _)
 ·obtain rfl:=hc
  exact .pure hR (by simp [fB,binOp,Op.intCmp]) (.bool _)
 ·obtain rfl:=hc
  exact .pure hR (by simp [fB,binOp,Op.intCmp]) (.bool _)
 ·obtain rfl:=hc
  exact .pure hR (by simp [fB,binOp,Op.intCmp]) (.bool _)
 ·exact .pure hR (by simp [C1,binOp,Op.stringOp,D2]) (.bool _)
 ·exact .pure hR (by simp [C1,binOp,Op.stringOp,D2]) (.bool _)
theorem tB {P:Program}{t:TypeId}(h:(sl P t).isSome=true):∃ e,P.underlying t=some (.slice e):=by
 unfold sl at h
 cases hu:P.underlying t with
 | none=>simp [hu] at h
 | some de=>cases de<;>simp [hu] at h ⊢
theorem yM {t e:TypeId}(hu:P.underlying t=some (.slice e))(a:Option Addr)(n c:Nat):(Op.equal t (.slice a n c) (.slice none 0 0)).run P w=.ok a.isNone w:=by
 have h:∀ d,(Op.equalIn (d+1) t (.slice a n c) (.slice none 0 0)).run P w=.ok a.isNone w:=fun d=>by
  cases a<;>simp [Op.equalIn,run_underlying hu]
 exact h 9999
theorem NQ {t:TypeId}(hu:P.underlying t=some .bool)(a b:Bool):(Op.equal t (.bool a) (.bool b)).run P w=.ok (a==b) w:=by
 have h:∀ d,(Op.equalIn (d+1) t (.bool a) (.bool b)).run P w=.ok (a==b) w:=fun d=>by
  simp [Op.equalIn,run_underlying hu]
 exact h 9999
theorem Ll (a:Int):IntKind.u64.wrap (((a % 2 ^ IntKind.u64.bits).toNat &&& 1 % 2 ^ IntKind.u64.bits:Nat):Int)=a % 2:=by
 have h:(((a % 2 ^ 64).toNat &&& 1 % 2 ^ 64:Nat):Int)=a % 2:=by
  rw [show 1 % 2 ^ 64=1 by decide,Nat.and_one_is_mod]
  omega
 show IntKind.u64.wrap (((a % 2 ^ 64).toNat &&& 1 % 2 ^ 64:Nat):Int)=a % 2
 rw [h]
 exact qI (uR (by omega) (by omega))
theorem Ka {t:TypeId}{k:IntKind}(hu:P.underlying t=some (.int k))(xs:Array Value)(i:Nat)(v:Value)(hx:xs[i]?=some v):(part t xs i).run P w=.ok v w:=by
 simp [part,isAgg,run_underlying hu,hx]
theorem Hl {t:TypeId}{n:Nat}(h:QU P t=some n):∃ fs:Array Field,P.underlying t=some (.struct fs)∧P.stoodInHeld t=false∧P.eqGuardType P.depth t=false∧Gt (Pl P 3) fs.toList 0=some n:=by
 unfold QU at h
 split at h
 ·rename_i fs hu
  split at h
  ·rename_i hc;exact ⟨fs,hu,hc.1,hc.2,h⟩
  ·cases h
 ·cases h
theorem NI {g:TypeId→Option Nat}:∀ (fs:List Field) (o n:Nat),Gt g fs o=some n→o≤n
 | [],o,n,h=>by simp only [Gt,aY] at h;omega
 | f :: fs,o,n,h=>by
  unfold Gt at h
  split at h
  ·split at h
   ·have:=NI fs _ _ h;omega
   ·cases h
  ·cases h
def RG (P:Program)(w:World)(e:Nat)(t:TypeId)(n:Nat):Prop :=
 ∀ (xs ys:Array Value) (o:Nat) (a b:List Int),a.length=n→b.length=n →
  (∀ (j:Nat) (m:Int),a[j]?=some m→xs[o+j]?=some (.int .i64 m))→(∀ (j:Nat) (m:Int),b[j]?=some m→ys[o+j]?=some (.int .i64 m)) →
  ∃ x y,(part t xs o).run P w=.ok x w∧(part t ys o).run P w=.ok y w∧(Op.equalIn e t x y).run P w=.ok (decide (a=b)) w
theorem p9 {g:TypeId→Option Nat}{e:Nat}(hg:∀ t n,g t=some n→RG P w e t n)(xs ys:Array Value):∀ (fs:List Field) (o n:Nat) (a b:List Int),Gt g fs o=some n→o+a.length=n→o+b.length=n →
  (∀ (j:Nat) (m:Int),a[j]?=some m→xs[o+j]?=some (.int .i64 m))→(∀ (j:Nat) (m:Int),b[j]?=some m→ys[o+j]?=some (.int .i64 m)) →
  (Op.eqFields e xs ys fs).run P w=.ok (decide (a=b)) w
 | [],o,n,a,b,h,ha,hb,_,_=>by
  simp only [Gt,aY] at h
  rw [aV (show a.length=0 by omega),aV (show b.length=0 by omega)]
  simp [Op.eqFields]
 | f :: fs,o,n,a,b,h,ha,hb,hx,hy=>by
  unfold Gt at h
  split at h
  ·rename_i hf
   obtain ⟨h1,h2⟩:=hf
   split at h
   ·rename_i k hk
    have hle:=NI fs _ _ h
    obtain ⟨x,y,px,py,pe⟩:=hg _ _ hk xs ys o (a.take k) (b.take k) (by rw [bL];omega) (by rw [bL];omega)
     (fun j m hm=>hx j m (by rw [bI] at hm;split at hm;exact hm;cases hm)) (fun j m hm=>hy j m (by rw [bI] at hm;split at hm;exact hm;cases hm))
    have ih:=p9 hg xs ys fs (o+k) n (a.drop k) (b.drop k) h (by rw [dY];omega) (by rw [dY];omega)
     (fun j m hm=>by rw [zN];exact hx (k+j) m (by rw [bG] at hm;exact hm)) (fun j m hm=>by rw [zN];exact hy (k+j) m (by rw [bG] at hm;exact hm))
    have hab:(a=b)↔(a.take k=b.take k∧a.drop k=b.drop k):=by
     constructor
     ·rintro rfl;exact ⟨rfl,rfl⟩
     ·rintro ⟨q1,q2⟩;rw [← List.take_append_drop k a,← List.take_append_drop k b,q1,q2]
    rw [← h2] at px py
    simp only [Op.eqFields,if_pos h1,Sem.run_bind,px,py,Result.andThen_ok,pe]
    by_cases he:a.take k=b.take k
    ·simp [he,ih,hab]
    ·simp [he,hab]
   ·cases h
  ·cases h
theorem Cd : ∀ (d : Nat) (t : TypeId) (n : Nat), Pl P d t = some n → ∀ e, d ≤ e → RG P w e t n
  | 0, t, n, h, e, he => by simp [Pl] at h
  | d + 1, t, n, h, e, he => by
    obtain ⟨e, rfl⟩ : ∃ e', e = e' + 1 := ⟨e - 1, by omega⟩
    unfold Pl at h
    split at h
    · rename_i k hu
      simp only [aY] at h
      subst h
      intro xs ys o a b ha hb hx hy
      match a, b, ha, hb with
      | [a0], [b0], _, _ =>
        refine ⟨_, _, Ka hu xs o _ (hx 0 a0 rfl), Ka hu ys o _ (hy 0 b0 rfl), ?_⟩
        rw [run_equalIn_int w e t .i64 k a0 b0 hu]
        by_cases q : a0 = b0 <;> simp [q]
    · rename_i fs hu
      split at h
      · rename_i hc
        obtain ⟨hs, hi⟩ := hc
        split at h
        · rename_i m hm
          split at h
          · rename_i hsz
            simp only [aY] at h
            subst h
            obtain ⟨i, hi⟩ := jR.1 hi
            intro xs ys o a b ha hb hx hy
            have hpart : ∀ zs : Array Value, (part t zs o).run P w = .ok (.agg (zs.extract o (o + m))) w := fun zs => by
              simp [part, isAgg, run_underlying hu, run_sizeOf (w := w) hi, hsz]
            have hget : ∀ (zs : Array Value) (c : List Int), c.length = m → (∀ (j : Nat) (v : Int), c[j]? = some v → zs[o + j]? = some (.int .i64 v)) → ∀ (j : Nat) (v : Int), c[j]? = some v → (zs.extract o (o + m))[0 + j]? = some (.int .i64 v) := fun zs c hc hz j v hv => by
              have hj : j < c.length := (aI.1 hv).1
              have h1 := hz j v hv
              have h2 : o + j < zs.size := (kT.1 h1).1
              rw [Array.getElem?_extract, dR, if_pos (by omega)]
              exact h1
            refine ⟨_, _, hpart xs, hpart ys, ?_⟩
            have hfo : P.fieldsOf t = fs := by simp [Program.fieldsOf, hu]
            rw [run_equalIn_struct w e t _ _ (by rw [hfo]; exact hu) hs, hfo]
            exact p9 (fun t' n' h' => Cd d t' n' h' e (by omega)) _ _ fs.toList 0 m a b hm (by omega) (by omega) (hget xs a ha hx) (hget ys b hb hy)
          · cases h
        · cases h
      · cases h
    · cases h
theorem rG {M : Nat → Prop} {N : Nat → Prop} : ∀ (ds : List D) (a : List Int) (vs : List Value), rH ds = some a → vs.length = ds.length → (∀ (j : Nat) (u : Value) (d : D), vs[j]? = some u → ds[j]? = some d → RepV M σ N w u d) →
    a.length = vs.length ∧ ∀ (j : Nat) (n : Int), a[j]? = some n → vs[j]? = some (.int .i64 n)
  | [], a, vs, h, hl, _ => by
    simp only [rH, aY] at h
    subst h
    refine ⟨hl.symm, fun j n hn => by simp at hn⟩
  | d :: ds, a, vs, h, hl, hr => by
    cases vs with
    | nil => cases hl
    | cons v vs =>
      cases d <;> try (simp [rH] at h; done)
      rename_i k n
      cases k <;> try (simp [rH] at h; done)
      simp only [rH, bC] at h
      obtain ⟨a', h1, rfl⟩ := h
      have hv := hr 0 v _ rfl rfl
      cases hv
      obtain ⟨i1, i2⟩ := rG ds a' vs h1 (by simpa using hl) (fun j u d hu hd => hr (j + 1) u d (by simpa using hu) (by simpa using hd))
      refine ⟨by simp [i1], fun j m hm => ?_⟩
      cases j with
      | zero => simp at hm; subst hm; rfl
      | succ j => simpa using i2 j m (by simpa using hm)
theorem Q3 {op:BinOp}{t:TypeId}{ox oy:Operand}{vx vy:Value}{x y:D}(hR:Rel M0 H σ w)
  (hx:RepV (cF M0 H σ) σ H.al w vx x) (hy:RepV (cF M0 H σ) σ H.al w vy y) (hc:(F5 P t op x y H).cond) :
  (F5 P t op x y H).fact∧OpS P (do eqGuard op t ox oy vx vy;binOp op t vx vy) M0 H σ w (F5 P t op x y H).val (F5 P t op x y H).heap:=by
 unfold F5 at *
 split at hc
 ·obtain ⟨e,hu⟩:=tB hc
  cases hx;cases hy
  exact ⟨trivial,.pure hR (by simp [eqGuard,binOp,yM hu]) (.bool _)⟩
 ·obtain ⟨e,hu⟩:=tB hc
  cases hx;cases hy
  exact ⟨trivial,.pure hR (by simp [eqGuard,binOp,yM hu]) (.bool _)⟩
 ·obtain ⟨e,hu⟩:=tB hc.1
  cases hy
  cases hx
  ·exact absurd rfl hc.2
  ·exact ⟨trivial,.pure hR (by simp [eqGuard,binOp,yM hu]) (.bool _)⟩
 ·obtain ⟨e,hu⟩:=tB hc
  cases hx;cases hy
  exact ⟨trivial,.pure hR (by simp [eqGuard,binOp,yM hu]) (.bool _)⟩
 ·obtain ⟨e,hu⟩:=tB hc
  cases hx;cases hy
  exact ⟨trivial,.pure hR (by simp [eqGuard,binOp,yM hu]) (.bool _)⟩
 ·obtain ⟨e,hu⟩:=tB hc.1
  cases hy
  cases hx
  ·exact absurd rfl hc.2
  ·exact ⟨trivial,.pure hR (by simp [eqGuard,binOp,yM hu]) (.bool _)⟩
 ·cases hx;cases hy
  exact ⟨trivial,.pure hR (by simp [eqGuard,binOp,NQ hc]) (.bool _)⟩
 ·cases hx;cases hy
  exact ⟨trivial,.pure hR (by simp [eqGuard,binOp,NQ hc]) (.bool _)⟩
 ·split at hc
  ·rename_i a b ha hb
   obtain ⟨h1,h2⟩:=hc
   obtain ⟨fs,hu,hp,hm,hf⟩:=Hl h1
   have hfo:P.fieldsOf t=fs:=by simp [Program.fieldsOf,hu]
   cases hx;cases hy
   rename_i vs hr1 hl1 hv1 vs' hr2 hl2 hv2
   obtain ⟨x1,x2⟩:=rG _ a vs ha (by assumption) (by assumption)
   obtain ⟨y1,y2⟩:=rG _ b vs' hb (by assumption) (by assumption)
   refine ⟨trivial,.pure hR ?_ (.bool _)⟩
   rw [Sem.run_bind,run_eqGuard_agg w .eql t ox oy _ _ hm]
   simp only [Result.andThen_ok]
   have hrun:=p9 (P:=P) (w:=w) (e:=9999) (fun t' n' h'=>Cd 3 t' n' h' 9999 (by omega)) vs.toArray vs'.toArray fs.toList 0 a.length a b hf (by omega) (by omega) (fun j n hn=>by simpa using x2 j n hn) (fun j n hn=>by simpa using y2 j n hn)
   rw [run_eql_struct,run_equalIn_struct w 9999 t _ _ (by rw [hfo];exact hu) hp,hfo,hrun]
   rfl
  ·exact hc.elim
 ·split at hc
  ·rename_i a b ha hb
   obtain ⟨h1,h2⟩:=hc
   obtain ⟨fs,hu,hp,hm,hf⟩:=Hl h1
   have hfo:P.fieldsOf t=fs:=by simp [Program.fieldsOf,hu]
   cases hx;cases hy
   rename_i vs hr1 hl1 hv1 vs' hr2 hl2 hv2
   obtain ⟨x1,x2⟩:=rG _ a vs ha (by assumption) (by assumption)
   obtain ⟨y1,y2⟩:=rG _ b vs' hb (by assumption) (by assumption)
   refine ⟨trivial,.pure hR ?_ (.bool _)⟩
   rw [Sem.run_bind,run_eqGuard_agg w .neq t ox oy _ _ hm]
   simp only [Result.andThen_ok]
   have hrun:=p9 (P:=P) (w:=w) (e:=9999) (fun t' n' h'=>Cd 3 t' n' h' 9999 (by omega)) vs.toArray vs'.toArray fs.toList 0 a.length a b hf (by omega) (by omega) (fun j n hn=>by simpa using x2 j n hn) (fun j n hn=>by simpa using y2 j n hn)
   rw [run_neq_struct,run_equalIn_struct w 9999 t _ _ (by rw [hfo];exact hu) hp,hfo,hrun]
   rfl
  ·exact hc.elim
 ·cases hx;cases hy
  exact ⟨trivial,.pure hR (by simp [fB,binOp,Op.shift,show ¬ (_<(0:Int)) from Int.not_lt.2 hc]) (.int _ _)⟩
 ·obtain ⟨rfl,rfl,rfl⟩:=hc
  cases hx;cases hy
  exact ⟨trivial,.pure hR (by simp [fB,binOp,Op.intBits,Ll]) (.int _ _)⟩
 ·exact PL hR hx hy hc
theorem Px {w0:Bool}{op:BinOp}{t:TypeId}{ox oy:Operand}{vx vy:Value}{x y:D}(hR:Rel M0 H σ w)
  (hx:RepV (cF M0 H σ) σ H.al w vx x) (hy:RepV (cF M0 H σ) σ H.al w vy y) (hc:(qA w0 P t op x y H).cond) :
  (qA w0 P t op x y H).fact∧OpS P (do eqGuard op t ox oy vx vy;binOp op t vx vy) M0 H σ w (qA w0 P t op x y H).val (qA w0 P t op x y H).heap:=by
 unfold qA at *
 split at hc
 ·cases hx;cases hy
  obtain rfl:=hc
  exact ⟨trivial,.pure hR (by simp [fB,binOp,Op.intArith]) (.int _ _)⟩
 ·exact Q3 hR hx hy hc
theorem jQ {α:Type}{n:Nat}:∀ (es:List (List α)) (i:Nat) (c:List α),(∀ c∈es,c.length=n)→es[i]?=some c→∀ j,j<n→es.flatten[i * n+j]?=c[j]?
 | [],i,c,_,h,j,hj=>by simp at h
 | e :: es,0,c,hl,h,j,hj=>by
  simp at h;subst h
  have:=hl e (by simp)
  simp only [dZ,Nat.zero_mul,dR]
  rw [aX (by omega)]
 | e :: es,i+1,c,hl,h,j,hj=>by
  have he:=hl e (by simp)
  simp at h
  have ih:=jQ es i c (fun c hc=>hl c (by simp [hc])) h j hj
  simp only [dZ]
  rw [bE (by rw [he,Nat.add_mul];omega),he,← ih]
  congr 1
  rw [Nat.add_mul];omega
theorem jG {α:Type}{n:Nat}:∀ (es:List (List α)),(∀ c∈es,c.length=n)→es.flatten.length=es.length * n
 | [],_=>by simp
 | e :: es,hl=>by
  simp only [dZ,aT,bW,jG es (fun c hc=>hl c (by simp [hc])),hl e (by simp),Nat.add_mul]
  omega
theorem gX (b o j:Nat):(⟨b,o,none⟩:Addr).add j=⟨b,o+j,none⟩:=by unfold Addr.add;split<;>simp_all
theorem xW (a:Addr)(i j:Nat):(a.add i).add j=a.add (i+j):=by
 unfold Addr.add
 by_cases hi:i=0<;>by_cases hj:j=0<;>simp [hi,hj,zN]
theorem Jf {M:Nat→Prop}{N:Nat→Prop}{v:Value}{cs:List D}(h:RepV M σ N w v (.adr cs)) :
  ∃ ad xs,v=.pointer (some ad)∧RepL M σ N w xs cs∧(∀ u∈xs,u.oneCell'=true)∧∀ (j:Nat) (u:Value),xs[j]?=some u→¬ M ad.block∧w.cell? (ad.add j)=some u:=by
 generalize hd:D.adr cs=d at h
 cases h<;>cases hd
 rename_i ad xs h1 hcell hl hr
 exact ⟨ad,xs,rfl,⟨hl,hr⟩,h1,hcell⟩
theorem TM {t : TypeId} {n : Nat} (h : tk P t = .agg n) : (isAgg t).run P w = .ok true w ∧ ∃ i, P.info? t = some i ∧ i.size = n := by
  unfold tk at h
  cases hu : P.underlying t with
  | none => simp [hu] at h
  | some de =>
    cases hi : P.info? t with
    | none => cases de <;> simp [hu, hi] at h
    | some i =>
      cases de <;> simp [hu, hi] at h <;> first
        | (split at h <;> cases h; done)
        | exact ⟨by simp [isAgg, run_underlying hu], i, rfl, h⟩
theorem Qb {t:TypeId}(h:tk P t=.one):(isAgg t).run P w=.ok false w:=by
 unfold tk at h
 cases hu:P.underlying t with
 | none=>simp [hu] at h
 | some de =>
  cases hi:P.info? t with
  | none=>cases de<;>simp [hu,hi] at h
  | some i=>cases de<;>simp [hu,hi] at h<;>simp [isAgg,run_underlying hu]
theorem oY {v : Value} {x : D} {cs : List D} (hR : Rel M0 H σ w) (hx : RepV (cF M0 H σ) σ H.al w v x) (hc : fU H x = some cs) (hne : cs ≠ []) :
    ∃ ad xs, v = .pointer (some ad) ∧ RepL (cF M0 H σ) σ H.al w xs cs ∧ (∀ u ∈ xs, u.oneCell' = true) ∧ ∀ j u, xs[j]? = some u → w.cell? (ad.add j) = some u := by
  cases x <;> simp only [fU] at hc <;> try (cases hc; done)
  case adr ds =>
    cases hc
    obtain ⟨ad, xs, rfl, hrep, h1, hcell⟩ := Jf hx
    exact ⟨ad, xs, rfl, hrep, h1, fun j u hu => (hcell j u hu).2⟩
  case ptr id ver i off =>
    cases hx
    rename_i hN h1 h
    cases hk : H.get id with
    | none => simp [hk] at hc
    | some k =>
      simp only [hk] at hc
      split at hc
      · rename_i hver
        cases hci : k.es[i]? with
        | none => simp [hci] at hc
        | some c =>
          simp [hci] at hc
          subst hc
          obtain ⟨o, ho, l⟩ := hR.lies id k hk
          obtain ⟨xs, hrow, hx1, hrep⟩ := l.row
          have hlt : i < k.es.length := (aI.1 hci).1
          have hclen : c.length = o.esz := l.esz c (aJ hci)
          rcases h o ho with h' | ⟨hv, b, hb, rfl⟩
          · have := l.ver; omega
          · have hoff : off < c.length := by
              rcases bQ off c.length with h' | h'
              · exact h'
              · exact absurd (iR h') hne
            have hfl := jG k.es l.esz
            have hxl : xs.length = k.es.length * o.esz := hrep.len.trans hfl
            have hbound : i * o.esz + o.esz ≤ xs.length := by
              rw [hxl]
              have : (i + 1) * o.esz ≤ k.es.length * o.esz := bZ _ hlt
              rw [Nat.add_mul] at this; omega
            refine ⟨_, (xs.drop (i * o.esz + off)).take (o.esz - off), rfl, ⟨?_, fun j u d hu hd => ?_⟩, fun u hu => hx1 u (dL (bN hu)), fun j u hu => ?_⟩
            · simp only [bL, dY]; omega
            · rw [bI] at hu
              split at hu
              · rename_i hj
                rw [bG] at hu hd
                refine hrep.rep (i * o.esz + off + j) u d hu ?_
                rw [zN, jQ k.es i c l.esz hci (off + j) (by omega), hd]
              · cases hu
            · rw [bI] at hu
              split at hu
              · rw [bG] at hu
                have := hrow.cells (g := b) hb _ u hu
                rw [gX] at this ⊢
                simpa [zN] using this
              · cases hu
      · cases hc
theorem Kq {t : TypeId} {vx : Value} {x : D} (hR : Rel M0 H σ w) (hx : RepV (cF M0 H σ) σ H.al w vx x) (hc : (mO P t x H).cond) :
    (mO P t x H).fact ∧ (mO P t x H).heap = H ∧ ∃ v, (Instr.loadAt t vx).run P w = .ok v w ∧ RepV (cF M0 H σ) σ H.al w v (mO P t x H).val := by
  unfold mO at *
  cases hcs : fU H x with
  | none => simp [hcs, AOut.bad] at hc
  | some cs =>
    simp only [hcs] at hc ⊢
    cases htk : tk P t with
    | bad => simp [htk, AOut.bad] at hc
    | agg n =>
      rw [htk] at hc
      obtain ⟨hle, hpos⟩ := hc
      obtain ⟨hA, i, hi, hin⟩ := TM (w := w) htk
      obtain ⟨ad, xs, rfl, hrep, h1, hcell⟩ := oY hR hx hcs (by intro h; subst h; simp at hle; omega)
      refine ⟨trivial, rfl, ?_⟩
      have hl : (xs.take n).length = n := by rw [bL, hrep.len]; omega
      have hload := run_loadCells_list (P := P) (w := w) ad (xs.take n) (fun j u hu => by
        rw [bI] at hu
        split at hu
        · exact hcell j u hu
        · cases hu)
      rw [hl] at hload
      refine ⟨.agg (xs.take n).toArray, ?_, .agg _ _ ?_ (fun u hu => h1 u (bN hu)) fun j u d hu hd => ?_⟩
      · simp [Instr.loadAt, Instr.sureAddr, loadVar, hA, sizeOf, typeInfo, hi, hin, hload]
      · rw [hl, bL]; omega
      · rw [bI] at hu hd
        split at hu
        · rename_i hj
          rw [if_pos hj] at hd
          exact hrep.rep j u d hu hd
        · cases hu
    | one =>
      rw [htk] at hc
      obtain ⟨ad, xs, rfl, hrep, h1, hcell⟩ := oY hR hx hcs hc
      refine ⟨trivial, rfl, ?_⟩
      have hA := Qb (w := w) htk
      cases cs with
      | nil => exact absurd rfl hc
      | cons d cs =>
        cases xs with
        | nil => have := hrep.len; simp at this
        | cons u xs =>
          have h0 := hcell 0 u rfl
          rw [show ad.add 0 = ad by simp [Addr.add]] at h0
          exact ⟨u, by simp [Instr.loadAt, Instr.sureAddr, loadVar, hA, h0], hrep.rep 0 u d rfl rfl⟩
theorem Mk {t:TypeId}{vx:Value}{x:D}(hR:Rel M0 H σ w)(hx:RepV (cF M0 H σ) σ H.al w vx x)(hc:(mO P t x H).cond) :
  (mO P t x H).fact∧OpS P (Instr.loadAt t vx) M0 H σ w (mO P t x H).val (mO P t x H).heap:=by
 obtain ⟨h1,h2,v,h3,h4⟩:=Kq (P:=P) hR hx hc
 rw [h2]
 exact ⟨h1,.pure hR h3 h4⟩
end
end Go.Abs
end
