/- A block's number against the next free one. · The abstractio -/
import Derived.Orders
import Derived.Laws.AppendOwn
import Derived.Laws.OwnMore
import Derived.Below
import Derived.Laws.StructEq
import Derived.WalkKit
import Derived.ChangeKeysEq
set_option linter.unusedVariables false
set_option linter.unusedSimpArgs false
section
namespace Go.Abs
theorem aD {p:Prop}(h:p:=by omega):p:=h
theorem bW {p:Prop}(h:p:=by simp):p:=h
theorem bX {p q:Prop}(h:q)(k:q->p:=by (intro h;simpa using h)):p:=k h
theorem cW {α:Sort _}(a:α):∃ x,x=a:=⟨a,rfl⟩
theorem dR {α:Sort _}(a:α):∃ x,a=x:=⟨a,rfl⟩
abbrev aA:=@List.getElem?_eq_getElem
abbrev aC:=@List.getElem_mem
abbrev aE:=@List.take_succ_eq_append_getElem
abbrev aF:=@Nat.le_of_ble_eq_true
abbrev aG:=@List.take_of_length_le
abbrev aK:=@List.mem_of_getElem?
abbrev aL:=@List.length_append
abbrev aM:=@List.getElem?_eq_some_iff
abbrev aN:=@List.getElem?_map
abbrev aO:=@List.getElem_of_mem
abbrev aQ:=@Bool.and_eq_true
abbrev aR:=@Bool.eq_iff_iff
abbrev aS:=@List.getElem?_append_left
abbrev aU:=@List.mem_cons
abbrev aV:=@List.length_map
abbrev aW:=@List.mem_append
abbrev aX:=@List.any_eq_true
abbrev aZ:=@List.getElem?_append_right
abbrev bA:=@Classical.byContradiction
abbrev bB:=@List.mem_map
abbrev bC:=@Nat.le_refl
abbrev bF:=@Option.some.injEq
abbrev bH:=@Bool.eq_false_iff
abbrev bI:=@Array.getElem?_eq_getElem
abbrev bK:=@List.mem_range
abbrev bL:=@List.mem_singleton
abbrev bP:=@List.eq_nil_of_length_eq_zero
abbrev bR:=@Option.map_eq_some_iff
abbrev bT:=@List.mem_flatMap
abbrev bU:=@List.map_congr_left
abbrev bY:=@List.map_set
abbrev b5:=@List.getElem?_take
abbrev b6:=@Nat.lt_or_ge
abbrev b7:=@List.getElem?_eq_none
abbrev cC:=@Nat.lt_of_lt_of_le
abbrev cD:=@List.getElem?_drop
abbrev cJ:=@List.all_eq_true
abbrev cX:=@List.cons_append
abbrev cZ:=@List.nil_append
abbrev c4:=@Bool.or_eq_true
abbrev c5:=@List.length_take
abbrev c7:=@List.range_succ
abbrev c9:=@Bool.not_eq_true'
abbrev dB:=@List.mem_of_mem_take
abbrev dC:=@List.mem_cons_of_mem
abbrev dE:=@List.append_nil
abbrev dH:=@List.pairwise_iff_getElem
abbrev dM:=@List.length_replicate
abbrev dQ:=@Option.map_some
abbrev dY:=@Nat.zero_le
abbrev dZ:=@List.getElem?_set
abbrev eE:=@List.drop_eq_getElem_cons
abbrev eM:=@Nat.zero_add
abbrev eU:=@List.flatten_cons
abbrev eW:=@Int.eq_ofNat_of_zero_le
abbrev eX:=@Bool.false_eq_true
abbrev fC:=@Nat.le_trans
abbrev fD:=@Nat.mul_le_mul_right
abbrev fE:=@List.mem_of_mem_drop
abbrev fH:=@List.length_cons
abbrev fN:=@List.mem_cons_self
abbrev fP:=@Array.length_toList
abbrev fS:=@List.not_mem_nil
abbrev fT:=@List.ext_getElem
abbrev gG:=@List.length_drop
abbrev gL:=@List.ext_getElem?
abbrev gM:=@Bool.true_and
abbrev gY:=@List.drop_eq_nil_of_le
abbrev g5:=@List.nodup_cons
abbrev g6:=@List.mem_filter
abbrev g7:=@List.length_set
abbrev g9:=@List.map_cons
abbrev i4:=@List.findIdx?_eq_some_iff_getElem
abbrev i5:=@Array.getD_eq_getD_getElem?
abbrev jC:=@List.mem_flatten
abbrev jD:=@List.map_nil
abbrev jL:=@List.drop_of_length_le
abbrev jU:=@Decidable.not_not
abbrev j4:=@Nat.mul_le_mul
abbrev kZ:=@Option.isSome_iff_exists
abbrev k6:=@List.filter_append
abbrev k7:=@List.eq_of_mem_replicate
abbrev lN:=@List.getElem?_cons_zero
abbrev lO:=@Bool.and_assoc
abbrev lZ:=@List.flatten_append
abbrev mF:=@List.getElem_inj
abbrev mG:=@List.set_append_right
abbrev mH:=@List.length_filter_le
abbrev mW:=@List.mem_or_eq_of_mem_set
abbrev nK:=@List.size_toArray
abbrev nM:=@List.nodup_append
abbrev n6:=@List.eq_nil_iff_forall_not_mem
abbrev oJ:=@Nat.lt_irrefl
abbrev oL:=@List.mem_map_of_mem
abbrev oM:=@List.getElem?_range
abbrev oR:=@List.getElem_map
abbrev oS:=@Classical.or_iff_not_imp_left
abbrev pO:=@List.getElem_range
abbrev qN:=@List.length_nil
abbrev qY:=@Bool.or_false
abbrev q9:=@List.nodup_iff_pairwise_ne
abbrev rA:=@Array.getElem?_eq_some_iff
abbrev r6:=@List.findIdx?_eq_none_iff
abbrev s4:=@List.take_succ_cons
abbrev s5:=@List.replicate_succ
abbrev tA:=@Nat.add_zero
abbrev uT:=@Nat.add_sub_cancel_left
abbrev uU:=@List.set_cons_zero
abbrev uV:=@List.getElem?_replicate
abbrev xH:=@List.flatMap_cons
abbrev xI:=@List.any_eq_false
abbrev xO:=@Nat.sub_self
abbrev xP:=@List.contains_iff_mem
abbrev xQ:=@Classical.choose_spec
abbrev Af:=@List.take_length
abbrev Ag:=@List.take_append
abbrev Ah:=@List.getElem_set
abbrev Ar:=@Array.replicate_zero
abbrev As:=@Array.replicate_succ
abbrev AQ:=@Nat.add_assoc
abbrev Br:=@List.append_toArray
abbrev Bs:=@List.any_append
abbrev Bt:=@List.all_append
abbrev DE:=@List.set_cons_succ
abbrev Em:=@List.mem_take_iff_getElem
abbrev Eo:=@Bool.false_and
abbrev Fd:=@List.push_toArray
abbrev Fe:=@List.foldl_append
abbrev Ff:=@List.all_eq_false
abbrev Hp:=@List.getElem?_cons_succ
abbrev Hq:=@Bool.not_true
abbrev Im:=@List.flatMap_nil
end Go.Abs
namespace Go.Abs
theorem b8 {a n:Nat}(h:a<n):(a=n)=False/\(∀ k,(a=n+k)=False)/\(∀ k l,(a=n+k+l)=False)/\(n=a)=False/\(∀ k,(n+k=a)=False)/\(∀ k l,(n+k+l=a)=False) /\
  (∀ k l m,(a=n+k+l+m)=False)/\(∀ k l m,(n+k+l+m=a)=False)/\(∀ k l m p,(a=n+k+l+m+p)=False)/\(∀ k l m p,(n+k+l+m+p=a)=False) :=
 ⟨eq_false aD,λ_=>eq_false aD,λ_ _=>eq_false aD,eq_false aD,λ_=>eq_false aD,λ_ _=>eq_false aD,
  λ_ _ _=>eq_false aD,λ_ _ _=>eq_false aD,λ_ _ _ _=>eq_false aD,λ_ _ _ _=>eq_false aD⟩
theorem dF {a b:Nat}(h:a≠b):(a=b)=False/\(b=a)=False:=⟨eq_false h,eq_false (Ne.symm h)⟩
theorem Wp (n:Nat):(∀ a,(n=n+a)=(a=0))/\(∀ a b,(n=n+a+b)=(a+b=0))/\(∀ a b c,(n=n+a+b+c)=(a+b+c=0))/\(∀ a b c d,(n=n+a+b+c+d)=(a+b+c+d=0)) :=
 ⟨λ_=>propext aD,λ_ _=>propext aD,λ_ _ _=>propext aD,λ_ _ _ _=>propext aD⟩
end Go.Abs
end
section
namespace Go.Abs
inductive D where
 | int (k:IntKind) (n:Int)
 | bool (b:Bool)
 | str (s:ByteArray)
 | agg (cs:List D)
 | tup (vs:List D)
 | nil
 | list (es:List (List D))
 | adr (cs:List D)
 | ne
 | nilp
 | ptr (id ver i off:Nat)
 | own (id n:Nat)
 | win (id ver lo hi:Nat)
 | fn (f:FuncId) (caps:List D)
 | nilf
 | opt (g:Bool) (d:D)
 | cst (v:Value)
 | junk
 deriving Inhabited
structure Ow where
 ver:Nat
 val:Value
 esz:Nat
 ty:TypeId
def Ow.block (o:Ow):Option Nat:=o.val.ownBlock
def S3 (o:Ow)(v:Value)(ver lo hi:Nat):Prop :=
 (o.val=.slice none 0 0/\v=.slice none 0 0/\hi=0) \/
 ∃ b cap,o.val=.slice (some ⟨b,0,none⟩) ver cap/\ver<=cap/\v=.slice (some (if cap=lo then ⟨b,0,none⟩ else ⟨b,lo * o.esz,none⟩)) (hi - lo) (cap - lo)
inductive RepV (M:Nat->Prop) (σ:Nat->Option Ow) (N:Nat->Prop) (w:World):Value->D->Prop
 | int (k:IntKind) (n:Int):RepV M σ N w (.int k n) (.int k n)
 | bool (b:Bool):RepV M σ N w (.bool b) (.bool b)
 | str (s:ByteArray):RepV M σ N w (.string s) (.str s)
 | agg (vs:List Value) (ds:List D) (hl:vs.length=ds.length) (h1:∀ u∈vs,u.oneCell'=true)
   (hr:∀ (j:Nat) (u:Value) (d:D),vs[j]?=some u->ds[j]?=some d->RepV M σ N w u d):RepV M σ N w (.agg vs.toArray) (.agg ds)
 | tup (vs:List Value) (ds:List D) (hl:vs.length=ds.length)
   (hr:∀ (j:Nat) (u:Value) (d:D),vs[j]?=some u->ds[j]?=some d->RepV M σ N w u d):RepV M σ N w (.tuple vs.toArray) (.tup ds)
 | nil:RepV M σ N w (.slice none 0 0) .nil
 | listN:RepV M σ N w (.slice none 0 0) (.list [])
 | list (ad:Addr) (cap sz:Nat) (xs:List Value) (es:List (List D)) (hc:es.length<=cap) (hm:cap<=maxLen) (hsz:∀ c∈es,c.length=sz)
   (hl:xs.length=es.flatten.length) (h1:∀ u∈xs,u.oneCell'=true)
   (hcell:∀ (j:Nat) (u:Value),xs[j]?=some u->¬ M ad.block/\w.cell? (ad.add j)=some u)
   (hr:∀ (j:Nat) (u:Value) (d:D),xs[j]?=some u->es.flatten[j]?=some d->RepV M σ N w u d) :
   RepV M σ N w (.slice (some ad) es.length cap) (.list es)
 | adr (ad:Addr) (xs:List Value) (ds:List D) (hl:xs.length=ds.length) (h1:∀ u∈xs,u.oneCell'=true)
   (hcell:∀ (j:Nat) (u:Value),xs[j]?=some u->¬ M ad.block/\w.cell? (ad.add j)=some u)
   (hr:∀ (j:Nat) (u:Value) (d:D),xs[j]?=some u->ds[j]?=some d->RepV M σ N w u d) :
   RepV M σ N w (.pointer (some ad)) (.adr ds)
 | ne (ad:Addr) (cap:Nat) (hm:cap<=maxLen):RepV M σ N w (.slice (some ad) 0 cap) .ne
 | nilp:RepV M σ N w (.pointer none) .nilp
 | ptr (v:Value) (id ver i off:Nat) (hN:N id) (h1:v.oneCell'=true)
   (h:∀ o,σ id=some o->ver<o.ver\/(ver=o.ver/\∃ b,o.block=some b/\v=.pointer (some ⟨b,i * o.esz+off,none⟩))) :
   RepV M σ N w v (.ptr id ver i off)
 | own (v:Value) (id n:Nat) (hN:N id) (h1:v.oneCell'=true) (h:∀ o,σ id=some o->n<o.ver\/(n=o.ver/\v=o.val)) :
   RepV M σ N w v (.own id n)
 | win (v:Value) (id ver lo hi:Nat) (hN:N id) (h1:v.oneCell'=true) (hlh:lo<=hi/\hi<=ver) (h:∀ o,σ id=some o->ver<o.ver\/(ver=o.ver/\S3 o v ver lo hi)) :
   RepV M σ N w v (.win id ver lo hi)
 | fn (f:FuncId) (vs:List Value) (ds:List D) (hl:vs.length=ds.length)
   (hr:∀ (j:Nat) (u:Value) (d:D),vs[j]?=some u->ds[j]?=some d->RepV M σ N w u d):RepV M σ N w (.func (.func f) #[] vs.toArray) (.fn f ds)
 | nilf:RepV M σ N w .nilFunc .nilf
 | opt (v:Value) (g:Bool) (d:D) (hf:g=false->v=.tuple #[]) (h:g=true->RepV M σ N w v d):RepV M σ N w v (.opt g d)
 | cst (v:Value):RepV M σ N w v (.cst v)
 | junk (v:Value):RepV M σ N w v .junk
structure RepL (M:Nat->Prop) (σ:Nat->Option Ow) (N:Nat->Prop) (w:World) (vs:List Value) (ds:List D):Prop where
 len:vs.length=ds.length
 rep:∀ (j:Nat) (u:Value) (d:D),vs[j]?=some u->ds[j]?=some d->RepV M σ N w u d
structure Keeps (M:Nat->Prop) (σ:Nat->Option Ow) (N:Nat->Prop) (w:World) (M':Nat->Prop) (σ':Nat->Option Ow) (N':Nat->Prop) (w':World):Prop where
 cell:∀ (ad:Addr) (u:Value),¬ M ad.block->w.cell? ad=some u->¬ M' ad.block/\w'.cell? ad=some u
 own:∀ id o',N id->σ' id=some o'->∃ o,σ id=some o/\(o=o'\/o.ver<o'.ver)
 le:∀ id,N id->N' id
theorem iD (a:Addr)(n:Nat):(a.add n).block=a.block:=by grind [Addr.add]
theorem RepV.keep {M:Nat->Prop}{σ:Nat->Option Ow}{N:Nat->Prop}{w:World}{m:Nat->Prop}{σ':Nat->Option Ow}{l:Nat->Prop}{w':World}
  (k:Keeps M σ N w m σ' l w') {v:Value} {d:D} (h:RepV M σ N w v d):RepV m σ' l w' v d:=by
 induction h with
 | int=>exact .int _ _
 | bool=>exact .bool _
 | str=>exact .str _
 | agg vs ds hl h1 _ ih=>exact .agg vs ds hl h1 ih
 | tup vs ds hl _ ih=>exact .tup vs ds hl ih
 | nil=>exact .nil
 | listN=>exact .listN
 | list ad cap sz xs es hc hm hsz hl h1 hcell _ ih =>
  refine .list ad cap sz xs es hc hm hsz hl h1 (λj u hu=>?_) ih
  obtain ⟨b,a⟩:=hcell j u hu
  have:=k.cell (ad.add j) u (by rw [iD];exact b) a
  rw [iD] at this;exact this
 | adr ad xs ds hl h1 hcell _ ih =>
  refine .adr ad xs ds hl h1 (λj u hu=>?_) ih
  obtain ⟨b,a⟩:=hcell j u hu
  have:=k.cell (ad.add j) u (by rw [iD];exact b) a
  rw [iD] at this;exact this
 | ne ad cap hm=>exact .ne ad cap hm
 | nilp=>exact .nilp
 | ptr v id ver i off hN h1 h =>
  refine .ptr v id ver i off (k.le id hN) h1 λo' ho'=>?_
  obtain ⟨o,c,e⟩:=k.own id o' hN ho'
  grind
 | own v id n hN h1 h =>
  refine .own v id n (k.le id hN) h1 λo' ho'=>?_
  obtain ⟨o,c,e⟩:=k.own id o' hN ho'
  grind
 | win v id ver lo hi hN h1 hlh h =>
  refine .win v id ver lo hi (k.le id hN) h1 hlh λo' ho'=>?_
  obtain ⟨o,c,e⟩:=k.own id o' hN ho'
  grind
 | fn f vs ds hl _ ih=>exact .fn f vs ds hl ih
 | nilf=>exact .nilf
 | opt v g d hf _ ih=>exact .opt v g d hf ih
 | cst v=>exact .cst v
 | junk v=>exact .junk v
theorem RepL.keep {M:Nat->Prop}{σ:Nat->Option Ow}{N:Nat->Prop}{w:World}{M':Nat->Prop}{σ':Nat->Option Ow}{N':Nat->Prop}{w':World}
  (k:Keeps M σ N w M' σ' N' w') {v:List Value} {d:List D} (h:RepL M σ N w v d):RepL M' σ' N' w' v d :=
 ⟨h.len,λj u x hu hx=>(h.rep j u x hu hx).keep k⟩
def D.cell:D->Bool
 | .agg _ | .tup _ | .opt _ _ | .cst _ | .junk=>false
 | _=>true
theorem RepV.oneCell {M:Nat->Prop}{σ:Nat->Option Ow}{N:Nat->Prop}{w:World}{v:Value}{d:D}(h:RepV M σ N w v d)(a:d.cell=true):v.oneCell'=true:=by
 cases h<;>first|rfl|assumption|(simp [D.cell] at a)
def D.cells:D->List D
 | .agg cs=>cs
 | d=>[d]
mutual
def D.cl:D->Bool
 | .agg cs=>D.clL cs
 | .tup cs=>D.clL cs
 | .list es=>D.clLL es
 | .adr cs=>D.clL cs
 | .fn _ cs=>D.clL cs
 | .ptr .. | .own .. | .win .. | .opt .. | .junk=>false
 | _=>true
def D.clL:List D->Bool
 | []=>true
 | d :: l=>D.cl d&&D.clL l
def D.clLL:List (List D)->Bool
 | []=>true
 | d :: l=>D.clL d&&D.clLL l
end
theorem jK {l:List D}(h:D.clL l=true):∀ d∈l,d.cl=true:=by
 induction l with
 | nil=>simp
 | cons a l ih=>simp only [D.clL,aQ] at h;intro d b;cases b with
  | head=>exact h.1
  | tail _ hm=>exact ih h.2 d hm
theorem qE {l:List (List D)}(h:D.clLL l=true):∀ d∈l,D.clL d=true:=by
 induction l with
 | nil=>simp
 | cons a l ih=>simp only [D.clLL,aQ] at h;intro d b;cases b with
  | head=>exact h.1
  | tail _ hm=>exact ih h.2 d hm
theorem RepV.closed {M:Nat->Prop}{σ:Nat->Option Ow}{N:Nat->Prop}{w:World}{l:Nat->Prop}{σ':Nat->Option Ow}{m:Nat->Prop}
  {w':World} (k:∀ (ad:Addr) (u:Value),¬ M ad.block->w.cell? ad=some u->¬ l ad.block/\w'.cell? ad=some u) {v:Value} {d:D} (h:RepV M σ N w v d) (a:d.cl=true):RepV l σ' m w' v d:=by
 induction h with
 | int=>exact .int _ _
 | bool=>exact .bool _
 | str=>exact .str _
 | agg vs ds hl h1 _ ih =>
  exact .agg vs ds hl h1 λj u x hu hx=>ih j u x hu hx (jK a x (aK hx))
 | tup vs ds hl _ ih =>
  exact .tup vs ds hl λj u x hu hx=>ih j u x hu hx (jK a x (aK hx))
 | nil=>exact .nil
 | listN=>exact .listN
 | list ad cap sz xs es hcp hm hsz hl h1 hcell _ ih =>
  refine .list ad cap sz xs es hcp hm hsz hl h1 (λj u hu=>?_) λj u x hu hx=>ih j u x hu hx ?_
  .obtain ⟨i,b⟩:=hcell j u hu
   have:=k (ad.add j) u (by rw [iD];exact i) b
   rw [iD] at this;exact this
  .obtain ⟨c,g,e⟩:=jC.1 (aK hx)
   exact jK (qE a c g) x e
 | adr ad xs ds hl h1 hcell _ ih =>
  refine .adr ad xs ds hl h1 (λj u hu=>?_) λj u x hu hx=>ih j u x hu hx (jK a x (aK hx))
  obtain ⟨i,b⟩:=hcell j u hu
  have:=k (ad.add j) u (by rw [iD];exact i) b
  rw [iD] at this;exact this
 | ne ad cap hm=>exact .ne ad cap hm
 | nilp=>exact .nilp
 | ptr=>simp [D.cl] at a
 | own=>simp [D.cl] at a
 | win=>simp [D.cl] at a
 | fn f vs ds hl _ ih =>
  exact .fn f vs ds hl λj u x hu hx=>ih j u x hu hx (jK a x (aK hx))
 | nilf=>exact .nilf
 | opt=>simp [D.cl] at a
 | cst v=>exact .cst v
 | junk v=>simp [D.cl] at a
end Go.Abs
end
section
namespace Go.Abs
structure Blk where
 ty:TypeId
 sz:Nat
 es:List (List D)
 fz:Bool
structure AHeap where
 next:Nat
 al:Nat->Prop
 get:Nat->Option Blk
def AHeap.emp:AHeap:=⟨0,λ_=>False,λ_=>none⟩
def AHeap.push (H:AHeap)(id:Nat)(b:Blk):AHeap:=⟨if id<H.next then H.next else id+1,λi=>i=id\/H.al i,λi=>if i=id then some b else H.get i⟩
def AHeap.put (H:AHeap)(id:Nat)(b:Blk):AHeap:=⟨H.next,H.al,λi=>if i=id then some b else H.get i⟩
def dA (M0:Nat->Prop)(H:AHeap)(σ:Nat->Option Ow)(b:Nat):Prop :=
 M0 b\/∃ id k o,H.get id=some k/\k.fz=false/\σ id=some o/\o.block=some b
structure Lies (M:Nat->Prop) (σ:Nat->Option Ow) (N:Nat->Prop) (w:World) (k:Blk) (o:Ow):Prop where
 ver:o.ver=k.es.length
 ty:o.ty=k.ty
 sz:o.esz=k.sz
 esz:∀ c∈k.es,c.length=o.esz
 row:∃ xs,w.ownsRow 0 k.ty o.esz o.val k.es.length xs/\(∀ u∈xs,u.oneCell'=true)/\RepL M σ N w xs k.es.flatten
structure Rel (M0:Nat->Prop) (H:AHeap) (σ:Nat->Option Ow) (w:World):Prop where
 top:∀ id,¬ H.al id->σ id=none/\H.get id=none
 nxt:∀ id,H.al id->id<H.next
 lies:∀ id k,H.get id=some k->∃ o,σ id=some o/\Lies (dA M0 H σ) σ H.al w k o
 inj:∀ i j o o' b,σ i=some o->σ j=some o'->o.block=some b->o'.block=some b->i=j
 lt:∀ i o b,σ i=some o->o.block=some b->b<w.heap.size/\¬ M0 b
 m0:∀ b,M0 b->b<w.heap.size
structure Stp (σ:Nat->Option Ow) (w:World) (σ':Nat->Option Ow) (w':World):Prop where
 os:w'.os=w.os
 tape:w'.tape=w.tape
 output:w'.output=w.output
 size:w.heap.size<=w'.heap.size
 old:∀ b,b<w.heap.size->(∀ i o,σ i=some o->o.block≠some b)->w'.heap[b]?=w.heap[b]?
 new:∀ i o' b,σ' i=some o'->o'.block=some b->w.heap.size<=b\/∃ j o,σ j=some o/\o.block=some b
theorem Stp.refl (σ:Nat->Option Ow)(w:World):Stp σ w σ w :=
 ⟨rfl,rfl,rfl,bC _,λ_ _ _=>rfl,λi o b h hb=>.inr ⟨i,o,h,hb⟩⟩
theorem Stp.trans {σ σ' σ'':Nat->Option Ow}{w w' w'':World}(h:Stp σ w σ' w')(k:Stp σ' w' σ'' w''):Stp σ w σ'' w'' where
 os:=k.os.trans h.os
 tape:=k.tape.trans h.tape
 output:=k.output.trans h.output
 size:=fC h.size k.size
 old b hb hn:=by
  rw [k.old b (cC hb h.size) (λi o ho hob=>?_),h.old b hb hn]
  rcases h.new i o b ho hob with h1|⟨j1,o1,h1,h2⟩
  .omega
  .exact hn j1 o1 h1 h2
 new i o b ho hb:=by
  rcases k.new i o b ho hb with h1|⟨j1,o1,h1,h2⟩
  .exact .inl (fC h.size h1)
  .exact h.new j1 o1 b h1 h2
theorem Keeps.refl (M:Nat->Prop)(σ:Nat->Option Ow)(N:Nat->Prop)(w:World):Keeps M σ N w M σ N w :=
 ⟨λ_ _ h k=>⟨h,k⟩,λid o' _ h=>⟨o',h,.inl rfl⟩,λ_ h=>h⟩
theorem Keeps.trans {M M' M'':Nat->Prop}{σ σ' σ'':Nat->Option Ow}{N N' N'':Nat->Prop}{w w' w'':World}
  (h:Keeps M σ N w M' σ' N' w') (k:Keeps M' σ' N' w' M'' σ'' N'' w''):Keeps M σ N w M'' σ'' N'' w'' where
 cell ad u hm hc:=let ⟨h1,h2⟩:=h.cell ad u hm hc;k.cell ad u h1 h2
 own id o'' hid ho:=by
  obtain ⟨o',ho',he'⟩:=k.own id o'' (h.le id hid) ho
  obtain ⟨o,ho,he⟩:=h.own id o' hid ho'
  refine ⟨o,ho,?_⟩
  rcases he with rfl|he<;>rcases he' with rfl|he'
  .exact .inl rfl
  .exact .inr he'
  .exact .inr he
  .exact .inr aD
 le:=λid h'=>k.le id (h.le id h')
section
variable {M0:Nat→Prop} {H:AHeap} {σ:Nat→Option Ow} {w:World}
theorem El {o:Ow}{e:TypeId}{n:Nat}{xs:List Value}(h:w.ownsRow 0 e o.esz o.val n xs){b:Nat}(hb:o.block=some b):b<w.heap.size :=
 (h.lt b hb).2
theorem Rel.drew (h:Rel M0 H σ w):Rel M0 H σ w.drew/\Stp σ w σ w.drew/\Keeps (dA M0 H σ) σ H.al w (dA M0 H σ) σ H.al w.drew:=by
 have a:Keeps (dA M0 H σ) σ H.al w (dA M0 H σ) σ H.al w.drew:=⟨λ_ _ h k=>⟨h,k⟩,λid d _ h=>⟨d,h,.inl rfl⟩,λ_ h=>h⟩
 refine ⟨⟨h.top,h.nxt,λid k hk'=>?_,h.inj,h.lt,h.m0⟩,⟨rfl,rfl,rfl,bC _,λ_ _ _=>rfl,λi o b h f=>.inr ⟨i,o,h,f⟩⟩,a⟩
 obtain ⟨o,e,l⟩:=h.lies id k hk'
 obtain ⟨c,m,j,g⟩:=l.row
 exact ⟨o,e,l.ver,l.ty,l.sz,l.esz,c,m,j,g.keep a⟩
theorem Rel.grow {w':World}(h:Rel M0 H σ w)(j:w'.os=w.os)(c:w'.tape=w.tape)(f:w'.output=w.output)(a:w.heap.size<=w'.heap.size)
  (d:∀ b,b<w.heap.size->w'.heap[b]?=w.heap[b]?) :
  Rel M0 H σ w'/\Stp σ w σ w'/\Keeps (dA M0 H σ) σ H.al w (dA M0 H σ) σ H.al w':=by
 have g:∀ (ad:Addr) (u:Value),w.cell? ad=some u->w'.cell? ad=some u:=λad u hu =>
  (World.cell?_of_block (d ad.block (World.block_lt_of_cell? w ad hu))).trans hu
 have n:Keeps (dA M0 H σ) σ H.al w (dA M0 H σ) σ H.al w':=⟨λad u r hu=>⟨r,g ad u hu⟩,λid q _ h=>⟨q,h,.inl rfl⟩,λ_ h=>h⟩
 refine ⟨⟨h.top,h.nxt,λid k hk'=>?_,h.inj,λi o b m e=>?_,λb e=>cC (h.m0 b e) a⟩,⟨j,c,f,a,λb e _=>d b e,λi o b h e=>.inr ⟨i,o,h,e⟩⟩,n⟩
 .obtain ⟨o,m,l⟩:=h.lies id k hk'
  obtain ⟨p,v,t,s⟩:=l.row
  refine ⟨o,m,l.ver,l.ty,l.sz,l.esz,p,?_,t,s.keep n⟩
  exact v.kept (row:=none) ⟨j,c,f,a,λb e _=>d b e⟩ (by cases o.val.ownBlock<;>simp)
 .exact ⟨cC (h.lt i o b m e).1 a,(h.lt i o b m e).2⟩
theorem Rel.pushG {w':World}(h:Rel M0 H σ w)(id:Nat)(hal:¬ H.al id)(hos:w'.os=w.os)(htape:w'.tape=w.tape)(hout:w'.output=w.output)(hsize:w.heap.size<=w'.heap.size)
  (hold:∀ b,b<w.heap.size->w'.heap[b]?=w.heap[b]?) (k:Blk) (o:Ow) (hb:∀ b,o.block=some b->w.heap.size<=b) (hver:o.ver=k.es.length) (hty:o.ty=k.ty) (hsz:o.esz=k.sz)
  (hesz:∀ c∈k.es,c.length=o.esz) (xs:List Value) (hrow:w'.ownsRow 0 k.ty o.esz o.val k.es.length xs) (h1:∀ u∈xs,u.oneCell'=true)
  (hrep:let σ':Nat->Option Ow:=λi=>if i=id then some o else σ i
   Keeps (dA M0 H σ) σ H.al w (dA M0 (H.push id k) σ') σ' (H.push id k).al w'->RepL (dA M0 (H.push id k) σ') σ' (H.push id k).al w' xs k.es.flatten) :
  let σ':Nat->Option Ow:=λi=>if i=id then some o else σ i
  Rel M0 (H.push id k) σ' w'/\Stp σ w σ' w'/\Keeps (dA M0 H σ) σ H.al w (dA M0 (H.push id k) σ') σ' (H.push id k).al w':=by
 intro σ'
 have hne:∀ i o',σ i=some o'->i≠id:=λi o' hi he=>by subst he;rw [(h.top _ hal).1] at hi;cases hi
 have hσ:∀ i o',σ i=some o'->σ' i=some o':=λi o' hi=>by simp [σ',hne i o' hi,hi]
 have hmut:∀ b,b<w.heap.size->¬ dA M0 H σ b->¬ dA M0 (H.push id k) σ' b:=by
  rintro b hlt hm (hm'|⟨i,k',o',hk',hf,ho',hb'⟩)
  .exact hm (.inl hm')
  .by_cases hii:i=id
   .simp only [σ',hii,if_true,bF] at ho'
    subst ho'
    have:=hb b hb'
    omega
   .simp only [σ',hii,if_false] at ho'
    simp only [AHeap.push,hii,if_false] at hk'
    exact hm (.inr ⟨i,k',o',hk',hf,ho',hb'⟩)
 have hkeep:Keeps (dA M0 H σ) σ H.al w (dA M0 (H.push id k) σ') σ' (H.push id k).al w':=by
  refine ⟨λad u hm hu=>?_,λi o' hi ho'=>?_,λi hi=>.inr hi⟩
  .have hlt:=World.block_lt_of_cell? w ad hu
   exact ⟨hmut _ hlt hm,(World.cell?_of_block (hold ad.block hlt)).trans hu⟩
  .have:i≠id:=λe=>hal (e ▸ hi)
   simp only [σ',this,if_false] at ho'
   exact ⟨o',ho',.inl rfl⟩
 have hg:w.grownBy w' none:=⟨hos,htape,hout,hsize,λb hb _=>hold b hb⟩
 refine ⟨⟨λi hi=>?_,λi hi=>?_,λi k' hk'=>?_,λi j oi oj b hi hj hbi hbj=>?_,λi oi b hi hbi=>?_,λb hb=>cC (h.m0 b hb) hsize⟩,
  ⟨hos,htape,hout,hsize,λb hb _=>hold b hb,λi o' b ho' hb'=>?_⟩,hkeep⟩
 .have hi':¬ (i=id\/H.al i):=hi
  have hne':i≠id:=λe=>hi' (.inl e)
  simp only [σ',AHeap.push,hne',if_false]
  exact h.top i (λe=>hi' (.inr e))
 .have hi':i=id\/H.al i:=hi
  simp only [AHeap.push]
  rcases hi' with rfl|hi'
  .split<;>omega
  .have:=h.nxt i hi'
   split<;>omega
 .by_cases hid:i=id
  .simp only [AHeap.push,hid,if_true,bF] at hk'
   subst hk'
   exact ⟨o,by simp [σ',hid],hver,hty,hsz,hesz,xs,hrow,h1,hrep hkeep⟩
  .simp only [AHeap.push,hid,if_false] at hk'
   obtain ⟨o',ho',l⟩:=h.lies i k' hk'
   obtain ⟨xs',h1',h2',h3'⟩:=l.row
   exact ⟨o',hσ _ _ ho',l.ver,l.ty,l.sz,l.esz,xs',h1'.kept hg (by cases o'.val.ownBlock<;>simp),h2',h3'.keep hkeep⟩
 .by_cases hi':i=id<;>by_cases hj':j=id
  .rw [hi',hj']
  .simp only [σ',hi',if_true,bF] at hi
   simp only [σ',hj',if_false] at hj
   subst hi
   have h1:=hb b hbi
   have h2:=(h.lt j oj b hj hbj).1
   omega
  .simp only [σ',hj',if_true,bF] at hj
   simp only [σ',hi',if_false] at hi
   subst hj
   have h1:=hb b hbj
   have h2:=(h.lt i oi b hi hbi).1
   omega
  .simp only [σ',hi',hj',if_false] at hi hj
   exact h.inj i j oi oj b hi hj hbi hbj
 .by_cases hi':i=id
  .simp only [σ',hi',if_true,bF] at hi
   subst hi
   exact ⟨El hrow hbi,λhm=>by have h1:=hb b hbi;have h2:=h.m0 b hm;omega⟩
  .simp only [σ',hi',if_false] at hi
   exact ⟨cC (h.lt i oi b hi hbi).1 hsize,(h.lt i oi b hi hbi).2⟩
 .by_cases hi':i=id
  .simp only [σ',hi',if_true,bF] at ho'
   subst ho'
   exact .inl (hb b hb')
  .simp only [σ',hi',if_false] at ho'
   exact .inr ⟨i,o',ho',hb'⟩
theorem Rel.push {w':World}(h:Rel M0 H σ w)(id:Nat)(hal:¬ H.al id)(hos:w'.os=w.os)(htape:w'.tape=w.tape)(hout:w'.output=w.output)(hsize:w.heap.size<=w'.heap.size)
  (hold:∀ b,b<w.heap.size->w'.heap[b]?=w.heap[b]?) (k:Blk) (o:Ow) (hb:∀ b,o.block=some b->w.heap.size<=b) (hver:o.ver=k.es.length) (hty:o.ty=k.ty) (hsz:o.esz=k.sz)
  (hesz:∀ c∈k.es,c.length=o.esz) (xs:List Value) (hrow:w'.ownsRow 0 k.ty o.esz o.val k.es.length xs) (h1:∀ u∈xs,u.oneCell'=true)
  (hrep:RepL (dA M0 H σ) σ H.al w xs k.es.flatten) :
  let σ':Nat->Option Ow:=λi=>if i=id then some o else σ i
  Rel M0 (H.push id k) σ' w'/\Stp σ w σ' w'/\Keeps (dA M0 H σ) σ H.al w (dA M0 (H.push id k) σ') σ' (H.push id k).al w' :=
 h.pushG id hal hos htape hout hsize hold k o hb hver hty hsz hesz xs hrow h1 λhk=>hrep.keep hk
theorem Rel.put {w':World}(h:Rel M0 H σ w){id:Nat}{k:Blk}{o:Ow}(hk:H.get id=some k)(hfz:k.fz=false)(ho:σ id=some o)
  (k':Blk) (o':Ow) (hg:w.grownBy w' o.block) (hb:∀ b,o'.block=some b->o.block=some b\/w.heap.size<=b)
  (hle:o=o'\/o.ver<o'.ver) (hver:o'.ver=k'.es.length) (hty:o'.ty=k'.ty) (hsz:o'.esz=k'.sz) (hesz:∀ c∈k'.es,c.length=o'.esz)
  (xs:List Value) (hrow:w'.ownsRow 0 k'.ty o'.esz o'.val k'.es.length xs) (h1:∀ u∈xs,u.oneCell'=true)
  (hrep:RepL (dA M0 H σ) σ H.al w xs k'.es.flatten) :
  let σ':Nat->Option Ow:=λi=>if i=id then some o' else σ i
  Rel M0 (H.put id k') σ' w'/\Stp σ w σ' w'/\Keeps (dA M0 H σ) σ H.al w (dA M0 (H.put id k') σ') σ' (H.put id k').al w':=by
 intro σ'
 have hid:H.al id:=bA λhn=>by rw [(h.top id hn).1] at ho;cases ho
 have hmutk:∀ b,o.block=some b->dA M0 H σ b:=λb hb=>.inr ⟨id,k,o,hk,hfz,ho,hb⟩
 have hmut:∀ b,b<w.heap.size->¬ dA M0 H σ b->¬ dA M0 (H.put id k') σ' b:=by
  rintro b hlt hm (hm'|⟨i,ki,oi,hki,hf,hoi,hbi⟩)
  .exact hm (.inl hm')
  .by_cases hi:i=id
   .simp only [σ',hi,if_true,bF] at hoi
    subst hoi
    rcases hb b hbi with h1|h1
    .exact hm (hmutk b h1)
    .omega
   .simp only [σ',hi,if_false] at hoi
    simp only [AHeap.put,hi,if_false] at hki
    exact hm (.inr ⟨i,ki,oi,hki,hf,hoi,hbi⟩)
 have hcell:∀ (ad:Addr) (u:Value),¬ dA M0 H σ ad.block->w.cell? ad=some u->w'.cell? ad=some u:=λad u hm hu =>
  (World.cell?_of_block (hg.block ad.block (World.block_lt_of_cell? w ad hu) (λe=>hm (hmutk _ e.symm)))).trans hu
 have hkeep:Keeps (dA M0 H σ) σ H.al w (dA M0 (H.put id k') σ') σ' (H.put id k').al w':=by
  refine ⟨λad u hm hu=>⟨hmut _ (World.block_lt_of_cell? w ad hu) hm,hcell ad u hm hu⟩,λi oi hi hoi=>?_,λ_ h=>h⟩
  by_cases he:i=id
  .simp only [σ',he,if_true,bF] at hoi
   subst hoi
   exact ⟨o,he ▸ ho,hle⟩
  .simp only [σ',he,if_false] at hoi
   exact ⟨oi,hoi,.inl rfl⟩
 have hoth:∀ i oi,i≠id->σ i=some oi->oi.val.ownBlock=none\/oi.val.ownBlock≠o.block:=λi oi hne hoi=>by
  cases hb':oi.val.ownBlock with
  | none=>exact .inl rfl
  | some b=>exact .inr λe=>hne (h.inj i id oi o b hoi ho hb' e.symm)
 refine ⟨⟨λi hi=>?_,h.nxt,λi ki hki=>?_,λi j oi oj b hi hj hbi hbj=>?_,λi oi b hi hbi=>?_,λb hb=>cC (h.m0 b hb) hg.size⟩,
  ⟨hg.os,hg.tape,hg.output,hg.size,λb hb hn=>hg.block b hb (λe=>hn id o ho e.symm),λi oi b hoi hbi=>?_⟩,hkeep⟩
 .have hi':¬ H.al i:=hi
  have hne:i≠id:=λe=>hi' (e ▸ hid)
  simp only [σ',AHeap.put,hne,if_false]
  exact h.top i hi'
 .by_cases he:i=id
  .simp only [AHeap.put,he,if_true,bF] at hki
   subst hki
   exact ⟨o',by simp [σ',he],hver,hty,hsz,hesz,xs,hrow,h1,hrep.keep hkeep⟩
  .simp only [AHeap.put,he,if_false] at hki
   obtain ⟨oi,hoi,l⟩:=h.lies i ki hki
   obtain ⟨xs',h1',h2',h3'⟩:=l.row
   exact ⟨oi,by simp [σ',he,hoi],l.ver,l.ty,l.sz,l.esz,xs',h1'.kept hg (hoth i oi he hoi),h2',h3'.keep hkeep⟩
 .have key:∀ i oi b,i≠id->σ i=some oi->oi.block=some b->o'.block=some b->False:=λi oi b hne hoi hbi hb'=>by
   rcases hb b hb' with h1|h1
   .exact hne (h.inj i id oi o b hoi ho hbi h1)
   .have:=(h.lt i oi b hoi hbi).1;omega
  by_cases hi':i=id<;>by_cases hj':j=id
  .rw [hi',hj']
  .simp only [σ',hi',if_true,bF] at hi
   simp only [σ',hj',if_false] at hj
   subst hi
   exact (key j oj b hj' hj hbj hbi).elim
  .simp only [σ',hj',if_true,bF] at hj
   simp only [σ',hi',if_false] at hi
   subst hj
   exact (key i oi b hi' hi hbi hbj).elim
  .simp only [σ',hi',hj',if_false] at hi hj
   exact h.inj i j oi oj b hi hj hbi hbj
 .by_cases hi':i=id
  .simp only [σ',hi',if_true,bF] at hi
   subst hi
   refine ⟨El hrow hbi,λhm=>?_⟩
   rcases hb b hbi with h1|h1
   .exact (h.lt id o b ho h1).2 hm
   .have:=h.m0 b hm;omega
  .simp only [σ',hi',if_false] at hi
   exact ⟨cC (h.lt i oi b hi hbi).1 hg.size,(h.lt i oi b hi hbi).2⟩
 .by_cases hi':i=id
  .simp only [σ',hi',if_true,bF] at hoi
   subst hoi
   rcases hb b hbi with h1|h1
   .exact .inr ⟨id,o,ho,h1⟩
   .exact .inl h1
  .simp only [σ',hi',if_false] at hoi
   exact .inr ⟨i,oi,hoi,hbi⟩
end
end Go.Abs
end
section
namespace Go.Abs
/-! ### what is asked of the table of types -/
inductive TK where
 | bad
 | one
 | agg (n:Nat)
 deriving DecidableEq
def tk (P:Program)(t:TypeId):TK :=
 match P.underlying t,P.info? t with
 | some (.struct _),some i=>.agg i.size
 | some (.array _ _),some i=>.agg i.size
 | some _,some i=>if i.size=1 then .one else .bad
 | _,_=>.bad
def p7:Value->D
 | .int k n=>.int k n
 | .bool b=>.bool b
 | .string s=>.str s
 | .slice none 0 0=>.nil
 | .pointer none=>.nilp
 | .nilFunc=>.nilf
 | _=>.junk
def xT (i:TypeInfo):List D:=match i.zero with|some v=>v.cells.toList.map p7|none=>[]
structure SlI where
 e:TypeId
 sz:Nat
 by_:Nat
 z:List D
def sl (P:Program)(t:TypeId):Option SlI :=
 match P.underlying t with
 | some (.slice e)=>match P.info? e with
  | some i=>if 0<i.size/\i.bytes<=4096/\(xT i).length=i.size/\(xT i).all D.cell=true then some ⟨e,i.size,i.bytes,xT i⟩ else none
  | none=>none
 | _=>none
def zd (P:Program)(t:TypeId):Option (List D) :=
 match P.underlying t,P.info? t with
 | some _,some i=>if (xT i).length=i.size/\0<i.size/\(xT i).all D.cell=true then some (xT i) else none
 | _,_=>none
inductive BK where
 | st (l:List (Nat × Nat))
 | ar (sz:Nat)
def bk (P:Program)(t:TypeId):Option BK :=
 match P.underlying t with
 | some (.struct fs)=>(fs.toList.mapM λf=>(P.info? f.type).map λi=>(f.offset,i.size)).map .st
 | some (.array _ e)=>(P.info? e).map λi=>.ar i.size
 | _=>none
def BK.place:BK->Nat->Option (Nat × Nat)
 | .st l,i=>l[i]?
 | .ar sz,i=>some (i * sz,sz)
def Pn (P:Program)(t:TypeId):Option (Nat × Nat) :=
 match P.underlying t with
 | some (.array n e)=>match P.info? e with
  | some i=>some (n,i.size)
  | none=>none
 | _=>none
/-! ### numbers -/
def RH (k:IntKind)(n:Int):Prop:=k.min<=n/\n<=k.max
theorem r7 {k:IntKind}{n:Int}(h:RH k n):k.wrap n=n:=by
 obtain ⟨b,a⟩:=h
 cases k<;>simp [IntKind.min,IntKind.max,IntKind.signed,IntKind.bits] at b a<;>simp [IntKind.wrap,IntKind.signed,IntKind.bits]<;>omega
theorem dD {n:Int}(b : -9223372036854775808<=n)(a:n<=9223372036854775807):RH .i64 n:=by grind [RH, IntKind.min, IntKind.max, IntKind.signed, IntKind.bits]
theorem PV {n:Int}(b:0<=n)(a:n<=18446744073709551615):RH .u64 n:=by grind [RH, IntKind.min, IntKind.max, IntKind.signed, IntKind.bits]
/-! ### splicing cells -/
def r9 (zs:List D)(off:Nat)(cs:List D):List D:=zs.take off++cs++zs.drop (off+cs.length)
def AM (places:Nat->Option (Nat × Nat))(zs:List D):List (Nat × D)->Option (List D)
 | []=>some zs
 | (i,d) :: rest =>
  match places i with
  | none=>none
  | some (off,size)=>if d.cells.length=size/\off+size<=zs.length then AM places (r9 zs off d.cells) rest else none
/-! ### the result of an operation -/
structure AOut where
 cond:Prop
 fact:Prop
 val:D
 heap:AHeap
def eZ (e:Nat->D):Operand->D
 | .tmp t=>e t
 | .const v=>p7 v
 | .func f=>.fn f []
 | .global _=>.junk
def AOut.bad (H:AHeap):AOut:=⟨False,True,.junk,H⟩
def Ik (op:BinOp)(x y:D)(H:AHeap):AOut :=
 match op,x,y with
 | .add,.int k a,.int k' b=>⟨k=k'/\RH k (a+b),True,.int k (a+b),H⟩
 | .sub,.int k a,.int k' b=>⟨k=k'/\RH k (a - b),True,.int k (a - b),H⟩
 | .mul,.int k a,.int k' b=>⟨k=k'/\RH k (a * b),True,.int k (a * b),H⟩
 | .quo,.int k a,.int k' b=>⟨k=k'/\b≠0/\RH k (a.tdiv b),True,.int k (a.tdiv b),H⟩
 | .rem,.int k a,.int k' b=>⟨k=k'/\b≠0,True,.int k (a.tmod b),H⟩
 | .eql,.int k a,.int k' b=>⟨k=k',True,.bool (a==b),H⟩
 | .neq,.int k a,.int k' b=>⟨k=k',True,.bool (a != b),H⟩
 | .lss,.int k a,.int k' b=>⟨k=k',True,.bool (decide (a<b)),H⟩
 | .leq,.int k a,.int k' b=>⟨k=k',True,.bool (decide (a<=b)),H⟩
 | .gtr,.int k a,.int k' b=>⟨k=k',True,.bool (decide (b<a)),H⟩
 | .geq,.int k a,.int k' b=>⟨k=k',True,.bool (decide (b<=a)),H⟩
 | .eql,.str a,.str b=>⟨True,True,.bool (decide (a=b)),H⟩
 | .neq,.str a,.str b=>⟨True,True,.bool (!decide (a=b)),H⟩
 | _,_,_=>AOut.bad H
def H5 (g:TypeId->Option Nat):List Field->Nat->Option Nat
 | [],o=>some o
 | f :: fs,o=>if f.name≠"_"/\f.offset=o then match g f.type with
   | some n=>H5 g fs (o+n)
   | none=>none
  else none
def Re (P:Program):Nat->TypeId->Option Nat
 | 0,_=>none
 | d+1,t=>match P.underlying t with
  | some (.int _)=>some 1
  | some (.struct fs)=>if P.stoodInHeld t=false/\(P.info? t).isSome=true then
    match H5 (Re P d) fs.toList 0 with
    | some n=>if P.cellsOf t=n then some n else none
    | none=>none
   else none
  | _=>none
def HZ (P:Program)(t:TypeId):Option Nat :=
 match P.underlying t with
 | some (.struct fs)=>if P.stoodInHeld t=false/\P.eqGuardType P.depth t=false then H5 (Re P 3) fs.toList 0 else none
 | _=>none
def sW:List D->Option (List Int)
 | []=>some []
 | .int .i64 n :: l=>(sW l).map (n :: ·)
 | _=>none
def Hk (P:Program)(t:TypeId)(op:BinOp)(x y:D)(H:AHeap):AOut :=
 match op,x,y with
 | .eql,.nil,.nil=>⟨(sl P t).isSome=true,True,.bool true,H⟩
 | .eql,.ne,.nil=>⟨(sl P t).isSome=true,True,.bool false,H⟩
 | .eql,.list es,.nil=>⟨(sl P t).isSome=true/\es≠[],True,.bool false,H⟩
 | .neq,.nil,.nil=>⟨(sl P t).isSome=true,True,.bool false,H⟩
 | .neq,.ne,.nil=>⟨(sl P t).isSome=true,True,.bool true,H⟩
 | .neq,.list es,.nil=>⟨(sl P t).isSome=true/\es≠[],True,.bool true,H⟩
 | .eql,.bool a,.bool b=>⟨P.underlying t=some .bool,True,.bool (a==b),H⟩
 | .neq,.bool a,.bool b=>⟨P.underlying t=some .bool,True,.bool (!(a==b)),H⟩
 | .eql,.agg xs,.agg ys=>match sW xs,sW ys with
  | some a,some b=>⟨HZ P t=some a.length/\a.length=b.length,True,.bool (decide (a=b)),H⟩
  | _,_=>AOut.bad H
 | .neq,.agg xs,.agg ys=>match sW xs,sW ys with
  | some a,some b=>⟨HZ P t=some a.length/\a.length=b.length,True,.bool (!decide (a=b)),H⟩
  | _,_=>AOut.bad H
 | .shr,.int k a,.int _ b=>⟨0<=b,True,.int k (a.fdiv (2 ^ (min b.toNat k.bits))),H⟩
 | .and,.int k a,.int k' b=>⟨k=.u64/\k'=.u64/\b=1,True,.int .u64 (a % 2),H⟩
 | _,_,_=>Ik op x y H
def rR (w:Bool)(P:Program)(t:TypeId)(op:BinOp)(x y:D)(H:AHeap):AOut :=
 match w,op,x,y with
 | true,.sub,.int k a,.int k' b=>⟨k=k',True,.int k (k.wrap (a - b)),H⟩
 | _,op,x,y=>Hk P t op x y H
def fK (H:AHeap):D->Option (List D)
 | .adr cs=>some cs
 | .ptr id ver i off=>match H.get id with
  | some k=>if k.es.length=ver then (k.es[i]?).map (·.drop off) else none
  | none=>none
 | _=>none
def nU (P:Program)(t:TypeId)(x:D)(H:AHeap):AOut :=
 match fK H x with
 | none=>AOut.bad H
 | some cs=>match tk P t with
  | .bad=>AOut.bad H
  | .one=>⟨cs≠[],True,cs.headD .junk,H⟩
  | .agg n=>⟨n<=cs.length/\0<n,True,.agg (cs.take n),H⟩
def mC (P:Program)(t:TypeId)(x v:D)(H:AHeap):AOut :=
  match x with
  | .ptr id ver i off=>match H.get id with
    | some k=>match k.es[i]? with
      | some c=>⟨k.fz=false/\k.es.length=ver/\v.cells.length=P.cellsOf t/\(P.info? t).isSome=true/\v.cells.all D.cell=true/\off+v.cells.length<=c.length,True,.junk,
          H.put id { k with es:=k.es.set i (r9 c off v.cells) }⟩
      | none=>AOut.bad H
    | none=>AOut.bad H
  | _=>AOut.bad H
def eJ (x:D)(off:Nat)(H:AHeap):AOut :=
 match x with
 | .adr cs=>⟨True,True,.adr (cs.drop off),H⟩
 | .ptr id ver i o=>match H.get id with
  | some k=>⟨k.es.length=ver,True,.ptr id ver i (o+off),H⟩
  | none=>AOut.bad H
 | _=>AOut.bad H
def iF (P:Program)(t:TypeId)(x:D)(f:Nat)(H:AHeap):AOut :=
 match bk P t with
 | some (.st l)=>match l[f]? with
  | some (off,sz)=>⟨(eJ x off H).cond/\0<sz,(eJ x off H).fact,(eJ x off H).val,(eJ x off H).heap⟩
  | none=>AOut.bad H
 | _=>AOut.bad H
def iE (P:Program)(t:TypeId)(x i:D)(H:AHeap):AOut :=
  match i with
  | .int _ n=>match x with
    | .list es=>match sl P t with
      | some s=>⟨(0<=n/\n<es.length)/\(es[n.toNat]?.getD s.z).length=s.sz,True,.adr (es[n.toNat]?.getD s.z),H⟩
      | none=>AOut.bad H
    | .own id m=>match sl P t,H.get id with
      | some s,some k=>⟨(0<=n/\n<m)/\k.es.length=m/\(k.es[n.toNat]?.getD s.z).length=s.sz,True,.ptr id m n.toNat 0,H⟩
      | _,_=>AOut.bad H
    | _=>match Pn P t with
      | some (len,sz)=>⟨(eJ x (n.toNat * sz) H).cond/\0<=n/\n<len,(eJ x (n.toNat * sz) H).fact,(eJ x (n.toNat * sz) H).val,(eJ x (n.toNat * sz) H).heap⟩
      | none=>AOut.bad H
  | _=>AOut.bad H
def ER (P:Program)(t:TypeId)(x:D)(H:AHeap):AOut :=
  match P.underlying t with
  | some (.slice _)=>match x with
    | .nil=>⟨True,True,.int .i64 0,H⟩
    | .list es=>⟨True,(es.length:Int)<=9223372036854775807,.int .i64 es.length,H⟩
    | .own id n=>match H.get id with
      | some k=>⟨k.es.length=n,(n:Int)<=9223372036854775807,.int .i64 n,H⟩
      | none=>AOut.bad H
    | _=>AOut.bad H
  | some .string=>match x with
    | .str s=>⟨True,True,.int .i64 s.size,H⟩
    | _=>AOut.bad H
  | some (.array n _)=>⟨True,True,.int .i64 n,H⟩
  | _=>AOut.bad H
def pC (H:AHeap):D->Option (List (List D))
 | .nil=>some []
 | .ne=>some []
 | .list es=>some es
 | .own id n=>match H.get id with
  | some k=>if k.es.length=n then some k.es else none
  | none=>none
 | _=>none
def A5 (P:Program)(t:TypeId):Option IntKind:=match P.underlying t with|some (.int k)=>some k|_=>none
def pJ (P:Program)(s:SlI)(t':TypeId)(x y:D)(H:AHeap):AOut :=
 match y,x,A5 P t' with
 | .int _ m,.own id n,some _=>match H.get id with
  | some k=>⟨0<=m/\k.fz=false/\k.ty=s.e/\k.es.length=n/\n+m.toNat<=4294967296/\k.sz=s.sz,True,.own id (n+m.toNat),H.put id { k with es:=k.es++List.replicate m.toNat s.z }⟩
  | none=>AOut.bad H
 | _,_,_=>AOut.bad H
def kH (P:Program)(nid:Nat)(t t':TypeId)(x y:D)(H:AHeap):AOut :=
  match sl P t,pC H y with
  | some s,some ys =>
    match x with
    | .nil=>⟨t=t'/\ys.length<=4294967296/\(∀ c∈ys,c.length=s.sz)/\ys.flatten.all D.cell=true,True,.own nid ys.length,H.push nid ⟨s.e,s.sz,ys,false⟩⟩
    | .own id n=>match H.get id with
      | some k=>⟨t=t'/\k.fz=false/\k.ty=s.e/\k.es.length=n/\n+ys.length<=4294967296/\k.sz=s.sz/\(∀ c∈ys,c.length=s.sz)/\ys.flatten.all D.cell=true,True,
          .own id (n+ys.length),H.put id { k with es:=k.es++ys }⟩
      | none=>AOut.bad H
    | _=>AOut.bad H
  | some s,none=>pJ P s t' x y H
  | _,_=>AOut.bad H
def CK (P:Program)(nid:Nat)(t:TypeId)(l c:D)(H:AHeap):AOut :=
 match sl P t,l,c with
 | some s,.int _ n,.int _ m=>⟨n=m/\0<=n/\n<=4294967296,True,.own nid n.toNat,H.push nid ⟨s.e,s.sz,List.replicate n.toNat s.z,false⟩⟩
 | _,_,_=>AOut.bad H
def Lc (P:Program)(nid:Nat)(m:Bool)(t:TypeId)(x:D)(H:AHeap):AOut :=
 if m then ⟨x.cells.all D.cell=true,True,.ptr nid 1 0 0,H.push nid ⟨t,x.cells.length,[x.cells],false⟩⟩
 else ⟨x.cells.all D.cell=true,True,.adr x.cells,H⟩
def wW (P:Program)(nid:Nat)(m:Bool)(t:TypeId)(H:AHeap):AOut :=
 match zd P t with
 | some z=>if m then ⟨True,True,.ptr nid 1 0 0,H.push nid ⟨t,z.length,[z],false⟩⟩ else ⟨True,True,.adr z,H⟩
 | none=>AOut.bad H
def sZ (P:Program)(t:TypeId)(parts:List (Nat × D))(H:AHeap):AOut :=
 match zd P t,bk P t with
 | some z,some b=>match AM b.place z parts with
  | some cs=>⟨(parts.all λp=>p.2.cells.all D.cell)=true,True,.agg cs,H⟩
  | none=>AOut.bad H
 | _,_=>AOut.bad H
def q7 (sz:Nat):Nat->List D->List (List D)
 | 0,_=>[]
 | n+1,l=>l.take sz :: q7 sz n (l.drop sz)
def iR (P:Program)(nid:Nat)(m:Bool)(t:TypeId)(n:Nat)(parts:List (Nat × D))(H:AHeap):AOut :=
  match sl P t with
  | some s=>match AM (λi=>some (i * s.sz,s.sz)) (List.replicate n s.z).flatten parts with
    | some cs =>
      if m then ⟨n<=1000/\s.sz<=1000/\(parts.all λp=>p.2.cells.all D.cell)=true,True,.own nid n,H.push nid ⟨s.e,s.sz,q7 s.sz n cs,false⟩⟩
      else ⟨n<=1000/\s.sz<=1000/\(parts.all λp=>p.2.cells.all D.cell)=true,True,.list (q7 s.sz n cs),H⟩
    | none=>AOut.bad H
  | none=>AOut.bad H
def S9 (x:Option D)(dflt:Int):Option Int :=
 match x with
 | none=>some dflt
 | some (.int _ n)=>some n
 | _=>none
def qD (P:Program)(t:TypeId)(x:D)(lo hi:Option D)(H:AHeap):AOut :=
 match x with
 | .list es=>match sl P t,S9 lo 0,S9 hi es.length with
  | some s,some l,some h=>⟨0<=l/\l<=h/\h<=es.length/\(es.head?.getD s.z).length=s.sz,True,.list ((es.take h.toNat).drop l.toNat),H⟩
  | _,_,_=>AOut.bad H
 | .own id m=>match sl P t,H.get id,S9 lo 0,S9 hi m with
  | some s,some k,some l,some h=>⟨(0<=l/\l<=h/\h<=m)/\k.es.length=m/\k.sz=s.sz,True,.win id m l.toNat h.toNat,H⟩
  | _,_,_,_=>AOut.bad H
 | .str s=>match P.underlying t,S9 lo 0,S9 hi s.size with
  | some .string,some l,some h=>⟨0<=l/\l<=h/\h<=s.size,True,.str (s.extract l.toNat h.toNat),H⟩
  | _,_,_=>AOut.bad H
 | _=>AOut.bad H
def sY (P:Program)(t:TypeId)(x i:D)(H:AHeap):AOut :=
  match x,i with
  | .str s,.int _ n=>match P.underlying t with
    | some .string=>⟨0<=n/\n<s.size,True,.int .u8 ((s.data[n.toNat]?.getD 0).toNat:Int),H⟩
    | _=>AOut.bad H
  | .agg cs,.int _ n=>match Pn P t,(P.underlying t) with
    | some (len,sz),some (.array _ e)=>match tk P e with
      | .one=>⟨(0<=n/\n<len)/\sz=1/\n.toNat<cs.length,True,cs[n.toNat]?.getD .junk,H⟩
      | _=>AOut.bad H
    | _,_=>AOut.bad H
  | _,_=>AOut.bad H
def mV (P:Program)(src dst:TypeId)(x:D)(H:AHeap):AOut :=
 match x with
 | .int _ n=>match A5 P dst with
  | some k=>⟨(P.underlying src).isSome=true/\RH k n,True,.int k n,H⟩
  | none=>AOut.bad H
 | .str s=>match P.underlying src,P.underlying dst with
  | some .string,some .string=>⟨True,True,.str s,H⟩
  | _,_=>AOut.bad H
 | _=>AOut.bad H
def uQ (c a b:D)(H:AHeap):AOut :=
 match c,a,b with
 | .bool true,.bool a,_=>⟨True,True,.bool a,H⟩
 | .bool true,.opt g (.bool a),_=>⟨g=true,True,.bool a,H⟩
 | .bool false,_,.bool b=>⟨True,True,.bool b,H⟩
 | .bool false,_,.opt g (.bool b)=>⟨g=true,True,.bool b,H⟩
 | _,_,_=>AOut.bad H
def zN (c a b:D)(H:AHeap):AOut :=
 match c,a,b with
 | .bool c,.bool a,.bool b=>⟨True,True,.bool (if c then a else b),H⟩
 | .bool c,.bool a,.opt g (.bool b)=>⟨c=false->g=true,True,.bool (if c then a else b),H⟩
 | .bool c,.opt g (.bool a),.bool b=>⟨c=true->g=true,True,.bool (if c then a else b),H⟩
 | .bool c,.opt g (.bool a),.opt g' (.bool b)=>⟨(c=true->g=true)/\(c=false->g'=true),True,.bool (if c then a else b),H⟩
 | c,a,b=>uQ c a b H
def CJ (mx:Bool)(x y:D)(H:AHeap):AOut :=
 match x,y with
 | .int k a,.int k' b=>⟨k=k',True,.int k (if mx then (if a<b then b else a) else (if b<a then b else a)),H⟩
 | _,_=>AOut.bad H
def jI (x:D)(H:AHeap):AOut :=
 match x with
 | .adr cs=>⟨True,True,.adr cs,H⟩
 | .ptr id ver i o=>match H.get id with
  | some k=>⟨k.es.length=ver,True,.ptr id ver i o,H⟩
  | none=>AOut.bad H
 | _=>AOut.bad H
def S1 (op:UnOp)(x:D)(H:AHeap):AOut :=
 match op,x with
 | .not,.bool b=>⟨True,True,.bool (!b),H⟩
 | .neg,.int k n=>⟨RH k (0 - n),True,.int k (0 - n),H⟩
 | _,_=>AOut.bad H
def mU (x:D)(i:Nat)(H:AHeap):AOut :=
 match x with
 | .tup vs=>⟨i<vs.length,True,vs[i]?.getD .junk,H⟩
 | _=>AOut.bad H
def DB (P:Program)(nid:Nat)(m:Bool)(t:TypeId)(H:AHeap):AOut :=
 if m then match sl P t with
  | some s=>⟨True,True,.own nid 0,H.push nid ⟨s.e,s.sz,[],false⟩⟩
  | none=>AOut.bad H
 else ⟨True,True,.nil,H⟩
def AHeap.frz (H:AHeap)(id:Nat):AHeap :=
 match H.get id with
 | some k=>H.put id { k with fz:=true }
 | none=>H
def fJ:List Nat->AHeap->AHeap
 | [],H=>H
 | i :: l,H=>fJ l (H.frz i)
def fG (H:AHeap)(d:D):D :=
 match d with
 | .win id ver lo hi=>match H.get id with
  | some k=>if k.es.length=ver then .list ((k.es.take hi).drop lo) else d
  | none=>d
 | .own id n=>match H.get id with
  | some k=>if k.es.length=n then .list k.es else d
  | none=>d
 | d=>d
def iM (H:AHeap):D->D
 | .agg cs=>.agg (cs.map (fG H))
 | d=>fG H d
def lC:D->List Nat
 | .own id _=>[id]
 | .win id _ _ _=>[id]
 | _=>[]
def dV:D->List Nat
 | .agg cs=>cs.flatMap lC
 | d=>lC d
def jB:Operand->Bool
 | .const (.slice none 0 0)=>true
 | _=>false
def De (md:Nat->Bool):Option Tmp->Bool
 | some d=>md d
 | none=>false
def uR (P:Program)(t:TypeId)(x:D)(H:AHeap):AOut :=
 match x with
 | .win id ver lo hi=>match sl P t,H.get id with
  | some s,some k=>⟨k.fz=false/\k.es.length=ver/\k.ty=s.e/\k.sz=s.sz,True,.tup [],H.put id { k with es:=k.es.take lo++List.replicate (hi - lo) s.z++k.es.drop hi }⟩
  | _,_=>AOut.bad H
 | _=>AOut.bad H
def vU (P:Program)(nid:Nat)(b:Builtin)(args:List D)(ts:List TypeId)(H:AHeap):AOut :=
 match b,args,ts with
 | .len,[x],[t]=>ER P t x H
 | .append,[x,y],[t,t']=>kH P nid t t' x y H
 | .clear,[x],[t]=>uR P t x H
 | .min,[x,y],_=>CJ false x y H
 | .max,[x,y],_=>CJ true x y H
 | _,_,_=>AOut.bad H
def Qf (md:Nat->Bool)(H:AHeap)(d:D):D:=if md 1000001 then d else iM H d
def KU (md:Nat->Bool)(d:D):List Nat:=if md 1000001 then [] else dV d
theorem T8 {md:Nat->Bool}{d:D}{i:Nat}(h:i∈KU md d):i∈dV d:=by
 unfold KU at h;split at h
 .cases h
 .exact h
def EP (P:Program)(nid:Nat)(md:Nat->Bool)(e:Nat->D)(o:Oper)(H:AHeap):AOut :=
 match o.op with
 | .move x=>if jB x then DB P nid (De md o.dst) o.type H else ⟨True,True,eZ e x,H⟩
 | .assign x=>if jB x then DB P nid (De md o.dst) o.type H else ⟨True,True,eZ e x,H⟩
 | .pick c a b=>zN (eZ e c) (eZ e a) (eZ e b) H
 | .alloc t=>wW P nid (De md o.dst) t H
 | .box t x=>Lc P nid (De md o.dst) t (eZ e x) H
 | .build t ps=>sZ P t (ps.toList.map λp=>(p.1,eZ e p.2)) H
 | .buildSlice t n ps=>iR P nid (De md o.dst) t n (ps.toList.map λp=>(p.1,Qf md H (eZ e p.2))) (fJ (ps.toList.flatMap λp=>KU md (eZ e p.2)) H)
 | .load t a=>nU P t (eZ e a) H
 | .store t a v=>if md 1000000 then mC P t (eZ e a) (iM H (eZ e v)) (fJ (dV (eZ e v)) H) else mC P t (eZ e a) (eZ e v) H
 | .nilCheck x=>jI (eZ e x) H
 | .binOp op t x y _=>rR (md 2000000) P t op (eZ e x) (eZ e y) H
 | .unOp op _ x=>S1 op (eZ e x) H
 | .convert s d x=>mV P s d (eZ e x) H
 | .makeFunc (.func f) first caps=>if first.isEmpty then ⟨True,True,.fn f (caps.toList.map (eZ e)),H⟩ else AOut.bad H
 | .makeSlice t l c=>CK P nid t (eZ e l) (eZ e c) H
 | .slice t x lo hi none=>qD P t (eZ e x) (lo.map (eZ e)) (hi.map (eZ e)) H
 | .fieldAddr t x f=>iF P t (eZ e x) f H
 | .indexAddr t x i=>iE P t (eZ e x) (eZ e i) H
 | .index t x i=>sY P t (eZ e x) (eZ e i) H
 | .extract t i=>mU (eZ e t) i H
 | .call { callee:=.builtin b,args:=args,argTypes:=ts }=>vU P nid b (args.toList.map (eZ e)) ts.toList H
 | _=>AOut.bad H
def gQ (e:Nat->D)(o:Oper):Option (FuncId × List D) :=
 match o.op with
 | .call { callee:=.value f,args:=args,argTypes:=_ }=>match eZ e f with
  | .fn g caps=>some (g,args.toList.map (eZ e)++caps)
  | _=>none
 | _=>none
end Go.Abs
end
section
namespace Go.Abs
def OpS (P:Program)(x:Sem Value)(M0:Nat->Prop)(H:AHeap)(σ:Nat->Option Ow)(w:World)(d:D)(H':AHeap):Prop :=
 ∃ v w' σ',x.run P w=.ok v w'/\Rel M0 H' σ' w'/\RepV (dA M0 H' σ') σ' H'.al w' v d/\Stp σ w σ' w'/\Keeps (dA M0 H σ) σ H.al w (dA M0 H' σ') σ' H'.al w'
section
variable {P:Program} {M0:Nat→Prop} {H:AHeap} {σ:Nat→Option Ow} {w:World}
theorem OpS.pure {x:Sem Value}{v:Value}{d:D}(hR:Rel M0 H σ w)(hx:x.run P w=.ok v w)(hv:RepV (dA M0 H σ) σ H.al w v d):OpS P x M0 H σ w d H :=
 ⟨v,w,σ,hx,hR,hv,.refl _ _,.refl _ _ _ _⟩
theorem f5 (a:BinOp)(t:TypeId)(x y:Operand)(k:IntKind)(n:Int)(v:Value):eqGuard a t x y (.int k n) v=(Pure.pure ():Sem Unit):=by cases a<;>rfl
theorem Ec (a:BinOp)(t:TypeId)(x y:Operand)(s:ByteArray)(v:Value):eqGuard a t x y (.string s) v=(Pure.pure ():Sem Unit):=by cases a<;>rfl
theorem Fn (a b:ByteArray):(a.toList==b.toList)=decide (a=b):=by
 rw [aR]
 simp only [beq_iff_eq,decide_eq_true_eq]
 constructor
 .intro h
  have c:=congrArg List.toArray h
  rw [ByteArray.toList_eq,ByteArray.toList_eq] at c
  cases a;cases b;simp at c;subst c;rfl
 grind
theorem Rr {d:BinOp}{t:TypeId}{ox oy:Operand}{g f:Value}{x y:D}(b:Rel M0 H σ w)
  (j:RepV (dA M0 H σ) σ H.al w g x) (i:RepV (dA M0 H σ) σ H.al w f y) (a:(Ik d x y H).cond) :
  (Ik d x y H).fact/\OpS P (do eqGuard d t ox oy g f;binOp d t g f) M0 H σ w (Ik d x y H).val (Ik d x y H).heap:=by
 unfold Ik at *
 split at a<;>(try (exact a.elim))<;>refine ⟨trivial,?_⟩<;>cases j<;>cases i
 .obtain ⟨rfl,c⟩:=a
  exact .pure b (by simp [f5,binOp,Op.intArith,r7 c]) (.int _ _)
 .obtain ⟨rfl,c⟩:=a
  exact .pure b (by simp [f5,binOp,Op.intArith,r7 c]) (.int _ _)
 .obtain ⟨rfl,c⟩:=a
  exact .pure b (by simp [f5,binOp,Op.intArith,r7 c]) (.int _ _)
 .obtain ⟨rfl,h,c⟩:=a
  exact .pure b (by simp [f5,binOp,Op.intDiv,h,r7 c]) (.int _ _)
 .obtain ⟨rfl,h⟩:=a
  exact .pure b (by simp [f5,binOp,Op.intDiv,h]) (.int _ _)
 .obtain rfl:=a
  exact .pure b (by simp [f5,binOp,Op.intCmp]) (.bool _)
 .obtain rfl:=a
  exact .pure b (by simp [f5,binOp,Op.intCmp]) (.bool _)
 .obtain rfl:=a
  exact .pure b (by simp [f5,binOp,Op.intCmp]) (.bool _)
 .obtain rfl:=a
  exact .pure b (by simp [f5,binOp,Op.intCmp]) (.bool _)
 .obtain rfl:=a
  exact .pure b (by simp [f5,binOp,Op.intCmp]) (.bool _)
 .obtain rfl:=a
  exact .pure b (by simp [f5,binOp,Op.intCmp]) (.bool _)
 .exact .pure b (by simp [Ec,binOp,Op.stringOp,Fn]) (.bool _)
 .exact .pure b (by simp [Ec,binOp,Op.stringOp,Fn]) (.bool _)
theorem uW {P:Program}{t:TypeId}(h:(sl P t).isSome=true):∃ e,P.underlying t=some (.slice e):=by
 unfold sl at h
 grind
theorem z7 {t e:TypeId}(b:P.underlying t=some (.slice e))(a:Option Addr)(n c:Nat):(Op.equal t (.slice a n c) (.slice none 0 0)).run P w=.ok a.isNone w:=by
 have h:∀ d,(Op.equalIn (d+1) t (.slice a n c) (.slice none 0 0)).run P w=.ok a.isNone w:=λd=>by
  cases a<;>simp [Op.equalIn,run_underlying b]
 exact h 9999
theorem P5 {t:TypeId}(c:P.underlying t=some .bool)(a b:Bool):(Op.equal t (.bool a) (.bool b)).run P w=.ok (a==b) w:=by
 have h:∀ d,(Op.equalIn (d+1) t (.bool a) (.bool b)).run P w=.ok (a==b) w:=λd=>by
  simp [Op.equalIn,run_underlying c]
 exact h 9999
theorem NI (a:Int):IntKind.u64.wrap (((a % 2 ^ IntKind.u64.bits).toNat &&& 1 % 2 ^ IntKind.u64.bits:Nat):Int)=a % 2:=by
 have h:(((a % 2 ^ 64).toNat &&& 1 % 2 ^ 64:Nat):Int)=a % 2:=by
  grind
 show IntKind.u64.wrap (((a % 2 ^ 64).toNat &&& 1 % 2 ^ 64:Nat):Int)=a % 2
 rw [h]
 exact r7 (PV aD aD)
theorem Mt {t:TypeId}{k:IntKind}(c:P.underlying t=some (.int k))(xs:Array Value)(i:Nat)(v:Value)(b:xs[i]?=some v):(part t xs i).run P w=.ok v w:=by
 simp [part,isAgg,run_underlying c,b]
theorem Jc {t:TypeId}{n:Nat}(h:HZ P t=some n):∃ fs:Array Field,P.underlying t=some (.struct fs)/\P.stoodInHeld t=false/\P.eqGuardType P.depth t=false/\H5 (Re P 3) fs.toList 0=some n:=by grind [HZ]
theorem PU {g:TypeId->Option Nat}:∀ (fs:List Field) (o n:Nat),H5 g fs o=some n->o<=n
 | [],o,n,h=>by simp only [H5,bF] at h;omega
 | f :: fs,o,n,h=>by
  unfold H5 at h
  split at h
  .split at h
   .have:=PU fs _ _ h;omega
   .cases h
  .cases h
def S6 (P:Program)(w:World)(e:Nat)(t:TypeId)(n:Nat):Prop :=
 ∀ (xs ys:Array Value) (o:Nat) (a b:List Int),a.length=n->b.length=n ->
  (∀ (j:Nat) (m:Int),a[j]?=some m->xs[o+j]?=some (.int .i64 m))->(∀ (j:Nat) (m:Int),b[j]?=some m->ys[o+j]?=some (.int .i64 m)) ->
  ∃ x y,(part t xs o).run P w=.ok x w/\(part t ys o).run P w=.ok y w/\(Op.equalIn e t x y).run P w=.ok (decide (a=b)) w
theorem rO {g:TypeId->Option Nat}{e:Nat}(hg:∀ t n,g t=some n->S6 P w e t n)(xs ys:Array Value):∀ (fs:List Field) (o n:Nat) (a b:List Int),H5 g fs o=some n->o+a.length=n->o+b.length=n ->
  (∀ (j:Nat) (m:Int),a[j]?=some m->xs[o+j]?=some (.int .i64 m))->(∀ (j:Nat) (m:Int),b[j]?=some m->ys[o+j]?=some (.int .i64 m)) ->
  (Op.eqFields e xs ys fs).run P w=.ok (decide (a=b)) w
 | [],o,n,a,b,h,ha,hb,_,_=>by
  simp only [H5,bF] at h
  rw [bP (aD:a.length=0),bP (aD:b.length=0)]
  simp [Op.eqFields]
 | f :: fs,o,n,a,b,h,ha,hb,hx,hy=>by
  unfold H5 at h
  split at h
  .rename_i hf
   obtain ⟨h1,h2⟩:=hf
   split at h
   .rename_i k hk
    have hle:=PU fs _ _ h
    obtain ⟨x,y,px,py,pe⟩:=hg _ _ hk xs ys o (a.take k) (b.take k) (by rw [c5];omega) (by rw [c5];omega)
     (λj m hm=>hx j m (by rw [b5] at hm;split at hm;exact hm;cases hm)) (λj m hm=>hy j m (by rw [b5] at hm;split at hm;exact hm;cases hm))
    have ih:=rO hg xs ys fs (o+k) n (a.drop k) (b.drop k) h (by rw [gG];omega) (by rw [gG];omega)
     (λj m hm=>by rw [AQ];exact hx (k+j) m (by rw [cD] at hm;exact hm)) (λj m hm=>by rw [AQ];exact hy (k+j) m (by rw [cD] at hm;exact hm))
    have hab:(a=b)↔(a.take k=b.take k/\a.drop k=b.drop k):=by
     constructor
     .rintro rfl;exact ⟨rfl,rfl⟩
     .rintro ⟨q1,q2⟩;rw [<- List.take_append_drop k a,<- List.take_append_drop k b,q1,q2]
    rw [<- h2] at px py
    simp only [Op.eqFields,if_pos h1,Sem.run_bind,px,py,Result.andThen_ok,pe]
    by_cases he:a.take k=b.take k
    .simp [he,ih,hab]
    .simp [he,hab]
   .cases h
  .cases h
theorem Dm:∀ (d:Nat) (t:TypeId) (n:Nat),Re P d t=some n->∀ e,d<=e->S6 P w e t n
 | 0,t,n,h,e,he=>by simp [Re] at h
 | d+1,t,n,h,e,he=>by
  obtain ⟨e,rfl⟩:∃ e',e=e'+1:=⟨e - 1,aD⟩
  unfold Re at h
  split at h
  .rename_i k hu
   simp only [bF] at h
   subst h
   intro xs ys o a b ha hb hx hy
   match a,b,ha,hb with
   | [a0],[b0],_,_ =>
    refine ⟨_,_,Mt hu xs o _ (hx 0 a0 rfl),Mt hu ys o _ (hy 0 b0 rfl),?_⟩
    rw [run_equalIn_int w e t .i64 k a0 b0 hu]
    by_cases q:a0=b0<;>simp [q]
  .rename_i fs hu
   split at h
   .rename_i hc
    obtain ⟨hs,hi⟩:=hc
    split at h
    .rename_i m hm
     split at h
     .rename_i hsz
      simp only [bF] at h
      subst h
      obtain ⟨i,hi⟩:=kZ.1 hi
      intro xs ys o a b ha hb hx hy
      have hpart:∀ zs:Array Value,(part t zs o).run P w=.ok (.agg (zs.extract o (o+m))) w:=λzs=>by
       simp [part,isAgg,run_underlying hu,run_sizeOf (w:=w) hi,hsz]
      have hget:∀ (zs:Array Value) (c:List Int),c.length=m->(∀ (j:Nat) (v:Int),c[j]?=some v->zs[o+j]?=some (.int .i64 v))->∀ (j:Nat) (v:Int),c[j]?=some v->(zs.extract o (o+m))[0+j]?=some (.int .i64 v):=λzs c hc hz j v hv=>by
       have hj:j<c.length:=(aM.1 hv).1
       have h1:=hz j v hv
       have h2:o+j<zs.size:=(rA.1 h1).1
       rw [Array.getElem?_extract,eM,if_pos aD]
       exact h1
      refine ⟨_,_,hpart xs,hpart ys,?_⟩
      have hfo:P.fieldsOf t=fs:=by simp [Program.fieldsOf,hu]
      rw [run_equalIn_struct w e t _ _ (by rw [hfo];exact hu) hs,hfo]
      exact rO (λt' n' h'=>Dm d t' n' h' e aD) _ _ fs.toList 0 m a b hm aD aD (hget xs a ha hx) (hget ys b hb hy)
     .cases h
    .cases h
   .cases h
  .cases h
theorem sV {M:Nat->Prop}{N:Nat->Prop}:∀ (ds:List D) (a:List Int) (vs:List Value),sW ds=some a->vs.length=ds.length->(∀ (j:Nat) (u:Value) (d:D),vs[j]?=some u->ds[j]?=some d->RepV M σ N w u d) ->
  a.length=vs.length/\∀ (j:Nat) (n:Int),a[j]?=some n->vs[j]?=some (.int .i64 n)
 | [],a,vs,h,hl,_=>by
  simp only [sW,bF] at h
  subst h
  refine ⟨hl.symm,λj n hn=>by simp at hn⟩
 | d :: ds,a,vs,h,hl,hr=>by
  cases vs with
  | nil=>cases hl
  | cons v vs =>
   cases d<;>try (simp [sW] at h;done)
   rename_i k n
   cases k<;>try (simp [sW] at h;done)
   simp only [sW,bR] at h
   obtain ⟨a',h1,rfl⟩:=h
   have hv:=hr 0 v _ rfl rfl
   cases hv
   obtain ⟨i1,i2⟩:=sV ds a' vs h1 (bX hl) (λj u d hu hd=>hr (j+1) u d (bX hu) (bX hd))
   refine ⟨by simp [i1],λj m hm=>?_⟩
   cases j with
   | zero=>simp at hm;subst hm;rfl
   | succ j=>simpa using i2 j m (bX hm)
theorem SB {o:BinOp}{t:TypeId}{ox oy:Operand}{v u:Value}{x y:D}(i:Rel M0 H σ w)
  (h:RepV (dA M0 H σ) σ H.al w v x) (g:RepV (dA M0 H σ) σ H.al w u y) (d:(Hk P t o x y H).cond) :
  (Hk P t o x y H).fact/\OpS P (do eqGuard o t ox oy v u;binOp o t v u) M0 H σ w (Hk P t o x y H).val (Hk P t o x y H).heap:=by
 unfold Hk at *
 split at d
 .obtain ⟨e,f⟩:=uW d
  cases h;cases g
  exact ⟨trivial,.pure i (by simp [eqGuard,binOp,z7 f]) (.bool _)⟩
 .obtain ⟨e,f⟩:=uW d
  cases h;cases g
  exact ⟨trivial,.pure i (by simp [eqGuard,binOp,z7 f]) (.bool _)⟩
 .obtain ⟨e,f⟩:=uW d.1
  cases g
  cases h
  .exact absurd rfl d.2
  .exact ⟨trivial,.pure i (by simp [eqGuard,binOp,z7 f]) (.bool _)⟩
 .obtain ⟨e,f⟩:=uW d
  cases h;cases g
  exact ⟨trivial,.pure i (by simp [eqGuard,binOp,z7 f]) (.bool _)⟩
 .obtain ⟨e,f⟩:=uW d
  cases h;cases g
  exact ⟨trivial,.pure i (by simp [eqGuard,binOp,z7 f]) (.bool _)⟩
 .obtain ⟨e,f⟩:=uW d.1
  cases g
  cases h
  .exact absurd rfl d.2
  .exact ⟨trivial,.pure i (by simp [eqGuard,binOp,z7 f]) (.bool _)⟩
 .cases h;cases g
  exact ⟨trivial,.pure i (by simp [eqGuard,binOp,P5 d]) (.bool _)⟩
 .cases h;cases g
  exact ⟨trivial,.pure i (by simp [eqGuard,binOp,P5 d]) (.bool _)⟩
 .split at d
  .rename_i a b L K
   obtain ⟨M,Q⟩:=d
   obtain ⟨q,f,E,F,J⟩:=Jc M
   have m:P.fieldsOf t=q:=by simp [Program.fieldsOf,f]
   cases h;cases g
   rename_i p C I A k B G z
   obtain ⟨O,s⟩:=sV _ a p L (by assumption) (by assumption)
   obtain ⟨N,r⟩:=sV _ b k K (by assumption) (by assumption)
   refine ⟨trivial,.pure i ?_ (.bool _)⟩
   rw [Sem.run_bind,run_eqGuard_agg w .eql t ox oy _ _ F]
   simp only [Result.andThen_ok]
   have l:=rO (P:=P) (w:=w) (e:=9999) (λt' n' h'=>Dm 3 t' n' h' 9999 aD) p.toArray k.toArray q.toList 0 a.length a b J aD aD (λj n hn=>by simpa using s j n hn) (λj n hn=>by simpa using r j n hn)
   rw [run_eql_struct,run_equalIn_struct w 9999 t _ _ (by rw [m];exact f) E,m,l]
   rfl
  .exact d.elim
 .split at d
  .rename_i a b L K
   obtain ⟨M,Q⟩:=d
   obtain ⟨q,f,E,F,J⟩:=Jc M
   have m:P.fieldsOf t=q:=by simp [Program.fieldsOf,f]
   cases h;cases g
   rename_i p C I A k B G z
   obtain ⟨O,s⟩:=sV _ a p L (by assumption) (by assumption)
   obtain ⟨N,r⟩:=sV _ b k K (by assumption) (by assumption)
   refine ⟨trivial,.pure i ?_ (.bool _)⟩
   rw [Sem.run_bind,run_eqGuard_agg w .neq t ox oy _ _ F]
   simp only [Result.andThen_ok]
   have l:=rO (P:=P) (w:=w) (e:=9999) (λt' n' h'=>Dm 3 t' n' h' 9999 aD) p.toArray k.toArray q.toList 0 a.length a b J aD aD (λj n hn=>by simpa using s j n hn) (λj n hn=>by simpa using r j n hn)
   rw [run_neq_struct,run_equalIn_struct w 9999 t _ _ (by rw [m];exact f) E,m,l]
   rfl
  .exact d.elim
 .cases h;cases g
  exact ⟨trivial,.pure i (by simp [f5,binOp,Op.shift,show ¬ (_<(0:Int)) from Int.not_lt.2 d]) (.int _ _)⟩
 .obtain ⟨rfl,rfl,rfl⟩:=d
  cases h;cases g
  exact ⟨trivial,.pure i (by simp [f5,binOp,Op.intBits,NI]) (.int _ _)⟩
 .exact Rr i h g d
theorem Rn {c:Bool}{a:BinOp}{t:TypeId}{ox oy:Operand}{e d:Value}{x y:D}(i:Rel M0 H σ w)
  (h:RepV (dA M0 H σ) σ H.al w e x) (g:RepV (dA M0 H σ) σ H.al w d y) (f:(rR c P t a x y H).cond) :
  (rR c P t a x y H).fact/\OpS P (do eqGuard a t ox oy e d;binOp a t e d) M0 H σ w (rR c P t a x y H).val (rR c P t a x y H).heap:=by
 unfold rR at *
 split at f
 .cases h;cases g
  obtain rfl:=f
  exact ⟨trivial,.pure i (by simp [f5,binOp,Op.intArith]) (.int _ _)⟩
 .exact SB i h g f
theorem mP {α:Type}{n:Nat}:∀ (es:List (List α)) (i:Nat) (c:List α),(∀ c∈es,c.length=n)->es[i]?=some c->∀ j,j<n->es.flatten[i * n+j]?=c[j]?
 | [],i,c,_,h,j,hj=>by simp at h
 | e :: es,0,c,hl,h,j,hj=>by
  simp at h;subst h
  have:=hl e bW
  simp only [eU,Nat.zero_mul,eM]
  rw [aS aD]
 | e :: es,i+1,c,hl,h,j,hj=>by
  have he:=hl e bW
  simp at h
  have ih:=mP es i c (λc hc=>hl c (by simp [hc])) h j hj
  simp only [eU]
  rw [aZ (by rw [he,Nat.add_mul];omega),he,<- ih]
  congr 1
  rw [Nat.add_mul];omega
theorem lU {α:Type}{n:Nat}:∀ (es:List (List α)),(∀ c∈es,c.length=n)->es.flatten.length=es.length * n
 | [],_=>by simp
 | e :: es,hl=>by
  simp only [eU,aL,fH,lU es (λc hc=>hl c (by simp [hc])),hl e bW,Nat.add_mul]
  omega
theorem jE (b o j:Nat):(⟨b,o,none⟩:Addr).add j=⟨b,o+j,none⟩:=by unfold Addr.add;split<;>simp_all
theorem CG (a:Addr)(i j:Nat):(a.add i).add j=a.add (i+j):=by
 unfold Addr.add
 grind
theorem K8 {M:Nat->Prop}{N:Nat->Prop}{v:Value}{cs:List D}(h:RepV M σ N w v (.adr cs)) :
  ∃ ad xs,v=.pointer (some ad)/\RepL M σ N w xs cs/\(∀ u∈xs,u.oneCell'=true)/\∀ (j:Nat) (u:Value),xs[j]?=some u->¬ M ad.block/\w.cell? (ad.add j)=some u:=by
 generalize e:D.adr cs=d at h
 cases h<;>cases e
 rename_i ad xs f a c b
 exact ⟨ad,xs,rfl,⟨c,b⟩,f,a⟩
theorem UL {t:TypeId}{n:Nat}(h:tk P t=.agg n):(isAgg t).run P w=.ok true w/\∃ i,P.info? t=some i/\i.size=n:=by
 unfold tk at h
 cases b:P.underlying t with
 | none=>simp [b] at h
 | some d =>
  cases c:P.info? t with
  | none=>cases d<;>simp [b,c] at h
  | some i =>
   cases d<;>simp [b,c] at h<;>first
    | (split at h<;>cases h;done)
    | exact ⟨by simp [isAgg,run_underlying b],i,rfl,h⟩
theorem RT {t:TypeId}(h:tk P t=.one):(isAgg t).run P w=.ok false w:=by
 unfold tk at h
 cases b:P.underlying t with
 | none=>simp [b] at h
 | some d =>
  cases c:P.info? t with
  | none=>cases d<;>simp [b,c] at h
  | some i=>cases d<;>simp [b,c] at h<;>simp [isAgg,run_underlying b]
theorem qL {v:Value}{x:D}{cs:List D}(K:Rel M0 H σ w)(C:RepV (dA M0 H σ) σ H.al w v x)(m:fK H x=some cs)(I:cs≠[]) :
  ∃ ad xs,v=.pointer (some ad)/\RepL (dA M0 H σ) σ H.al w xs cs/\(∀ u∈xs,u.oneCell'=true)/\∀ j u,xs[j]?=some u->w.cell? (ad.add j)=some u:=by
 cases x<;>simp only [fK] at m<;>try (cases m;done)
 case adr ds =>
  cases m
  obtain ⟨ad,xs,rfl,e,L,B⟩:=K8 C
  grind
 case ptr id ver i off =>
  cases C
  rename_i O L h
  cases y:H.get id with
  | none=>simp [y] at m
  | some k =>
   simp only [y] at m
   split at m
   .rename_i E
    cases f:k.es[i]? with
    | none=>simp [f] at m
    | some c =>
     simp [f] at m
     subst m
     obtain ⟨o,G,l⟩:=K.lies id k y
     obtain ⟨xs,p,s,e⟩:=l.row
     have t:i<k.es.length:=(aM.1 f).1
     have A:c.length=o.esz:=l.esz c (aK f)
     rcases h o G with P|⟨M,b,J,rfl⟩
     .have:=l.ver;omega
     .have F:off<c.length:=by
       simp_all
      have z:=lU k.es l.esz
      have r:xs.length=k.es.length * o.esz:=e.len.trans z
      have q:i * o.esz+o.esz<=xs.length:=by
       rw [r]
       have:(i+1) * o.esz<=k.es.length * o.esz:=fD _ t
       rw [Nat.add_mul] at this;omega
      refine ⟨_,(xs.drop (i * o.esz+off)).take (o.esz - off),rfl,⟨?_,λj u d a hd=>?_⟩,λu a=>s u (fE (dB a)),λj u a=>?_⟩
      .simp only [c5,gG];omega
      .rw [b5] at a
       split at a
       .rename_i N
        rw [cD] at a hd
        refine e.rep (i * o.esz+off+j) u d a ?_
        rw [AQ,mP k.es i c l.esz f (off+j) aD,hd]
       .cases a
      .rw [b5] at a
       split at a
       .rw [cD] at a
        have:=p.cells (g:=b) J _ u a
        rw [jE] at this ⊢
        simpa [AQ] using this
       .cases a
   .cases m
theorem MI {t:TypeId}{A:Value}{x:D}(G:Rel M0 H σ w)(C:RepV (dA M0 H σ) σ H.al w A x)(m:(nU P t x H).cond) :
  (nU P t x H).fact/\(nU P t x H).heap=H/\∃ v,(Instr.loadAt t A).run P w=.ok v w/\RepV (dA M0 H σ) σ H.al w v (nU P t x H).val:=by
 unfold nU at *
 cases l:fK H x with
 | none=>simp [l,AOut.bad] at m
 | some K =>
  simp only [l] at m ⊢
  cases g:tk P t with
  | bad=>simp [g,AOut.bad] at m
  | agg n =>
   rw [g] at m
   obtain ⟨s,E⟩:=m
   obtain ⟨z,i,M,y⟩:=UL (w:=w) g
   obtain ⟨r,o,rfl,a,I,b⟩:=qL G C l (by intro h;subst h;simp at s;omega)
   refine ⟨trivial,rfl,?_⟩
   have F:(o.take n).length=n:=by rw [c5,a.len];omega
   have k:=run_loadCells_list (P:=P) (w:=w) r (o.take n) (λj u f=>by
    rw [b5] at f
    split at f
    .exact b j u f
    .cases f)
   rw [F] at k
   refine ⟨.agg (o.take n).toArray,?_,.agg _ _ ?_ (λu f=>I u (dB f)) λj u d f hd=>?_⟩
   .simp [Instr.loadAt,Instr.sureAddr,loadVar,z,sizeOf,typeInfo,M,y,k]
   .rw [F,c5];omega
   .rw [b5] at f hd
    split at f
    .rename_i L
     rw [if_pos L] at hd
     exact a.rep j u d f hd
    .cases f
  | one =>
   rw [g] at m
   obtain ⟨r,o,rfl,a,I,b⟩:=qL G C l m
   refine ⟨trivial,rfl,?_⟩
   have z:=RT (w:=w) g
   cases K with
   | nil=>exact absurd rfl m
   | cons d K =>
    cases o with
    | nil=>have:=a.len;simp at this
    | cons u o =>
     have J:=b 0 u rfl
     rw [show r.add 0=r by simp [Addr.add]] at J
     exact ⟨u,by simp [Instr.loadAt,Instr.sureAddr,loadVar,z,J],a.rep 0 u d rfl rfl⟩
theorem OJ {t:TypeId}{a:Value}{x:D}(b:Rel M0 H σ w)(c:RepV (dA M0 H σ) σ H.al w a x)(d:(nU P t x H).cond) :
  (nU P t x H).fact/\OpS P (Instr.loadAt t a) M0 H σ w (nU P t x H).val (nU P t x H).heap:=by
 obtain ⟨h,g,v,f,e⟩:=MI (P:=P) b c d
 rw [g]
 exact ⟨h,.pure b f e⟩
end
end Go.Abs
end
