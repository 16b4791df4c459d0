/- A block's number against the next free one. · The abstractio -/
import Derived.Orders
import Derived.Laws.AppendOwn
import Derived.Laws.OwnMore
import Derived.Below
import Derived.Laws.StructEq
import Derived.WalkKit
import Derived.ChangeKeysEq
set_option linter.unusedVariables false
set_option linter.unusedSimpArgs false
section
namespace Go.Abs
abbrev Yb:=List (List Int)
abbrev V2:=List Int
theorem aD {p:Prop}(h:p:=by omega):p:=h
theorem cl {p:Prop}(h:p:=by simp [go_sem,Y]):p:=h
theorem eq {p:Prop}(h:p:=by simp [go_sem]):p:=h
theorem ge {p:Prop}(h:p:=by first|(simp [go_sem];done)|(simp [go_sem];omega)):p:=h
theorem gt {p:Prop}(h:p:=by first|rfl|(simp [go_sem];done)):p:=h
theorem ia {p:Prop}(h:p:=by kernel_rfl):p:=h
theorem ib {p:Prop}(h:p:=by simp [go_sem];omega):p:=h
theorem ic {p:Prop}(h:p:=by assumption):p:=h
theorem ie {p:Prop}(h:p:=by simp;omega):p:=h
theorem ig {p:Prop}(h:p:=by simp [go_sem];rfl):p:=h
theorem ii {p:Prop}(h:p:=by simp [go_sem,seval,dI]):p:=h
theorem ij {p:Prop}(h:p:=by first|trivial|(simp [go_sem];done)|simp [go_sem,chk]):p:=h
theorem ik {p:Prop}(h:p:=by rw [aI];split<;>simp<;>omega):p:=h
theorem ip {p:Prop}(h:p:=by simp [go_sem]<;>first|omega|(rw [aU];simp<;>omega)|(simp_all<;>omega)):p:=h
theorem iq {p a:Prop}(x:a)(k:a->p:=by (intro h;simp [go_sem,h])):p:=k x
theorem iu {p a b:Prop}(x:a)(y:b)(k:a->b->p:=by (intro h i;simp [go_sem,h,i])):p:=k x y
theorem iv {p a:Prop}(x:a)(k:a->p:=by (intro h;simp [go_sem,Y,h])):p:=k x
theorem iw {p a:Prop}(x:a)(k:a->p:=by (intro h;simp [h])):p:=k x
theorem aE {p:Prop}(h:p:=by simp):p:=h
theorem bY {p q:Prop}(h:q)(k:q->p:=by (intro h;simpa using h)):p:=k h
theorem c7 {α:Sort _}(a:α):∃ x,x=a:=⟨a,rfl⟩
theorem dH {α:Sort _}(a:α):∃ x,a=x:=⟨a,rfl⟩
theorem xa0 {pa pb:Prop}(a:pa)(b:pb):pa∧pb:=⟨a,b⟩
theorem xa1 {pa pb pc:Prop}(a:pa)(b:pb)(c:pc):pa∧pb∧pc:=⟨a,b,c⟩
theorem xa2 {pa pb pc pd:Prop}(a:pa)(b:pb)(c:pc)(d:pd):pa∧pb∧pc∧pd:=⟨a,b,c,d⟩
theorem xa3 {pa pb pc pd pe:Prop}(a:pa)(b:pb)(c:pc)(d:pd)(e:pe):pa∧pb∧pc∧pd∧pe:=⟨a,b,c,d,e⟩
theorem xa4 {pa pb pc pd pe pf:Prop}(a:pa)(b:pb)(c:pc)(d:pd)(e:pe)(f:pf):pa∧pb∧pc∧pd∧pe∧pf:=⟨a,b,c,d,e,f⟩
theorem xa5 {pa pb pc pd pe pf pg:Prop}(a:pa)(b:pb)(c:pc)(d:pd)(e:pe)(f:pf)(g:pg):pa∧pb∧pc∧pd∧pe∧pf∧pg:=⟨a,b,c,d,e,f,g⟩
theorem xa6 {pa pb pc pd pe pf pg ph:Prop}(a:pa)(b:pb)(c:pc)(d:pd)(e:pe)(f:pf)(g:pg)(h:ph):pa∧pb∧pc∧pd∧pe∧pf∧pg∧ph:=⟨a,b,c,d,e,f,g,h⟩
theorem xa7 {pa pb pc pd pe pf pg ph pi:Prop}(a:pa)(b:pb)(c:pc)(d:pd)(e:pe)(f:pf)(g:pg)(h:ph)(i:pi):pa∧pb∧pc∧pd∧pe∧pf∧pg∧ph∧pi:=⟨a,b,c,d,e,f,g,h,i⟩
theorem xa8 {pa pb pc pd pe pf pg ph pi pj:Prop}(a:pa)(b:pb)(c:pc)(d:pd)(e:pe)(f:pf)(g:pg)(h:ph)(i:pi)(j:pj):pa∧pb∧pc∧pd∧pe∧pf∧pg∧ph∧pi∧pj:=⟨a,b,c,d,e,f,g,h,i,j⟩
theorem xa9 {pa pb pc pd pe pf pg ph pi pj pk:Prop}(a:pa)(b:pb)(c:pc)(d:pd)(e:pe)(f:pf)(g:pg)(h:ph)(i:pi)(j:pj)(k:pk):pa∧pb∧pc∧pd∧pe∧pf∧pg∧ph∧pi∧pj∧pk:=⟨a,b,c,d,e,f,g,h,i,j,k⟩
theorem xb0 {pa pb pc pd pe pf pg ph pi pj pk pl:Prop}(a:pa)(b:pb)(c:pc)(d:pd)(e:pe)(f:pf)(g:pg)(h:ph)(i:pi)(j:pj)(k:pk)(l:pl):pa∧pb∧pc∧pd∧pe∧pf∧pg∧ph∧pi∧pj∧pk∧pl:=⟨a,b,c,d,e,f,g,h,i,j,k,l⟩
abbrev aA:=@List.getElem?_eq_getElem
abbrev aC:=@List.getElem_mem
abbrev aF:=@Nat.le_of_ble_eq_true
abbrev aG:=@List.take_of_length_le
abbrev aI:=@List.length_append
abbrev aL:=@List.mem_of_getElem?
abbrev aM:=@Bool.and_eq_true
abbrev aN:=@List.getElem?_map
abbrev aO:=@List.getElem_of_mem
abbrev aQ:=@List.getElem?_eq_some_iff
abbrev aR:=@List.length_map
abbrev aS:=@List.getElem?_append_left
abbrev aT:=@List.mem_map
abbrev aU:=@Bool.eq_iff_iff
abbrev aV:=@List.mem_range
abbrev aW:=@List.mem_cons
abbrev aY:=@Classical.byContradiction
abbrev aZ:=@List.mem_append
abbrev bC:=@Nat.le_refl
abbrev bD:=@List.mem_singleton
abbrev bF:=@List.any_eq_true
abbrev bG:=@List.getElem?_append_right
abbrev bI:=@Option.some.injEq
abbrev bJ:=@Bool.eq_false_iff
abbrev bM:=@List.eq_nil_of_length_eq_zero
abbrev bQ:=@List.mem_flatMap
abbrev bR:=@List.range_succ
abbrev bU:=@Array.getElem?_eq_getElem
abbrev bV:=@Option.map_eq_some_iff
abbrev bX:=@Nat.lt_or_ge
abbrev b8:=@List.map_congr_left
abbrev b9:=@List.getElem?_eq_none
abbrev cF:=@List.all_eq_true
abbrev cO:=@List.getElem?_take
abbrev cW:=@List.map_set
abbrev cX:=@List.length_take
abbrev cY:=@List.getElem?_drop
abbrev cZ:=@Bool.not_eq_true'
abbrev c8:=@Bool.or_eq_true
abbrev dD:=@List.mem_of_mem_take
abbrev dE:=@Nat.lt_of_lt_of_le
abbrev dF:=@List.pairwise_iff_getElem
abbrev dL:=@List.getElem?_set
abbrev dP:=@List.cons_append
abbrev dS:=@List.nil_append
abbrev dU:=@List.append_nil
abbrev dX:=@List.mem_cons_of_mem
abbrev dZ:=@Nat.le_trans
abbrev d7:=@Option.map_some
abbrev d8:=@List.mem_filter
abbrev eL:=@Nat.zero_le
abbrev eO:=@List.length_cons
abbrev e8:=@List.nodup_iff_pairwise_ne
abbrev e9:=@List.mem_of_mem_drop
abbrev fD:=@List.ext_getElem
abbrev fE:=@Nat.zero_add
abbrev fJ:=@List.flatten_cons
abbrev fM:=@List.length_replicate
abbrev fN:=@List.filter_append
abbrev fO:=@Int.eq_ofNat_of_zero_le
abbrev fP:=@Bool.false_eq_true
abbrev fV:=@List.drop_eq_getElem_cons
abbrev fY:=@Nat.mul_le_mul_right
abbrev f7:=@List.not_mem_nil
abbrev f8:=@List.length_drop
abbrev f9:=@List.length_set
abbrev gA:=@List.ext_getElem?
abbrev gB:=@List.any_eq_false
abbrev gG:=@List.mem_cons_self
abbrev gJ:=@List.getElem?_range
abbrev gW:=@Bool.true_and
abbrev gZ:=@Option.isSome_iff_exists
abbrev g7:=@List.length_pos_iff
abbrev g8:=@Array.length_toList
abbrev iG:=@List.getElem_map
abbrev iL:=@List.foldl_append
abbrev iM:=@Decidable.not_not
abbrev iW:=@List.drop_eq_nil_of_le
abbrev iX:=@List.nodup_cons
abbrev i5:=@List.map_cons
abbrev i6:=@List.getElem_inj
abbrev jM:=@List.length_filter_le
abbrev jW:=@List.length_nil
abbrev jX:=@List.findIdx?_eq_some_iff_getElem
abbrev j6:=@List.mem_flatten
abbrev j7:=@List.map_nil
abbrev kL:=@List.drop_of_length_le
abbrev lH:=@Nat.mul_le_mul
abbrev lO:=@List.eq_nil_iff_forall_not_mem
abbrev mD:=@List.eq_of_mem_replicate
abbrev mV:=@List.getElem?_cons_zero
abbrev mW:=@Bool.and_assoc
abbrev nE:=@List.replicate_succ
abbrev nF:=@List.flatten_append
abbrev nG:=@Array.getD_eq_getD_getElem?
abbrev nT:=@Nat.lt_irrefl
abbrev nU:=@List.set_append_right
abbrev nW:=@List.length_singleton
abbrev oL:=@List.mem_or_eq_of_mem_set
abbrev pB:=@List.size_toArray
abbrev pC:=@List.nodup_append
abbrev pD:=@List.foldl_cons
abbrev pE:=@List.flatMap_cons
abbrev qB:=@List.mem_map_of_mem
abbrev qC:=@List.getElem?_replicate
abbrev qD:=@Bool.or_false
abbrev qG:=@Classical.or_iff_not_imp_left
abbrev rI:=@List.filter_eq_nil_iff
abbrev rK:=@List.getElem_range
abbrev sK:=@List.all_append
abbrev tH:=@Array.getElem?_eq_some_iff
abbrev uL:=@List.findIdx?_eq_none_iff
abbrev vK:=@List.take_length
abbrev vL:=@List.take_succ_cons
abbrev vM:=@List.mergeSort_perm
abbrev vP:=@Nat.sub_self
abbrev vQ:=@Nat.add_zero
abbrev xG:=@Nat.add_sub_cancel_left
abbrev xH:=@List.set_cons_zero
abbrev xI:=@List.any_append
abbrev Am:=@List.pairwise_map
abbrev Ao:=@List.getElem_take
abbrev Ap:=@List.all_eq_false
abbrev Av:=@List.contains_iff_mem
abbrev Aw:=@Classical.choose_spec
abbrev BQ:=@List.take_append
abbrev BR:=@List.getElem_set
abbrev B5:=@List.replicate_succ'
abbrev B6:=@Bool.and_eq_true_iff
abbrev B7:=@Array.replicate_zero
abbrev B8:=@Array.replicate_succ
abbrev Cx:=@Nat.add_assoc
abbrev Df:=@List.append_toArray
abbrev FX:=@List.set_cons_succ
abbrev FY:=@List.map_map
abbrev GR:=@List.take_zero
abbrev GS:=@List.mem_take_iff_getElem
abbrev GT:=@Bool.false_and
abbrev HP:=@List.push_toArray
abbrev HQ:=@List.filter_congr
abbrev KQ:=@List.getElem?_cons_succ
abbrev KR:=@List.filter_cons_of_pos
abbrev KS:=@List.filter_cons_of_neg
abbrev KT:=@Bool.not_true
abbrev LW:=@List.flatMap_nil
abbrev LY:=@Bool.not_eq_true
abbrev NA:=@List.pairwise_lt_range
end Go.Abs
namespace Go.Abs
theorem bS {a n:Nat}(h:a<n):(a=n)=False/\(∀ k,(a=n+k)=False)/\(∀ k l,(a=n+k+l)=False)/\(n=a)=False/\(∀ k,(n+k=a)=False)/\(∀ k l,(n+k+l=a)=False) /\
  (∀ k l m,(a=n+k+l+m)=False)/\(∀ k l m,(n+k+l+m=a)=False)/\(∀ k l m p,(a=n+k+l+m+p)=False)/\(∀ k l m p,(n+k+l+m+p=a)=False) :=
 ⟨eq_false aD,λ_=>eq_false aD,λ_ _=>eq_false aD,eq_false aD,λ_=>eq_false aD,λ_ _=>eq_false aD,
  λ_ _ _=>eq_false aD,λ_ _ _=>eq_false aD,λ_ _ _ _=>eq_false aD,λ_ _ _ _=>eq_false aD⟩
theorem dJ {a b:Nat}(h:a≠b):(a=b)=False/\(b=a)=False:=⟨eq_false h,eq_false (Ne.symm h)⟩
theorem Sk (n:Nat):(∀ a,(n=n+a)=(a=0))/\(∀ a b,(n=n+a+b)=(a+b=0))/\(∀ a b c,(n=n+a+b+c)=(a+b+c=0))/\(∀ a b c d,(n=n+a+b+c+d)=(a+b+c+d=0)) :=
 ⟨λ_=>propext aD,λ_ _=>propext aD,λ_ _ _=>propext aD,λ_ _ _ _=>propext aD⟩
end Go.Abs
end
section
namespace Go.Abs
inductive D where
 | int (k:IntKind) (n:Int)
 | bool (b:Bool)
 | str (s:ByteArray)
 | agg (cs:(List D))
 | tup (vs:(List D))
 | nil
 | list (es:(List (List D)))
 | adr (cs:(List D))
 | ne
 | nilp
 | ptr (id ver i off:Nat)
 | own (id n:Nat)
 | win (id ver lo hi:Nat)
 | fn (f:FuncId) (caps:(List D))
 | nilf
 | opt (g:Bool) (d:D)
 | cst (v:Value)
 | junk
 deriving Inhabited
abbrev UN:=List D
abbrev UE:=List (List D)
structure Ow where
 ah:Nat
 val:Value
 H:Nat
 ty:TypeId
def Ow.block (o:Ow):Option Nat:=o.val.ownBlock
def WV (o:Ow)(v:Value)(ver lo hi:Nat):Prop :=
 (o.val=.slice none 0 0/\v=.slice none 0 0/\hi=0) \/
 ∃ b cap,o.val=.slice (some ⟨b,0,none⟩) ver cap/\ver<=cap/\v=.slice (some (if cap=lo then ⟨b,0,none⟩ else ⟨b,lo * o.H,none⟩)) (hi - lo) (cap - lo)
inductive RepV (M:Nat->Prop) (σ:Nat->Option Ow) (N:Nat->Prop) (w:World):Value->D->Prop
 | int (k:IntKind) (n:Int):RepV M σ N w (.int k n) (.int k n)
 | bool (b:Bool):RepV M σ N w (.bool b) (.bool b)
 | str (s:ByteArray):RepV M σ N w (.string s) (.str s)
 | agg (vs:List Value) (ds:UN) (hl:vs.length=ds.length) (h1:∀ u∈vs,u.oneCell'=true)
   (hr:∀ (j:Nat) (u:Value) (d:D),vs[j]?=some u->ds[j]?=some d->RepV M σ N w u d):RepV M σ N w (.agg vs.toArray) (.agg ds)
 | tup (vs:List Value) (ds:UN) (hl:vs.length=ds.length)
   (hr:∀ (j:Nat) (u:Value) (d:D),vs[j]?=some u->ds[j]?=some d->RepV M σ N w u d):RepV M σ N w (.tuple vs.toArray) (.tup ds)
 | nil:RepV M σ N w (.slice none 0 0) .nil
 | listN:RepV M σ N w (.slice none 0 0) (.list [])
 | list (ad:Addr) (cap sz:Nat) (xs:List Value) (es:UE) (hc:es.length<=cap) (hm:cap<=maxLen) (hsz:∀ c∈es,c.length=sz)
   (hl:xs.length=es.flatten.length) (h1:∀ u∈xs,u.oneCell'=true)
   (hcell:∀ (j:Nat) (u:Value),xs[j]?=some u->¬ M ad.block/\w.cell? (ad.add j)=some u)
   (hr:∀ (j:Nat) (u:Value) (d:D),xs[j]?=some u->es.flatten[j]?=some d->RepV M σ N w u d) :
   RepV M σ N w (.slice (some ad) es.length cap) (.list es)
 | adr (ad:Addr) (xs:List Value) (ds:UN) (hl:xs.length=ds.length) (h1:∀ u∈xs,u.oneCell'=true)
   (hcell:∀ (j:Nat) (u:Value),xs[j]?=some u->¬ M ad.block/\w.cell? (ad.add j)=some u)
   (hr:∀ (j:Nat) (u:Value) (d:D),xs[j]?=some u->ds[j]?=some d->RepV M σ N w u d) :
   RepV M σ N w (.pointer (some ad)) (.adr ds)
 | ne (ad:Addr) (cap:Nat) (hm:cap<=maxLen):RepV M σ N w (.slice (some ad) 0 cap) .ne
 | nilp:RepV M σ N w (.pointer none) .nilp
 | ptr (v:Value) (id ver i off:Nat) (hN:N id) (h1:v.oneCell'=true)
   (h:∀ o,σ id=some o->ver<o.ah\/(ver=o.ah/\∃ b,o.block=some b/\v=.pointer (some ⟨b,i * o.H+off,none⟩))) :
   RepV M σ N w v (.ptr id ver i off)
 | own (v:Value) (id n:Nat) (hN:N id) (h1:v.oneCell'=true) (h:∀ o,σ id=some o->n<o.ah\/(n=o.ah/\v=o.val)) :
   RepV M σ N w v (.own id n)
 | win (v:Value) (id ver lo hi:Nat) (hN:N id) (h1:v.oneCell'=true) (hlh:lo<=hi/\hi<=ver) (h:∀ o,σ id=some o->ver<o.ah\/(ver=o.ah/\WV o v ver lo hi)) :
   RepV M σ N w v (.win id ver lo hi)
 | fn (f:FuncId) (vs:List Value) (ds:UN) (hl:vs.length=ds.length)
   (hr:∀ (j:Nat) (u:Value) (d:D),vs[j]?=some u->ds[j]?=some d->RepV M σ N w u d):RepV M σ N w (.func (.func f) #[] vs.toArray) (.fn f ds)
 | nilf:RepV M σ N w .nilFunc .nilf
 | opt (v:Value) (g:Bool) (d:D) (hf:g=false->v=.tuple #[]) (h:g=true->RepV M σ N w v d):RepV M σ N w v (.opt g d)
 | cst (v:Value):RepV M σ N w v (.cst v)
 | junk (v:Value):RepV M σ N w v .junk
structure RepL (M:Nat->Prop) (σ:Nat->Option Ow) (N:Nat->Prop) (w:World) (vs:List Value) (ds:UN):Prop where
 len:vs.length=ds.length
 Z:∀ (j:Nat) (u:Value) (d:D),vs[j]?=some u->ds[j]?=some d->RepV M σ N w u d
structure Keeps (M:Nat->Prop) (σ:Nat->Option Ow) (N:Nat->Prop) (w:World) (M':Nat->Prop) (σ':Nat->Option Ow) (N':Nat->Prop) (w':World):Prop where
 cell:∀ (ad:Addr) (u:Value),¬ M ad.block->w.cell? ad=some u->¬ M' ad.block/\w'.cell? ad=some u
 own:∀ id o',N id->σ' id=some o'->∃ o,σ id=some o/\(o=o'\/o.ah<o'.ah)
 le:∀ id,N id->N' id
theorem jB (a:Addr)(n:Nat):(a.add n).block=a.block:=by grind [Addr.add]
theorem RepV.q {M:Nat->Prop}{σ:Nat->Option Ow}{N:Nat->Prop}{w:World}{m:Nat->Prop}{σ':Nat->Option Ow}{l:Nat->Prop}{w':World}
  (k:Keeps M σ N w m σ' l w') {v:Value} {d:D} (h:RepV M σ N w v d):RepV m σ' l w' v d:=by
 induction h with
 | int=>exact .int _ _
 | bool=>exact .bool _
 | str=>exact .str _
 | agg vs ds hl h1 _ ih=>exact .agg vs ds hl h1 ih
 | tup vs ds hl _ ih=>exact .tup vs ds hl ih
 | nil=>exact .nil
 | listN=>exact .listN
 | list ad cap sz xs es hc hm hsz hl h1 hcell _ ih =>
  refine .list ad cap sz xs es hc hm hsz hl h1 (λj u hu=>?_) ih;obtain ⟨b,a⟩:=hcell j u hu;have:=k.cell (ad.add j) u (by rw [jB];exact b) a;rw [jB] at this;exact this
 | adr ad xs ds hl h1 hcell _ ih =>
  refine .adr ad xs ds hl h1 (λj u hu=>?_) ih;obtain ⟨b,a⟩:=hcell j u hu;have:=k.cell (ad.add j) u (by rw [jB];exact b) a;rw [jB] at this;exact this
 | ne ad cap hm=>exact .ne ad cap hm
 | nilp=>exact .nilp
 | ptr v id ver i off hN h1 h =>
  refine .ptr v id ver i off (k.le id hN) h1 λo' ho'=>?_;obtain ⟨o,c,e⟩:=k.own id o' hN ho';grind
 | own v id n hN h1 h =>
  refine .own v id n (k.le id hN) h1 λo' ho'=>?_;obtain ⟨o,c,e⟩:=k.own id o' hN ho';grind
 | win v id ver lo hi hN h1 hlh h =>
  refine .win v id ver lo hi (k.le id hN) h1 hlh λo' ho'=>?_;obtain ⟨o,c,e⟩:=k.own id o' hN ho';grind
 | fn f vs ds hl _ ih=>exact .fn f vs ds hl ih
 | nilf=>exact .nilf
 | opt v g d hf _ ih=>exact .opt v g d hf ih
 | cst v=>exact .cst v
 | junk v=>exact .junk v
theorem RepL.q {M:Nat->Prop}{σ:Nat->Option Ow}{N:Nat->Prop}{w:World}{M':Nat->Prop}{σ':Nat->Option Ow}{N':Nat->Prop}{w':World}
  (k:Keeps M σ N w M' σ' N' w') {v:List Value} {d:UN} (h:RepL M σ N w v d):RepL M' σ' N' w' v d :=
 ⟨h.len,λj u x hu hx=>(h.Z j u x hu hx).q k⟩
def D.cell:D->Bool
 | .agg _ | .tup _ | .opt _ _ | .cst _ | .junk=>false
 | _=>true
theorem RepV.e4 {M:Nat->Prop}{σ:Nat->Option Ow}{N:Nat->Prop}{w:World}{v:Value}{d:D}(h:RepV M σ N w v d)(a:d.cell=true):v.oneCell'=true:=by
 cases h<;>first|rfl|assumption|(simp [D.cell] at a)
def D.cells:D->UN
 | .agg cs=>cs
 | d=>[d]
mutual
def D.Q:D->Bool
 | .agg cs=>D.L cs
 | .tup cs=>D.L cs
 | .list es=>D.R es
 | .adr cs=>D.L cs
 | .fn _ cs=>D.L cs
 | .ptr .. | .own .. | .win .. | .opt .. | .junk=>false
 | _=>true
def D.L:UN->Bool
 | []=>true
 | d :: l=>D.Q d&&D.L l
def D.R:UE->Bool
 | []=>true
 | d :: l=>D.L d&&D.R l
end
theorem kK {l:UN}(h:D.L l=true):∀ d∈l,d.Q=true:=by
 induction l with
 | nil=>simp
 | cons a l ih=>simp only [D.L,aM] at h;intro d b;cases b with
  | head=>exact h.1
  | tail _ hm=>exact ih h.2 d hm
theorem sD {l:UE}(h:D.R l=true):∀ d∈l,D.L d=true:=by
 induction l with
 | nil=>simp
 | cons a l ih=>simp only [D.R,aM] at h;intro d b;cases b with
  | head=>exact h.1
  | tail _ hm=>exact ih h.2 d hm
theorem RepV.bt {M:Nat->Prop}{σ:Nat->Option Ow}{N:Nat->Prop}{w:World}{l:Nat->Prop}{σ':Nat->Option Ow}{m:Nat->Prop}
  {w':World} (k:∀ (ad:Addr) (u:Value),¬ M ad.block->w.cell? ad=some u->¬ l ad.block/\w'.cell? ad=some u) {v:Value} {d:D} (h:RepV M σ N w v d) (a:d.Q=true):RepV l σ' m w' v d:=by
 induction h with
 | int=>exact .int _ _
 | bool=>exact .bool _
 | str=>exact .str _
 | agg vs ds hl h1 _ ih =>
  exact .agg vs ds hl h1 λj u x hu hx=>ih j u x hu hx (kK a x (aL hx))
 | tup vs ds hl _ ih =>
  exact .tup vs ds hl λj u x hu hx=>ih j u x hu hx (kK a x (aL hx))
 | nil=>exact .nil
 | listN=>exact .listN
 | list ad cap sz xs es hcp hm hsz hl h1 hcell _ ih =>
  refine .list ad cap sz xs es hcp hm hsz hl h1 (λj u hu=>?_) λj u x hu hx=>ih j u x hu hx ?_
  .obtain ⟨i,b⟩:=hcell j u hu;have:=k (ad.add j) u (by rw [jB];exact i) b;rw [jB] at this;exact this
  .obtain ⟨c,g,e⟩:=j6.1 (aL hx);exact kK (sD a c g) x e
 | adr ad xs ds hl h1 hcell _ ih =>
  refine .adr ad xs ds hl h1 (λj u hu=>?_) λj u x hu hx=>ih j u x hu hx (kK a x (aL hx));obtain ⟨i,b⟩:=hcell j u hu;have:=k (ad.add j) u (by rw [jB];exact i) b;rw [jB] at this;exact this
 | ne ad cap hm=>exact .ne ad cap hm
 | nilp=>exact .nilp
 | ptr=>simp [D.Q] at a
 | own=>simp [D.Q] at a
 | win=>simp [D.Q] at a
 | fn f vs ds hl _ ih =>
  exact .fn f vs ds hl λj u x hu hx=>ih j u x hu hx (kK a x (aL hx))
 | nilf=>exact .nilf
 | opt=>simp [D.Q] at a
 | cst v=>exact .cst v
 | junk v=>simp [D.Q] at a
end Go.Abs
end
section
namespace Go.Abs
structure Blk where
 ty:TypeId
 Y:Nat
 P:UE
 fz:Bool
structure AHeap where
 next:Nat
 F:Nat->Prop
 get:Nat->Option Blk
def AHeap.as:AHeap:=⟨0,λ_=>False,λ_=>none⟩
def AHeap.push (H:AHeap)(id:Nat)(b:Blk):AHeap:=⟨if id<H.next then H.next else id+1,λi=>i=id\/H.F i,λi=>if i=id then some b else H.get i⟩
def AHeap.put (H:AHeap)(id:Nat)(b:Blk):AHeap:=⟨H.next,H.F,λi=>if i=id then some b else H.get i⟩
def dV (M0:Nat->Prop)(H:AHeap)(σ:Nat->Option Ow)(b:Nat):Prop :=
 M0 b\/∃ id k o,H.get id=some k/\k.fz=false/\σ id=some o/\o.block=some b
structure Lies (M:Nat->Prop) (σ:Nat->Option Ow) (N:Nat->Prop) (w:World) (k:Blk) (o:Ow):Prop where
 ah:o.ah=k.P.length
 ty:o.ty=k.ty
 Y:o.H=k.Y
 H:∀ c∈k.P,c.length=o.H
 row:∃ xs,w.ownsRow 0 k.ty o.H o.val k.P.length xs/\(∀ u∈xs,u.oneCell'=true)/\RepL M σ N w xs k.P.flatten
structure Rel (M0:Nat->Prop) (H:AHeap) (σ:Nat->Option Ow) (w:World):Prop where
 cm:∀ id,¬ H.F id->σ id=none/\H.get id=none
 ce:∀ id,H.F id->id<H.next
 am:∀ id k,H.get id=some k->∃ o,σ id=some o/\Lies (dV M0 H σ) σ H.F w k o
 inj:∀ i j o o' b,σ i=some o->σ j=some o'->o.block=some b->o'.block=some b->i=j
 lt:∀ i o b,σ i=some o->o.block=some b->b<w.heap.size/\¬ M0 b
 m0:∀ b,M0 b->b<w.heap.size
structure Stp (σ:Nat->Option Ow) (w:World) (σ':Nat->Option Ow) (w':World):Prop where
 os:w'.os=w.os
 tape:w'.tape=w.tape
 output:w'.output=w.output
 size:w.heap.size<=w'.heap.size
 bx:∀ b,b<w.heap.size->(∀ i o,σ i=some o->o.block≠some b)->w'.heap[b]?=w.heap[b]?
 new:∀ i o' b,σ' i=some o'->o'.block=some b->w.heap.size<=b\/∃ j o,σ j=some o/\o.block=some b
theorem Stp.refl (σ:Nat->Option Ow)(w:World):Stp σ w σ w :=
 ⟨rfl,rfl,rfl,bC _,λ_ _ _=>rfl,λi o b h hb=>.inr ⟨i,o,h,hb⟩⟩
theorem Stp.trans {σ σ' σ'':Nat->Option Ow}{w w' w'':World}(h:Stp σ w σ' w')(k:Stp σ' w' σ'' w''):Stp σ w σ'' w'' where
 os:=k.os.trans h.os
 tape:=k.tape.trans h.tape
 output:=k.output.trans h.output
 size:=dZ h.size k.size
 bx b hb hn:=by
  rw [k.bx b (dE hb h.size) (λi o ho hob=>?_),h.bx b hb hn];rcases h.new i o b ho hob with h1|⟨j1,o1,h1,h2⟩
  .omega
  .exact hn j1 o1 h1 h2
 new i o b ho hb:=by
  rcases k.new i o b ho hb with h1|⟨j1,o1,h1,h2⟩
  .exact .inl (dZ h.size h1)
  .exact h.new j1 o1 b h1 h2
theorem Keeps.refl (M:Nat->Prop)(σ:Nat->Option Ow)(N:Nat->Prop)(w:World):Keeps M σ N w M σ N w :=
 ⟨λ_ _ h k=>⟨h,k⟩,λid o' _ h=>⟨o',h,.inl rfl⟩,λ_ h=>h⟩
theorem Keeps.trans {M M' M'':Nat->Prop}{σ σ' σ'':Nat->Option Ow}{N N' N'':Nat->Prop}{w w' w'':World}
  (h:Keeps M σ N w M' σ' N' w') (k:Keeps M' σ' N' w' M'' σ'' N'' w''):Keeps M σ N w M'' σ'' N'' w'' where
 cell ad u hm hc:=let ⟨h1,h2⟩:=h.cell ad u hm hc;k.cell ad u h1 h2
 own id o'' hid ho:=by
  obtain ⟨o',ho',he'⟩:=k.own id o'' (h.le id hid) ho;obtain ⟨o,ho,he⟩:=h.own id o' hid ho';refine ⟨o,ho,?_⟩;rcases he with rfl|he<;>rcases he' with rfl|he'
  .exact .inl rfl
  .exact .inr he'
  .exact .inr he
  .exact .inr aD
 le:=λid h'=>k.le id (h.le id h')
section
variable {M0:Nat→Prop} {H:AHeap} {σ:Nat→Option Ow} {w:World}
theorem GQ {o:Ow}{e:TypeId}{n:Nat}{xs:List Value}(h:w.ownsRow 0 e o.H o.val n xs){b:Nat}(hb:o.block=some b):b<w.heap.size :=
 (h.lt b hb).2
theorem Rel.drew (h:Rel M0 H σ w):Rel M0 H σ w.drew/\Stp σ w σ w.drew/\Keeps (dV M0 H σ) σ H.F w (dV M0 H σ) σ H.F w.drew:=by
 have a:Keeps (dV M0 H σ) σ H.F w (dV M0 H σ) σ H.F w.drew:=⟨λ_ _ h k=>⟨h,k⟩,λid d _ h=>⟨d,h,.inl rfl⟩,λ_ h=>h⟩;refine ⟨⟨h.cm,h.ce,λid k hk'=>?_,h.inj,h.lt,h.m0⟩,⟨rfl,rfl,rfl,bC _,λ_ _ _=>rfl,λi o b h f=>.inr ⟨i,o,h,f⟩⟩,a⟩;obtain ⟨o,e,l⟩:=h.am id k hk';obtain ⟨c,m,j,g⟩:=l.row;exact ⟨o,e,l.ah,l.ty,l.Y,l.H,c,m,j,g.q a⟩
theorem Rel.grow {w':World}(h:Rel M0 H σ w)(j:w'.os=w.os)(c:w'.tape=w.tape)(f:w'.output=w.output)(a:w.heap.size<=w'.heap.size)
  (d:∀ b,b<w.heap.size->w'.heap[b]?=w.heap[b]?) :
  Rel M0 H σ w'/\Stp σ w σ w'/\Keeps (dV M0 H σ) σ H.F w (dV M0 H σ) σ H.F w':=by
 have g:∀ (ad:Addr) (u:Value),w.cell? ad=some u->w'.cell? ad=some u:=λad u hu =>
  (World.cell?_of_block (d ad.block (World.block_lt_of_cell? w ad hu))).trans hu
 have n:Keeps (dV M0 H σ) σ H.F w (dV M0 H σ) σ H.F w':=⟨λad u r hu=>⟨r,g ad u hu⟩,λid q _ h=>⟨q,h,.inl rfl⟩,λ_ h=>h⟩;refine ⟨⟨h.cm,h.ce,λid k hk'=>?_,h.inj,λi o b m e=>?_,λb e=>dE (h.m0 b e) a⟩,⟨j,c,f,a,λb e _=>d b e,λi o b h e=>.inr ⟨i,o,h,e⟩⟩,n⟩
 .obtain ⟨o,m,l⟩:=h.am id k hk';obtain ⟨p,v,t,s⟩:=l.row;refine ⟨o,m,l.ah,l.ty,l.Y,l.H,p,?_,t,s.q n⟩;exact v.kept (row:=none) ⟨j,c,f,a,λb e _=>d b e⟩ (by cases o.val.ownBlock<;>simp)
 .exact ⟨dE (h.lt i o b m e).1 a,(h.lt i o b m e).2⟩
theorem Rel.d2 {w':World}(h:Rel M0 H σ w)(id:Nat)(hal:¬ H.F id)(hos:w'.os=w.os)(htape:w'.tape=w.tape)(hout:w'.output=w.output)(hsize:w.heap.size<=w'.heap.size)
  (hold:∀ b,b<w.heap.size->w'.heap[b]?=w.heap[b]?) (k:Blk) (o:Ow) (hb:∀ b,o.block=some b->w.heap.size<=b) (hver:o.ah=k.P.length) (hty:o.ty=k.ty) (hsz:o.H=k.Y)
  (hesz:∀ c∈k.P,c.length=o.H) (xs:List Value) (hrow:w'.ownsRow 0 k.ty o.H o.val k.P.length xs) (h1:∀ u∈xs,u.oneCell'=true)
  (hrep:let σ':Nat->Option Ow:=λi=>if i=id then some o else σ i
   Keeps (dV M0 H σ) σ H.F w (dV M0 (H.push id k) σ') σ' (H.push id k).F w'->RepL (dV M0 (H.push id k) σ') σ' (H.push id k).F w' xs k.P.flatten) :
  let σ':Nat->Option Ow:=λi=>if i=id then some o else σ i
  Rel M0 (H.push id k) σ' w'/\Stp σ w σ' w'/\Keeps (dV M0 H σ) σ H.F w (dV M0 (H.push id k) σ') σ' (H.push id k).F w':=by
 intro σ';have hne:∀ i o',σ i=some o'->i≠id:=λi o' hi he=>by subst he;rw [(h.cm _ hal).1] at hi;cases hi
 have hσ:∀ i o',σ i=some o'->σ' i=some o':=λi o' hi=>by simp [σ',hne i o' hi,hi]
 have hmut:∀ b,b<w.heap.size->¬ dV M0 H σ b->¬ dV M0 (H.push id k) σ' b:=by
  rintro b hlt hm (hm'|⟨i,k',o',hk',hf,ho',hb'⟩)
  .exact hm (.inl hm')
  .by_cases hii:i=id
   .simp only [σ',hii,if_true,bI] at ho';subst ho';have:=hb b hb';omega
   .simp only [σ',hii,if_false] at ho';simp only [AHeap.push,hii,if_false] at hk';exact hm (.inr ⟨i,k',o',hk',hf,ho',hb'⟩)
 have hkeep:Keeps (dV M0 H σ) σ H.F w (dV M0 (H.push id k) σ') σ' (H.push id k).F w':=by
  refine ⟨λad u hm hu=>?_,λi o' hi ho'=>?_,λi hi=>.inr hi⟩
  .have hlt:=World.block_lt_of_cell? w ad hu;exact ⟨hmut _ hlt hm,(World.cell?_of_block (hold ad.block hlt)).trans hu⟩
  .have:i≠id:=λe=>hal (e ▸ hi);simp only [σ',this,if_false] at ho';exact ⟨o',ho',.inl rfl⟩
 have hg:w.grownBy w' none:=⟨hos,htape,hout,hsize,λb hb _=>hold b hb⟩;refine ⟨⟨λi hi=>?_,λi hi=>?_,λi k' hk'=>?_,λi j oi oj b hi hj hbi hbj=>?_,λi oi b hi hbi=>?_,λb hb=>dE (h.m0 b hb) hsize⟩,
  ⟨hos,htape,hout,hsize,λb hb _=>hold b hb,λi o' b ho' hb'=>?_⟩,hkeep⟩
 .have hi':¬ (i=id\/H.F i):=hi;have hne':i≠id:=λe=>hi' (.inl e);simp only [σ',AHeap.push,hne',if_false];exact h.cm i (λe=>hi' (.inr e))
 .have hi':i=id\/H.F i:=hi;simp only [AHeap.push];rcases hi' with rfl|hi'
  .split<;>omega
  .have:=h.ce i hi';split<;>omega
 .by_cases hid:i=id
  .simp only [AHeap.push,hid,if_true,bI] at hk';subst hk';exact ⟨o,by simp [σ',hid],hver,hty,hsz,hesz,xs,hrow,h1,hrep hkeep⟩
  .simp only [AHeap.push,hid,if_false] at hk';obtain ⟨o',ho',l⟩:=h.am i k' hk';obtain ⟨xs',h1',h2',h3'⟩:=l.row;exact ⟨o',hσ _ _ ho',l.ah,l.ty,l.Y,l.H,xs',h1'.kept hg (by cases o'.val.ownBlock<;>simp),h2',h3'.q hkeep⟩
 .by_cases hi':i=id<;>by_cases hj':j=id
  .rw [hi',hj']
  .simp only [σ',hi',if_true,bI] at hi;simp only [σ',hj',if_false] at hj;subst hi;have h1:=hb b hbi;have h2:=(h.lt j oj b hj hbj).1;omega
  .simp only [σ',hj',if_true,bI] at hj;simp only [σ',hi',if_false] at hi;subst hj;have h1:=hb b hbj;have h2:=(h.lt i oi b hi hbi).1;omega
  .simp only [σ',hi',hj',if_false] at hi hj;exact h.inj i j oi oj b hi hj hbi hbj
 .by_cases hi':i=id
  .simp only [σ',hi',if_true,bI] at hi;subst hi;exact ⟨GQ hrow hbi,λhm=>by have h1:=hb b hbi;have h2:=h.m0 b hm;omega⟩
  .simp only [σ',hi',if_false] at hi;exact ⟨dE (h.lt i oi b hi hbi).1 hsize,(h.lt i oi b hi hbi).2⟩
 .by_cases hi':i=id
  .simp only [σ',hi',if_true,bI] at ho';subst ho';exact .inl (hb b hb')
  .simp only [σ',hi',if_false] at ho';exact .inr ⟨i,o',ho',hb'⟩
theorem Rel.push {w':World}(h:Rel M0 H σ w)(id:Nat)(hal:¬ H.F id)(hos:w'.os=w.os)(htape:w'.tape=w.tape)(hout:w'.output=w.output)(hsize:w.heap.size<=w'.heap.size)
  (hold:∀ b,b<w.heap.size->w'.heap[b]?=w.heap[b]?) (k:Blk) (o:Ow) (hb:∀ b,o.block=some b->w.heap.size<=b) (hver:o.ah=k.P.length) (hty:o.ty=k.ty) (hsz:o.H=k.Y)
  (hesz:∀ c∈k.P,c.length=o.H) (xs:List Value) (hrow:w'.ownsRow 0 k.ty o.H o.val k.P.length xs) (h1:∀ u∈xs,u.oneCell'=true)
  (hrep:RepL (dV M0 H σ) σ H.F w xs k.P.flatten) :
  let σ':Nat->Option Ow:=λi=>if i=id then some o else σ i
  Rel M0 (H.push id k) σ' w'/\Stp σ w σ' w'/\Keeps (dV M0 H σ) σ H.F w (dV M0 (H.push id k) σ') σ' (H.push id k).F w' :=
 h.d2 id hal hos htape hout hsize hold k o hb hver hty hsz hesz xs hrow h1 λhk=>hrep.q hk
theorem Rel.put {w':World}(h:Rel M0 H σ w){id:Nat}{k:Blk}{o:Ow}(hk:H.get id=some k)(hfz:k.fz=false)(ho:σ id=some o)
  (k':Blk) (o':Ow) (hg:w.grownBy w' o.block) (hb:∀ b,o'.block=some b->o.block=some b\/w.heap.size<=b)
  (hle:o=o'\/o.ah<o'.ah) (hver:o'.ah=k'.P.length) (hty:o'.ty=k'.ty) (hsz:o'.H=k'.Y) (hesz:∀ c∈k'.P,c.length=o'.H)
  (xs:List Value) (hrow:w'.ownsRow 0 k'.ty o'.H o'.val k'.P.length xs) (h1:∀ u∈xs,u.oneCell'=true)
  (hrep:RepL (dV M0 H σ) σ H.F w xs k'.P.flatten) :
  let σ':Nat->Option Ow:=λi=>if i=id then some o' else σ i
  Rel M0 (H.put id k') σ' w'/\Stp σ w σ' w'/\Keeps (dV M0 H σ) σ H.F w (dV M0 (H.put id k') σ') σ' (H.put id k').F w':=by
 intro σ';have hid:H.F id:=aY λhn=>by rw [(h.cm id hn).1] at ho;cases ho
 have hmutk:∀ b,o.block=some b->dV M0 H σ b:=λb hb=>.inr ⟨id,k,o,hk,hfz,ho,hb⟩;have hmut:∀ b,b<w.heap.size->¬ dV M0 H σ b->¬ dV M0 (H.put id k') σ' b:=by
  rintro b hlt hm (hm'|⟨i,ki,oi,hki,hf,hoi,hbi⟩)
  .exact hm (.inl hm')
  .by_cases hi:i=id
   .simp only [σ',hi,if_true,bI] at hoi;subst hoi;rcases hb b hbi with h1|h1
    .exact hm (hmutk b h1)
    .omega
   .simp only [σ',hi,if_false] at hoi;simp only [AHeap.put,hi,if_false] at hki;exact hm (.inr ⟨i,ki,oi,hki,hf,hoi,hbi⟩)
 have hcell:∀ (ad:Addr) (u:Value),¬ dV M0 H σ ad.block->w.cell? ad=some u->w'.cell? ad=some u:=λad u hm hu =>
  (World.cell?_of_block (hg.block ad.block (World.block_lt_of_cell? w ad hu) (λe=>hm (hmutk _ e.symm)))).trans hu
 have hkeep:Keeps (dV M0 H σ) σ H.F w (dV M0 (H.put id k') σ') σ' (H.put id k').F w':=by
  refine ⟨λad u hm hu=>⟨hmut _ (World.block_lt_of_cell? w ad hu) hm,hcell ad u hm hu⟩,λi oi hi hoi=>?_,λ_ h=>h⟩;by_cases he:i=id
  .simp only [σ',he,if_true,bI] at hoi;subst hoi;exact ⟨o,he ▸ ho,hle⟩
  .simp only [σ',he,if_false] at hoi;exact ⟨oi,hoi,.inl rfl⟩
 have hoth:∀ i oi,i≠id->σ i=some oi->oi.val.ownBlock=none\/oi.val.ownBlock≠o.block:=λi oi hne hoi=>by
  cases hb':oi.val.ownBlock with
  | none=>exact .inl rfl
  | some b=>exact .inr λe=>hne (h.inj i id oi o b hoi ho hb' e.symm)
 refine ⟨⟨λi hi=>?_,h.ce,λi ki hki=>?_,λi j oi oj b hi hj hbi hbj=>?_,λi oi b hi hbi=>?_,λb hb=>dE (h.m0 b hb) hg.size⟩,
  ⟨hg.os,hg.tape,hg.output,hg.size,λb hb hn=>hg.block b hb (λe=>hn id o ho e.symm),λi oi b hoi hbi=>?_⟩,hkeep⟩
 .have hi':¬ H.F i:=hi;have hne:i≠id:=λe=>hi' (e ▸ hid);simp only [σ',AHeap.put,hne,if_false];exact h.cm i hi'
 .by_cases he:i=id
  .simp only [AHeap.put,he,if_true,bI] at hki;subst hki;exact ⟨o',by simp [σ',he],hver,hty,hsz,hesz,xs,hrow,h1,hrep.q hkeep⟩
  .simp only [AHeap.put,he,if_false] at hki;obtain ⟨oi,hoi,l⟩:=h.am i ki hki;obtain ⟨xs',h1',h2',h3'⟩:=l.row;exact ⟨oi,by simp [σ',he,hoi],l.ah,l.ty,l.Y,l.H,xs',h1'.kept hg (hoth i oi he hoi),h2',h3'.q hkeep⟩
 .have key:∀ i oi b,i≠id->σ i=some oi->oi.block=some b->o'.block=some b->False:=λi oi b hne hoi hbi hb'=>by
   rcases hb b hb' with h1|h1
   .exact hne (h.inj i id oi o b hoi ho hbi h1)
   .have:=(h.lt i oi b hoi hbi).1;omega
  by_cases hi':i=id<;>by_cases hj':j=id
  .rw [hi',hj']
  .simp only [σ',hi',if_true,bI] at hi;simp only [σ',hj',if_false] at hj;subst hi;exact (key j oj b hj' hj hbj hbi).elim
  .simp only [σ',hj',if_true,bI] at hj;simp only [σ',hi',if_false] at hi;subst hj;exact (key i oi b hi' hi hbi hbj).elim
  .simp only [σ',hi',hj',if_false] at hi hj;exact h.inj i j oi oj b hi hj hbi hbj
 .by_cases hi':i=id
  .simp only [σ',hi',if_true,bI] at hi;subst hi;refine ⟨GQ hrow hbi,λhm=>?_⟩;rcases hb b hbi with h1|h1
   .exact (h.lt id o b ho h1).2 hm
   .have:=h.m0 b hm;omega
  .simp only [σ',hi',if_false] at hi;exact ⟨dE (h.lt i oi b hi hbi).1 hg.size,(h.lt i oi b hi hbi).2⟩
 .by_cases hi':i=id
  .simp only [σ',hi',if_true,bI] at hoi;subst hoi;rcases hb b hbi with h1|h1
   .exact .inr ⟨id,o,ho,h1⟩
   .exact .inl h1
  .simp only [σ',hi',if_false] at hoi;exact .inr ⟨i,oi,hoi,hbi⟩
end
end Go.Abs
end
section
namespace Go.Abs
/-! ### what is asked of the table of types -/
inductive TK where
 | bad
 | one
 | agg (n:Nat)
 deriving DecidableEq
def tk (P:Program)(t:TypeId):TK :=
 match P.underlying t,P.info? t with
 | some (.struct _),some i=>.agg i.size
 | some (.array _ _),some i=>.agg i.size
 | some _,some i=>if i.size=1 then .one else .bad
 | _,_=>.bad
def r7:Value->D
 | .int k n=>.int k n
 | .bool b=>.bool b
 | .string s=>.str s
 | .slice none 0 0=>.nil
 | .pointer none=>.nilp
 | .nilFunc=>.nilf
 | _=>.junk
def Ax (i:TypeInfo):UN:=match i.zero with|some v=>v.cells.toList.map r7|none=>[]
structure SlI where
 e:TypeId
 Y:Nat
 gv:Nat
 z:UN
def sl (P:Program)(t:TypeId):Option SlI :=
 match P.underlying t with
 | some (.slice e)=>match P.info? e with
  | some i=>if 0<i.size/\i.bytes<=4096/\(Ax i).length=i.size/\(Ax i).all D.cell=true then some ⟨e,i.size,i.bytes,Ax i⟩ else none
  | none=>none
 | _=>none
def zd (P:Program)(t:TypeId):Option UN :=
 match P.underlying t,P.info? t with
 | some _,some i=>if (Ax i).length=i.size/\0<i.size/\(Ax i).all D.cell=true then some (Ax i) else none
 | _,_=>none
inductive BK where
 | st (l:List (Nat × Nat))
 | ar (sz:Nat)
def bk (P:Program)(t:TypeId):Option BK :=
 match P.underlying t with
 | some (.struct fs)=>(fs.toList.mapM λf=>(P.info? f.type).map λi=>(f.offset,i.size)).map .st
 | some (.array _ e)=>(P.info? e).map λi=>.ar i.size
 | _=>none
def BK.dk:BK->Nat->Option (Nat × Nat)
 | .st l,i=>l[i]?
 | .ar sz,i=>some (i * sz,sz)
def YJ (P:Program)(t:TypeId):Option (Nat × Nat) :=
 match P.underlying t with
 | some (.array n e)=>match P.info? e with
  | some i=>some (n,i.size)
  | none=>none
 | _=>none
/-! ### numbers -/
def Vc (k:IntKind)(n:Int):Prop:=k.min<=n/\n<=k.max
theorem uM {k:IntKind}{n:Int}(h:Vc k n):k.wrap n=n:=by
 obtain ⟨b,a⟩:=h;cases k<;>simp [IntKind.min,IntKind.max,IntKind.signed,IntKind.bits] at b a<;>simp [IntKind.wrap,IntKind.signed,IntKind.bits]<;>omega
theorem dW {n:Int}(b : -9223372036854775808<=n)(a:n<=9223372036854775807):Vc .i64 n:=by grind [Vc, IntKind.min, IntKind.max, IntKind.signed, IntKind.bits]
theorem UF {n:Int}(b:0<=n)(a:n<=18446744073709551615):Vc .u64 n:=by grind [Vc, IntKind.min, IntKind.max, IntKind.signed, IntKind.bits]
/-! ### splicing cells -/
def uQ (zs:UN)(off:Nat)(cs:UN):UN:=zs.take off++cs++zs.drop (off+cs.length)
def Ct (places:Nat->Option (Nat × Nat))(zs:UN):List (Nat × D)->Option UN
 | []=>some zs
 | (i,d) :: rest =>
  match places i with
  | none=>none
  | some (off,size)=>if d.cells.length=size/\off+size<=zs.length then Ct places (uQ zs off d.cells) rest else none
/-! ### the result of an operation -/
structure AOut where
 cond:Prop
 X:Prop
 val:D
 heap:AHeap
def fS (e:Nat->D):Operand->D
 | .tmp t=>e t
 | .const v=>r7 v
 | .func f=>.fn f []
 | .global _=>.junk
def AOut.bad (H:AHeap):AOut:=⟨False,True,.junk,H⟩
def LU (op:BinOp)(x y:D)(H:AHeap):AOut :=
 match op,x,y with
 | .add,.int k a,.int k' b=>⟨k=k'/\Vc k (a+b),True,.int k (a+b),H⟩
 | .sub,.int k a,.int k' b=>⟨k=k'/\Vc k (a - b),True,.int k (a - b),H⟩
 | .mul,.int k a,.int k' b=>⟨k=k'/\Vc k (a * b),True,.int k (a * b),H⟩
 | .quo,.int k a,.int k' b=>⟨k=k'/\b≠0/\Vc k (a.tdiv b),True,.int k (a.tdiv b),H⟩
 | .rem,.int k a,.int k' b=>⟨k=k'/\b≠0,True,.int k (a.tmod b),H⟩
 | .eql,.int k a,.int k' b=>⟨k=k',True,.bool (a==b),H⟩
 | .neq,.int k a,.int k' b=>⟨k=k',True,.bool (a != b),H⟩
 | .lss,.int k a,.int k' b=>⟨k=k',True,.bool (decide (a<b)),H⟩
 | .leq,.int k a,.int k' b=>⟨k=k',True,.bool (decide (a<=b)),H⟩
 | .gtr,.int k a,.int k' b=>⟨k=k',True,.bool (decide (b<a)),H⟩
 | .geq,.int k a,.int k' b=>⟨k=k',True,.bool (decide (b<=a)),H⟩
 | .eql,.str a,.str b=>⟨True,True,.bool (decide (a=b)),H⟩
 | .neq,.str a,.str b=>⟨True,True,.bool (!decide (a=b)),H⟩
 | _,_,_=>AOut.bad H
def LD (g:TypeId->Option Nat):List Field->Nat->Option Nat
 | [],o=>some o
 | f :: fs,o=>if f.name≠"_"/\f.offset=o then match g f.type with
   | some n=>LD g fs (o+n)
   | none=>none
  else none
def Wo (P:Program):Nat->TypeId->Option Nat
 | 0,_=>none
 | d+1,t=>match P.underlying t with
  | some (.int _)=>some 1
  | some (.struct fs)=>if P.stoodInHeld t=false/\(P.info? t).isSome=true then
    match LD (Wo P d) fs.toList 0 with
    | some n=>if P.cellsOf t=n then some n else none
    | none=>none
   else none
  | _=>none
def X1 (P:Program)(t:TypeId):Option Nat :=
 match P.underlying t with
 | some (.struct fs)=>if P.stoodInHeld t=false/\P.eqGuardType P.depth t=false then LD (Wo P 3) fs.toList 0 else none
 | _=>none
def vF:UN->Option V2
 | []=>some []
 | .int .i64 n :: l=>(vF l).map (n :: ·)
 | _=>none
def KJ (P:Program)(t:TypeId)(op:BinOp)(x y:D)(H:AHeap):AOut :=
 match op,x,y with
 | .eql,.nil,.nil=>⟨(sl P t).isSome=true,True,.bool true,H⟩
 | .eql,.ne,.nil=>⟨(sl P t).isSome=true,True,.bool false,H⟩
 | .eql,.list es,.nil=>⟨(sl P t).isSome=true/\es≠[],True,.bool false,H⟩
 | .neq,.nil,.nil=>⟨(sl P t).isSome=true,True,.bool false,H⟩
 | .neq,.ne,.nil=>⟨(sl P t).isSome=true,True,.bool true,H⟩
 | .neq,.list es,.nil=>⟨(sl P t).isSome=true/\es≠[],True,.bool true,H⟩
 | .eql,.bool a,.bool b=>⟨P.underlying t=some .bool,True,.bool (a==b),H⟩
 | .neq,.bool a,.bool b=>⟨P.underlying t=some .bool,True,.bool (!(a==b)),H⟩
 | .eql,.agg xs,.agg ys=>match vF xs,vF ys with
  | some a,some b=>⟨X1 P t=some a.length/\a.length=b.length,True,.bool (decide (a=b)),H⟩
  | _,_=>AOut.bad H
 | .neq,.agg xs,.agg ys=>match vF xs,vF ys with
  | some a,some b=>⟨X1 P t=some a.length/\a.length=b.length,True,.bool (!decide (a=b)),H⟩
  | _,_=>AOut.bad H
 | .shr,.int k a,.int _ b=>⟨0<=b,True,.int k (a.fdiv (2 ^ (min b.toNat k.bits))),H⟩
 | .and,.int k a,.int k' b=>⟨k=.u64/\k'=.u64/\b=1,True,.int .u64 (a % 2),H⟩
 | _,_,_=>LU op x y H
def t6 (w:Bool)(P:Program)(t:TypeId)(op:BinOp)(x y:D)(H:AHeap):AOut :=
 match w,op,x,y with
 | true,.sub,.int k a,.int k' b=>⟨k=k',True,.int k (k.wrap (a - b)),H⟩
 | _,op,x,y=>KJ P t op x y H
def gI (H:AHeap):D->Option UN
 | .adr cs=>some cs
 | .ptr id ver i off=>match H.get id with
  | some k=>if k.P.length=ver then (k.P[i]?).map (·.drop off) else none
  | none=>none
 | _=>none
def pL (P:Program)(t:TypeId)(x:D)(H:AHeap):AOut :=
 match gI H x with
 | none=>AOut.bad H
 | some cs=>match tk P t with
  | .bad=>AOut.bad H
  | .one=>⟨cs≠[],True,cs.headD .junk,H⟩
  | .agg n=>⟨n<=cs.length/\0<n,True,.agg (cs.take n),H⟩
def nO (P:Program)(t:TypeId)(x v:D)(H:AHeap):AOut :=
  match x with
  | .ptr id ver i off=>match H.get id with
    | some k=>match k.P[i]? with
      | some c=>⟨k.fz=false/\k.P.length=ver/\v.cells.length=P.cellsOf t/\(P.info? t).isSome=true/\v.cells.all D.cell=true/\off+v.cells.length<=c.length,True,.junk,
          H.put id { k with P:=k.P.set i (uQ c off v.cells) }⟩
      | none=>AOut.bad H
    | none=>AOut.bad H
  | _=>AOut.bad H
def fC (x:D)(off:Nat)(H:AHeap):AOut :=
 match x with
 | .adr cs=>⟨True,True,.adr (cs.drop off),H⟩
 | .ptr id ver i o=>match H.get id with
  | some k=>⟨k.P.length=ver,True,.ptr id ver i (o+off),H⟩
  | none=>AOut.bad H
 | _=>AOut.bad H
def jE (P:Program)(t:TypeId)(x:D)(f:Nat)(H:AHeap):AOut :=
 match bk P t with
 | some (.st l)=>match l[f]? with
  | some (off,sz)=>⟨(fC x off H).cond/\0<sz,(fC x off H).X,(fC x off H).val,(fC x off H).heap⟩
  | none=>AOut.bad H
 | _=>AOut.bad H
def jD (P:Program)(t:TypeId)(x i:D)(H:AHeap):AOut :=
  match i with
  | .int _ n=>match x with
    | .list es=>match sl P t with
      | some s=>⟨(0<=n/\n<es.length)/\(es[n.toNat]?.getD s.z).length=s.Y,True,.adr (es[n.toNat]?.getD s.z),H⟩
      | none=>AOut.bad H
    | .own id m=>match sl P t,H.get id with
      | some s,some k=>⟨(0<=n/\n<m)/\k.P.length=m/\(k.P[n.toNat]?.getD s.z).length=s.Y,True,.ptr id m n.toNat 0,H⟩
      | _,_=>AOut.bad H
    | _=>match YJ P t with
      | some (len,sz)=>⟨(fC x (n.toNat * sz) H).cond/\0<=n/\n<len,(fC x (n.toNat * sz) H).X,(fC x (n.toNat * sz) H).val,(fC x (n.toNat * sz) H).heap⟩
      | none=>AOut.bad H
  | _=>AOut.bad H
def Hu (P:Program)(t:TypeId)(x:D)(H:AHeap):AOut :=
  match P.underlying t with
  | some (.slice _)=>match x with
    | .nil=>⟨True,True,.int .i64 0,H⟩
    | .list es=>⟨True,(es.length:Int)<=9223372036854775807,.int .i64 es.length,H⟩
    | .own id n=>match H.get id with
      | some k=>⟨k.P.length=n,(n:Int)<=9223372036854775807,.int .i64 n,H⟩
      | none=>AOut.bad H
    | _=>AOut.bad H
  | some .string=>match x with
    | .str s=>⟨True,True,.int .i64 s.size,H⟩
    | _=>AOut.bad H
  | some (.array n _)=>⟨True,True,.int .i64 n,H⟩
  | _=>AOut.bad H
def pM (H:AHeap):D->Option UE
 | .nil=>some []
 | .ne=>some []
 | .list es=>some es
 | .own id n=>match H.get id with
  | some k=>if k.P.length=n then some k.P else none
  | none=>none
 | .win id n lo hi=>match H.get id with
  | some k=>if k.P.length=n then some ((k.P.take hi).drop lo) else none
  | none=>none
 | _=>none
def Tq (P:Program)(t:TypeId):Option IntKind:=match P.underlying t with|some (.int k)=>some k|_=>none
def rG (P:Program)(s:SlI)(t':TypeId)(x y:D)(H:AHeap):AOut :=
 match y,x,Tq P t' with
 | .int _ m,.own id n,some _=>match H.get id with
  | some k=>⟨0<=m/\k.fz=false/\k.ty=s.e/\k.P.length=n/\n+m.toNat<=4294967296/\k.Y=s.Y,True,.own id (n+m.toNat),H.put id { k with P:=k.P++List.replicate m.toNat s.z }⟩
  | none=>AOut.bad H
 | _,_,_=>AOut.bad H
def lZ (P:Program)(nid:Nat)(t t':TypeId)(x y:D)(H:AHeap):AOut :=
  match sl P t,pM H y with
  | some s,some ys =>
    match x with
    | .nil=>⟨t=t'/\ys.length<=4294967296/\(∀ c∈ys,c.length=s.Y)/\ys.flatten.all D.cell=true,True,.own nid ys.length,H.push nid ⟨s.e,s.Y,ys,false⟩⟩
    | .own id n=>match H.get id with
      | some k=>⟨t=t'/\k.fz=false/\k.ty=s.e/\k.P.length=n/\n+ys.length<=4294967296/\k.Y=s.Y/\(∀ c∈ys,c.length=s.Y)/\ys.flatten.all D.cell=true,True,
          .own id (n+ys.length),H.put id { k with P:=k.P++ys }⟩
      | none=>AOut.bad H
    | _=>AOut.bad H
  | some s,none=>rG P s t' x y H
  | _,_=>AOut.bad H
def EM (P:Program)(nid:Nat)(t:TypeId)(l c:D)(H:AHeap):AOut :=
 match sl P t,l,c with
 | some s,.int _ n,.int _ m=>⟨n=m/\0<=n/\n<=4294967296,True,.own nid n.toNat,H.push nid ⟨s.e,s.Y,List.replicate n.toNat s.z,false⟩⟩
 | _,_,_=>AOut.bad H
def O9 (P:Program)(nid:Nat)(m:Bool)(t:TypeId)(x:D)(H:AHeap):AOut :=
 if m then ⟨x.cells.all D.cell=true,True,.ptr nid 1 0 0,H.push nid ⟨t,x.cells.length,[x.cells],false⟩⟩
 else ⟨x.cells.all D.cell=true,True,.adr x.cells,H⟩
def zU (P:Program)(nid:Nat)(m:Bool)(t:TypeId)(H:AHeap):AOut :=
 match zd P t with
 | some z=>if m then ⟨True,True,.ptr nid 1 0 0,H.push nid ⟨t,z.length,[z],false⟩⟩ else ⟨True,True,.adr z,H⟩
 | none=>AOut.bad H
def vI (P:Program)(t:TypeId)(parts:List (Nat × D))(H:AHeap):AOut :=
 match zd P t,bk P t with
 | some z,some b=>match Ct b.dk z parts with
  | some cs=>⟨(parts.all λp=>p.2.cells.all D.cell)=true,True,.agg cs,H⟩
  | none=>AOut.bad H
 | _,_=>AOut.bad H
def tF (sz:Nat):Nat->UN->UE
 | 0,_=>[]
 | n+1,l=>l.take sz :: tF sz n (l.drop sz)
def jP (P:Program)(nid:Nat)(m:Bool)(t:TypeId)(n:Nat)(parts:List (Nat × D))(H:AHeap):AOut :=
  match sl P t with
  | some s=>match Ct (λi=>some (i * s.Y,s.Y)) (List.replicate n s.z).flatten parts with
    | some cs =>
      if m then ⟨n<=1000/\s.Y<=1000/\(parts.all λp=>p.2.cells.all D.cell)=true,True,.own nid n,H.push nid ⟨s.e,s.Y,tF s.Y n cs,false⟩⟩
      else ⟨n<=1000/\s.Y<=1000/\(parts.all λp=>p.2.cells.all D.cell)=true,True,.list (tF s.Y n cs),H⟩
    | none=>AOut.bad H
  | none=>AOut.bad H
def YV (x:Option D)(dflt:Int):Option Int :=
 match x with
 | none=>some dflt
 | some (.int _ n)=>some n
 | _=>none
def sC (P:Program)(t:TypeId)(x:D)(lo hi:Option D)(H:AHeap):AOut :=
 match x with
 | .list es=>match sl P t,YV lo 0,YV hi es.length with
  | some s,some l,some h=>⟨0<=l/\l<=h/\h<=es.length/\(es.head?.getD s.z).length=s.Y,True,.list ((es.take h.toNat).drop l.toNat),H⟩
  | _,_,_=>AOut.bad H
 | .own id m=>match sl P t,H.get id,YV lo 0,YV hi m with
  | some s,some k,some l,some h=>⟨(0<=l/\l<=h/\h<=m)/\k.P.length=m/\k.Y=s.Y,True,.win id m l.toNat h.toNat,H⟩
  | _,_,_,_=>AOut.bad H
 | .str s=>match P.underlying t,YV lo 0,YV hi s.size with
  | some .string,some l,some h=>⟨0<=l/\l<=h/\h<=s.size,True,.str (s.extract l.toNat h.toNat),H⟩
  | _,_,_=>AOut.bad H
 | _=>AOut.bad H
def vH (P:Program)(t:TypeId)(x i:D)(H:AHeap):AOut :=
  match x,i with
  | .str s,.int _ n=>match P.underlying t with
    | some .string=>⟨0<=n/\n<s.size,True,.int .u8 ((s.data[n.toNat]?.getD 0).toNat:Int),H⟩
    | _=>AOut.bad H
  | .agg cs,.int _ n=>match YJ P t,(P.underlying t) with
    | some (len,sz),some (.array _ e)=>match tk P e with
      | .one=>⟨(0<=n/\n<len)/\sz=1/\n.toNat<cs.length,True,cs[n.toNat]?.getD .junk,H⟩
      | _=>AOut.bad H
    | _,_=>AOut.bad H
  | _,_=>AOut.bad H
def oJ (P:Program)(src dst:TypeId)(x:D)(H:AHeap):AOut :=
 match x with
 | .int _ n=>match Tq P dst with
  | some k=>⟨(P.underlying src).isSome=true/\Vc k n,True,.int k n,H⟩
  | none=>AOut.bad H
 | .str s=>match P.underlying src,P.underlying dst with
  | some .string,some .string=>⟨True,True,.str s,H⟩
  | _,_=>AOut.bad H
 | _=>AOut.bad H
def xE (c a b:D)(H:AHeap):AOut :=
 match c,a,b with
 | .bool true,.bool a,_=>⟨True,True,.bool a,H⟩
 | .bool true,.opt g (.bool a),_=>⟨g=true,True,.bool a,H⟩
 | .bool false,_,.bool b=>⟨True,True,.bool b,H⟩
 | .bool false,_,.opt g (.bool b)=>⟨g=true,True,.bool b,H⟩
 | _,_,_=>AOut.bad H
def Bp (c a b:D)(H:AHeap):AOut :=
 match c,a,b with
 | .bool c,.bool a,.bool b=>⟨True,True,.bool (if c then a else b),H⟩
 | .bool c,.bool a,.opt g (.bool b)=>⟨c=false->g=true,True,.bool (if c then a else b),H⟩
 | .bool c,.opt g (.bool a),.bool b=>⟨c=true->g=true,True,.bool (if c then a else b),H⟩
 | .bool c,.opt g (.bool a),.opt g' (.bool b)=>⟨(c=true->g=true)/\(c=false->g'=true),True,.bool (if c then a else b),H⟩
 | c,a,b=>xE c a b H
def EL (mx:Bool)(x y:D)(H:AHeap):AOut :=
 match x,y with
 | .int k a,.int k' b=>⟨k=k',True,.int k (if mx then (if a<b then b else a) else (if b<a then b else a)),H⟩
 | _,_=>AOut.bad H
def kJ (x:D)(H:AHeap):AOut :=
 match x with
 | .adr cs=>⟨True,True,.adr cs,H⟩
 | .ptr id ver i o=>match H.get id with
  | some k=>⟨k.P.length=ver,True,.ptr id ver i o,H⟩
  | none=>AOut.bad H
 | _=>AOut.bad H
def YO (op:UnOp)(x:D)(H:AHeap):AOut :=
 match op,x with
 | .not,.bool b=>⟨True,True,.bool (!b),H⟩
 | .neg,.int k n=>⟨Vc k (0 - n),True,.int k (0 - n),H⟩
 | _,_=>AOut.bad H
def oI (x:D)(i:Nat)(H:AHeap):AOut :=
 match x with
 | .tup vs=>⟨i<vs.length,True,vs[i]?.getD .junk,H⟩
 | _=>AOut.bad H
def FU (P:Program)(nid:Nat)(m:Bool)(t:TypeId)(H:AHeap):AOut :=
 if m then match sl P t with
  | some s=>⟨True,True,.own nid 0,H.push nid ⟨s.e,s.Y,[],false⟩⟩
  | none=>AOut.bad H
 else ⟨True,True,.nil,H⟩
def AHeap.frz (H:AHeap)(id:Nat):AHeap :=
 match H.get id with
 | some k=>H.put id { k with fz:=true }
 | none=>H
def gC:List Nat->AHeap->AHeap
 | [],H=>H
 | i :: l,H=>gC l (H.frz i)
def f5 (H:AHeap)(d:D):D :=
 match d with
 | .win id ver lo hi=>match H.get id with
  | some k=>if k.P.length=ver then .list ((k.P.take hi).drop lo) else d
  | none=>d
 | .own id n=>match H.get id with
  | some k=>if k.P.length=n then .list k.P else d
  | none=>d
 | d=>d
def jN (H:AHeap):D->D
 | .agg cs=>.agg (cs.map (f5 H))
 | d=>f5 H d
def mM:D->List Nat
 | .own id _=>[id]
 | .win id _ _ _=>[id]
 | _=>[]
def eJ:D->List Nat
 | .agg cs=>cs.flatMap mM
 | d=>mM d
def j5:Operand->Bool
 | .const (.slice none 0 0)=>true
 | _=>false
def Fk (md:Nat->Bool):Option Tmp->Bool
 | some d=>md d
 | none=>false
def xF (P:Program)(t:TypeId)(x:D)(H:AHeap):AOut :=
 match x with
 | .win id ver lo hi=>match sl P t,H.get id with
  | some s,some k=>⟨k.fz=false/\k.P.length=ver/\k.ty=s.e/\k.Y=s.Y,True,.tup [],H.put id { k with P:=k.P.take lo++List.replicate (hi - lo) s.z++k.P.drop hi }⟩
  | _,_=>AOut.bad H
 | _=>AOut.bad H
def yV (P:Program)(nid:Nat)(b:Builtin)(args:UN)(ts:List TypeId)(H:AHeap):AOut :=
 match b,args,ts with
 | .len,[x],[t]=>Hu P t x H
 | .append,[x,y],[t,t']=>lZ P nid t t' x y H
 | .clear,[x],[t]=>xF P t x H
 | .min,[x,y],_=>EL false x y H
 | .max,[x,y],_=>EL true x y H
 | _,_,_=>AOut.bad H
def U6 (md:Nat->Bool)(H:AHeap)(d:D):D:=if md 1000001 then d else jN H d
def OW (md:Nat->Bool)(d:D):List Nat:=if md 1000001 then [] else eJ d
theorem ZZ {md:Nat->Bool}{d:D}{i:Nat}(h:i∈OW md d):i∈eJ d:=by
 unfold OW at h;split at h
 .cases h
 .exact h
def Hr (P:Program)(nid:Nat)(md:Nat->Bool)(e:Nat->D)(o:Oper)(H:AHeap):AOut :=
 match o.op with
 | .move x=>if j5 x then FU P nid (Fk md o.dst) o.type H else ⟨True,True,fS e x,H⟩
 | .assign x=>if j5 x then FU P nid (Fk md o.dst) o.type H else ⟨True,True,fS e x,H⟩
 | .pick c a b=>Bp (fS e c) (fS e a) (fS e b) H
 | .alloc t=>zU P nid (Fk md o.dst) t H
 | .box t x=>O9 P nid (Fk md o.dst) t (fS e x) H
 | .build t ps=>vI P t (ps.toList.map λp=>(p.1,fS e p.2)) H
 | .buildSlice t n ps=>jP P nid (Fk md o.dst) t n (ps.toList.map λp=>(p.1,U6 md H (fS e p.2))) (gC (ps.toList.flatMap λp=>OW md (fS e p.2)) H)
 | .load t a=>pL P t (fS e a) H
 | .store t a v=>if md 1000000 then nO P t (fS e a) (jN H (fS e v)) (gC (eJ (fS e v)) H) else nO P t (fS e a) (fS e v) H
 | .nilCheck x=>kJ (fS e x) H
 | .binOp op t x y _=>t6 (md 2000000) P t op (fS e x) (fS e y) H
 | .unOp op _ x=>YO op (fS e x) H
 | .convert s d x=>oJ P s d (fS e x) H
 | .makeFunc (.func f) first caps=>if first.isEmpty then ⟨True,True,.fn f (caps.toList.map (fS e)),H⟩ else AOut.bad H
 | .makeSlice t l c=>EM P nid t (fS e l) (fS e c) H
 | .slice t x lo hi none=>sC P t (fS e x) (lo.map (fS e)) (hi.map (fS e)) H
 | .fieldAddr t x f=>jE P t (fS e x) f H
 | .indexAddr t x i=>jD P t (fS e x) (fS e i) H
 | .index t x i=>vH P t (fS e x) (fS e i) H
 | .extract t i=>oI (fS e t) i H
 | .call { callee:=.builtin b,args:=args,argTypes:=ts }=>yV P nid b (args.toList.map (fS e)) ts.toList H
 | _=>AOut.bad H
def iR (e:Nat->D)(o:Oper):Option (FuncId × UN) :=
 match o.op with
 | .call { callee:=.value f,args:=args,argTypes:=_ }=>match fS e f with
  | .fn g caps=>some (g,args.toList.map (fS e)++caps)
  | _=>none
 | _=>none
end Go.Abs
end
section
namespace Go.Abs
def OpS (P:Program)(x:Sem Value)(M0:Nat->Prop)(H:AHeap)(σ:Nat->Option Ow)(w:World)(d:D)(H':AHeap):Prop :=
 ∃ v w' σ',x.run P w=.ok v w'/\Rel M0 H' σ' w'/\RepV (dV M0 H' σ') σ' H'.F w' v d/\Stp σ w σ' w'/\Keeps (dV M0 H σ) σ H.F w (dV M0 H' σ') σ' H'.F w'
section
variable {P:Program} {M0:Nat→Prop} {H:AHeap} {σ:Nat→Option Ow} {w:World}
theorem OpS.pure {x:Sem Value}{v:Value}{d:D}(hR:Rel M0 H σ w)(hx:x.run P w=.ok v w)(hv:RepV (dV M0 H σ) σ H.F w v d):OpS P x M0 H σ w d H :=
 ⟨v,w,σ,hx,hR,hv,.refl _ _,.refl _ _ _ _⟩
theorem gS (a:BinOp)(t:TypeId)(x y:Operand)(k:IntKind)(n:Int)(v:Value):eqGuard a t x y (.int k n) v=(Pure.pure ():Sem Unit):=by cases a<;>rfl
theorem GG (a:BinOp)(t:TypeId)(x y:Operand)(s:ByteArray)(v:Value):eqGuard a t x y (.string s) v=(Pure.pure ():Sem Unit):=by cases a<;>rfl
theorem Ia (a b:ByteArray):(a.toList==b.toList)=decide (a=b):=by
 rw [aU];simp only [beq_iff_eq,decide_eq_true_eq];constructor
 .intro h;have c:=congrArg List.toArray h;rw [ByteArray.toList_eq,ByteArray.toList_eq] at c;cases a;cases b;simp at c;subst c;rfl
 grind
theorem WH {d:BinOp}{t:TypeId}{ox oy:Operand}{g f:Value}{x y:D}(b:Rel M0 H σ w)
  (j:RepV (dV M0 H σ) σ H.F w g x) (i:RepV (dV M0 H σ) σ H.F w f y) (a:(LU d x y H).cond) :
  (LU d x y H).X/\OpS P (do eqGuard d t ox oy g f;binOp d t g f) M0 H σ w (LU d x y H).val (LU d x y H).heap:=by
 unfold LU at *;split at a<;>(try (exact a.elim))<;>refine ⟨trivial,?_⟩<;>cases j<;>cases i
 .obtain ⟨rfl,c⟩:=a;exact .pure b (by simp [gS,binOp,Op.intArith,uM c]) (.int _ _)
 .obtain ⟨rfl,c⟩:=a;exact .pure b (by simp [gS,binOp,Op.intArith,uM c]) (.int _ _)
 .obtain ⟨rfl,c⟩:=a;exact .pure b (by simp [gS,binOp,Op.intArith,uM c]) (.int _ _)
 .obtain ⟨rfl,h,c⟩:=a;exact .pure b (by simp [gS,binOp,Op.intDiv,h,uM c]) (.int _ _)
 .obtain ⟨rfl,h⟩:=a;exact .pure b (by simp [gS,binOp,Op.intDiv,h]) (.int _ _)
 .obtain rfl:=a;exact .pure b (by simp [gS,binOp,Op.intCmp]) (.bool _)
 .obtain rfl:=a;exact .pure b (by simp [gS,binOp,Op.intCmp]) (.bool _)
 .obtain rfl:=a;exact .pure b (by simp [gS,binOp,Op.intCmp]) (.bool _)
 .obtain rfl:=a;exact .pure b (by simp [gS,binOp,Op.intCmp]) (.bool _)
 .obtain rfl:=a;exact .pure b (by simp [gS,binOp,Op.intCmp]) (.bool _)
 .obtain rfl:=a;exact .pure b (by simp [gS,binOp,Op.intCmp]) (.bool _)
 .exact .pure b (by simp [GG,binOp,Op.stringOp,Ia]) (.bool _)
 .exact .pure b (by simp [GG,binOp,Op.stringOp,Ia]) (.bool _)
theorem xM {P:Program}{t:TypeId}(h:(sl P t).isSome=true):∃ e,P.underlying t=some (.slice e):=by
 unfold sl at h;grind
theorem BH {t e:TypeId}(b:P.underlying t=some (.slice e))(a:Option Addr)(n c:Nat):(Op.equal t (.slice a n c) (.slice none 0 0)).run P w=.ok a.isNone w:=by
 have h:∀ d,(Op.equalIn (d+1) t (.slice a n c) (.slice none 0 0)).run P w=.ok a.isNone w:=λd=>by
  cases a<;>simp [Op.equalIn,run_underlying b]
 exact h 9999
theorem US {t:TypeId}(c:P.underlying t=some .bool)(a b:Bool):(Op.equal t (.bool a) (.bool b)).run P w=.ok (a==b) w:=by
 have h:∀ d,(Op.equalIn (d+1) t (.bool a) (.bool b)).run P w=.ok (a==b) w:=λd=>by
  simp [Op.equalIn,run_underlying c]
 exact h 9999
theorem R7 (a:Int):IntKind.u64.wrap (((a % 2 ^ IntKind.u64.bits).toNat &&& 1 % 2 ^ IntKind.u64.bits:Nat):Int)=a % 2:=by
 have h:(((a % 2 ^ 64).toNat &&& 1 % 2 ^ 64:Nat):Int)=a % 2:=by
  grind
 show IntKind.u64.wrap (((a % 2 ^ 64).toNat &&& 1 % 2 ^ 64:Nat):Int)=a % 2;rw [h];exact uM (UF aD aD)
theorem QI {t:TypeId}{k:IntKind}(c:P.underlying t=some (.int k))(xs:Array Value)(i:Nat)(v:Value)(b:xs[i]?=some v):(part t xs i).run P w=.ok v w:=by
 simp [part,isAgg,run_underlying c,b]
theorem MP {t:TypeId}{n:Nat}(h:X1 P t=some n):∃ fs:Array Field,P.underlying t=some (.struct fs)/\P.stoodInHeld t=false/\P.eqGuardType P.depth t=false/\LD (Wo P 3) fs.toList 0=some n:=by grind [X1]
theorem UA {g:TypeId->Option Nat}:∀ (fs:List Field) (o n:Nat),LD g fs o=some n->o<=n
 | [],o,n,h=>by simp only [LD,bI] at h;omega
 | f :: fs,o,n,h=>by
  unfold LD at h;split at h
  .split at h
   .have:=UA fs _ _ h;omega
   .cases h
  .cases h
def YS (P:Program)(w:World)(e:Nat)(t:TypeId)(n:Nat):Prop :=
 ∀ (xs ys:Array Value) (o:Nat) (a b:V2),a.length=n->b.length=n ->
  (∀ (j:Nat) (m:Int),a[j]?=some m->xs[o+j]?=some (.int .i64 m))->(∀ (j:Nat) (m:Int),b[j]?=some m->ys[o+j]?=some (.int .i64 m)) ->
  ∃ x y,(part t xs o).run P w=.ok x w/\(part t ys o).run P w=.ok y w/\(Op.equalIn e t x y).run P w=.ok (decide (a=b)) w
theorem tX {g:TypeId->Option Nat}{e:Nat}(hg:∀ t n,g t=some n->YS P w e t n)(xs ys:Array Value):∀ (fs:List Field) (o n:Nat) (a b:V2),LD g fs o=some n->o+a.length=n->o+b.length=n ->
  (∀ (j:Nat) (m:Int),a[j]?=some m->xs[o+j]?=some (.int .i64 m))->(∀ (j:Nat) (m:Int),b[j]?=some m->ys[o+j]?=some (.int .i64 m)) ->
  (Op.eqFields e xs ys fs).run P w=.ok (decide (a=b)) w
 | [],o,n,a,b,h,ha,hb,_,_=>by
  simp only [LD,bI] at h;rw [bM (aD:a.length=0),bM (aD:b.length=0)];simp [Op.eqFields]
 | f :: fs,o,n,a,b,h,ha,hb,hx,hy=>by
  unfold LD at h;split at h
  .rename_i hf;obtain ⟨h1,h2⟩:=hf;split at h
   .rename_i k hk;have hle:=UA fs _ _ h;obtain ⟨x,y,px,py,pe⟩:=hg _ _ hk xs ys o (a.take k) (b.take k) (by rw [cX];omega) (by rw [cX];omega)
     (λj m hm=>hx j m (by rw [cO] at hm;split at hm;exact hm;cases hm)) (λj m hm=>hy j m (by rw [cO] at hm;split at hm;exact hm;cases hm))
    have ih:=tX hg xs ys fs (o+k) n (a.drop k) (b.drop k) h (by rw [f8];omega) (by rw [f8];omega)
     (λj m hm=>by rw [Cx];exact hx (k+j) m (by rw [cY] at hm;exact hm)) (λj m hm=>by rw [Cx];exact hy (k+j) m (by rw [cY] at hm;exact hm))
    have hab:(a=b)↔(a.take k=b.take k/\a.drop k=b.drop k):=by
     constructor
     .rintro rfl;exact ⟨rfl,rfl⟩
     .rintro ⟨q1,q2⟩;rw [<- List.take_append_drop k a,<- List.take_append_drop k b,q1,q2]
    rw [<- h2] at px py;simp only [Op.eqFields,if_pos h1,Sem.run_bind,px,py,Result.andThen_ok,pe];by_cases he:a.take k=b.take k
    .simp [he,ih,hab]
    .simp [he,hab]
   .cases h
  .cases h
theorem FD:∀ (d:Nat) (t:TypeId) (n:Nat),Wo P d t=some n->∀ e,d<=e->YS P w e t n
 | 0,t,n,h,e,he=>by simp [Wo] at h
 | d+1,t,n,h,e,he=>by
  obtain ⟨e,rfl⟩:∃ e',e=e'+1:=⟨e - 1,aD⟩;unfold Wo at h;split at h
  .rename_i k hu;simp only [bI] at h;subst h;intro xs ys o a b ha hb hx hy;match a,b,ha,hb with
   | [a0],[b0],_,_ =>
    refine ⟨_,_,QI hu xs o _ (hx 0 a0 rfl),QI hu ys o _ (hy 0 b0 rfl),?_⟩;rw [run_equalIn_int w e t .i64 k a0 b0 hu];by_cases q:a0=b0<;>simp [q]
  .rename_i fs hu;split at h
   .rename_i hc;obtain ⟨hs,hi⟩:=hc;split at h
    .rename_i m hm;split at h
     .rename_i hsz;simp only [bI] at h;subst h;obtain ⟨i,hi⟩:=gZ.1 hi;intro xs ys o a b ha hb hx hy;have hpart:∀ zs:Array Value,(part t zs o).run P w=.ok (.agg (zs.extract o (o+m))) w:=λzs=>by
       simp [part,isAgg,run_underlying hu,run_sizeOf (w:=w) hi,hsz]
      have hget:∀ (zs:Array Value) (c:V2),c.length=m->(∀ (j:Nat) (v:Int),c[j]?=some v->zs[o+j]?=some (.int .i64 v))->∀ (j:Nat) (v:Int),c[j]?=some v->(zs.extract o (o+m))[0+j]?=some (.int .i64 v):=λzs c hc hz j v hv=>by
       have hj:j<c.length:=(aQ.1 hv).1;have h1:=hz j v hv;have h2:o+j<zs.size:=(tH.1 h1).1;rw [Array.getElem?_extract,fE,if_pos aD];exact h1
      refine ⟨_,_,hpart xs,hpart ys,?_⟩;have hfo:P.fieldsOf t=fs:=by simp [Program.fieldsOf,hu]
      rw [run_equalIn_struct w e t _ _ (by rw [hfo];exact hu) hs,hfo];exact tX (λt' n' h'=>FD d t' n' h' e aD) _ _ fs.toList 0 m a b hm aD aD (hget xs a ha hx) (hget ys b hb hy)
     .cases h
    .cases h
   .cases h
  .cases h
theorem vE {M:Nat->Prop}{N:Nat->Prop}:∀ (ds:UN) (a:V2) (vs:List Value),vF ds=some a->vs.length=ds.length->(∀ (j:Nat) (u:Value) (d:D),vs[j]?=some u->ds[j]?=some d->RepV M σ N w u d) ->
  a.length=vs.length/\∀ (j:Nat) (n:Int),a[j]?=some n->vs[j]?=some (.int .i64 n)
 | [],a,vs,h,hl,_=>by
  simp only [vF,bI] at h;subst h;refine ⟨hl.symm,λj n hn=>by simp at hn⟩
 | d :: ds,a,vs,h,hl,hr=>by
  cases vs with
  | nil=>cases hl
  | cons v vs =>
   cases d<;>try (simp [vF] at h;done)
   rename_i k n;cases k<;>try (simp [vF] at h;done)
   simp only [vF,bV] at h;obtain ⟨a',h1,rfl⟩:=h;have hv:=hr 0 v _ rfl rfl;cases hv
   obtain ⟨i1,i2⟩:=vE ds a' vs h1 (bY hl) (λj u d hu hd=>hr (j+1) u d (bY hu) (bY hd));refine ⟨by simp [i1],λj m hm=>?_⟩;cases j with
   | zero=>simp at hm;subst hm;rfl
   | succ j=>simpa using i2 j m (bY hm)
theorem Yk {o:BinOp}{t:TypeId}{ox oy:Operand}{v u:Value}{x y:D}(i:Rel M0 H σ w)
  (h:RepV (dV M0 H σ) σ H.F w v x) (g:RepV (dV M0 H σ) σ H.F w u y) (d:(KJ P t o x y H).cond) :
  (KJ P t o x y H).X/\OpS P (do eqGuard o t ox oy v u;binOp o t v u) M0 H σ w (KJ P t o x y H).val (KJ P t o x y H).heap:=by
 unfold KJ at *;split at d
 .obtain ⟨e,f⟩:=xM d;cases h;cases g
  exact ⟨trivial,.pure i (by simp [eqGuard,binOp,BH f]) (.bool _)⟩
 .obtain ⟨e,f⟩:=xM d;cases h;cases g
  exact ⟨trivial,.pure i (by simp [eqGuard,binOp,BH f]) (.bool _)⟩
 .obtain ⟨e,f⟩:=xM d.1;cases g
  cases h
  .exact absurd rfl d.2
  .exact ⟨trivial,.pure i (by simp [eqGuard,binOp,BH f]) (.bool _)⟩
 .obtain ⟨e,f⟩:=xM d;cases h;cases g
  exact ⟨trivial,.pure i (by simp [eqGuard,binOp,BH f]) (.bool _)⟩
 .obtain ⟨e,f⟩:=xM d;cases h;cases g
  exact ⟨trivial,.pure i (by simp [eqGuard,binOp,BH f]) (.bool _)⟩
 .obtain ⟨e,f⟩:=xM d.1;cases g
  cases h
  .exact absurd rfl d.2
  .exact ⟨trivial,.pure i (by simp [eqGuard,binOp,BH f]) (.bool _)⟩
 .cases h;cases g
  exact ⟨trivial,.pure i (by simp [eqGuard,binOp,US d]) (.bool _)⟩
 .cases h;cases g
  exact ⟨trivial,.pure i (by simp [eqGuard,binOp,US d]) (.bool _)⟩
 .split at d
  .rename_i a b L K;obtain ⟨M,Q⟩:=d;obtain ⟨q,f,E,F,J⟩:=MP M;have m:P.fieldsOf t=q:=by simp [Program.fieldsOf,f]
   cases h;cases g
   rename_i p C I A k B G z;obtain ⟨O,s⟩:=vE _ a p L ic ic;obtain ⟨N,r⟩:=vE _ b k K ic ic;refine ⟨trivial,.pure i ?_ (.bool _)⟩;rw [Sem.run_bind,run_eqGuard_agg w .eql t ox oy _ _ F];simp only [Result.andThen_ok];have l:=tX (P:=P) (w:=w) (e:=9999) (λt' n' h'=>FD 3 t' n' h' 9999 aD) p.toArray k.toArray q.toList 0 a.length a b J aD aD (λj n hn=>by simpa using s j n hn) (λj n hn=>by simpa using r j n hn);rw [run_eql_struct,run_equalIn_struct w 9999 t _ _ (by rw [m];exact f) E,m,l];rfl
  .exact d.elim
 .split at d
  .rename_i a b L K;obtain ⟨M,Q⟩:=d;obtain ⟨q,f,E,F,J⟩:=MP M;have m:P.fieldsOf t=q:=by simp [Program.fieldsOf,f]
   cases h;cases g
   rename_i p C I A k B G z;obtain ⟨O,s⟩:=vE _ a p L ic ic;obtain ⟨N,r⟩:=vE _ b k K ic ic;refine ⟨trivial,.pure i ?_ (.bool _)⟩;rw [Sem.run_bind,run_eqGuard_agg w .neq t ox oy _ _ F];simp only [Result.andThen_ok];have l:=tX (P:=P) (w:=w) (e:=9999) (λt' n' h'=>FD 3 t' n' h' 9999 aD) p.toArray k.toArray q.toList 0 a.length a b J aD aD (λj n hn=>by simpa using s j n hn) (λj n hn=>by simpa using r j n hn);rw [run_neq_struct,run_equalIn_struct w 9999 t _ _ (by rw [m];exact f) E,m,l];rfl
  .exact d.elim
 .cases h;cases g
  exact ⟨trivial,.pure i (by simp [gS,binOp,Op.shift,show ¬ (_<(0:Int)) from Int.not_lt.2 d]) (.int _ _)⟩
 .obtain ⟨rfl,rfl,rfl⟩:=d;cases h;cases g
  exact ⟨trivial,.pure i (by simp [gS,binOp,Op.intBits,R7]) (.int _ _)⟩
 .exact WH i h g d
theorem WC {c:Bool}{a:BinOp}{t:TypeId}{ox oy:Operand}{e d:Value}{x y:D}(i:Rel M0 H σ w)
  (h:RepV (dV M0 H σ) σ H.F w e x) (g:RepV (dV M0 H σ) σ H.F w d y) (f:(t6 c P t a x y H).cond) :
  (t6 c P t a x y H).X/\OpS P (do eqGuard a t ox oy e d;binOp a t e d) M0 H σ w (t6 c P t a x y H).val (t6 c P t a x y H).heap:=by
 unfold t6 at *;split at f
 .cases h;cases g
  obtain rfl:=f;exact ⟨trivial,.pure i (by simp [gS,binOp,Op.intArith]) (.int _ _)⟩
 .exact Yk i h g f
theorem oC {α:Type}{n:Nat}:∀ (es:List (List α)) (i:Nat) (c:List α),(∀ c∈es,c.length=n)->es[i]?=some c->∀ j,j<n->es.flatten[i * n+j]?=c[j]?
 | [],i,c,_,h,j,hj=>by simp at h
 | e :: es,0,c,hl,h,j,hj=>by
  simp at h;subst h;have:=hl e aE;simp only [fJ,Nat.zero_mul,fE];rw [aS aD]
 | e :: es,i+1,c,hl,h,j,hj=>by
  have he:=hl e aE;simp at h;have ih:=oC es i c (λc hc=>hl c (iw hc)) h j hj;simp only [fJ];rw [bG (by rw [he,Nat.add_mul];omega),he,<- ih];congr 1;rw [Nat.add_mul];omega
theorem nA {α:Type}{n:Nat}:∀ (es:List (List α)),(∀ c∈es,c.length=n)->es.flatten.length=es.length * n
 | [],_=>by simp
 | e :: es,hl=>by
  simp only [fJ,aI,eO,nA es (λc hc=>hl c (iw hc)),hl e aE,Nat.add_mul];omega
theorem jK (b o j:Nat):(⟨b,o,none⟩:Addr).add j=⟨b,o+j,none⟩:=by unfold Addr.add;split<;>simp_all
theorem Bn (a:Addr)(i j:Nat):(a.add i).add j=a.add (i+j):=by
 unfold Addr.add;grind
theorem O5 {M:Nat->Prop}{N:Nat->Prop}{v:Value}{cs:UN}(h:RepV M σ N w v (.adr cs)) :
  ∃ ad xs,v=.pointer (some ad)/\RepL M σ N w xs cs/\(∀ u∈xs,u.oneCell'=true)/\∀ (j:Nat) (u:Value),xs[j]?=some u->¬ M ad.block/\w.cell? (ad.add j)=some u:=by
 generalize e:D.adr cs=d at h;cases h<;>cases e
 rename_i ad xs f a c b;exact ⟨ad,xs,rfl,⟨c,b⟩,f,a⟩
theorem aa6 {t:TypeId}{n:Nat}(h:tk P t=.agg n):(isAgg t).run P w=.ok true w/\∃ i,P.info? t=some i/\i.size=n:=by
 unfold tk at h;cases b:P.underlying t with
 | none=>simp [b] at h
 | some d =>
  cases c:P.info? t with
  | none=>cases d<;>simp [b,c] at h
  | some i =>
   cases d<;>simp [b,c] at h<;>first
    | (split at h<;>cases h;done)
    | exact ⟨by simp [isAgg,run_underlying b],i,rfl,h⟩
theorem Xe {t:TypeId}(h:tk P t=.one):(isAgg t).run P w=.ok false w:=by
 unfold tk at h;cases b:P.underlying t with
 | none=>simp [b] at h
 | some d =>
  cases c:P.info? t with
  | none=>cases d<;>simp [b,c] at h
  | some i=>cases d<;>simp [b,c] at h<;>simp [isAgg,run_underlying b]
theorem sI {v:Value}{x:D}{cs:UN}(K:Rel M0 H σ w)(C:RepV (dV M0 H σ) σ H.F w v x)(m:gI H x=some cs)(I:cs≠[]) :
  ∃ ad xs,v=.pointer (some ad)/\RepL (dV M0 H σ) σ H.F w xs cs/\(∀ u∈xs,u.oneCell'=true)/\∀ j u,xs[j]?=some u->w.cell? (ad.add j)=some u:=by
 cases x<;>simp only [gI] at m<;>try (cases m;done)
 case adr ds =>
  cases m
  obtain ⟨ad,xs,rfl,e,L,B⟩:=O5 C;grind
 case ptr id ver i off =>
  cases C
  rename_i O L h;cases y:H.get id with
  | none=>simp [y] at m
  | some k =>
   simp only [y] at m;split at m
   .rename_i E;cases f:k.P[i]? with
    | none=>simp [f] at m
    | some c =>
     simp [f] at m;subst m;obtain ⟨o,G,l⟩:=K.am id k y;obtain ⟨xs,p,s,e⟩:=l.row;have t:i<k.P.length:=(aQ.1 f).1;have A:c.length=o.H:=l.H c (aL f);rcases h o G with P|⟨M,b,J,rfl⟩
     .have:=l.ah;omega
     .have F:off<c.length:=by
       simp_all
      have z:=nA k.P l.H;have r:xs.length=k.P.length * o.H:=e.len.trans z;have q:i * o.H+o.H<=xs.length:=by
       rw [r];have:(i+1) * o.H<=k.P.length * o.H:=fY _ t;rw [Nat.add_mul] at this;omega
      refine ⟨_,(xs.drop (i * o.H+off)).take (o.H - off),rfl,⟨?_,λj u d a hd=>?_⟩,λu a=>s u (e9 (dD a)),λj u a=>?_⟩
      .simp only [cX,f8];omega
      .rw [cO] at a;split at a
       .rename_i N;rw [cY] at a hd;refine e.Z (i * o.H+off+j) u d a ?_;rw [Cx,oC k.P i c l.H f (off+j) aD,hd]
       .cases a
      .rw [cO] at a;split at a
       .rw [cY] at a;have:=p.cells (g:=b) J _ u a;rw [jK] at this ⊢;simpa [Cx] using this
       .cases a
   .cases m
theorem Q5 {t:TypeId}{A:Value}{x:D}(G:Rel M0 H σ w)(C:RepV (dV M0 H σ) σ H.F w A x)(m:(pL P t x H).cond) :
  (pL P t x H).X/\(pL P t x H).heap=H/\∃ v,(Instr.loadAt t A).run P w=.ok v w/\RepV (dV M0 H σ) σ H.F w v (pL P t x H).val:=by
 unfold pL at *;cases l:gI H x with
 | none=>simp [l,AOut.bad] at m
 | some K =>
  simp only [l] at m ⊢;cases g:tk P t with
  | bad=>simp [g,AOut.bad] at m
  | agg n =>
   rw [g] at m;obtain ⟨s,E⟩:=m;obtain ⟨z,i,M,y⟩:=aa6 (w:=w) g;obtain ⟨r,o,rfl,a,I,b⟩:=sI G C l (by intro h;subst h;simp at s;omega);refine ⟨trivial,rfl,?_⟩;have F:(o.take n).length=n:=by rw [cX,a.len];omega
   have k:=run_loadCells_list (P:=P) (w:=w) r (o.take n) (λj u f=>by
    rw [cO] at f;split at f
    .exact b j u f
    .cases f)
   rw [F] at k;refine ⟨.agg (o.take n).toArray,?_,.agg _ _ ?_ (λu f=>I u (dD f)) λj u d f hd=>?_⟩
   .simp [Instr.loadAt,Instr.sureAddr,loadVar,z,sizeOf,typeInfo,M,y,k]
   .rw [F,cX];omega
   .rw [cO] at f hd;split at f
    .rename_i L;rw [if_pos L] at hd;exact a.Z j u d f hd
    .cases f
  | one =>
   rw [g] at m;obtain ⟨r,o,rfl,a,I,b⟩:=sI G C l m;refine ⟨trivial,rfl,?_⟩;have z:=Xe (w:=w) g;cases K with
   | nil=>exact absurd rfl m
   | cons d K =>
    cases o with
    | nil=>have:=a.len;simp at this
    | cons u o =>
     have J:=b 0 u rfl;rw [show r.add 0=r by simp [Addr.add]] at J;exact ⟨u,by simp [Instr.loadAt,Instr.sureAddr,loadVar,z,J],a.Z 0 u d rfl rfl⟩
theorem Tl {t:TypeId}{a:Value}{x:D}(b:Rel M0 H σ w)(c:RepV (dV M0 H σ) σ H.F w a x)(d:(pL P t x H).cond) :
  (pL P t x H).X/\OpS P (Instr.loadAt t a) M0 H σ w (pL P t x H).val (pL P t x H).heap:=by
 obtain ⟨h,g,v,f,e⟩:=Q5 (P:=P) b c d;rw [g];exact ⟨h,.pure b f e⟩
end
end Go.Abs
end
