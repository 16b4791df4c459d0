/- A block's number against the next free one. · The abstractio -/
import Derived.Orders
import Derived.Laws.AppendOwn
import Derived.Laws.OwnMore
import Derived.Below
import Derived.Laws.StructEq
import Derived.WalkKit
import Derived.ChangeKeysEq
set_option linter.unusedVariables false
set_option linter.unusedSimpArgs false
section
namespace Go.Abs
abbrev Yb:=List (List Int)
abbrev Xa0:=List Int
theorem bL {p:Prop}(h:p:=by omega):p:=h
theorem cl {p:Prop}(h:p:=by simp [go_sem,Y]):p:=h
theorem eh {p:Prop}(h:p:=by simp [go_sem]):p:=h
theorem ei {p:Prop}(h:p:=by first|(simp [go_sem];done)|(simp [go_sem];omega)):p:=h
theorem em {p:Prop}(h:p:=by first|rfl|(simp [go_sem];done)):p:=h
theorem en {p:Prop}(h:p:=by kernel_rfl):p:=h
theorem eq {p:Prop}(h:p:=by simp [go_sem];omega):p:=h
theorem er {p:Prop}(h:p:=by assumption):p:=h
theorem et {p:Prop}(h:p:=by simp;omega):p:=h
theorem eu {p:Prop}(h:p:=by simp [go_sem];rfl):p:=h
theorem ew {p:Prop}(h:p:=by simp [go_sem,seval,dI]):p:=h
theorem ez {p:Prop}(h:p:=by simp [go_sem]<;>first|omega|(rw [bB];simp<;>omega)|(simp_all<;>omega)):p:=h
theorem eC {p:Prop}(h:p:=by rw [aO];split<;>simp<;>omega):p:=h
theorem eD {p a:Prop}(x:a)(k:a->p:=by (intro h;simp [go_sem,h])):p:=k x
theorem fc {p a b:Prop}(x:a)(y:b)(k:a->b->p:=by (intro h i;simp [go_sem,h,i])):p:=k x y
theorem fe {p a:Prop}(x:a)(k:a->p:=by (intro h;simp [go_sem,Y,h])):p:=k x
theorem fg {p a:Prop}(x:a)(k:a->p:=by (intro h;simp [h])):p:=k x
theorem bS {p:Prop}(h:p:=by simp):p:=h
theorem cG {p q:Prop}(h:q)(k:q->p:=by (intro h;simpa using h)):p:=k h
theorem cY {α:Sort _}(a:α):∃ x,x=a:=⟨a,rfl⟩
theorem dY {α:Sort _}(a:α):∃ x,a=x:=⟨a,rfl⟩
theorem xa0 {pa pb:Prop}(a:pa)(b:pb):pa∧pb:=⟨a,b⟩
theorem xa1 {pa pb pc:Prop}(a:pa)(b:pb)(c:pc):pa∧pb∧pc:=⟨a,b,c⟩
theorem xa2 {pa pb pc pd:Prop}(a:pa)(b:pb)(c:pc)(d:pd):pa∧pb∧pc∧pd:=⟨a,b,c,d⟩
theorem xa3 {pa pb pc pd pe:Prop}(a:pa)(b:pb)(c:pc)(d:pd)(e:pe):pa∧pb∧pc∧pd∧pe:=⟨a,b,c,d,e⟩
theorem xa4 {pa pb pc pd pe pf:Prop}(a:pa)(b:pb)(c:pc)(d:pd)(e:pe)(f:pf):pa∧pb∧pc∧pd∧pe∧pf:=⟨a,b,c,d,e,f⟩
theorem xa5 {pa pb pc pd pe pf pg:Prop}(a:pa)(b:pb)(c:pc)(d:pd)(e:pe)(f:pf)(g:pg):pa∧pb∧pc∧pd∧pe∧pf∧pg:=⟨a,b,c,d,e,f,g⟩
theorem xa6 {pa pb pc pd pe pf pg ph:Prop}(a:pa)(b:pb)(c:pc)(d:pd)(e:pe)(f:pf)(g:pg)(h:ph):pa∧pb∧pc∧pd∧pe∧pf∧pg∧ph:=⟨a,b,c,d,e,f,g,h⟩
theorem xa7 {pa pb pc pd pe pf pg ph pi:Prop}(a:pa)(b:pb)(c:pc)(d:pd)(e:pe)(f:pf)(g:pg)(h:ph)(i:pi):pa∧pb∧pc∧pd∧pe∧pf∧pg∧ph∧pi:=⟨a,b,c,d,e,f,g,h,i⟩
theorem xa8 {pa pb pc pd pe pf pg ph pi pj:Prop}(a:pa)(b:pb)(c:pc)(d:pd)(e:pe)(f:pf)(g:pg)(h:ph)(i:pi)(j:pj):pa∧pb∧pc∧pd∧pe∧pf∧pg∧ph∧pi∧pj:=⟨a,b,c,d,e,f,g,h,i,j⟩
theorem xa9 {pa pb pc pd pe pf pg ph pi pj pk:Prop}(a:pa)(b:pb)(c:pc)(d:pd)(e:pe)(f:pf)(g:pg)(h:ph)(i:pi)(j:pj)(k:pk):pa∧pb∧pc∧pd∧pe∧pf∧pg∧ph∧pi∧pj∧pk:=⟨a,b,c,d,e,f,g,h,i,j,k⟩
theorem xb0 {pa pb pc pd pe pf pg ph pi pj pk pl:Prop}(a:pa)(b:pb)(c:pc)(d:pd)(e:pe)(f:pf)(g:pg)(h:ph)(i:pi)(j:pj)(k:pk)(l:pl):pa∧pb∧pc∧pd∧pe∧pf∧pg∧ph∧pi∧pj∧pk∧pl:=⟨a,b,c,d,e,f,g,h,i,j,k,l⟩
abbrev aA:=@List.getElem?_eq_getElem
abbrev aC:=@List.getElem_mem
abbrev aD:=@List.take_succ_eq_append_getElem
abbrev aF:=@Option.getD_some
abbrev aG:=@Nat.le_of_ble_eq_true
abbrev aH:=@List.take_of_length_le
abbrev aK:=@List.mem_of_getElem?
abbrev aL:=@List.getElem?_eq_some_iff
abbrev aM:=@List.getElem_of_mem
abbrev aO:=@List.length_append
abbrev aP:=@List.mem_cons
abbrev aQ:=@List.mem_append
abbrev aR:=@Bool.and_eq_true
abbrev aS:=@List.mem_map
abbrev aT:=@Nat.le_refl
abbrev aW:=@List.getElem?_map
abbrev aX:=@List.mem_singleton
abbrev aY:=@List.getElem?_append_left
abbrev aZ:=@List.any_eq_true
abbrev bB:=@Bool.eq_iff_iff
abbrev bC:=@List.getElem?_eq_none
abbrev bD:=@Nat.lt_or_ge
abbrev bE:=@Classical.byContradiction
abbrev bF:=@List.getElem?_append_right
abbrev bG:=@Option.some.injEq
abbrev bI:=@List.eq_nil_of_length_eq_zero
abbrev bJ:=@List.mem_of_mem_take
abbrev bK:=@Array.getElem?_eq_getElem
abbrev bM:=@List.mem_flatMap
abbrev bN:=@List.mem_range
abbrev bP:=@Bool.eq_false_iff
abbrev bQ:=@Option.map_eq_some_iff
abbrev bR:=@List.length_map
abbrev bT:=@List.length_take
abbrev bV:=@List.getElem?_drop
abbrev bX:=@List.getElem?_take
abbrev bY:=@List.map_congr_left
abbrev b7:=@Bool.not_eq_true'
abbrev cA:=@List.pairwise_iff_getElem
abbrev cC:=@Nat.le_add_right
abbrev cD:=@List.length_cons
abbrev cF:=@List.all_eq_true
abbrev cH:=@Nat.lt_of_lt_of_le
abbrev cQ:=@List.mem_of_mem_drop
abbrev cR:=@List.drop_of_length_le
abbrev cT:=@List.getElem?_set
abbrev cX:=@Bool.or_eq_true
abbrev cZ:=@List.mem_cons_of_mem
abbrev c6:=@List.range_succ
abbrev c8:=@List.map_set
abbrev c9:=@Nat.mul_le_mul_right
abbrev dA:=@Nat.le_trans
abbrev dG:=@List.append_nil
abbrev dN:=@Nat.zero_le
abbrev dR:=@List.mem_filter
abbrev dU:=@List.not_mem_nil
abbrev dV:=@List.length_drop
abbrev eG:=@List.foldl_append
abbrev eQ:=@Nat.zero_add
abbrev eU:=@List.filter_append
abbrev eV:=@List.cons_append
abbrev eW:=@Bool.false_eq_true
abbrev fB:=@List.flatten_cons
abbrev fC:=@List.ext_getElem?
abbrev fE:=@Int.eq_ofNat_of_zero_le
abbrev fP:=@Bool.true_and
abbrev fS:=@Option.map_some
abbrev fT:=@List.nil_append
abbrev gA:=@List.map_cons
abbrev gB:=@Array.length_toList
abbrev gC:=@List.nodup_cons
abbrev gF:=@List.ext_getElem
abbrev gG:=@List.nodup_append
abbrev gS:=@List.findIdx?_eq_some_iff_getElem
abbrev iC:=@List.length_filter_le
abbrev iD:=@List.foldl_cons
abbrev iI:=@List.mem_flatten
abbrev iO:=@List.flatMap_cons
abbrev iP:=@List.any_eq_false
abbrev iX:=@List.drop_eq_nil_of_le
abbrev iY:=@Nat.mul_le_mul
abbrev iZ:=@List.length_set
abbrev i6:=@List.length_nil
abbrev j4:=@Nat.lt_irrefl
abbrev j5:=@List.mem_cons_self
abbrev j6:=@List.getElem?_replicate
abbrev kA:=@List.pairwise_append
abbrev kG:=@List.map_nil
abbrev kV:=@List.take_succ_cons
abbrev kW:=@List.pairwise_map
abbrev kX:=@Decidable.not_not
abbrev lE:=@List.mem_or_eq_of_mem_set
abbrev lI:=@List.set_append_right
abbrev l8:=@Option.isSome_iff_exists
abbrev l9:=@List.eq_of_mem_replicate
abbrev mH:=@List.getElem?_cons_zero
abbrev mI:=@Int.le_of_lt
abbrev mR:=@List.getElem_take
abbrev mU:=@List.replicate_succ
abbrev mV:=@List.flatten_append
abbrev mW:=@List.flatMap_append
abbrev mX:=@Array.getD_eq_getD_getElem?
abbrev nP:=@Array.getElem?_eq_some_iff
abbrev nU:=@Nat.sub_self
abbrev nW:=@List.set_cons_zero
abbrev pB:=@List.size_toArray
abbrev pC:=@List.all_append
abbrev p7:=@Nat.add_zero
abbrev qI:=@List.mem_map_of_mem
abbrev qJ:=@List.filter_cons_of_neg
abbrev qM:=@Classical.or_iff_not_imp_left
abbrev rI:=@List.pairwise_cons
abbrev rJ:=@List.getElem_range
abbrev sG:=@Nat.mul_comm
abbrev sH:=@List.length_replicate
abbrev s8:=@List.all_eq_false
abbrev uF:=@List.mem_take_iff_getElem
abbrev uG:=@List.findIdx?_eq_none_iff
abbrev vP:=@List.take_append
abbrev vQ:=@List.getElem_map
abbrev vR:=@List.getElem_inj
abbrev vS:=@List.flatMap_nil
abbrev vT:=@List.getElem?_range
abbrev vY:=@List.getElem?_take_of_lt
abbrev xR:=@Nat.min_eq_left
abbrev xS:=@Nat.add_sub_cancel_left
abbrev xT:=@List.set_cons_succ
abbrev xU:=@List.filter_cons_of_pos
abbrev xV:=@List.any_append
abbrev xW:=@Bool.or_false
abbrev Aw:=@Nat.one_mul
abbrev AI:=@List.pairwise_flatMap
abbrev AJ:=@List.length_singleton
abbrev AK:=@List.eq_nil_iff_forall_not_mem
abbrev AL:=@List.contains_iff_mem
abbrev AM:=@Classical.choose_spec
abbrev B8:=@List.getElem_set
abbrev Ch:=@List.replicate_succ'
abbrev Ci:=@Bool.or_eq_false_iff
abbrev Cj:=@Array.replicate_zero
abbrev Ck:=@Array.replicate_succ
abbrev CD:=@Nat.mul_assoc
abbrev CE:=@Nat.add_assoc
abbrev CF:=@Bool.not_true
abbrev CG:=@Bool.and_true
abbrev De:=@Nat.not_lt_zero
abbrev Df:=@List.length_pos_iff
abbrev Dg:=@List.append_toArray
abbrev GR:=@Bool.not_false
abbrev GS:=@Bool.false_and
abbrev GT:=@Bool.and_false
abbrev HC:=@List.push_toArray
abbrev HD:=@List.getElem_drop
abbrev HE:=@List.Perm.eq_of_pairwise
abbrev Kb:=@List.getElem?_cons_succ
abbrev Lb:=@List.flatMap_def
abbrev Lc:=@List.filter_cons
abbrev Ld:=@List.drop_append
abbrev MO:=@List.getElem?_set_self
end Go.Abs
namespace Go.Abs
theorem bU {a n:Nat}(h:a<n):(a=n)=False/\(∀ k,(a=n+k)=False)/\(∀ k l,(a=n+k+l)=False)/\(n=a)=False/\(∀ k,(n+k=a)=False)/\(∀ k l,(n+k+l=a)=False) /\
  (∀ k l m,(a=n+k+l+m)=False)/\(∀ k l m,(n+k+l+m=a)=False)/\(∀ k l m p,(a=n+k+l+m+p)=False)/\(∀ k l m p,(n+k+l+m+p=a)=False) :=
 ⟨eq_false bL,λ_=>eq_false bL,λ_ _=>eq_false bL,eq_false bL,λ_=>eq_false bL,λ_ _=>eq_false bL,
  λ_ _ _=>eq_false bL,λ_ _ _=>eq_false bL,λ_ _ _ _=>eq_false bL,λ_ _ _ _=>eq_false bL⟩
theorem b8 {a b:Nat}(h:a≠b):(a=b)=False/\(b=a)=False:=⟨eq_false h,eq_false (Ne.symm h)⟩
theorem Yy (n:Nat):(∀ a,(n=n+a)=(a=0))/\(∀ a b,(n=n+a+b)=(a+b=0))/\(∀ a b c,(n=n+a+b+c)=(a+b+c=0))/\(∀ a b c d,(n=n+a+b+c+d)=(a+b+c+d=0)) :=
 ⟨λ_=>propext bL,λ_ _=>propext bL,λ_ _ _=>propext bL,λ_ _ _ _=>propext bL⟩
end Go.Abs
end
section
namespace Go.Abs
inductive D where
 | int (k:IntKind) (n:Int)
 | bool (b:Bool)
 | str (s:ByteArray)
 | agg (cs:(List D))
 | tup (vs:(List D))
 | nil
 | list (es:(List (List D)))
 | adr (cs:(List D))
 | ne
 | nilp
 | ptr (id ver i off:Nat)
 | own (id n:Nat)
 | win (id ver lo hi:Nat)
 | fn (f:FuncId) (caps:(List D))
 | nilf
 | opt (g:Bool) (d:D)
 | cst (v:Value)
 | junk
 deriving Inhabited
abbrev Xa2:=List D
abbrev Xa1:=List (List D)
structure Ow where
 af:Nat
 val:Value
 K:Nat
 ty:TypeId
def Ow.block (o:Ow):Option Nat:=o.val.ownBlock
def S8 (o:Ow)(v:Value)(ver lo hi:Nat):Prop :=
 (o.val=.slice none 0 0/\v=.slice none 0 0/\hi=0) \/
 ∃ b cap,o.val=.slice (some ⟨b,0,none⟩) ver cap/\ver<=cap/\v=.slice (some (if cap=lo then ⟨b,0,none⟩ else ⟨b,lo * o.K,none⟩)) (hi - lo) (cap - lo)
inductive RepV (M:Nat->Prop) (σ:Nat->Option Ow) (N:Nat->Prop) (w:World):Value->D->Prop
 | int (k:IntKind) (n:Int):RepV M σ N w (.int k n) (.int k n)
 | bool (b:Bool):RepV M σ N w (.bool b) (.bool b)
 | str (s:ByteArray):RepV M σ N w (.string s) (.str s)
 | agg (vs:List Value) (ds:Xa2) (hl:vs.length=ds.length) (h1:∀ u∈vs,u.oneCell'=true)
   (hr:∀ (j:Nat) (u:Value) (d:D),vs[j]?=some u->ds[j]?=some d->RepV M σ N w u d):RepV M σ N w (.agg vs.toArray) (.agg ds)
 | tup (vs:List Value) (ds:Xa2) (hl:vs.length=ds.length)
   (hr:∀ (j:Nat) (u:Value) (d:D),vs[j]?=some u->ds[j]?=some d->RepV M σ N w u d):RepV M σ N w (.tuple vs.toArray) (.tup ds)
 | nil:RepV M σ N w (.slice none 0 0) .nil
 | listN:RepV M σ N w (.slice none 0 0) (.list [])
 | list (ad:Addr) (cap sz:Nat) (xs:List Value) (es:Xa1) (hc:es.length<=cap) (hm:cap<=maxLen) (hsz:∀ c∈es,c.length=sz)
   (hl:xs.length=es.flatten.length) (h1:∀ u∈xs,u.oneCell'=true)
   (hcell:∀ (j:Nat) (u:Value),xs[j]?=some u->¬ M ad.block/\w.cell? (ad.add j)=some u)
   (hr:∀ (j:Nat) (u:Value) (d:D),xs[j]?=some u->es.flatten[j]?=some d->RepV M σ N w u d) :
   RepV M σ N w (.slice (some ad) es.length cap) (.list es)
 | adr (ad:Addr) (xs:List Value) (ds:Xa2) (hl:xs.length=ds.length) (h1:∀ u∈xs,u.oneCell'=true)
   (hcell:∀ (j:Nat) (u:Value),xs[j]?=some u->¬ M ad.block/\w.cell? (ad.add j)=some u)
   (hr:∀ (j:Nat) (u:Value) (d:D),xs[j]?=some u->ds[j]?=some d->RepV M σ N w u d) :
   RepV M σ N w (.pointer (some ad)) (.adr ds)
 | ne (ad:Addr) (cap:Nat) (hm:cap<=maxLen):RepV M σ N w (.slice (some ad) 0 cap) .ne
 | nilp:RepV M σ N w (.pointer none) .nilp
 | ptr (v:Value) (id ver i off:Nat) (hN:N id) (h1:v.oneCell'=true)
   (h:∀ o,σ id=some o->ver<o.af\/(ver=o.af/\∃ b,o.block=some b/\v=.pointer (some ⟨b,i * o.K+off,none⟩))) :
   RepV M σ N w v (.ptr id ver i off)
 | own (v:Value) (id n:Nat) (hN:N id) (h1:v.oneCell'=true) (h:∀ o,σ id=some o->n<o.af\/(n=o.af/\v=o.val)) :
   RepV M σ N w v (.own id n)
 | win (v:Value) (id ver lo hi:Nat) (hN:N id) (h1:v.oneCell'=true) (hlh:lo<=hi/\hi<=ver) (h:∀ o,σ id=some o->ver<o.af\/(ver=o.af/\S8 o v ver lo hi)) :
   RepV M σ N w v (.win id ver lo hi)
 | fn (f:FuncId) (vs:List Value) (ds:Xa2) (hl:vs.length=ds.length)
   (hr:∀ (j:Nat) (u:Value) (d:D),vs[j]?=some u->ds[j]?=some d->RepV M σ N w u d):RepV M σ N w (.func (.func f) #[] vs.toArray) (.fn f ds)
 | nilf:RepV M σ N w .nilFunc .nilf
 | opt (v:Value) (g:Bool) (d:D) (hf:g=false->v=.tuple #[]) (h:g=true->RepV M σ N w v d):RepV M σ N w v (.opt g d)
 | cst (v:Value):RepV M σ N w v (.cst v)
 | junk (v:Value):RepV M σ N w v .junk
structure RepL (M:Nat->Prop) (σ:Nat->Option Ow) (N:Nat->Prop) (w:World) (vs:List Value) (ds:Xa2):Prop where
 len:vs.length=ds.length
 Y:∀ (j:Nat) (u:Value) (d:D),vs[j]?=some u->ds[j]?=some d->RepV M σ N w u d
structure Keeps (M:Nat->Prop) (σ:Nat->Option Ow) (N:Nat->Prop) (w:World) (M':Nat->Prop) (σ':Nat->Option Ow) (N':Nat->Prop) (w':World):Prop where
 cell:∀ (ad:Addr) (u:Value),¬ M ad.block->w.cell? ad=some u->¬ M' ad.block/\w'.cell? ad=some u
 own:∀ id o',N id->σ' id=some o'->∃ o,σ id=some o/\(o=o'\/o.af<o'.af)
 le:∀ id,N id->N' id
theorem jD (a:Addr)(n:Nat):(a.add n).block=a.block:=by grind [Addr.add]
theorem RepV.G {M:Nat->Prop}{σ:Nat->Option Ow}{N:Nat->Prop}{w:World}{m:Nat->Prop}{σ':Nat->Option Ow}{l:Nat->Prop}{w':World}
  (k:Keeps M σ N w m σ' l w') {v:Value} {d:D} (h:RepV M σ N w v d):RepV m σ' l w' v d:=by
 induction h with
 | int=>exact .int _ _
 | bool=>exact .bool _
 | str=>exact .str _
 | agg vs ds hl h1 _ ih=>exact .agg vs ds hl h1 ih
 | tup vs ds hl _ ih=>exact .tup vs ds hl ih
 | nil=>exact .nil
 | listN=>exact .listN
 | list ad cap sz xs es hc hm hsz hl h1 hcell _ ih =>
  refine .list ad cap sz xs es hc hm hsz hl h1 (λj u hu=>?_) ih;obtain ⟨b,a⟩:=hcell j u hu;have:=k.cell (ad.add j) u (by rw [jD];exact b) a;rw [jD] at this;exact this
 | adr ad xs ds hl h1 hcell _ ih =>
  refine .adr ad xs ds hl h1 (λj u hu=>?_) ih;obtain ⟨b,a⟩:=hcell j u hu;have:=k.cell (ad.add j) u (by rw [jD];exact b) a;rw [jD] at this;exact this
 | ne ad cap hm=>exact .ne ad cap hm
 | nilp=>exact .nilp
 | ptr v id ver i off hN h1 h =>
  refine .ptr v id ver i off (k.le id hN) h1 λo' ho'=>?_;obtain ⟨o,c,e⟩:=k.own id o' hN ho';grind
 | own v id n hN h1 h =>
  refine .own v id n (k.le id hN) h1 λo' ho'=>?_;obtain ⟨o,c,e⟩:=k.own id o' hN ho';grind
 | win v id ver lo hi hN h1 hlh h =>
  refine .win v id ver lo hi (k.le id hN) h1 hlh λo' ho'=>?_;obtain ⟨o,c,e⟩:=k.own id o' hN ho';grind
 | fn f vs ds hl _ ih=>exact .fn f vs ds hl ih
 | nilf=>exact .nilf
 | opt v g d hf _ ih=>exact .opt v g d hf ih
 | cst v=>exact .cst v
 | junk v=>exact .junk v
theorem RepL.G {M:Nat->Prop}{σ:Nat->Option Ow}{N:Nat->Prop}{w:World}{M':Nat->Prop}{σ':Nat->Option Ow}{N':Nat->Prop}{w':World}
  (k:Keeps M σ N w M' σ' N' w') {v:List Value} {d:Xa2} (h:RepL M σ N w v d):RepL M' σ' N' w' v d :=
 ⟨h.len,λj u x hu hx=>(h.Y j u x hu hx).G k⟩
def D.cell:D->Bool
 | .agg _ | .tup _ | .opt _ _ | .cst _ | .junk=>false
 | _=>true
theorem RepV.cw {M:Nat->Prop}{σ:Nat->Option Ow}{N:Nat->Prop}{w:World}{v:Value}{d:D}(h:RepV M σ N w v d)(a:d.cell=true):v.oneCell'=true:=by
 cases h<;>first|rfl|assumption|(simp [D.cell] at a)
def D.cells:D->Xa2
 | .agg cs=>cs
 | d=>[d]
mutual
def D.U:D->Bool
 | .agg cs=>D.N cs
 | .tup cs=>D.N cs
 | .list es=>D.T es
 | .adr cs=>D.N cs
 | .fn _ cs=>D.N cs
 | .ptr .. | .own .. | .win .. | .opt .. | .junk=>false
 | _=>true
def D.N:Xa2->Bool
 | []=>true
 | d :: l=>D.U d&&D.N l
def D.T:Xa1->Bool
 | []=>true
 | d :: l=>D.N d&&D.T l
end
theorem iR {l:Xa2}(h:D.N l=true):∀ d∈l,d.U=true:=by
 induction l with
 | nil=>simp
 | cons a l ih=>simp only [D.N,aR] at h;intro d b;cases b with
  | head=>exact h.1
  | tail _ hm=>exact ih h.2 d hm
theorem p8 {l:Xa1}(h:D.T l=true):∀ d∈l,D.N d=true:=by
 induction l with
 | nil=>simp
 | cons a l ih=>simp only [D.T,aR] at h;intro d b;cases b with
  | head=>exact h.1
  | tail _ hm=>exact ih h.2 d hm
theorem RepV.closed {M:Nat->Prop}{σ:Nat->Option Ow}{N:Nat->Prop}{w:World}{l:Nat->Prop}{σ':Nat->Option Ow}{m:Nat->Prop}
  {w':World} (k:∀ (ad:Addr) (u:Value),¬ M ad.block->w.cell? ad=some u->¬ l ad.block/\w'.cell? ad=some u) {v:Value} {d:D} (h:RepV M σ N w v d) (a:d.U=true):RepV l σ' m w' v d:=by
 induction h with
 | int=>exact .int _ _
 | bool=>exact .bool _
 | str=>exact .str _
 | agg vs ds hl h1 _ ih =>
  exact .agg vs ds hl h1 λj u x hu hx=>ih j u x hu hx (iR a x (aK hx))
 | tup vs ds hl _ ih =>
  exact .tup vs ds hl λj u x hu hx=>ih j u x hu hx (iR a x (aK hx))
 | nil=>exact .nil
 | listN=>exact .listN
 | list ad cap sz xs es hcp hm hsz hl h1 hcell _ ih =>
  refine .list ad cap sz xs es hcp hm hsz hl h1 (λj u hu=>?_) λj u x hu hx=>ih j u x hu hx ?_
  .obtain ⟨i,b⟩:=hcell j u hu;have:=k (ad.add j) u (by rw [jD];exact i) b;rw [jD] at this;exact this
  .obtain ⟨c,g,e⟩:=iI.1 (aK hx);exact iR (p8 a c g) x e
 | adr ad xs ds hl h1 hcell _ ih =>
  refine .adr ad xs ds hl h1 (λj u hu=>?_) λj u x hu hx=>ih j u x hu hx (iR a x (aK hx));obtain ⟨i,b⟩:=hcell j u hu;have:=k (ad.add j) u (by rw [jD];exact i) b;rw [jD] at this;exact this
 | ne ad cap hm=>exact .ne ad cap hm
 | nilp=>exact .nilp
 | ptr=>simp [D.U] at a
 | own=>simp [D.U] at a
 | win=>simp [D.U] at a
 | fn f vs ds hl _ ih =>
  exact .fn f vs ds hl λj u x hu hx=>ih j u x hu hx (iR a x (aK hx))
 | nilf=>exact .nilf
 | opt=>simp [D.U] at a
 | cst v=>exact .cst v
 | junk v=>simp [D.U] at a
end Go.Abs
end
section
namespace Go.Abs
structure Blk where
 ty:TypeId
 sz:Nat
 es:Xa1
 fz:Bool
structure AHeap where
 next:Nat
 J:Nat->Prop
 get:Nat->Option Blk
def AHeap.ak:AHeap:=⟨0,λ_=>False,λ_=>none⟩
def AHeap.push (H:AHeap)(id:Nat)(b:Blk):AHeap:=⟨if id<H.next then H.next else id+1,λi=>i=id\/H.J i,λi=>if i=id then some b else H.get i⟩
def AHeap.put (H:AHeap)(id:Nat)(b:Blk):AHeap:=⟨H.next,H.J,λi=>if i=id then some b else H.get i⟩
def dK (M0:Nat->Prop)(H:AHeap)(σ:Nat->Option Ow)(b:Nat):Prop :=
 M0 b\/∃ id k o,H.get id=some k/\k.fz=false/\σ id=some o/\o.block=some b
structure Lies (M:Nat->Prop) (σ:Nat->Option Ow) (N:Nat->Prop) (w:World) (k:Blk) (o:Ow):Prop where
 af:o.af=k.es.length
 ty:o.ty=k.ty
 sz:o.K=k.sz
 K:∀ c∈k.es,c.length=o.K
 row:∃ xs,w.ownsRow 0 k.ty o.K o.val k.es.length xs/\(∀ u∈xs,u.oneCell'=true)/\RepL M σ N w xs k.es.flatten
structure Rel (M0:Nat->Prop) (H:AHeap) (σ:Nat->Option Ow) (w:World):Prop where
 bf:∀ id,¬ H.J id->σ id=none/\H.get id=none
 bb:∀ id,H.J id->id<H.next
 ah:∀ id k,H.get id=some k->∃ o,σ id=some o/\Lies (dK M0 H σ) σ H.J w k o
 inj:∀ i j o o' b,σ i=some o->σ j=some o'->o.block=some b->o'.block=some b->i=j
 lt:∀ i o b,σ i=some o->o.block=some b->b<w.heap.size/\¬ M0 b
 m0:∀ b,M0 b->b<w.heap.size
structure Stp (σ:Nat->Option Ow) (w:World) (σ':Nat->Option Ow) (w':World):Prop where
 os:w'.os=w.os
 tape:w'.tape=w.tape
 output:w'.output=w.output
 size:w.heap.size<=w'.heap.size
 bc:∀ b,b<w.heap.size->(∀ i o,σ i=some o->o.block≠some b)->w'.heap[b]?=w.heap[b]?
 new:∀ i o' b,σ' i=some o'->o'.block=some b->w.heap.size<=b\/∃ j o,σ j=some o/\o.block=some b
theorem Stp.refl (σ:Nat->Option Ow)(w:World):Stp σ w σ w :=
 ⟨rfl,rfl,rfl,aT _,λ_ _ _=>rfl,λi o b h hb=>.inr ⟨i,o,h,hb⟩⟩
theorem Stp.trans {σ σ' σ'':Nat->Option Ow}{w w' w'':World}(h:Stp σ w σ' w')(k:Stp σ' w' σ'' w''):Stp σ w σ'' w'' where
 os:=k.os.trans h.os
 tape:=k.tape.trans h.tape
 output:=k.output.trans h.output
 size:=dA h.size k.size
 bc b hb hn:=by
  rw [k.bc b (cH hb h.size) (λi o ho hob=>?_),h.bc b hb hn];rcases h.new i o b ho hob with h1|⟨j1,o1,h1,h2⟩
  .omega
  .exact hn j1 o1 h1 h2
 new i o b ho hb:=by
  rcases k.new i o b ho hb with h1|⟨j1,o1,h1,h2⟩
  .exact .inl (dA h.size h1)
  .exact h.new j1 o1 b h1 h2
theorem Keeps.refl (M:Nat->Prop)(σ:Nat->Option Ow)(N:Nat->Prop)(w:World):Keeps M σ N w M σ N w :=
 ⟨λ_ _ h k=>⟨h,k⟩,λid o' _ h=>⟨o',h,.inl rfl⟩,λ_ h=>h⟩
theorem Keeps.trans {M M' M'':Nat->Prop}{σ σ' σ'':Nat->Option Ow}{N N' N'':Nat->Prop}{w w' w'':World}
  (h:Keeps M σ N w M' σ' N' w') (k:Keeps M' σ' N' w' M'' σ'' N'' w''):Keeps M σ N w M'' σ'' N'' w'' where
 cell ad u hm hc:=let ⟨h1,h2⟩:=h.cell ad u hm hc;k.cell ad u h1 h2
 own id o'' hid ho:=by
  obtain ⟨o',ho',he'⟩:=k.own id o'' (h.le id hid) ho;obtain ⟨o,ho,he⟩:=h.own id o' hid ho';refine ⟨o,ho,?_⟩;rcases he with rfl|he<;>rcases he' with rfl|he'
  .exact .inl rfl
  .exact .inr he'
  .exact .inr he
  .exact .inr bL
 le:=λid h'=>k.le id (h.le id h')
section
variable {M0:Nat→Prop} {H:AHeap} {σ:Nat→Option Ow} {w:World}
theorem GO {o:Ow}{e:TypeId}{n:Nat}{xs:List Value}(h:w.ownsRow 0 e o.K o.val n xs){b:Nat}(hb:o.block=some b):b<w.heap.size :=
 (h.lt b hb).2
theorem Rel.drew (h:Rel M0 H σ w):Rel M0 H σ w.drew/\Stp σ w σ w.drew/\Keeps (dK M0 H σ) σ H.J w (dK M0 H σ) σ H.J w.drew:=by
 have a:Keeps (dK M0 H σ) σ H.J w (dK M0 H σ) σ H.J w.drew:=⟨λ_ _ h k=>⟨h,k⟩,λid d _ h=>⟨d,h,.inl rfl⟩,λ_ h=>h⟩;refine ⟨⟨h.bf,h.bb,λid k hk'=>?_,h.inj,h.lt,h.m0⟩,⟨rfl,rfl,rfl,aT _,λ_ _ _=>rfl,λi o b h f=>.inr ⟨i,o,h,f⟩⟩,a⟩;obtain ⟨o,e,l⟩:=h.ah id k hk';obtain ⟨c,m,j,g⟩:=l.row;exact ⟨o,e,l.af,l.ty,l.sz,l.K,c,m,j,g.G a⟩
theorem Rel.grow {w':World}(h:Rel M0 H σ w)(j:w'.os=w.os)(c:w'.tape=w.tape)(f:w'.output=w.output)(a:w.heap.size<=w'.heap.size)
  (d:∀ b,b<w.heap.size->w'.heap[b]?=w.heap[b]?) :
  Rel M0 H σ w'/\Stp σ w σ w'/\Keeps (dK M0 H σ) σ H.J w (dK M0 H σ) σ H.J w':=by
 have g:∀ (ad:Addr) (u:Value),w.cell? ad=some u->w'.cell? ad=some u:=λad u hu =>
  (World.cell?_of_block (d ad.block (World.block_lt_of_cell? w ad hu))).trans hu
 have n:Keeps (dK M0 H σ) σ H.J w (dK M0 H σ) σ H.J w':=⟨λad u r hu=>⟨r,g ad u hu⟩,λid q _ h=>⟨q,h,.inl rfl⟩,λ_ h=>h⟩;refine ⟨⟨h.bf,h.bb,λid k hk'=>?_,h.inj,λi o b m e=>?_,λb e=>cH (h.m0 b e) a⟩,⟨j,c,f,a,λb e _=>d b e,λi o b h e=>.inr ⟨i,o,h,e⟩⟩,n⟩
 .obtain ⟨o,m,l⟩:=h.ah id k hk';obtain ⟨p,v,t,s⟩:=l.row;refine ⟨o,m,l.af,l.ty,l.sz,l.K,p,?_,t,s.G n⟩;exact v.kept (row:=none) ⟨j,c,f,a,λb e _=>d b e⟩ (by cases o.val.ownBlock<;>simp)
 .exact ⟨cH (h.lt i o b m e).1 a,(h.lt i o b m e).2⟩
theorem Rel.ce {w':World}(h:Rel M0 H σ w)(id:Nat)(hal:¬ H.J id)(hos:w'.os=w.os)(htape:w'.tape=w.tape)(hout:w'.output=w.output)(hsize:w.heap.size<=w'.heap.size)
  (hold:∀ b,b<w.heap.size->w'.heap[b]?=w.heap[b]?) (k:Blk) (o:Ow) (hb:∀ b,o.block=some b->w.heap.size<=b) (hver:o.af=k.es.length) (hty:o.ty=k.ty) (hsz:o.K=k.sz)
  (hesz:∀ c∈k.es,c.length=o.K) (xs:List Value) (hrow:w'.ownsRow 0 k.ty o.K o.val k.es.length xs) (h1:∀ u∈xs,u.oneCell'=true)
  (hrep:let σ':Nat->Option Ow:=λi=>if i=id then some o else σ i
   Keeps (dK M0 H σ) σ H.J w (dK M0 (H.push id k) σ') σ' (H.push id k).J w'->RepL (dK M0 (H.push id k) σ') σ' (H.push id k).J w' xs k.es.flatten) :
  let σ':Nat->Option Ow:=λi=>if i=id then some o else σ i
  Rel M0 (H.push id k) σ' w'/\Stp σ w σ' w'/\Keeps (dK M0 H σ) σ H.J w (dK M0 (H.push id k) σ') σ' (H.push id k).J w':=by
 intro σ';have hne:∀ i o',σ i=some o'->i≠id:=λi o' hi he=>by subst he;rw [(h.bf _ hal).1] at hi;cases hi
 have hσ:∀ i o',σ i=some o'->σ' i=some o':=λi o' hi=>by simp [σ',hne i o' hi,hi]
 have hmut:∀ b,b<w.heap.size->¬ dK M0 H σ b->¬ dK M0 (H.push id k) σ' b:=by
  rintro b hlt hm (hm'|⟨i,k',o',hk',hf,ho',hb'⟩)
  .exact hm (.inl hm')
  .by_cases hii:i=id
   .simp only [σ',hii,if_true,bG] at ho';subst ho';have:=hb b hb';omega
   .simp only [σ',hii,if_false] at ho';simp only [AHeap.push,hii,if_false] at hk';exact hm (.inr ⟨i,k',o',hk',hf,ho',hb'⟩)
 have hkeep:Keeps (dK M0 H σ) σ H.J w (dK M0 (H.push id k) σ') σ' (H.push id k).J w':=by
  refine ⟨λad u hm hu=>?_,λi o' hi ho'=>?_,λi hi=>.inr hi⟩
  .have hlt:=World.block_lt_of_cell? w ad hu;exact ⟨hmut _ hlt hm,(World.cell?_of_block (hold ad.block hlt)).trans hu⟩
  .have:i≠id:=λe=>hal (e ▸ hi);simp only [σ',this,if_false] at ho';exact ⟨o',ho',.inl rfl⟩
 have hg:w.grownBy w' none:=⟨hos,htape,hout,hsize,λb hb _=>hold b hb⟩;refine ⟨⟨λi hi=>?_,λi hi=>?_,λi k' hk'=>?_,λi j oi oj b hi hj hbi hbj=>?_,λi oi b hi hbi=>?_,λb hb=>cH (h.m0 b hb) hsize⟩,
  ⟨hos,htape,hout,hsize,λb hb _=>hold b hb,λi o' b ho' hb'=>?_⟩,hkeep⟩
 .have hi':¬ (i=id\/H.J i):=hi;have hne':i≠id:=λe=>hi' (.inl e);simp only [σ',AHeap.push,hne',if_false];exact h.bf i (λe=>hi' (.inr e))
 .have hi':i=id\/H.J i:=hi;simp only [AHeap.push];rcases hi' with rfl|hi'
  .split<;>omega
  .have:=h.bb i hi';split<;>omega
 .by_cases hid:i=id
  .simp only [AHeap.push,hid,if_true,bG] at hk';subst hk';exact ⟨o,by simp [σ',hid],hver,hty,hsz,hesz,xs,hrow,h1,hrep hkeep⟩
  .simp only [AHeap.push,hid,if_false] at hk';obtain ⟨o',ho',l⟩:=h.ah i k' hk';obtain ⟨xs',h1',h2',h3'⟩:=l.row;exact ⟨o',hσ _ _ ho',l.af,l.ty,l.sz,l.K,xs',h1'.kept hg (by cases o'.val.ownBlock<;>simp),h2',h3'.G hkeep⟩
 .by_cases hi':i=id<;>by_cases hj':j=id
  .rw [hi',hj']
  .simp only [σ',hi',if_true,bG] at hi;simp only [σ',hj',if_false] at hj;subst hi;have h1:=hb b hbi;have h2:=(h.lt j oj b hj hbj).1;omega
  .simp only [σ',hj',if_true,bG] at hj;simp only [σ',hi',if_false] at hi;subst hj;have h1:=hb b hbj;have h2:=(h.lt i oi b hi hbi).1;omega
  .simp only [σ',hi',hj',if_false] at hi hj;exact h.inj i j oi oj b hi hj hbi hbj
 .by_cases hi':i=id
  .simp only [σ',hi',if_true,bG] at hi;subst hi;exact ⟨GO hrow hbi,λhm=>by have h1:=hb b hbi;have h2:=h.m0 b hm;omega⟩
  .simp only [σ',hi',if_false] at hi;exact ⟨cH (h.lt i oi b hi hbi).1 hsize,(h.lt i oi b hi hbi).2⟩
 .by_cases hi':i=id
  .simp only [σ',hi',if_true,bG] at ho';subst ho';exact .inl (hb b hb')
  .simp only [σ',hi',if_false] at ho';exact .inr ⟨i,o',ho',hb'⟩
theorem Rel.push {w':World}(h:Rel M0 H σ w)(id:Nat)(hal:¬ H.J id)(hos:w'.os=w.os)(htape:w'.tape=w.tape)(hout:w'.output=w.output)(hsize:w.heap.size<=w'.heap.size)
  (hold:∀ b,b<w.heap.size->w'.heap[b]?=w.heap[b]?) (k:Blk) (o:Ow) (hb:∀ b,o.block=some b->w.heap.size<=b) (hver:o.af=k.es.length) (hty:o.ty=k.ty) (hsz:o.K=k.sz)
  (hesz:∀ c∈k.es,c.length=o.K) (xs:List Value) (hrow:w'.ownsRow 0 k.ty o.K o.val k.es.length xs) (h1:∀ u∈xs,u.oneCell'=true)
  (hrep:RepL (dK M0 H σ) σ H.J w xs k.es.flatten) :
  let σ':Nat->Option Ow:=λi=>if i=id then some o else σ i
  Rel M0 (H.push id k) σ' w'/\Stp σ w σ' w'/\Keeps (dK M0 H σ) σ H.J w (dK M0 (H.push id k) σ') σ' (H.push id k).J w' :=
 h.ce id hal hos htape hout hsize hold k o hb hver hty hsz hesz xs hrow h1 λhk=>hrep.G hk
theorem Rel.put {w':World}(h:Rel M0 H σ w){id:Nat}{k:Blk}{o:Ow}(hk:H.get id=some k)(hfz:k.fz=false)(ho:σ id=some o)
  (k':Blk) (o':Ow) (hg:w.grownBy w' o.block) (hb:∀ b,o'.block=some b->o.block=some b\/w.heap.size<=b)
  (hle:o=o'\/o.af<o'.af) (hver:o'.af=k'.es.length) (hty:o'.ty=k'.ty) (hsz:o'.K=k'.sz) (hesz:∀ c∈k'.es,c.length=o'.K)
  (xs:List Value) (hrow:w'.ownsRow 0 k'.ty o'.K o'.val k'.es.length xs) (h1:∀ u∈xs,u.oneCell'=true)
  (hrep:RepL (dK M0 H σ) σ H.J w xs k'.es.flatten) :
  let σ':Nat->Option Ow:=λi=>if i=id then some o' else σ i
  Rel M0 (H.put id k') σ' w'/\Stp σ w σ' w'/\Keeps (dK M0 H σ) σ H.J w (dK M0 (H.put id k') σ') σ' (H.put id k').J w':=by
 intro σ';have hid:H.J id:=bE λhn=>by rw [(h.bf id hn).1] at ho;cases ho
 have hmutk:∀ b,o.block=some b->dK M0 H σ b:=λb hb=>.inr ⟨id,k,o,hk,hfz,ho,hb⟩;have hmut:∀ b,b<w.heap.size->¬ dK M0 H σ b->¬ dK M0 (H.put id k') σ' b:=by
  rintro b hlt hm (hm'|⟨i,ki,oi,hki,hf,hoi,hbi⟩)
  .exact hm (.inl hm')
  .by_cases hi:i=id
   .simp only [σ',hi,if_true,bG] at hoi;subst hoi;rcases hb b hbi with h1|h1
    .exact hm (hmutk b h1)
    .omega
   .simp only [σ',hi,if_false] at hoi;simp only [AHeap.put,hi,if_false] at hki;exact hm (.inr ⟨i,ki,oi,hki,hf,hoi,hbi⟩)
 have hcell:∀ (ad:Addr) (u:Value),¬ dK M0 H σ ad.block->w.cell? ad=some u->w'.cell? ad=some u:=λad u hm hu =>
  (World.cell?_of_block (hg.block ad.block (World.block_lt_of_cell? w ad hu) (λe=>hm (hmutk _ e.symm)))).trans hu
 have hkeep:Keeps (dK M0 H σ) σ H.J w (dK M0 (H.put id k') σ') σ' (H.put id k').J w':=by
  refine ⟨λad u hm hu=>⟨hmut _ (World.block_lt_of_cell? w ad hu) hm,hcell ad u hm hu⟩,λi oi hi hoi=>?_,λ_ h=>h⟩;by_cases he:i=id
  .simp only [σ',he,if_true,bG] at hoi;subst hoi;exact ⟨o,he ▸ ho,hle⟩
  .simp only [σ',he,if_false] at hoi;exact ⟨oi,hoi,.inl rfl⟩
 have hoth:∀ i oi,i≠id->σ i=some oi->oi.val.ownBlock=none\/oi.val.ownBlock≠o.block:=λi oi hne hoi=>by
  cases hb':oi.val.ownBlock with
  | none=>exact .inl rfl
  | some b=>exact .inr λe=>hne (h.inj i id oi o b hoi ho hb' e.symm)
 refine ⟨⟨λi hi=>?_,h.bb,λi ki hki=>?_,λi j oi oj b hi hj hbi hbj=>?_,λi oi b hi hbi=>?_,λb hb=>cH (h.m0 b hb) hg.size⟩,
  ⟨hg.os,hg.tape,hg.output,hg.size,λb hb hn=>hg.block b hb (λe=>hn id o ho e.symm),λi oi b hoi hbi=>?_⟩,hkeep⟩
 .have hi':¬ H.J i:=hi;have hne:i≠id:=λe=>hi' (e ▸ hid);simp only [σ',AHeap.put,hne,if_false];exact h.bf i hi'
 .by_cases he:i=id
  .simp only [AHeap.put,he,if_true,bG] at hki;subst hki;exact ⟨o',by simp [σ',he],hver,hty,hsz,hesz,xs,hrow,h1,hrep.G hkeep⟩
  .simp only [AHeap.put,he,if_false] at hki;obtain ⟨oi,hoi,l⟩:=h.ah i ki hki;obtain ⟨xs',h1',h2',h3'⟩:=l.row;exact ⟨oi,by simp [σ',he,hoi],l.af,l.ty,l.sz,l.K,xs',h1'.kept hg (hoth i oi he hoi),h2',h3'.G hkeep⟩
 .have key:∀ i oi b,i≠id->σ i=some oi->oi.block=some b->o'.block=some b->False:=λi oi b hne hoi hbi hb'=>by
   rcases hb b hb' with h1|h1
   .exact hne (h.inj i id oi o b hoi ho hbi h1)
   .have:=(h.lt i oi b hoi hbi).1;omega
  by_cases hi':i=id<;>by_cases hj':j=id
  .rw [hi',hj']
  .simp only [σ',hi',if_true,bG] at hi;simp only [σ',hj',if_false] at hj;subst hi;exact (key j oj b hj' hj hbj hbi).elim
  .simp only [σ',hj',if_true,bG] at hj;simp only [σ',hi',if_false] at hi;subst hj;exact (key i oi b hi' hi hbi hbj).elim
  .simp only [σ',hi',hj',if_false] at hi hj;exact h.inj i j oi oj b hi hj hbi hbj
 .by_cases hi':i=id
  .simp only [σ',hi',if_true,bG] at hi;subst hi;refine ⟨GO hrow hbi,λhm=>?_⟩;rcases hb b hbi with h1|h1
   .exact (h.lt id o b ho h1).2 hm
   .have:=h.m0 b hm;omega
  .simp only [σ',hi',if_false] at hi;exact ⟨cH (h.lt i oi b hi hbi).1 hg.size,(h.lt i oi b hi hbi).2⟩
 .by_cases hi':i=id
  .simp only [σ',hi',if_true,bG] at hoi;subst hoi;rcases hb b hbi with h1|h1
   .exact .inr ⟨id,o,ho,h1⟩
   .exact .inl h1
  .simp only [σ',hi',if_false] at hoi;exact .inr ⟨i,oi,hoi,hbi⟩
end
end Go.Abs
end
section
namespace Go.Abs
/-! ### what is asked of the table of types -/
inductive TK where
 | bad
 | one
 | agg (n:Nat)
 deriving DecidableEq
def tk (P:Program)(t:TypeId):TK :=
 match P.underlying t,P.info? t with
 | some (.struct _),some i=>.agg i.size
 | some (.array _ _),some i=>.agg i.size
 | some _,some i=>if i.size=1 then .one else .bad
 | _,_=>.bad
def rZ:Value->D
 | .int k n=>.int k n
 | .bool b=>.bool b
 | .string s=>.str s
 | .slice none 0 0=>.nil
 | .pointer none=>.nilp
 | .nilFunc=>.nilf
 | _=>.junk
def AO (i:TypeInfo):Xa2:=match i.zero with|some v=>v.cells.toList.map rZ|none=>[]
structure SlI where
 e:TypeId
 sz:Nat
 dh:Nat
 z:Xa2
def sl (P:Program)(t:TypeId):Option SlI :=
 match P.underlying t with
 | some (.slice e)=>match P.info? e with
  | some i=>if 0<i.size/\i.bytes<=4096/\(AO i).length=i.size/\(AO i).all D.cell=true then some ⟨e,i.size,i.bytes,AO i⟩ else none
  | none=>none
 | _=>none
def zd (P:Program)(t:TypeId):Option Xa2 :=
 match P.underlying t,P.info? t with
 | some _,some i=>if (AO i).length=i.size/\0<i.size/\(AO i).all D.cell=true then some (AO i) else none
 | _,_=>none
inductive BK where
 | st (l:List (Nat × Nat))
 | ar (sz:Nat)
def bk (P:Program)(t:TypeId):Option BK :=
 match P.underlying t with
 | some (.struct fs)=>(fs.toList.mapM λf=>(P.info? f.type).map λi=>(f.offset,i.size)).map .st
 | some (.array _ e)=>(P.info? e).map λi=>.ar i.size
 | _=>none
def BK.place:BK->Nat->Option (Nat × Nat)
 | .st l,i=>l[i]?
 | .ar sz,i=>some (i * sz,sz)
def XE (P:Program)(t:TypeId):Option (Nat × Nat) :=
 match P.underlying t with
 | some (.array n e)=>match P.info? e with
  | some i=>some (n,i.size)
  | none=>none
 | _=>none
/-! ### numbers -/
def Q8 (k:IntKind)(n:Int):Prop:=k.min<=n/\n<=k.max
theorem uI {k:IntKind}{n:Int}(h:Q8 k n):k.wrap n=n:=by
 obtain ⟨b,a⟩:=h;cases k<;>simp [IntKind.min,IntKind.max,IntKind.signed,IntKind.bits] at b a<;>simp [IntKind.wrap,IntKind.signed,IntKind.bits]<;>omega
theorem dE {n:Int}(b : -9223372036854775808<=n)(a:n<=9223372036854775807):Q8 .i64 n:=by grind [Q8, IntKind.min, IntKind.max, IntKind.signed, IntKind.bits]
theorem zW {n:Int}(b:0<=n)(a:n<=18446744073709551615):Q8 .u64 n:=by grind [Q8, IntKind.min, IntKind.max, IntKind.signed, IntKind.bits]
/-! ### splicing cells -/
def uN (zs:Xa2)(off:Nat)(cs:Xa2):Xa2:=zs.take off++cs++zs.drop (off+cs.length)
def Cy (places:Nat->Option (Nat × Nat))(zs:Xa2):List (Nat × D)->Option Xa2
 | []=>some zs
 | (i,d) :: rest =>
  match places i with
  | none=>none
  | some (off,size)=>if d.cells.length=size/\off+size<=zs.length then Cy places (uN zs off d.cells) rest else none
/-! ### the result of an operation -/
structure AOut where
 cond:Prop
 aa:Prop
 val:D
 heap:AHeap
def fI (e:Nat->D):Operand->D
 | .tmp t=>e t
 | .const v=>rZ v
 | .func f=>.fn f []
 | .global _=>.junk
def AOut.bad (H:AHeap):AOut:=⟨False,True,.junk,H⟩
def K8 (op:BinOp)(x y:D)(H:AHeap):AOut :=
 match op,x,y with
 | .add,.int k a,.int k' b=>⟨k=k'/\Q8 k (a+b),True,.int k (a+b),H⟩
 | .sub,.int k a,.int k' b=>⟨k=k'/\Q8 k (a - b),True,.int k (a - b),H⟩
 | .mul,.int k a,.int k' b=>⟨k=k'/\Q8 k (a * b),True,.int k (a * b),H⟩
 | .quo,.int k a,.int k' b=>⟨k=k'/\b≠0/\Q8 k (a.tdiv b),True,.int k (a.tdiv b),H⟩
 | .rem,.int k a,.int k' b=>⟨k=k'/\b≠0,True,.int k (a.tmod b),H⟩
 | .eql,.int k a,.int k' b=>⟨k=k',True,.bool (a==b),H⟩
 | .neq,.int k a,.int k' b=>⟨k=k',True,.bool (a != b),H⟩
 | .lss,.int k a,.int k' b=>⟨k=k',True,.bool (decide (a<b)),H⟩
 | .leq,.int k a,.int k' b=>⟨k=k',True,.bool (decide (a<=b)),H⟩
 | .gtr,.int k a,.int k' b=>⟨k=k',True,.bool (decide (b<a)),H⟩
 | .geq,.int k a,.int k' b=>⟨k=k',True,.bool (decide (b<=a)),H⟩
 | .eql,.str a,.str b=>⟨True,True,.bool (decide (a=b)),H⟩
 | .neq,.str a,.str b=>⟨True,True,.bool (!decide (a=b)),H⟩
 | _,_,_=>AOut.bad H
def KK (g:TypeId->Option Nat):List Field->Nat->Option Nat
 | [],o=>some o
 | f :: fs,o=>if f.name≠"_"/\f.offset=o then match g f.type with
   | some n=>KK g fs (o+n)
   | none=>none
  else none
def Vp (P:Program):Nat->TypeId->Option Nat
 | 0,_=>none
 | d+1,t=>match P.underlying t with
  | some (.int _)=>some 1
  | some (.struct fs)=>if P.stoodInHeld t=false/\(P.info? t).isSome=true then
    match KK (Vp P d) fs.toList 0 with
    | some n=>if P.cellsOf t=n then some n else none
    | none=>none
   else none
  | _=>none
def WW (P:Program)(t:TypeId):Option Nat :=
 match P.underlying t with
 | some (.struct fs)=>if P.stoodInHeld t=false/\P.eqGuardType P.depth t=false then KK (Vp P 3) fs.toList 0 else none
 | _=>none
def vJ:Xa2->Option Xa0
 | []=>some []
 | .int .i64 n :: l=>(vJ l).map (n :: ·)
 | _=>none
def J4 (P:Program)(t:TypeId)(op:BinOp)(x y:D)(H:AHeap):AOut :=
 match op,x,y with
 | .eql,.nil,.nil=>⟨(sl P t).isSome=true,True,.bool true,H⟩
 | .eql,.ne,.nil=>⟨(sl P t).isSome=true,True,.bool false,H⟩
 | .eql,.list es,.nil=>⟨(sl P t).isSome=true/\es≠[],True,.bool false,H⟩
 | .neq,.nil,.nil=>⟨(sl P t).isSome=true,True,.bool false,H⟩
 | .neq,.ne,.nil=>⟨(sl P t).isSome=true,True,.bool true,H⟩
 | .neq,.list es,.nil=>⟨(sl P t).isSome=true/\es≠[],True,.bool true,H⟩
 | .eql,.bool a,.bool b=>⟨P.underlying t=some .bool,True,.bool (a==b),H⟩
 | .neq,.bool a,.bool b=>⟨P.underlying t=some .bool,True,.bool (!(a==b)),H⟩
 | .eql,.agg xs,.agg ys=>match vJ xs,vJ ys with
  | some a,some b=>⟨WW P t=some a.length/\a.length=b.length,True,.bool (decide (a=b)),H⟩
  | _,_=>AOut.bad H
 | .neq,.agg xs,.agg ys=>match vJ xs,vJ ys with
  | some a,some b=>⟨WW P t=some a.length/\a.length=b.length,True,.bool (!decide (a=b)),H⟩
  | _,_=>AOut.bad H
 | .shr,.int k a,.int _ b=>⟨0<=b,True,.int k (a.fdiv (2 ^ (min b.toNat k.bits))),H⟩
 | .and,.int k a,.int k' b=>⟨k=.u64/\k'=.u64/\b=1,True,.int .u64 (a % 2),H⟩
 | _,_,_=>K8 op x y H
def tX (w:Bool)(P:Program)(t:TypeId)(op:BinOp)(x y:D)(H:AHeap):AOut :=
 match w,op,x,y with
 | true,.sub,.int k a,.int k' b=>⟨k=k',True,.int k (k.wrap (a - b)),H⟩
 | _,op,x,y=>J4 P t op x y H
def fW (H:AHeap):D->Option Xa2
 | .adr cs=>some cs
 | .ptr id ver i off=>match H.get id with
  | some k=>if k.es.length=ver then (k.es[i]?).map (·.drop off) else none
  | none=>none
 | _=>none
def pL (P:Program)(t:TypeId)(x:D)(H:AHeap):AOut :=
 match fW H x with
 | none=>AOut.bad H
 | some cs=>match tk P t with
  | .bad=>AOut.bad H
  | .one=>⟨cs≠[],True,cs.headD .junk,H⟩
  | .agg n=>⟨n<=cs.length/\0<n,True,.agg (cs.take n),H⟩
def nJ (P:Program)(t:TypeId)(x v:D)(H:AHeap):AOut :=
  match x with
  | .ptr id ver i off=>match H.get id with
    | some k=>match k.es[i]? with
      | some c=>⟨k.fz=false/\k.es.length=ver/\v.cells.length=P.cellsOf t/\(P.info? t).isSome=true/\v.cells.all D.cell=true/\off+v.cells.length<=c.length,True,.junk,
          H.put id { k with es:=k.es.set i (uN c off v.cells) }⟩
      | none=>AOut.bad H
    | none=>AOut.bad H
  | _=>AOut.bad H
def eT (x:D)(off:Nat)(H:AHeap):AOut :=
 match x with
 | .adr cs=>⟨True,True,.adr (cs.drop off),H⟩
 | .ptr id ver i o=>match H.get id with
  | some k=>⟨k.es.length=ver,True,.ptr id ver i (o+off),H⟩
  | none=>AOut.bad H
 | _=>AOut.bad H
def jF (P:Program)(t:TypeId)(x:D)(f:Nat)(H:AHeap):AOut :=
 match bk P t with
 | some (.st l)=>match l[f]? with
  | some (off,sz)=>⟨(eT x off H).cond/\0<sz,(eT x off H).aa,(eT x off H).val,(eT x off H).heap⟩
  | none=>AOut.bad H
 | _=>AOut.bad H
def jE (P:Program)(t:TypeId)(x i:D)(H:AHeap):AOut :=
  match i with
  | .int _ n=>match x with
    | .list es=>match sl P t with
      | some s=>⟨(0<=n/\n<es.length)/\(es[n.toNat]?.getD s.z).length=s.sz,True,.adr (es[n.toNat]?.getD s.z),H⟩
      | none=>AOut.bad H
    | .own id m=>match sl P t,H.get id with
      | some s,some k=>⟨(0<=n/\n<m)/\k.es.length=m/\(k.es[n.toNat]?.getD s.z).length=s.sz,True,.ptr id m n.toNat 0,H⟩
      | _,_=>AOut.bad H
    | _=>match XE P t with
      | some (len,sz)=>⟨(eT x (n.toNat * sz) H).cond/\0<=n/\n<len,(eT x (n.toNat * sz) H).aa,(eT x (n.toNat * sz) H).val,(eT x (n.toNat * sz) H).heap⟩
      | none=>AOut.bad H
  | _=>AOut.bad H
def Hj (P:Program)(t:TypeId)(x:D)(H:AHeap):AOut :=
  match P.underlying t with
  | some (.slice _)=>match x with
    | .nil=>⟨True,True,.int .i64 0,H⟩
    | .list es=>⟨True,(es.length:Int)<=9223372036854775807,.int .i64 es.length,H⟩
    | .own id n=>match H.get id with
      | some k=>⟨k.es.length=n,(n:Int)<=9223372036854775807,.int .i64 n,H⟩
      | none=>AOut.bad H
    | _=>AOut.bad H
  | some .string=>match x with
    | .str s=>⟨True,True,.int .i64 s.size,H⟩
    | _=>AOut.bad H
  | some (.array n _)=>⟨True,True,.int .i64 n,H⟩
  | _=>AOut.bad H
def pN (H:AHeap):D->Option Xa1
 | .nil=>some []
 | .ne=>some []
 | .list es=>some es
 | .own id n=>match H.get id with
  | some k=>if k.es.length=n then some k.es else none
  | none=>none
 | .win id n lo hi=>match H.get id with
  | some k=>if k.es.length=n then some ((k.es.take hi).drop lo) else none
  | none=>none
 | _=>none
def Si (P:Program)(t:TypeId):Option IntKind:=match P.underlying t with|some (.int k)=>some k|_=>none
def rE (P:Program)(s:SlI)(t':TypeId)(x y:D)(H:AHeap):AOut :=
 match y,x,Si P t' with
 | .int _ m,.own id n,some _=>match H.get id with
  | some k=>⟨0<=m/\k.fz=false/\k.ty=s.e/\k.es.length=n/\n+m.toNat<=4294967296/\k.sz=s.sz,True,.own id (n+m.toNat),H.put id { k with es:=k.es++List.replicate m.toNat s.z }⟩
  | none=>AOut.bad H
 | _,_,_=>AOut.bad H
def lT (P:Program)(nid:Nat)(t t':TypeId)(x y:D)(H:AHeap):AOut :=
  match sl P t,pN H y with
  | some s,some ys =>
    match x with
    | .nil=>⟨t=t'/\ys.length<=4294967296/\(∀ c∈ys,c.length=s.sz)/\ys.flatten.all D.cell=true,True,.own nid ys.length,H.push nid ⟨s.e,s.sz,ys,false⟩⟩
    | .own id n=>match H.get id with
      | some k=>⟨t=t'/\k.fz=false/\k.ty=s.e/\k.es.length=n/\n+ys.length<=4294967296/\k.sz=s.sz/\(∀ c∈ys,c.length=s.sz)/\ys.flatten.all D.cell=true,True,
          .own id (n+ys.length),H.put id { k with es:=k.es++ys }⟩
      | none=>AOut.bad H
    | _=>AOut.bad H
  | some s,none=>rE P s t' x y H
  | _,_=>AOut.bad H
def ED (P:Program)(nid:Nat)(t:TypeId)(l c:D)(H:AHeap):AOut :=
 match sl P t,l,c with
 | some s,.int _ n,.int _ m=>⟨n=m/\0<=n/\n<=4294967296,True,.own nid n.toNat,H.push nid ⟨s.e,s.sz,List.replicate n.toNat s.z,false⟩⟩
 | _,_,_=>AOut.bad H
def Ok (P:Program)(nid:Nat)(m:Bool)(t:TypeId)(x:D)(H:AHeap):AOut :=
 if m then ⟨x.cells.all D.cell=true,True,.ptr nid 1 0 0,H.push nid ⟨t,x.cells.length,[x.cells],false⟩⟩
 else ⟨x.cells.all D.cell=true,True,.adr x.cells,H⟩
def Af (P:Program)(nid:Nat)(m:Bool)(t:TypeId)(H:AHeap):AOut :=
 match zd P t with
 | some z=>if m then ⟨True,True,.ptr nid 1 0 0,H.push nid ⟨t,z.length,[z],false⟩⟩ else ⟨True,True,.adr z,H⟩
 | none=>AOut.bad H
def vO (P:Program)(t:TypeId)(parts:List (Nat × D))(H:AHeap):AOut :=
 match zd P t,bk P t with
 | some z,some b=>match Cy b.place z parts with
  | some cs=>⟨(parts.all λp=>p.2.cells.all D.cell)=true,True,.agg cs,H⟩
  | none=>AOut.bad H
 | _,_=>AOut.bad H
def tB (sz:Nat):Nat->Xa2->Xa1
 | 0,_=>[]
 | n+1,l=>l.take sz :: tB sz n (l.drop sz)
def jR (P:Program)(nid:Nat)(m:Bool)(t:TypeId)(n:Nat)(parts:List (Nat × D))(H:AHeap):AOut :=
  match sl P t with
  | some s=>match Cy (λi=>some (i * s.sz,s.sz)) (List.replicate n s.z).flatten parts with
    | some cs =>
      if m then ⟨n<=1000/\s.sz<=1000/\(parts.all λp=>p.2.cells.all D.cell)=true,True,.own nid n,H.push nid ⟨s.e,s.sz,tB s.sz n cs,false⟩⟩
      else ⟨n<=1000/\s.sz<=1000/\(parts.all λp=>p.2.cells.all D.cell)=true,True,.list (tB s.sz n cs),H⟩
    | none=>AOut.bad H
  | none=>AOut.bad H
def XR (x:Option D)(dflt:Int):Option Int :=
 match x with
 | none=>some dflt
 | some (.int _ n)=>some n
 | _=>none
def r9 (P:Program)(t:TypeId)(x:D)(lo hi:Option D)(H:AHeap):AOut :=
 match x with
 | .list es=>match sl P t,XR lo 0,XR hi es.length with
  | some s,some l,some h=>⟨0<=l/\l<=h/\h<=es.length/\(es.head?.getD s.z).length=s.sz,True,.list ((es.take h.toNat).drop l.toNat),H⟩
  | _,_,_=>AOut.bad H
 | .own id m=>match sl P t,H.get id,XR lo 0,XR hi m with
  | some s,some k,some l,some h=>⟨(0<=l/\l<=h/\h<=m)/\k.es.length=m/\k.sz=s.sz,True,.win id m l.toNat h.toNat,H⟩
  | _,_,_,_=>AOut.bad H
 | .str s=>match P.underlying t,XR lo 0,XR hi s.size with
  | some .string,some l,some h=>⟨0<=l/\l<=h/\h<=s.size,True,.str (s.extract l.toNat h.toNat),H⟩
  | _,_,_=>AOut.bad H
 | _=>AOut.bad H
def vM (P:Program)(t:TypeId)(x i:D)(H:AHeap):AOut :=
  match x,i with
  | .str s,.int _ n=>match P.underlying t with
    | some .string=>⟨0<=n/\n<s.size,True,.int .u8 ((s.data[n.toNat]?.getD 0).toNat:Int),H⟩
    | _=>AOut.bad H
  | .agg cs,.int _ n=>match XE P t,(P.underlying t) with
    | some (len,sz),some (.array _ e)=>match tk P e with
      | .one=>⟨(0<=n/\n<len)/\sz=1/\n.toNat<cs.length,True,cs[n.toNat]?.getD .junk,H⟩
      | _=>AOut.bad H
    | _,_=>AOut.bad H
  | _,_=>AOut.bad H
def oO (P:Program)(src dst:TypeId)(x:D)(H:AHeap):AOut :=
 match x with
 | .int _ n=>match Si P dst with
  | some k=>⟨(P.underlying src).isSome=true/\Q8 k n,True,.int k n,H⟩
  | none=>AOut.bad H
 | .str s=>match P.underlying src,P.underlying dst with
  | some .string,some .string=>⟨True,True,.str s,H⟩
  | _,_=>AOut.bad H
 | _=>AOut.bad H
def xP (c a b:D)(H:AHeap):AOut :=
 match c,a,b with
 | .bool true,.bool a,_=>⟨True,True,.bool a,H⟩
 | .bool true,.opt g (.bool a),_=>⟨g=true,True,.bool a,H⟩
 | .bool false,_,.bool b=>⟨True,True,.bool b,H⟩
 | .bool false,_,.opt g (.bool b)=>⟨g=true,True,.bool b,H⟩
 | _,_,_=>AOut.bad H
def BG (c a b:D)(H:AHeap):AOut :=
 match c,a,b with
 | .bool c,.bool a,.bool b=>⟨True,True,.bool (if c then a else b),H⟩
 | .bool c,.bool a,.opt g (.bool b)=>⟨c=false->g=true,True,.bool (if c then a else b),H⟩
 | .bool c,.opt g (.bool a),.bool b=>⟨c=true->g=true,True,.bool (if c then a else b),H⟩
 | .bool c,.opt g (.bool a),.opt g' (.bool b)=>⟨(c=true->g=true)/\(c=false->g'=true),True,.bool (if c then a else b),H⟩
 | c,a,b=>xP c a b H
def EC (mx:Bool)(x y:D)(H:AHeap):AOut :=
 match x,y with
 | .int k a,.int k' b=>⟨k=k',True,.int k (if mx then (if a<b then b else a) else (if b<a then b else a)),H⟩
 | _,_=>AOut.bad H
def kK (x:D)(H:AHeap):AOut :=
 match x with
 | .adr cs=>⟨True,True,.adr cs,H⟩
 | .ptr id ver i o=>match H.get id with
  | some k=>⟨k.es.length=ver,True,.ptr id ver i o,H⟩
  | none=>AOut.bad H
 | _=>AOut.bad H
def XJ (op:UnOp)(x:D)(H:AHeap):AOut :=
 match op,x with
 | .not,.bool b=>⟨True,True,.bool (!b),H⟩
 | .neg,.int k n=>⟨Q8 k (0 - n),True,.int k (0 - n),H⟩
 | _,_=>AOut.bad H
def oN (x:D)(i:Nat)(H:AHeap):AOut :=
 match x with
 | .tup vs=>⟨i<vs.length,True,vs[i]?.getD .junk,H⟩
 | _=>AOut.bad H
def FV (P:Program)(nid:Nat)(m:Bool)(t:TypeId)(H:AHeap):AOut :=
 if m then match sl P t with
  | some s=>⟨True,True,.own nid 0,H.push nid ⟨s.e,s.sz,[],false⟩⟩
  | none=>AOut.bad H
 else ⟨True,True,.nil,H⟩
def AHeap.frz (H:AHeap)(id:Nat):AHeap :=
 match H.get id with
 | some k=>H.put id { k with fz:=true }
 | none=>H
def fH:List Nat->AHeap->AHeap
 | [],H=>H
 | i :: l,H=>fH l (H.frz i)
def fM (H:AHeap)(d:D):D :=
 match d with
 | .win id ver lo hi=>match H.get id with
  | some k=>if k.es.length=ver then .list ((k.es.take hi).drop lo) else d
  | none=>d
 | .own id n=>match H.get id with
  | some k=>if k.es.length=n then .list k.es else d
  | none=>d
 | d=>d
def jN (H:AHeap):D->D
 | .agg cs=>.agg (cs.map (fM H))
 | d=>fM H d
def mC:D->List Nat
 | .own id _=>[id]
 | .win id _ _ _=>[id]
 | _=>[]
def eE:D->List Nat
 | .agg cs=>cs.flatMap mC
 | d=>mC d
def kF:Operand->Bool
 | .const (.slice none 0 0)=>true
 | _=>false
def EI (md:Nat->Bool):Option Tmp->Bool
 | some d=>md d
 | none=>false
def xQ (P:Program)(t:TypeId)(x:D)(H:AHeap):AOut :=
 match x with
 | .win id ver lo hi=>match sl P t,H.get id with
  | some s,some k=>⟨k.fz=false/\k.es.length=ver/\k.ty=s.e/\k.sz=s.sz,True,.tup [],H.put id { k with es:=k.es.take lo++List.replicate (hi - lo) s.z++k.es.drop hi }⟩
  | _,_=>AOut.bad H
 | _=>AOut.bad H
def zB (P:Program)(nid:Nat)(b:Builtin)(args:Xa2)(ts:List TypeId)(H:AHeap):AOut :=
 match b,args,ts with
 | .len,[x],[t]=>Hj P t x H
 | .append,[x,y],[t,t']=>lT P nid t t' x y H
 | .clear,[x],[t]=>xQ P t x H
 | .min,[x,y],_=>EC false x y H
 | .max,[x,y],_=>EC true x y H
 | _,_,_=>AOut.bad H
def Ud (md:Nat->Bool)(H:AHeap)(d:D):D:=if md 1000001 then d else jN H d
def N7 (md:Nat->Bool)(d:D):List Nat:=if md 1000001 then [] else eE d
theorem Y4 {md:Nat->Bool}{d:D}{i:Nat}(h:i∈N7 md d):i∈eE d:=by
 unfold N7 at h;split at h
 .cases h
 .exact h
def Hh (P:Program)(nid:Nat)(md:Nat->Bool)(e:Nat->D)(o:Oper)(H:AHeap):AOut :=
 match o.op with
 | .move x=>if kF x then FV P nid (EI md o.dst) o.type H else ⟨True,True,fI e x,H⟩
 | .assign x=>if kF x then FV P nid (EI md o.dst) o.type H else ⟨True,True,fI e x,H⟩
 | .pick c a b=>BG (fI e c) (fI e a) (fI e b) H
 | .alloc t=>Af P nid (EI md o.dst) t H
 | .box t x=>Ok P nid (EI md o.dst) t (fI e x) H
 | .build t ps=>vO P t (ps.toList.map λp=>(p.1,fI e p.2)) H
 | .buildSlice t n ps=>jR P nid (EI md o.dst) t n (ps.toList.map λp=>(p.1,Ud md H (fI e p.2))) (fH (ps.toList.flatMap λp=>N7 md (fI e p.2)) H)
 | .load t a=>pL P t (fI e a) H
 | .store t a v=>if md 1000000 then nJ P t (fI e a) (jN H (fI e v)) (fH (eE (fI e v)) H) else nJ P t (fI e a) (fI e v) H
 | .nilCheck x=>kK (fI e x) H
 | .binOp op t x y _=>tX (md 2000000) P t op (fI e x) (fI e y) H
 | .unOp op _ x=>XJ op (fI e x) H
 | .convert s d x=>oO P s d (fI e x) H
 | .makeFunc (.func f) first caps=>if first.isEmpty then ⟨True,True,.fn f (caps.toList.map (fI e)),H⟩ else AOut.bad H
 | .makeSlice t l c=>ED P nid t (fI e l) (fI e c) H
 | .slice t x lo hi none=>r9 P t (fI e x) (lo.map (fI e)) (hi.map (fI e)) H
 | .fieldAddr t x f=>jF P t (fI e x) f H
 | .indexAddr t x i=>jE P t (fI e x) (fI e i) H
 | .index t x i=>vM P t (fI e x) (fI e i) H
 | .extract t i=>oN (fI e t) i H
 | .call { callee:=.builtin b,args:=args,argTypes:=ts }=>zB P nid b (args.toList.map (fI e)) ts.toList H
 | _=>AOut.bad H
def iQ (e:Nat->D)(o:Oper):Option (FuncId × Xa2) :=
 match o.op with
 | .call { callee:=.value f,args:=args,argTypes:=_ }=>match fI e f with
  | .fn g caps=>some (g,args.toList.map (fI e)++caps)
  | _=>none
 | _=>none
end Go.Abs
end
section
namespace Go.Abs
def OpS (P:Program)(x:Sem Value)(M0:Nat->Prop)(H:AHeap)(σ:Nat->Option Ow)(w:World)(d:D)(H':AHeap):Prop :=
 ∃ v w' σ',x.run P w=.ok v w'/\Rel M0 H' σ' w'/\RepV (dK M0 H' σ') σ' H'.J w' v d/\Stp σ w σ' w'/\Keeps (dK M0 H σ) σ H.J w (dK M0 H' σ') σ' H'.J w'
section
variable {P:Program} {M0:Nat→Prop} {H:AHeap} {σ:Nat→Option Ow} {w:World}
theorem OpS.pure {x:Sem Value}{v:Value}{d:D}(hR:Rel M0 H σ w)(hx:x.run P w=.ok v w)(hv:RepV (dK M0 H σ) σ H.J w v d):OpS P x M0 H σ w d H :=
 ⟨v,w,σ,hx,hR,hv,.refl _ _,.refl _ _ _ _⟩
theorem gM (a:BinOp)(t:TypeId)(x y:Operand)(k:IntKind)(n:Int)(v:Value):eqGuard a t x y (.int k n) v=(Pure.pure ():Sem Unit):=by cases a<;>rfl
theorem GC (a:BinOp)(t:TypeId)(x y:Operand)(s:ByteArray)(v:Value):eqGuard a t x y (.string s) v=(Pure.pure ():Sem Unit):=by cases a<;>rfl
theorem HR (a b:ByteArray):(a.toList==b.toList)=decide (a=b):=by
 rw [bB];simp only [beq_iff_eq,decide_eq_true_eq];constructor
 .intro h;have c:=congrArg List.toArray h;rw [ByteArray.toList_eq,ByteArray.toList_eq] at c;cases a;cases b;simp at c;subst c;rfl
 grind
theorem VK {d:BinOp}{t:TypeId}{ox oy:Operand}{g f:Value}{x y:D}(b:Rel M0 H σ w)
  (j:RepV (dK M0 H σ) σ H.J w g x) (i:RepV (dK M0 H σ) σ H.J w f y) (a:(K8 d x y H).cond) :
  (K8 d x y H).aa/\OpS P (do eqGuard d t ox oy g f;binOp d t g f) M0 H σ w (K8 d x y H).val (K8 d x y H).heap:=by
 unfold K8 at *;split at a<;>(try (exact a.elim))<;>refine ⟨trivial,?_⟩<;>cases j<;>cases i
 .obtain ⟨rfl,c⟩:=a;exact .pure b (by simp [gM,binOp,Op.intArith,uI c]) (.int _ _)
 .obtain ⟨rfl,c⟩:=a;exact .pure b (by simp [gM,binOp,Op.intArith,uI c]) (.int _ _)
 .obtain ⟨rfl,c⟩:=a;exact .pure b (by simp [gM,binOp,Op.intArith,uI c]) (.int _ _)
 .obtain ⟨rfl,h,c⟩:=a;exact .pure b (by simp [gM,binOp,Op.intDiv,h,uI c]) (.int _ _)
 .obtain ⟨rfl,h⟩:=a;exact .pure b (by simp [gM,binOp,Op.intDiv,h]) (.int _ _)
 .obtain rfl:=a;exact .pure b (by simp [gM,binOp,Op.intCmp]) (.bool _)
 .obtain rfl:=a;exact .pure b (by simp [gM,binOp,Op.intCmp]) (.bool _)
 .obtain rfl:=a;exact .pure b (by simp [gM,binOp,Op.intCmp]) (.bool _)
 .obtain rfl:=a;exact .pure b (by simp [gM,binOp,Op.intCmp]) (.bool _)
 .obtain rfl:=a;exact .pure b (by simp [gM,binOp,Op.intCmp]) (.bool _)
 .obtain rfl:=a;exact .pure b (by simp [gM,binOp,Op.intCmp]) (.bool _)
 .exact .pure b (by simp [GC,binOp,Op.stringOp,HR]) (.bool _)
 .exact .pure b (by simp [GC,binOp,Op.stringOp,HR]) (.bool _)
theorem xZ {P:Program}{t:TypeId}(h:(sl P t).isSome=true):∃ e,P.underlying t=some (.slice e):=by
 unfold sl at h;grind
theorem BW {t e:TypeId}(b:P.underlying t=some (.slice e))(a:Option Addr)(n c:Nat):(Op.equal t (.slice a n c) (.slice none 0 0)).run P w=.ok a.isNone w:=by
 have h:∀ d,(Op.equalIn (d+1) t (.slice a n c) (.slice none 0 0)).run P w=.ok a.isNone w:=λd=>by
  cases a<;>simp [Op.equalIn,run_underlying b]
 exact h 9999
theorem TZ {t:TypeId}(c:P.underlying t=some .bool)(a b:Bool):(Op.equal t (.bool a) (.bool b)).run P w=.ok (a==b) w:=by
 have h:∀ d,(Op.equalIn (d+1) t (.bool a) (.bool b)).run P w=.ok (a==b) w:=λd=>by
  simp [Op.equalIn,run_underlying c]
 exact h 9999
theorem QU (a:Int):IntKind.u64.wrap (((a % 2 ^ IntKind.u64.bits).toNat &&& 1 % 2 ^ IntKind.u64.bits:Nat):Int)=a % 2:=by
 have h:(((a % 2 ^ 64).toNat &&& 1 % 2 ^ 64:Nat):Int)=a % 2:=by
  grind
 show IntKind.u64.wrap (((a % 2 ^ 64).toNat &&& 1 % 2 ^ 64:Nat):Int)=a % 2;rw [h];exact uI (zW bL bL)
theorem PN {t:TypeId}{k:IntKind}(c:P.underlying t=some (.int k))(xs:Array Value)(i:Nat)(v:Value)(b:xs[i]?=some v):(part t xs i).run P w=.ok v w:=by
 simp [part,isAgg,run_underlying c,b]
theorem L5 {t:TypeId}{n:Nat}(h:WW P t=some n):∃ fs:Array Field,P.underlying t=some (.struct fs)/\P.stoodInHeld t=false/\P.eqGuardType P.depth t=false/\KK (Vp P 3) fs.toList 0=some n:=by grind [WW]
theorem TL {g:TypeId->Option Nat}:∀ (fs:List Field) (o n:Nat),KK g fs o=some n->o<=n
 | [],o,n,h=>by simp only [KK,bG] at h;omega
 | f :: fs,o,n,h=>by
  unfold KK at h;split at h
  .split at h
   .have:=TL fs _ _ h;omega
   .cases h
  .cases h
def XP (P:Program)(w:World)(e:Nat)(t:TypeId)(n:Nat):Prop :=
 ∀ (xs ys:Array Value) (o:Nat) (a b:Xa0),a.length=n->b.length=n ->
  (∀ (j:Nat) (m:Int),a[j]?=some m->xs[o+j]?=some (.int .i64 m))->(∀ (j:Nat) (m:Int),b[j]?=some m->ys[o+j]?=some (.int .i64 m)) ->
  ∃ x y,(part t xs o).run P w=.ok x w/\(part t ys o).run P w=.ok y w/\(Op.equalIn e t x y).run P w=.ok (decide (a=b)) w
theorem tV {g:TypeId->Option Nat}{e:Nat}(hg:∀ t n,g t=some n->XP P w e t n)(xs ys:Array Value):∀ (fs:List Field) (o n:Nat) (a b:Xa0),KK g fs o=some n->o+a.length=n->o+b.length=n ->
  (∀ (j:Nat) (m:Int),a[j]?=some m->xs[o+j]?=some (.int .i64 m))->(∀ (j:Nat) (m:Int),b[j]?=some m->ys[o+j]?=some (.int .i64 m)) ->
  (Op.eqFields e xs ys fs).run P w=.ok (decide (a=b)) w
 | [],o,n,a,b,h,ha,hb,_,_=>by
  simp only [KK,bG] at h;rw [bI (bL:a.length=0),bI (bL:b.length=0)];simp [Op.eqFields]
 | f :: fs,o,n,a,b,h,ha,hb,hx,hy=>by
  unfold KK at h;split at h
  .rename_i hf;obtain ⟨h1,h2⟩:=hf;split at h
   .rename_i k hk;have hle:=TL fs _ _ h;obtain ⟨x,y,px,py,pe⟩:=hg _ _ hk xs ys o (a.take k) (b.take k) (by rw [bT];omega) (by rw [bT];omega)
     (λj m hm=>hx j m (by rw [bX] at hm;split at hm;exact hm;cases hm)) (λj m hm=>hy j m (by rw [bX] at hm;split at hm;exact hm;cases hm))
    have ih:=tV hg xs ys fs (o+k) n (a.drop k) (b.drop k) h (by rw [dV];omega) (by rw [dV];omega)
     (λj m hm=>by rw [CE];exact hx (k+j) m (by rw [bV] at hm;exact hm)) (λj m hm=>by rw [CE];exact hy (k+j) m (by rw [bV] at hm;exact hm))
    have hab:(a=b)↔(a.take k=b.take k/\a.drop k=b.drop k):=by
     constructor
     .rintro rfl;exact ⟨rfl,rfl⟩
     .rintro ⟨q1,q2⟩;rw [<- List.take_append_drop k a,<- List.take_append_drop k b,q1,q2]
    rw [<- h2] at px py;simp only [Op.eqFields,if_pos h1,Sem.run_bind,px,py,Result.andThen_ok,pe];by_cases he:a.take k=b.take k
    .simp [he,ih,hab]
    .simp [he,hab]
   .cases h
  .cases h
theorem Fw:∀ (d:Nat) (t:TypeId) (n:Nat),Vp P d t=some n->∀ e,d<=e->XP P w e t n
 | 0,t,n,h,e,he=>by simp [Vp] at h
 | d+1,t,n,h,e,he=>by
  obtain ⟨e,rfl⟩:∃ e',e=e'+1:=⟨e - 1,bL⟩;unfold Vp at h;split at h
  .rename_i k hu;simp only [bG] at h;subst h;intro xs ys o a b ha hb hx hy;match a,b,ha,hb with
   | [a0],[b0],_,_ =>
    refine ⟨_,_,PN hu xs o _ (hx 0 a0 rfl),PN hu ys o _ (hy 0 b0 rfl),?_⟩;rw [run_equalIn_int w e t .i64 k a0 b0 hu];by_cases q:a0=b0<;>simp [q]
  .rename_i fs hu;split at h
   .rename_i hc;obtain ⟨hs,hi⟩:=hc;split at h
    .rename_i m hm;split at h
     .rename_i hsz;simp only [bG] at h;subst h;obtain ⟨i,hi⟩:=l8.1 hi;intro xs ys o a b ha hb hx hy;have hpart:∀ zs:Array Value,(part t zs o).run P w=.ok (.agg (zs.extract o (o+m))) w:=λzs=>by
       simp [part,isAgg,run_underlying hu,run_sizeOf (w:=w) hi,hsz]
      have hget:∀ (zs:Array Value) (c:Xa0),c.length=m->(∀ (j:Nat) (v:Int),c[j]?=some v->zs[o+j]?=some (.int .i64 v))->∀ (j:Nat) (v:Int),c[j]?=some v->(zs.extract o (o+m))[0+j]?=some (.int .i64 v):=λzs c hc hz j v hv=>by
       have hj:j<c.length:=(aL.1 hv).1;have h1:=hz j v hv;have h2:o+j<zs.size:=(nP.1 h1).1;rw [Array.getElem?_extract,eQ,if_pos bL];exact h1
      refine ⟨_,_,hpart xs,hpart ys,?_⟩;have hfo:P.fieldsOf t=fs:=by simp [Program.fieldsOf,hu]
      rw [run_equalIn_struct w e t _ _ (by rw [hfo];exact hu) hs,hfo];exact tV (λt' n' h'=>Fw d t' n' h' e bL) _ _ fs.toList 0 m a b hm bL bL (hget xs a ha hx) (hget ys b hb hy)
     .cases h
    .cases h
   .cases h
  .cases h
theorem vI {M:Nat->Prop}{N:Nat->Prop}:∀ (ds:Xa2) (a:Xa0) (vs:List Value),vJ ds=some a->vs.length=ds.length->(∀ (j:Nat) (u:Value) (d:D),vs[j]?=some u->ds[j]?=some d->RepV M σ N w u d) ->
  a.length=vs.length/\∀ (j:Nat) (n:Int),a[j]?=some n->vs[j]?=some (.int .i64 n)
 | [],a,vs,h,hl,_=>by
  simp only [vJ,bG] at h;subst h;refine ⟨hl.symm,λj n hn=>by simp at hn⟩
 | d :: ds,a,vs,h,hl,hr=>by
  cases vs with
  | nil=>cases hl
  | cons v vs =>
   cases d<;>try (simp [vJ] at h;done)
   rename_i k n;cases k<;>try (simp [vJ] at h;done)
   simp only [vJ,bQ] at h;obtain ⟨a',h1,rfl⟩:=h;have hv:=hr 0 v _ rfl rfl;cases hv
   obtain ⟨i1,i2⟩:=vI ds a' vs h1 (cG hl) (λj u d hu hd=>hr (j+1) u d (cG hu) (cG hd));refine ⟨by simp [i1],λj m hm=>?_⟩;cases j with
   | zero=>simp at hm;subst hm;rfl
   | succ j=>simpa using i2 j m (cG hm)
theorem Xb {o:BinOp}{t:TypeId}{ox oy:Operand}{v u:Value}{x y:D}(i:Rel M0 H σ w)
  (h:RepV (dK M0 H σ) σ H.J w v x) (g:RepV (dK M0 H σ) σ H.J w u y) (d:(J4 P t o x y H).cond) :
  (J4 P t o x y H).aa/\OpS P (do eqGuard o t ox oy v u;binOp o t v u) M0 H σ w (J4 P t o x y H).val (J4 P t o x y H).heap:=by
 unfold J4 at *;split at d
 .obtain ⟨e,f⟩:=xZ d;cases h;cases g
  exact ⟨trivial,.pure i (by simp [eqGuard,binOp,BW f]) (.bool _)⟩
 .obtain ⟨e,f⟩:=xZ d;cases h;cases g
  exact ⟨trivial,.pure i (by simp [eqGuard,binOp,BW f]) (.bool _)⟩
 .obtain ⟨e,f⟩:=xZ d.1;cases g
  cases h
  .exact absurd rfl d.2
  .exact ⟨trivial,.pure i (by simp [eqGuard,binOp,BW f]) (.bool _)⟩
 .obtain ⟨e,f⟩:=xZ d;cases h;cases g
  exact ⟨trivial,.pure i (by simp [eqGuard,binOp,BW f]) (.bool _)⟩
 .obtain ⟨e,f⟩:=xZ d;cases h;cases g
  exact ⟨trivial,.pure i (by simp [eqGuard,binOp,BW f]) (.bool _)⟩
 .obtain ⟨e,f⟩:=xZ d.1;cases g
  cases h
  .exact absurd rfl d.2
  .exact ⟨trivial,.pure i (by simp [eqGuard,binOp,BW f]) (.bool _)⟩
 .cases h;cases g
  exact ⟨trivial,.pure i (by simp [eqGuard,binOp,TZ d]) (.bool _)⟩
 .cases h;cases g
  exact ⟨trivial,.pure i (by simp [eqGuard,binOp,TZ d]) (.bool _)⟩
 .split at d
  .rename_i a b L K;obtain ⟨M,Q⟩:=d;obtain ⟨q,f,E,F,J⟩:=L5 M;have m:P.fieldsOf t=q:=by simp [Program.fieldsOf,f]
   cases h;cases g
   rename_i p C I A k B G z;obtain ⟨O,s⟩:=vI _ a p L er er;obtain ⟨N,r⟩:=vI _ b k K er er;refine ⟨trivial,.pure i ?_ (.bool _)⟩;rw [Sem.run_bind,run_eqGuard_agg w .eql t ox oy _ _ F];simp only [Result.andThen_ok];have l:=tV (P:=P) (w:=w) (e:=9999) (λt' n' h'=>Fw 3 t' n' h' 9999 bL) p.toArray k.toArray q.toList 0 a.length a b J bL bL (λj n hn=>by simpa using s j n hn) (λj n hn=>by simpa using r j n hn);rw [run_eql_struct,run_equalIn_struct w 9999 t _ _ (by rw [m];exact f) E,m,l];rfl
  .exact d.elim
 .split at d
  .rename_i a b L K;obtain ⟨M,Q⟩:=d;obtain ⟨q,f,E,F,J⟩:=L5 M;have m:P.fieldsOf t=q:=by simp [Program.fieldsOf,f]
   cases h;cases g
   rename_i p C I A k B G z;obtain ⟨O,s⟩:=vI _ a p L er er;obtain ⟨N,r⟩:=vI _ b k K er er;refine ⟨trivial,.pure i ?_ (.bool _)⟩;rw [Sem.run_bind,run_eqGuard_agg w .neq t ox oy _ _ F];simp only [Result.andThen_ok];have l:=tV (P:=P) (w:=w) (e:=9999) (λt' n' h'=>Fw 3 t' n' h' 9999 bL) p.toArray k.toArray q.toList 0 a.length a b J bL bL (λj n hn=>by simpa using s j n hn) (λj n hn=>by simpa using r j n hn);rw [run_neq_struct,run_equalIn_struct w 9999 t _ _ (by rw [m];exact f) E,m,l];rfl
  .exact d.elim
 .cases h;cases g
  exact ⟨trivial,.pure i (by simp [gM,binOp,Op.shift,show ¬ (_<(0:Int)) from Int.not_lt.2 d]) (.int _ _)⟩
 .obtain ⟨rfl,rfl,rfl⟩:=d;cases h;cases g
  exact ⟨trivial,.pure i (by simp [gM,binOp,Op.intBits,QU]) (.int _ _)⟩
 .exact VK i h g d
theorem VB {c:Bool}{a:BinOp}{t:TypeId}{ox oy:Operand}{e d:Value}{x y:D}(i:Rel M0 H σ w)
  (h:RepV (dK M0 H σ) σ H.J w e x) (g:RepV (dK M0 H σ) σ H.J w d y) (f:(tX c P t a x y H).cond) :
  (tX c P t a x y H).aa/\OpS P (do eqGuard a t ox oy e d;binOp a t e d) M0 H σ w (tX c P t a x y H).val (tX c P t a x y H).heap:=by
 unfold tX at *;split at f
 .cases h;cases g
  obtain rfl:=f;exact ⟨trivial,.pure i (by simp [gM,binOp,Op.intArith]) (.int _ _)⟩
 .exact Xb i h g f
theorem l7 {α:Type}{n:Nat}:∀ (es:List (List α)) (i:Nat) (c:List α),(∀ c∈es,c.length=n)->es[i]?=some c->∀ j,j<n->es.flatten[i * n+j]?=c[j]?
 | [],i,c,_,h,j,hj=>by simp at h
 | e :: es,0,c,hl,h,j,hj=>by
  simp at h;subst h;have:=hl e bS;simp only [fB,Nat.zero_mul,eQ];rw [aY bL]
 | e :: es,i+1,c,hl,h,j,hj=>by
  have he:=hl e bS;simp at h;have ih:=l7 es i c (λc hc=>hl c (fg hc)) h j hj;simp only [fB];rw [bF (by rw [he,Nat.add_mul];omega),he,<- ih];congr 1;rw [Nat.add_mul];omega
theorem lP {α:Type}{n:Nat}:∀ (es:List (List α)),(∀ c∈es,c.length=n)->es.flatten.length=es.length * n
 | [],_=>by simp
 | e :: es,hl=>by
  simp only [fB,aO,cD,lP es (λc hc=>hl c (fg hc)),hl e bS,Nat.add_mul];omega
theorem jL (b o j:Nat):(⟨b,o,none⟩:Addr).add j=⟨b,o+j,none⟩:=by unfold Addr.add;split<;>simp_all
theorem BE (a:Addr)(i j:Nat):(a.add i).add j=a.add (i+j):=by
 unfold Addr.add;grind
theorem Og {M:Nat->Prop}{N:Nat->Prop}{v:Value}{cs:Xa2}(h:RepV M σ N w v (.adr cs)) :
  ∃ ad xs,v=.pointer (some ad)/\RepL M σ N w xs cs/\(∀ u∈xs,u.oneCell'=true)/\∀ (j:Nat) (u:Value),xs[j]?=some u->¬ M ad.block/\w.cell? (ad.add j)=some u:=by
 generalize e:D.adr cs=d at h;cases h<;>cases e
 rename_i ad xs f a c b;exact ⟨ad,xs,rfl,⟨c,b⟩,f,a⟩
theorem ZP {t:TypeId}{n:Nat}(h:tk P t=.agg n):(isAgg t).run P w=.ok true w/\∃ i,P.info? t=some i/\i.size=n:=by
 unfold tk at h;cases b:P.underlying t with
 | none=>simp [b] at h
 | some d =>
  cases c:P.info? t with
  | none=>cases d<;>simp [b,c] at h
  | some i =>
   cases d<;>simp [b,c] at h<;>first
    | (split at h<;>cases h;done)
    | exact ⟨by simp [isAgg,run_underlying b],i,rfl,h⟩
theorem V9 {t:TypeId}(h:tk P t=.one):(isAgg t).run P w=.ok false w:=by
 unfold tk at h;cases b:P.underlying t with
 | none=>simp [b] at h
 | some d =>
  cases c:P.info? t with
  | none=>cases d<;>simp [b,c] at h
  | some i=>cases d<;>simp [b,c] at h<;>simp [isAgg,run_underlying b]
theorem sE {v:Value}{x:D}{cs:Xa2}(K:Rel M0 H σ w)(C:RepV (dK M0 H σ) σ H.J w v x)(m:fW H x=some cs)(I:cs≠[]) :
  ∃ ad xs,v=.pointer (some ad)/\RepL (dK M0 H σ) σ H.J w xs cs/\(∀ u∈xs,u.oneCell'=true)/\∀ j u,xs[j]?=some u->w.cell? (ad.add j)=some u:=by
 cases x<;>simp only [fW] at m<;>try (cases m;done)
 case adr ds =>
  cases m
  obtain ⟨ad,xs,rfl,e,L,B⟩:=Og C;grind
 case ptr id ver i off =>
  cases C
  rename_i O L h;cases y:H.get id with
  | none=>simp [y] at m
  | some k =>
   simp only [y] at m;split at m
   .rename_i E;cases f:k.es[i]? with
    | none=>simp [f] at m
    | some c =>
     simp [f] at m;subst m;obtain ⟨o,G,l⟩:=K.ah id k y;obtain ⟨xs,p,s,e⟩:=l.row;have t:i<k.es.length:=(aL.1 f).1;have A:c.length=o.K:=l.K c (aK f);rcases h o G with P|⟨M,b,J,rfl⟩
     .have:=l.af;omega
     .have F:off<c.length:=by
       simp_all
      have z:=lP k.es l.K;have r:xs.length=k.es.length * o.K:=e.len.trans z;have q:i * o.K+o.K<=xs.length:=by
       rw [r];have:(i+1) * o.K<=k.es.length * o.K:=c9 _ t;rw [Nat.add_mul] at this;omega
      refine ⟨_,(xs.drop (i * o.K+off)).take (o.K - off),rfl,⟨?_,λj u d a hd=>?_⟩,λu a=>s u (cQ (bJ a)),λj u a=>?_⟩
      .simp only [bT,dV];omega
      .rw [bX] at a;split at a
       .rename_i N;rw [bV] at a hd;refine e.Y (i * o.K+off+j) u d a ?_;rw [CE,l7 k.es i c l.K f (off+j) bL,hd]
       .cases a
      .rw [bX] at a;split at a
       .rw [bV] at a;have:=p.cells (g:=b) J _ u a;rw [jL] at this ⊢;simpa [CE] using this
       .cases a
   .cases m
theorem P6 {t:TypeId}{A:Value}{x:D}(G:Rel M0 H σ w)(C:RepV (dK M0 H σ) σ H.J w A x)(m:(pL P t x H).cond) :
  (pL P t x H).aa/\(pL P t x H).heap=H/\∃ v,(Instr.loadAt t A).run P w=.ok v w/\RepV (dK M0 H σ) σ H.J w v (pL P t x H).val:=by
 unfold pL at *;cases l:fW H x with
 | none=>simp [l,AOut.bad] at m
 | some K =>
  simp only [l] at m ⊢;cases g:tk P t with
  | bad=>simp [g,AOut.bad] at m
  | agg n =>
   rw [g] at m;obtain ⟨s,E⟩:=m;obtain ⟨z,i,M,y⟩:=ZP (w:=w) g;obtain ⟨r,o,rfl,a,I,b⟩:=sE G C l (by intro h;subst h;simp at s;omega);refine ⟨trivial,rfl,?_⟩;have F:(o.take n).length=n:=by rw [bT,a.len];omega
   have k:=run_loadCells_list (P:=P) (w:=w) r (o.take n) (λj u f=>by
    rw [bX] at f;split at f
    .exact b j u f
    .cases f)
   rw [F] at k;refine ⟨.agg (o.take n).toArray,?_,.agg _ _ ?_ (λu f=>I u (bJ f)) λj u d f hd=>?_⟩
   .simp [Instr.loadAt,Instr.sureAddr,loadVar,z,sizeOf,typeInfo,M,y,k]
   .rw [F,bT];omega
   .rw [bX] at f hd;split at f
    .rename_i L;rw [if_pos L] at hd;exact a.Y j u d f hd
    .cases f
  | one =>
   rw [g] at m;obtain ⟨r,o,rfl,a,I,b⟩:=sE G C l m;refine ⟨trivial,rfl,?_⟩;have z:=V9 (w:=w) g;cases K with
   | nil=>exact absurd rfl m
   | cons d K =>
    cases o with
    | nil=>have:=a.len;simp at this
    | cons u o =>
     have J:=b 0 u rfl;rw [show r.add 0=r by simp [Addr.add]] at J;exact ⟨u,by simp [Instr.loadAt,Instr.sureAddr,loadVar,z,J],a.Y 0 u d rfl rfl⟩
theorem Sd {t:TypeId}{a:Value}{x:D}(b:Rel M0 H σ w)(c:RepV (dK M0 H σ) σ H.J w a x)(d:(pL P t x H).cond) :
  (pL P t x H).aa/\OpS P (Instr.loadAt t a) M0 H σ w (pL P t x H).val (pL P t x H).heap:=by
 obtain ⟨h,g,v,f,e⟩:=P6 (P:=P) b c d;rw [g];exact ⟨h,.pure b f e⟩
end
end Go.Abs
end
