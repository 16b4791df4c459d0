/- Facts about the types of the seat's program, printed by fact -/
import Derived.Test.YtpdanmkcpjdmjaaGreatZkAF
import Derived.Test.YtpdanmkcpjdmjaaGreatProg
import Derived.Laws.Externs
import Derived.WalkKit
set_option linter.unusedVariables false
set_option linter.unusedSimpArgs false
section
set_option maxRecDepth 100000
open Go Go.Proofs Go.Abs Tryz
namespace Go.Abs
abbrev Pua:=Pure prog
end Go.Abs
namespace Go.Abs.Tz
abbrev tyA (t:Nat)(z:D):Prop:=tk prog t=.one/\zd prog t=some [z]/\(prog.info? t).isSome=true/\prog.cellsOf t=1
abbrev GJ (t:Nat):Prop:=tyA t .nil
abbrev zT (t:Nat):Prop:=tk prog t=.one/\(prog.info? t).isSome=true/\prog.cellsOf t=1
abbrev tyD (t n k s:Nat)(z:UN):Prop:=tk prog t=.agg n/\zd prog t=some z/\bk prog t=some (.ar s)/\Wt prog t=some (k,s)/\(prog.info? t).isSome=true/\prog.cellsOf t=n
abbrev WN (t:Nat)(k:IntKind)(z:D):Prop:=tyA t z/\Rt prog t=some k
abbrev BR (t n:Nat)(z:UN)(l:List (Nat × Nat)):Prop:=tk prog t=.agg n/\zd prog t=some z/\bk prog t=some (.st l)/\(prog.info? t).isSome=true/\prog.cellsOf t=n
abbrev GI (t e s b:Nat)(z:UN):Prop:=sl prog t=some ⟨e,s,b,z⟩
abbrev Zq (t n:Nat):Prop:=VO prog t=some n
@[go_sem] theorem ty0:WN 3 .i64 (.int .i64 0)/\tyA 4 (.bool false)/\WN 5 .u8 (.int .u8 0)/\tyA 9 (.str ⟨#[]⟩)/\GJ 22/\GJ 23/\GJ 24/\BR 26 2 [.nil,.nil] [(0,1),(1,1)]:=by and_intros<;>rfl
@[go_sem] theorem ty8:GJ 27/\BR 29 4 [.nil,.nil,.nil,.nil] [(0,2),(2,1),(3,1)]/\WN 30 .u64 (.int .u64 0)/\tyD 31 4 4 1 [.int .u8 0,.int .u8 0,.int .u8 0,.int .u8 0]/\BR 33 15 [.nil,.nil,.nil,.nil,.int .u64 0,.nil,.nil,.nil,.bool false,.bool false,.int .u8 0,.int .u8 0,.int .u8 0,.int .u8 0,.nil] [(0,4),(4,1),(5,1),(6,1),(7,1),(8,1),(9,1),(10,4),(14,1)]/\BR 35 2 [.nil,.nil] [(0,1),(1,1)]/\BR 37 19 [.nil,.nil,.nil,.nil,.nil,.nil,.int .u64 0,.nil,.nil,.nil,.bool false,.bool false,.int .u8 0,.int .u8 0,.int .u8 0,.int .u8 0,.nil,.nil,.nil] [(0,1),(1,1),(2,15),(17,2)]/\BR 39 35 [.nil,.nil,.nil,.nil,.nil,.nil,.int .u64 0,.nil,.nil,.nil,.bool false,.bool false,.int .u8 0,.int .u8 0,.int .u8 0,.int .u8 0,.nil,.nil,.nil,.nil,.nil,.nil,.nil,.int .u64 0,.nil,.nil,.nil,.bool false,.bool false,.int .u8 0,.int .u8 0,.int .u8 0,.int .u8 0,.nil,.nil] [(0,19),(19,15),(34,1)]:=by and_intros<;>rfl
@[go_sem] theorem af3:GJ 40/\GJ 41/\BR 43 2 [.nil,.nil] [(0,1),(1,1)]/\GJ 44/\zT 45/\GJ 48/\GJ 49/\BR 51 2 [.nil,.nil] [(0,1),(1,1)]:=by and_intros<;>rfl
@[go_sem] theorem af2:GJ 52/\GJ 53/\BR 55 5 [.nil,.nil,.nil,.int .i64 0,.nil] [(0,2),(2,1),(3,1),(4,1)]/\BR 57 2 [.nil,.nil] [(0,1),(1,1)]/\BR 58 2 [.nil,.nil] [(0,1),(1,1)]/\GJ 59/\BR 61 9 [.int .i64 0,.nil,.nil,.nil,.nil,.nil,.nil,.int .i64 0,.nil] [(0,1),(1,1),(2,2),(4,5)]/\BR 63 25 [.str ⟨#[]⟩,.nil,.nil,.nil,.int .i64 0,.nil,.nil,.nil,.nil,.int .i64 0,.nil,.nil,.nil,.nil,.nil,.bool false,.int .i64 0,.nil,.nil,.nil,.nil,.nil,.nil,.int .i64 0,.nil] [(0,1),(1,5),(6,5),(11,2),(13,2),(15,1),(16,9)]:=by and_intros<;>rfl
@[go_sem] theorem af1:BR 65 3 [.nil,.nil,.nil] [(0,2),(2,1)]/\GJ 66/\BR 68 3 [.nil,.nil,.nil] [(0,2),(2,1)]/\BR 70 38 [.str ⟨#[]⟩,.nil,.nil,.nil,.int .i64 0,.nil,.nil,.nil,.nil,.int .i64 0,.nil,.nil,.nil,.nil,.nil,.bool false,.int .i64 0,.nil,.nil,.nil,.nil,.nil,.nil,.int .i64 0,.nil,.nil,.nil,.nil,.nil,.nil,.nil,.nil,.nil,.nil,.nil,.nil,.nil,.nil] [(0,25),(25,3),(28,3),(31,3),(34,2),(36,2)]/\WN 71 .i64 (.int .i64 0)/\zT 72/\zT 76/\zT 80:=by and_intros<;>rfl
@[go_sem] theorem af0:GJ 86/\zT 88/\zT 90/\BR 94 2 [.int .i64 0,.int .i64 0] [(0,1),(1,1)]/\BR 96 4 [.int .i64 0,.int .i64 0,.int .i64 0,.int .i64 0] [(0,1),(1,1),(2,2)]/\tyA 102 .nilf/\zT 112/\zT 116:=by and_intros<;>rfl
@[go_sem] theorem afZ:GJ 125/\BR 127 4 [.str ⟨#[]⟩,.int .i64 0,.int .i64 0,.nil] [(0,1),(1,1),(2,1),(3,1)]/\GJ 128/\BR 130 4 [.str ⟨#[]⟩,.int .i64 0,.bool false,.nil] [(0,1),(1,1),(2,1),(3,1)]/\BR 132 7 [.str ⟨#[]⟩,.int .i64 0,.int .i64 0,.int .i64 0,.int .i64 0,.int .i64 0,.int .i64 0] [(0,1),(1,1),(2,1),(3,1),(4,1),(5,1),(6,1)]/\BR 134 3 [.int .i64 0,.int .i64 0,.int .i64 0] [(0,1),(1,1),(2,1)]/\zT 143/\tyD 148 2 2 1 [.int .u8 0,.int .u8 0]:=by and_intros<;>rfl
@[go_sem] theorem afY:zT 150/\tyD 152 3 3 1 [.int .u8 0,.int .u8 0,.int .u8 0]/\GJ 155/\tyD 156 2 2 1 [.int .i64 0,.int .i64 0]/\BR 158 5 [.int .i64 0,.int .i64 0,.int .i64 0,.int .i64 0,.int .i64 0] [(0,1),(1,2),(3,2)]/\WN 160 .i8 (.int .i8 0)/\tyD 161 4 4 1 [.int .i8 0,.int .i8 0,.int .i8 0,.int .i8 0]/\GJ 162:=by and_intros<;>rfl
@[go_sem] theorem afX:tyA 172 .nilf/\GJ 177/\zT 178/\zT 180/\zT 188/\zT 192/\zT 194/\tyA 201 .nilp:=by and_intros<;>rfl
@[go_sem] theorem afW:tyA 204 .nilf/\tyA 212 .nilf/\zT 222/\zT 227/\WN 234 .u64 (.int .u64 0)/\zT 241/\BR 246 8 [.nil,.nil,.nil,.nil,.nil,.nil,.nil,.nil] [(0,2),(2,2),(4,2),(6,2)]/\GJ 248:=by and_intros<;>rfl
@[go_sem] theorem afV:zT 249/\GJ 253/\BR 255 5 [.int .i64 0,.nil,.nil,.nil,.nil] [(0,1),(1,3),(4,1)]/\zT 256/\zT 258/\zT 262/\zT 263/\BR 266 2 [.int .i64 0,.int .i64 0] [(0,1),(1,1)]:=by and_intros<;>rfl
@[go_sem] theorem afU:zT 271/\zT 275/\GJ 279/\zT 280/\tyA 287 .nilf/\tyA 290 .nilf/\WN 294 .i64 (.int .i64 0)/\zT 295:=by and_intros<;>rfl
@[go_sem] theorem afT:WN 301 .u32 (.int .u32 0)/\zT 303/\BR 306 3 [.int .i64 0,.str ⟨#[]⟩,.int .i64 0] [(0,1),(1,1),(2,1)]/\tyA 308 .nilf/\GJ 312/\GJ 313/\BR 318 6 [.nil,.nil,.nil,.nil,.nil,.bool false] [(0,2),(2,3),(5,1)]/\zT 320:=by and_intros<;>rfl
@[go_sem] theorem afJ:tyA 331 .nilf/\WN 335 .u64 (.int .u64 0)/\tyA 339 .nilp/\zT 341/\tyA 346 .nilf/\tyA 351 .nilf/\BR 355 2 [.int .i64 0,.int .i64 0] [(0,1),(1,1)]/\zT 356:=by and_intros<;>rfl
@[go_sem] theorem afI:zT 358/\tyA 363 .nilp/\BR 365 11 [.nil,.nil,.nil,.nil,.nil,.nil,.nil,.nil,.bool false,.int .i64 0,.nil] [(0,2),(2,2),(4,2),(6,2),(8,1),(9,1),(10,1)]/\tyA 370 .nilp/\tyA 372 .nilf/\zT 379/\tyA 381 .nilf/\zT 382:=by and_intros<;>rfl
@[go_sem] theorem afH:zT 387/\zT 391/\tyA 403 .nilp/\BR 405 12 [.nil,.nil,.nil,.nil,.nil,.nil,.nil,.bool false,.int .i64 0,.nil,.nil,.nil] [(0,2),(2,2),(4,1),(5,2),(7,1),(8,1),(9,1),(10,1),(11,1)]:=by and_intros<;>rfl
@[go_sem] theorem afR:GI 22 148 2 2 [.int .u8 0,.int .u8 0]/\GI 23 5 1 1 [.int .u8 0]/\GI 24 152 3 3 [.int .u8 0,.int .u8 0,.int .u8 0]/\GI 27 161 4 4 [.int .i8 0,.int .i8 0,.int .i8 0,.int .i8 0]/\GI 40 130 4 56 [.str ⟨#[]⟩,.int .i64 0,.bool false,.nil]/\GI 41 132 7 64 [.str ⟨#[]⟩,.int .i64 0,.int .i64 0,.int .i64 0,.int .i64 0,.int .i64 0,.int .i64 0]/\GI 44 70 38 824 [.str ⟨#[]⟩,.nil,.nil,.nil,.int .i64 0,.nil,.nil,.nil,.nil,.int .i64 0,.nil,.nil,.nil,.nil,.nil,.bool false,.int .i64 0,.nil,.nil,.nil,.nil,.nil,.nil,.int .i64 0,.nil,.nil,.nil,.nil,.nil,.nil,.nil,.nil,.nil,.nil,.nil,.nil,.nil,.nil]/\GI 48 3 1 8 [.int .i64 0]/\GI 49 134 3 24 [.int .i64 0,.int .i64 0,.int .i64 0]/\GI 52 96 4 32 [.int .i64 0,.int .i64 0,.int .i64 0,.int .i64 0]/\GI 53 158 5 40 [.int .i64 0,.int .i64 0,.int .i64 0,.int .i64 0,.int .i64 0]/\GI 59 61 9 184 [.int .i64 0,.nil,.nil,.nil,.nil,.nil,.nil,.int .i64 0,.nil]:=by and_intros<;>rfl
@[go_sem] theorem afG:GI 66 48 1 24 [.nil]/\GI 86 63 25 512 [.str ⟨#[]⟩,.nil,.nil,.nil,.int .i64 0,.nil,.nil,.nil,.nil,.int .i64 0,.nil,.nil,.nil,.nil,.nil,.bool false,.int .i64 0,.nil,.nil,.nil,.nil,.nil,.nil,.int .i64 0,.nil]/\GI 125 9 1 16 [.str ⟨#[]⟩]/\GI 128 127 4 56 [.str ⟨#[]⟩,.int .i64 0,.int .i64 0,.nil]/\GI 155 156 2 16 [.int .i64 0,.int .i64 0]/\GI 162 4 1 1 [.bool false]/\GI 177 65 3 72 [.nil,.nil,.nil]/\GI 248 355 2 16 [.int .i64 0,.int .i64 0]/\GI 253 255 5 104 [.int .i64 0,.nil,.nil,.nil,.nil]/\GI 279 58 2 48 [.nil,.nil]/\GI 312 51 2 48 [.nil,.nil]/\GI 313 162 1 24 [.nil]:=by and_intros<;>rfl
@[go_sem] theorem afS:Zq 94 2/\Zq 96 4/\Zq 134 3/\Zq 158 5/\Zq 266 2/\Zq 355 2:=by and_intros<;>(show _=_;kernel_rfl)
attribute [go_sem] underlying3 underlying4 underlying5 underlying9 underlying22 underlying23 underlying24 underlying26 underlying27 underlying29 underlying30 underlying31 underlying33 underlying35 underlying37 underlying39 underlying40 underlying41 underlying43 underlying44
attribute [go_sem] underlying45 underlying48 underlying49 underlying51 underlying52 underlying53 underlying55 underlying57 underlying58 underlying59 underlying61 underlying63 underlying65 underlying66 underlying68 underlying70 underlying71 underlying72 underlying76 underlying80
attribute [go_sem] underlying86 underlying88 underlying90 underlying94 underlying96 underlying102 underlying112 underlying116 underlying125 underlying127 underlying128 underlying130 underlying132 underlying134 underlying143 underlying148 underlying150 underlying152 underlying155 underlying156
attribute [go_sem] underlying158 underlying160 underlying161 underlying162 underlying172 underlying177 underlying178 underlying180 underlying188 underlying192 underlying194 underlying201 underlying204 underlying212 underlying222 underlying227 underlying234 underlying241 underlying246 underlying248
attribute [go_sem] underlying249 underlying253 underlying255 underlying256 underlying258 underlying262 underlying263 underlying266 underlying271 underlying275 underlying279 underlying280 underlying287 underlying290 underlying294 underlying295 underlying301 underlying303 underlying306 underlying308
attribute [go_sem] underlying312 underlying313 underlying318 underlying320 underlying331 underlying335 underlying339 underlying341 underlying346 underlying351 underlying355 underlying356 underlying358 underlying363 underlying365 underlying370 underlying372 underlying379 underlying381 underlying382
attribute [go_sem] underlying387 underlying391 underlying403 underlying405
theorem mixed:prog.follows .mixedOrders=true:=rfl
theorem pK {f:FuncId}{fn:Func}{x:Code}{rs:List ResultVar}{args:UN}{r:D}(cfg:Cfg)(hf:prog.funcs[f]?=some fn)(hb:fn.body=some x)
  (h:∀ Q:D->AHeap->Prop,(∀ d H',(rZ H' d=r\/UQ (rZ H' d)=r)->Q d H')->pD prog cfg x (TC prog rs Q) (DG args) .an)
  (hcl:r.P=true:=by first|rfl|(simp [go_sem];done)) (hnm:(fn.name=="runtime.NumGoroutine")=false:=by rfl) (hlen:args.length<=fn.ntmps:=by exact aF rfl) (hok:qB cfg fn.ntmps x=true:=by kernel_rfl) (hr:fn.results.toList=rs:=by exact WW):Pure prog f args r :=
 Sk hcl λQ hQ=>aJ mixed hf hb hnm hlen hok (h Q hQ) hr
theorem p0 {f:FuncId}{fn:Func}{x:Code}{rs:List ResultVar}{args:UN}{r:D}(hf:prog.funcs[f]?=some fn)(hb:fn.body=some x)
  (h:∀ Q:D->AHeap->Prop,(∀ d H',(rZ H' d=r\/UQ (rZ H' d)=r)->Q d H')->True->pD prog ⟨λ_=>false,λ_=>[]⟩ x (TC prog rs Q) (DG args) .an)
(hcl:r.P=true:=by first|rfl|(simp [go_sem];done)) (hnm:(fn.name=="runtime.NumGoroutine")=false:=by rfl) (hlen:args.length<=fn.ntmps:=by exact aF rfl) (hok:qB ⟨λ_=>false,λ_=>[]⟩ fn.ntmps x=true:=by kernel_rfl) (hr:fn.results.toList=rs:=by exact WW):Pure prog f args r:=pK ⟨λ_=>false,λ_=>[]⟩ hf hb (λQ W=>h Q W trivial) hcl hnm hlen hok hr
theorem cK {f:FuncId}{fn:Func}{x:Code}{rs:List ResultVar}{args:UN}{Q:D->AHeap->Prop}{H:AHeap}(cfg:Cfg)(hf:prog.funcs[f]?=some fn)(hb:fn.body=some x)(h:pD prog cfg x (TC prog rs Q) (DG args) H) (hnm:(fn.name=="runtime.NumGoroutine")=false:=by rfl) (hlen:args.length<=fn.ntmps:=by exact aF rfl) (hok:qB cfg fn.ntmps x=true:=by kernel_rfl) (hr:fn.results.toList=rs:=by exact WW):ACalls prog f args H Q:=aJ mixed hf hb hnm hlen hok h hr
theorem c0 {f:FuncId}{fn:Func}{x:Code}{rs:List ResultVar}{args:UN}{Q:D->AHeap->Prop}{H:AHeap}(hf:prog.funcs[f]?=some fn)(hb:fn.body=some x)(h:pD prog ⟨λ_=>false,λ_=>[]⟩ x (TC prog rs Q) (DG args) H) (hnm:(fn.name=="runtime.NumGoroutine")=false:=by rfl) (hlen:args.length<=fn.ntmps:=by exact aF rfl) (hok:qB ⟨λ_=>false,λ_=>[]⟩ fn.ntmps x=true:=by kernel_rfl) (hr:fn.results.toList=rs:=by exact WW):ACalls prog f args H Q:=aJ mixed hf hb hnm hlen hok h hr
theorem oK {f:FuncId}{fn:Func}{x:Code}{rs:List ResultVar}{args:UN}{ty:TypeId}{sz:Nat}{es:UE}(cfg:Cfg)(hf:prog.funcs[f]?=some fn)(hb:fn.body=some x)
  (h:∀ Q:D->AHeap->Prop,(∀ id n H',n=es.length->H'.get id=some ⟨ty,sz,es,false⟩->Q (.own id n) H')->pD prog cfg x (TC prog rs Q) (DG args) .an)
  (hcl:D.O es=true:=by first|rfl|(simp [go_sem];done)) (hnm:(fn.name=="runtime.NumGoroutine")=false:=by rfl) (hlen:args.length<=fn.ntmps:=by exact aF rfl) (hok:qB cfg fn.ntmps x=true:=by kernel_rfl) (hr:fn.results.toList=rs:=by exact WW):Own prog f args ty sz es :=
 aeZ hcl λQ hQ=>aJ mixed hf hb hnm hlen hok (h Q hQ) hr
end Go.Abs.Tz
end
section
namespace Go.Abs
variable {P:Program} {md:Nat→Bool} {ops:Array Oper} {sp:List (Nat × Nat)} {n0 i:Nat} {rest:List Oper} {acc:List (Nat × List Nat)} {e:eF} {dst:Option Tmp} {K:eF→AHeap→Prop} {f:FuncId} {args:UN} {H:AHeap} {r:D}
end Go.Abs
end
section
set_option maxRecDepth 4000
open Go Go.Proofs Tryz
namespace Go.Abs
def jC (c:Int):Bool:=decide (97<=c)&&decide (c<=122)||(decide (65<=c)&&decide (c<=90))
def kK (c:Int):Bool:=decide (48<=c)&&decide (c<=57)
def p7 (c:Int):Bool:=jC c||kK c||c==95
theorem CB (c:Int):Pua 331 [.int .u8 c] (.bool (jC c)):=by
 refine aU (Tz.c0 func331 rfl ?_);simp [go_sem,seval,jC,D.P];omega
theorem z6 (c:Int):Pua 334 [.int .u8 c] (.bool (kK c)):=by
 refine aU (Tz.c0 func334 rfl ?_);simp [go_sem,seval,kK,D.P]
theorem QA (c:Int):Pua 333 [.int .u8 c] (.bool (p7 c)):=by
 refine aU (Tz.c0 func333 rfl ?_);simp [go_sem,seval];refine aB (CB c) rfl ?_;simp [go_sem,seval];refine aK (λ_=>z6 c) (λ_=>rfl) ?_;simp [go_sem,seval,p7]
def yY (s:ByteArray)(i:Nat):Int:=((s.data[i]?.getD 0).toNat:Int)
def gQ (p:Int->Bool)(s:ByteArray):Nat:=(s.data.toList.takeWhile λb=>p (b.toNat:Int)).length
theorem vZ {α:Type}(p:α->Bool):∀ (l:List α) (n:Nat),(∀ j x,j<n->l[j]?=some x->p x=true)->n<=l.length->(∀ x,l[n]?=some x->p x=false)->(l.takeWhile p).length=n
 | [],n,_,h,_=>by simp at h;subst h;rfl
 | a :: l,0,_,_,h=>by have:=h a rfl;simp [List.takeWhile,this]
 | a :: l,n+1,h1,h2,h3=>by
  have ha:=h1 0 a aD rfl;simp only [List.takeWhile,ha,eZ];rw [vZ p l n (λj x hj hx=>h1 (j+1) x aD hx) (eQ h2) λx hx=>h3 x hx]
theorem KT (p:Int->Bool)(s:ByteArray)(n:Nat)(d:∀ j,j<n->p (yY s j)=true)(c:n<=s.size)(e:n<s.size->p (yY s n)=false):gQ p s=n:=by
 have a:s.data.toList.length=s.size:=rfl;have b:∀ j x,s.data.toList[j]?=some x->yY s j=(x.toNat:Int):=λj x hx=>by
  simp only [Array.getElem?_toList] at hx;simp [yY,hx]
 refine vZ _ _ _ (λj x hj hx=>by rw [<- b j x hx];exact d j hj) (by rw [a];exact c) λx hx=>?_;grind
theorem UB (s:ByteArray)(i:Nat):0<=yY s i/\yY s i<=255:=by
 unfold yY;have:=(s.data[i]?.getD 0).toNat_lt;omega
theorem Eb (s:ByteArray)(g:FuncId)(p:Int->Bool)(t:s.size<=1000000)(o:∀ c,0<=c->c<=255->Pure prog g [.int .u8 c] (.bool (p c))) :
  Pua 332 [.str s,.fn g []] (dI (gQ p s)):=by
 refine aU (Tz.c0 func332 rfl ?_);simp [go_sem,seval];refine fT (ι:=Nat) (λn e H=>H=.an/\n<=s.size/\e 0=.str s/\e 1=.fn g []/\e 5=dI n/\(∀ j,j<n->p (yY s j)=true)) (λn=>s.size - n) 0 (by simp [go_sem,seval,dI]) ?_;intro n e H ⟨q,m,k,i,d,l⟩;subst q;simp [go_sem,seval,k,i,d,dI];have f:=UB s n;refine aK (r:=.bool (p (yY s n))) (λ_=>o _ f.1 f.2) (λ_=>rfl) ?_;simp [go_sem,seval];refine bC (λh=>?_) (λh=>?_)
 .simp at h;simp [go_sem,seval,k,i,d,dI];refine ⟨dL aD aD,n+1,aD,aD,aD,λj hj=>?_⟩;grind
 .simp at h;simp [go_sem,seval,d,dI];rw [KT p s n l m h]
def idx {α:Type}[DecidableEq α](xs:List α)(v:α):Int:=match xs.findIdx? (λx=>decide (x=v)) with|some i=>i|none=>-1
def mem {α:Type}[DecidableEq α](xs:List α)(v:α):Bool:=decide (0<=idx xs v)
theorem xF {α:Type}[DecidableEq α]{xs:List α}{v:α}{i:Nat}(h:∀ j,j<i->xs[j]?≠some v)(hi:xs[i]?=some v):idx xs v=i:=by
 have:xs.findIdx? (λx=>decide (x=v))=some i:=by
  rw [i9];grind
 simp [idx,this]
theorem Dv {α:Type}[DecidableEq α]{xs:List α}{v:α}(h:∀ j,j<xs.length->xs[j]?≠some v):idx xs v = -1:=by
 have:xs.findIdx? (λx=>decide (x=v))=none:=by
  rw [tM];intro x a;obtain ⟨j,b,rfl⟩:=aQ a;grind
 simp [idx,this]
theorem Xj {α:Type}[DecidableEq α](xs:List α)(v:α):0<=idx xs v↔v∈xs:=by
 unfold idx;grind
theorem mem_iff {α:Type}[DecidableEq α](xs:List α)(v:α):mem xs v=true↔v∈xs:=by simp [mem,Xj]
theorem Uk (xs:List ByteArray)(v:ByteArray):Pua 365 [sK xs,.str v] (dI (idx xs v)):=by
 refine aU (Tz.c0 func365 rfl ?_);simp [go_sem,seval,dI,sK];intro f;refine fT (ι:=Nat) (λi e H=>H=.an/\i<=xs.length/\e 0=sK xs/\e 1=.str v/\e 7=dI xs.length/\e 8=dI i/\(∀ j,j<i->xs[j]?≠some v)) (λi=>xs.length - i) 0 (by simp [go_sem,seval,dI,sK]) ?_;intro i e H ⟨m,n,l,k,g,c,d⟩;subst m;simp [go_sem,seval,g,c,dI,sK];refine f9 (λhlt=>?_) (λhge=>?_)
 .simp [go_sem,seval,l,k,c,dI,sK,cS,hlt];refine bC (λh=>?_) (λh=>?_)
  .simp at h;simp [go_sem,seval];rw [xF d (by rw [aA hlt,h])]
  .simp at h;simp [go_sem,seval,l,k,g,c,dI,sK];refine ⟨dL aD aD,i+1,aD,aD,aD,λj hj=>?_⟩;grind
 .simp [go_sem,seval];rw [Dv λj hj=>d j aD]
theorem DI (xs:List ByteArray)(v:ByteArray):Pua 329 [sK xs,.str v] (.bool (mem xs v)):=by
 refine aU (Tz.c0 func329 rfl ?_);simp [go_sem,seval];refine aB (Uk xs v) (by simp [D.L,go_sem,D.P]) ?_;simp [go_sem,seval,dI,mem]
theorem xE (xs:W3)(v:Int):Pua 52 [dLI xs,dI v] (dI (idx xs v)):=by
 refine aU (Tz.c0 func52 rfl ?_);simp [go_sem,seval,dI,dLI];intro f;refine fT (ι:=Nat) (λi e H=>H=.an/\i<=xs.length/\e 0=dLI xs/\e 1=dI v/\e 7=dI xs.length/\e 8=dI i/\(∀ j,j<i->xs[j]?≠some v)) (λi=>xs.length - i) 0 (by simp [go_sem,seval,dI,dLI]) ?_;intro i e H ⟨m,n,l,k,g,c,d⟩;subst m;simp [go_sem,seval,g,c,dI,dLI];refine f9 (λhlt=>?_) (λhge=>?_)
 .simp [go_sem,seval,l,k,c,dI,dLI,cI,hlt];refine bC (λh=>?_) (λh=>?_)
  .simp at h;simp [go_sem,seval];rw [xF d (by rw [aA hlt,h])]
  .simp at h;simp [go_sem,seval,l,k,g,c,dI,dLI];refine ⟨dL aD aD,i+1,aD,aD,aD,λj hj=>?_⟩;grind
 .simp [go_sem,seval];rw [Dv λj hj=>d j aD]
theorem fU (xs:W3)(v:Int):Pua 93 [dLI xs,dI v] (.bool (mem xs v)):=by
 refine aU (Tz.c0 func93 rfl ?_);simp [go_sem,seval];refine aB (xE xs v) (by simp [D.L,go_sem,D.P,dI]) ?_;simp [go_sem,seval,dI,mem]
def pZ (c:Int):Bool:=decide (32<=c)&&decide (c<=126)&&c != 34
theorem JM (c:Int):Pua 366 [.int .u8 c] (.bool (pZ c)):=by
 refine aU (Tz.c0 func366 rfl ?_);simp [go_sem,seval,pZ,D.P]
def yK (s:ByteArray):Int × Int :=
 let n:=gQ pZ (s.extract 1 s.size)
 if (1+(n:Int)=s.size)\/yY s (1+n)≠34 then (0,2) else if 60<n then (0,3) else (n+2,0)
theorem Ei (p:Int->Bool)(s:ByteArray):gQ p s<=s.size:=by
 have:=(List.takeWhile_sublist (l:=s.data.toList) (λb:UInt8=>p (b.toNat:Int))).length_le;exact this
theorem Mc (s:ByteArray)(i:1<=s.size)(g:s.size<=100000):Pua 335 [.str s] (.tup [dI (yK s).1,dI (yK s).2]):=by
 refine aU (Tz.c0 func335 rfl ?_);simp [go_sem,seval];have d:(s.extract 1 s.size).size<=1000000:=by rw [ByteArray.size_extract];omega
 refine ⟨aD,aB (Eb (s.extract 1 s.size) _ _ d (λc _ _=>JM c)) rfl ?_⟩;have e:=Ei pZ (s.extract 1 s.size);rw [ByteArray.size_extract] at e;simp [go_sem,seval,dI];unfold yK;generalize gQ pZ (s.extract 1 s.size)=n at *;have f:((s.data[(1+(n:Int)).toNat]?.getD 0).toNat:Int)=yY s (1+n):=by
  unfold yY;congr 3
 rw [f];refine ⟨dL aD aD,λ_=>dL aD aD,λh=>by omega,bC (λh=>?_) (λh=>?_)⟩
 .simp at h;simp [go_sem,seval,h]
 .simp at h;simp [go_sem,seval,h];refine bC (λh6=>?_) (λh6=>?_)
  .simp at h6;simp [go_sem,seval,(aD:60<n)]
  .simp at h6;simp [go_sem,seval,(aD:¬ 60<n)];exact dL aD aD
def Lg:List ByteArray:=[⟨#[45,62]⟩,⟨#[60,61]⟩,⟨#[62,61]⟩,⟨#[61,61]⟩,⟨#[33,61]⟩]
theorem QB (s:ByteArray):Pua 336 [.str s] (.bool (decide ((2:Int)<=s.size)&&mem Lg (s.extract 0 2))):=by
 refine aU (Tz.c0 func336 rfl ?_);simp [go_sem,seval];refine aK (r:=.bool (mem Lg (s.extract 0 2))) (λ_=>DI Lg (s.extract 0 2)) (λ_=>rfl) ?_;simp [go_sem,seval]
def Sa:ByteArray:=⟨#[123,125,40,41,91,93,44,59,58,61,43,45,42,60,62,33,38,124,46,63]⟩
def M4 (s:ByteArray)(c:Int):Int:=firstIdx s c.toNat.toUInt8
theorem P6 (s:ByteArray)(c:Int)(w:World):(callFunc 381 #[.string s,.int .u8 c]).run prog w=.ok (.value (.int .i64 (firstIdx s c.toNat.toUInt8))) w:=by
 rw [run_callFunc_extern func381 (by kernel_rfl) (by kernel_rfl) (by kernel_rfl) (e:=Extern.BytealgIndexByte.indexByte) (by kernel_rfl),run_indexByte_string];rfl
set_option maxHeartbeats 400000 in
open RowKit in
theorem CD (s:ByteArray)(c:Int)(w:World) :
  Calls prog 367 #[.string s,.int .u8 c] w λe w'=>e=.returned (.int .i64 (firstIdx s c.toNat.toUInt8))/\w'=w:=by
 have h:=P6 s c
 go_wp2
 go_ret;simp_all
theorem zN (s:ByteArray)(c:Int):Pua 367 [.str s,.int .u8 c] (dI (M4 s c)):=by
 refine ⟨⟨Tryz.f367,func367,rfl,rfl⟩,λM w vals hM ha=>?_⟩;have g:vals=[.string s,.int .u8 c]:=by
  obtain ⟨h,f⟩:=ha;match vals,h with
  | [a,b],_ =>
   have j:=f 0 a _ rfl rfl;have d:=f 1 b _ rfl rfl;cases j
   cases d
   rfl
 subst g;exact (CD s c w).mono λe w' ⟨d,i⟩=>⟨_,d,.int _ _,by subst i;exact ⟨rfl,rfl,rfl,aZ _,λ_ _=>rfl⟩⟩
theorem CE (s:ByteArray)(c:Int):Pua 337 [.str s,.int .u8 c] (dI (M4 s c)):=by
 refine aU (Tz.c0 func337 rfl ?_);simp [go_sem,seval];refine aB (zN s c) rfl ?_;simp [go_sem,seval,dI]
def sV (s:ByteArray):Int × Int × Int :=
 if jC (yY s 0)=true then (if 20<gQ p7 s then (0,0,3) else (1,gQ p7 s,0))
 else if kK (yY s 0)=true then (if 9<gQ kK s then (0,0,3) else (2,gQ kK s,0))
 else if yY s 0=34 then (3,(yK s).1,(yK s).2)
 else if (decide ((2:Int)<=s.size)&&mem Lg (s.extract 0 2))=true then (4,2,0)
 else if 0<=M4 Sa (yY s 0) then (4,1,0) else (0,0,2)
theorem QC (s:ByteArray)(l:1<=s.size)(k:s.size<=100000):Pua 292 [.str s] (.tup [dI (sV s).1,dI (sV s).2.1,dI (sV s).2.2]):=by
 refine aU (Tz.c0 func292 rfl ?_);simp [go_sem,seval];have j:((s.data[0]?.getD 0).toNat:Int)=yY s 0:=rfl;simp only [j];refine ⟨aD,aB (CB _) rfl ?_⟩;simp [go_sem,seval];refine bC (λhl=>?_) (λhl=>?_)
 .simp [go_sem,seval];refine aB (Eb s _ _ aD (λc _ _=>QA c)) rfl ?_;simp [go_sem,seval,dI];refine bC (λh=>?_) (λh=>?_)
  .simp at h;simp [go_sem,seval,sV,hl,(aD:20<gQ p7 s)]
  .simp at h;simp [go_sem,seval,sV,hl,(aD:¬ 20<gQ p7 s)]
 .simp [go_sem,seval];refine aB (z6 _) rfl ?_;simp [go_sem,seval];refine bC (λhd=>?_) (λhd=>?_)
  .simp [go_sem,seval];refine aB (Eb s _ _ aD (λc _ _=>z6 c)) rfl ?_;simp [go_sem,seval,dI];refine bC (λh=>?_) (λh=>?_)
   .simp at h;simp [go_sem,seval,sV,hl,hd,(aD:9<gQ kK s)]
   .simp at h;simp [go_sem,seval,sV,hl,hd,(aD:¬ 9<gQ kK s)]
  .simp [go_sem,seval];refine bC (λhq=>?_) (λhq=>?_)
   .simp at hq;simp [go_sem,seval];refine aB (Mc s l k) rfl ?_;have e:sV s=(3,(yK s).1,(yK s).2):=by unfold sV;rw [if_neg (by simp [hl]),if_neg (by simp [hd]),if_pos hq]
    simp [go_sem,seval,dI,e]
   .simp at hq;simp [go_sem,seval];refine aB (QB s) rfl ?_;simp [go_sem,seval];refine bC (λhp=>?_) (λhp=>?_)
    .simp [go_sem,seval,sV,hl,hd,hq,hp,dI]
    .simp [go_sem,seval];refine aB (CE Sa _) rfl ?_;simp [go_sem,seval,dI];refine f9 (λhi=>?_) (λhi=>?_)
     .simp [go_sem,seval,sV,hl,hd,hq,hp,hi]
     .simp [go_sem,seval,sV,hl,hd,hq,hp,hi]
def lD (s:ByteArray):Bool:=decide (s.size≠0)&&jC (yY s 0)&&decide (gQ p7 s<=20)&&decide (gQ p7 s=s.size)
theorem rM (s:ByteArray):s=⟨#[]⟩↔s.size=0:=by
 constructor
 .intro h;subst h;rfl
 .intro h;cases s with
  | mk d=>congr 1;exact Array.size_eq_zero_iff.1 h
theorem T6 (s:ByteArray)(hz:¬ s.size=0):(decide ((sV s).2.2=0)&&decide ((sV s).1=1)&&(sV s).2.1==(s.size:Int))=lD s:=by
 unfold sV lD;grind
theorem NY (s:ByteArray)(c:s.size<=100000):∃ s',Pua 222 [.agg [dI 1,.str s,dI 0]] (.tup [.str s',.bool (lD s)]):=by
 by_cases b:s.size=0
 .refine ⟨⟨#[]⟩,aU (Tz.c0 func222 rfl ?_)⟩;simp [go_sem,seval,dI];refine bC (λh=>?_) (λh=>?_)
  .simp [go_sem,seval,lD,b]
  .simp [rM,b] at h
 .refine ⟨s,aU (Tz.c0 func222 rfl ?_)⟩;simp [go_sem,seval,dI];refine bC (λh=>?_) (λh=>?_)
  .simp [rM,b] at h
  .simp [go_sem,seval];refine aB (QC s aD c) rfl ?_;simp [go_sem,seval,dI];exact T6 s b
theorem pM (s:ByteArray)(b:s.size<=100000):Pua 149 [.str s] (.bool (lD s)):=by
 obtain ⟨c,a⟩:=NY s b;refine aU (Tz.c0 func149 rfl ?_);simp [go_sem,seval];refine aB a rfl ?_;simp [go_sem,seval]
end Go.Abs
end
section
set_option maxRecDepth 100000
set_option maxHeartbeats 4000000
open Go Go.Proofs Tryz
namespace Go.Abs
def ED {α:Type}(xs:List α)(p:α->Bool):Int:=match xs.findIdx? p with|some i=>i|none=>-1
theorem q6 {α:Type}{xs:List α}{p:α->Bool}{i:Nat}(h:∀ j x,j<i->xs[j]?=some x->p x=false)(c:i<xs.length)(a:p xs[i]=true):ED xs p=i:=by
 have:xs.findIdx? p=some i:=by
  rw [i9];exact ⟨c,a,λj b=>by simp [h j _ b (aA aD)]⟩
 simp [ED,this]
theorem q7 {α:Type}{xs:List α}{p:α->Bool}(h:∀ j x,j<xs.length->xs[j]?=some x->p x=false):ED xs p = -1:=by
 have:xs.findIdx? p=none:=by
  rw [tM];intro x a;obtain ⟨j,b,rfl⟩:=aQ a;simp_all
 simp [ED,this]
theorem uA {α:Type}(xs:List α)(p:α->Bool):decide (0<=ED xs p)=xs.any p:=by
 unfold ED;grind
theorem IH (xs:List Attr)(g:FuncId)(b:UN)(p:Attr->Bool)(u:D.L b=true)(t:∀ x∈xs,Pure prog g (.agg x.c :: b) (.bool (p x))) :
  Pua 328 [.list (xs.map Attr.c),.fn g b] (dI (ED xs p)):=by
 refine aU (Tz.c0 func328 rfl ?_);simp [go_sem,seval,dI];intro m;refine fT (ι:=Nat) (λi e H=>H=.an/\i<=xs.length/\e 0=.list (xs.map Attr.c)/\e 1=.fn g b/\e 7=dI xs.length/\e 8=dI i/\(∀ j x,j<i->xs[j]?=some x->p x=false)) (λi=>xs.length - i) 0 (by simp [go_sem,seval,dI]) ?_;intro i e H ⟨v,y,q,o,n,k,l⟩;subst v;simp [go_sem,seval,n,k,dI];refine f9 (λd=>?_) (λs=>?_)
 .have hgx:=t xs[i] (aC d);simp [go_sem,seval,q,o,k,dI,d,Attr.c] at hgx ⊢;refine aB hgx (by simp [go_sem,u]) ?_;simp [go_sem,seval];refine bC (λh=>?_) (λh=>?_)
  .simp [go_sem,seval];rw [q6 l d h]
  .simp [go_sem,seval,q,o,n,k,dI];refine ⟨dL aD aD,i+1,aD,aD,aD,λj x r w=>?_⟩;grind
 .simp [go_sem,seval];rw [q7 λj x r=>l j x aD]
theorem DM (xs:List Attr)(g:FuncId)(a:UN)(p:Attr->Bool)(d:D.L a=true)(e:D.P (.list (xs.map Attr.c))=true)(f:∀ x∈xs,Pure prog g (.agg x.c :: a) (.bool (p x))) :
  Pua 281 [.list (xs.map Attr.c),.fn g a] (.bool (xs.any p)):=by
 refine aU (Tz.c0 func281 rfl ?_);simp [go_sem,seval];refine aB (IH xs g a p d f) (by simp only [D.L,e,gW];simp [D.P,d]) ?_;simp [go_sem,seval,dI,uA]
theorem uH (l:List Attr):D.O (l.map Attr.c)=true:=dN _ Attr.P l
def n5 (l:List ByteArray):List ByteArray->Int
 | []=>0
 | s :: r=>if lD s=false then 2 else if mem l s=true then 5 else n5 (l++[s]) r
def oN (l:List ByteArray):Int:=if 20<l.length then 3 else n5 [] l
theorem NR (l:List ByteArray)(v:∀ s∈l,s.size<=100000):Pua 283 [sK l] (dI (oN l)):=by
 refine aU (Tz.c0 func283 rfl ?_);simp [go_sem,seval,dI,sK];intro q;refine bC (λh=>?_) (λh=>?_)
 .simp at h;simp [go_sem,seval,oN,(aD:20<l.length)]
 .simp at h;simp [go_sem,seval,oN,(aD:¬ 20<l.length)];intro o;refine fT (ι:=Nat) (λi e H=>H=.an/\i<=l.length/\e 0=sK l/\e 8=sK l/\e 9=dI l.length/\e 10=dI i/\n5 (l.take i) (l.drop i)=n5 [] l) (λi=>l.length - i) 0 (by simp [go_sem,seval,dI,sK]) ?_;intro i e H ⟨y,w,u,t,r,c,j⟩;subst y;simp [go_sem,seval,r,c,dI,sK];refine f9 (λb=>?_) (λx=>?_)
  .rw [iB b] at j;have m:=v _ (aC b);simp [go_sem,seval,t,c,dI,sK,b,cS];refine aB (pM _ m) rfl ?_;simp [go_sem,seval];refine bC (λf=>?_) (λf=>?_)
   .simp at f;simp [go_sem,seval];rw [<- j];simp [n5,f]
   .simp at f;simp [go_sem,seval,u,sK];have k:=DI (l.take i) l[i];simp only [sK,List.map_take] at k;have p:D.O (List.take i (List.map cS l))=true:=by rw [<- List.map_take];exact dN cS (λ_=>rfl) _
    refine ⟨⟨w,by cases l<;>simp [cS]⟩,aB k (by simp [D.L,D.P,p]) ?_⟩;simp [go_sem,seval];refine bC (λn=>?_) (λn=>?_)
    .simp [go_sem,seval];rw [<- j];simp [n5,f,n]
    .simp [go_sem,seval,u,t,r,c,dI,sK];refine ⟨dL aD aD,i+1,aD,aD,aD,?_⟩;rw [<- j,n5,if_neg (by simp [f]),if_neg (by simp [n]),aE b]
  .simp [go_sem,seval];rw [<- j,(aD:i=l.length)];simp [n5]
theorem D9 (x y:Attr):Pua 282 [.agg y.c,.adr x.c] (.bool (decide (y.name=x.name))):=by
 refine aU (Tz.c0 func282 rfl ?_);simp [go_sem,seval,Attr.c,dI,sK]
structure Attr.ok (x:Attr):Prop where
 name:x.name.size<=100000
 ad:∀ s∈x.ad,s.size<=100000
 bg:x.ad.length<=1000
def dQ (x:Attr)(before:List Attr):Int :=
 if lD x.name=false then 2
 else if (before.any λy=>decide (y.name=x.name))=true then 5
 else if oN x.ad≠0 then oN x.ad
 else if (if 0<x.ad.length then decide (x.aw=0)&&decide (x.ax=x.ad.length - 1) else decide (-1000000<=x.aw)&&decide (x.aw<=x.ax)&&decide (x.ax<=1000000))=true then 0 else 6
theorem Gb (x:Attr)(b:List Attr)(l:x.ok):Pua 204 [.agg x.c,.list (b.map Attr.c)] (dI (dQ x b)):=by
 refine aU (Tz.c0 func204 rfl ?_);simp [go_sem,seval,dI,sK,Attr.c];refine aB (pM _ l.name) rfl ?_;simp [go_sem,seval];refine bC (λd=>?_) (λd=>?_)
 .simp at d;simp [go_sem,seval,dQ,d]
 .simp at d;simp [go_sem,seval];have p:=DM b 282 [.adr x.c] (λy=>decide (y.name=x.name)) (by simp [D.L,D.P,Attr.P]) (by simp [D.P,uH]) (λy _=>D9 x y);simp only [Attr.c,dI,sK] at p;have j:D.O (List.map cS x.ad)=true:=dN cS (λ_=>rfl) _;refine aB p (by simp [D.L,D.P,uH,j]) ?_;simp [go_sem,seval];refine bC (λh=>?_) (λh=>?_)
  .simp [go_sem,seval,dQ,d,h]
  .simp [go_sem,seval];have i:=NR x.ad l.ad;simp only [sK,dI] at i;refine aB i (by simp [D.L,D.P,j]) ?_;simp [go_sem,seval];have o:=l.bg;refine bC (λf=>?_) (λf=>?_)
   .simp at f;simp [go_sem,seval,dQ,d,h,f]
   .simp at f;simp [go_sem,seval];intro n;refine bC (λk=>?_) (λk=>?_)
    .have hp':0<x.ad.length:=by simp at k;omega
     simp [go_sem,seval];refine λ_=>⟨λ_=>dL aD aD,bC (λg=>?_) (λg=>?_)⟩
     .have e:dQ x b=6:=by unfold dQ;rw [if_neg (by simp [d]),if_neg (by simp [h]),if_neg (by simp [f]),if_pos hp',if_neg (by simp at g ⊢;omega)]
      simp [go_sem,seval,e]
     .have e:dQ x b=0:=by unfold dQ;rw [if_neg (by simp [d]),if_neg (by simp [h]),if_neg (by simp [f]),if_pos hp',if_pos (by simp at g ⊢;omega)]
      simp [go_sem,seval,e]
    .have hp':¬ 0<x.ad.length:=by simp at k;simp [k]
     simp [go_sem,seval];refine bC (λg=>?_) (λg=>?_)
     .have e:dQ x b=6:=by unfold dQ;rw [if_neg (by simp [d]),if_neg (by simp [h]),if_neg (by simp [f]),if_neg hp',if_neg (by simp at g ⊢;omega)]
      simp [go_sem,seval,e]
     .have e:dQ x b=0:=by unfold dQ;rw [if_neg (by simp [d]),if_neg (by simp [h]),if_neg (by simp [f]),if_neg hp',if_pos (by simp at g ⊢;omega)]
      simp [go_sem,seval,e]
structure NodeTy.ok (n:NodeTy):Prop where
 name:n.name.size<=100000
 r:∀ x∈n.r,x.ok
 bg:n.r.length<=1000
structure EdgeTy.ok (x:EdgeTy):Prop where
 name:x.name.size<=100000
structure Types.ok (t:Types):Prop where
 h:∀ n∈t.h,n.ok
 i:∀ x∈t.i,x.ok
 aT:t.h.length<=1000
 bI:t.i.length<=1000
def jT (nodes:List NodeTy):Nat->Nat->List Attr
 | 0,_=>[]
 | f+1,a=>match nodes[a]? with
  | none=>[]
  | some n=>(if 0<=n.D then jT nodes f n.D.toNat else [])++n.r
def Types.r (t:Types)(a:Nat):List Attr:=jT t.h (a+1) a
theorem uI (nodes:List NodeTy)(h:∀ n∈nodes,n.r.length<=1000):∀ f a,(jT nodes f a).length<=1000 * f
 | 0,a=>by simp [jT]
 | f+1,a=>by
  unfold jT;split
  .simp
  .rename_i n hn;have:=h n (aL hn);have h2:=uI nodes h f n.D.toNat
   simp only [aH];split<;>simp<;>omega
@[go_sem] theorem Attr.len (a:Attr):a.c.length=4:=rfl
theorem Attr.cells (a:Attr):∀ x∈a.c,x.cell=true:=by simp [Attr.c,D.cell,dI,sK]
def parentsOK (nodes:List NodeTy)(a:Nat):Prop:=∀ j n,j<=a->nodes[j]?=some n->n.D<j
theorem FX (b:List NodeTy):∀ a f g,parentsOK b a->a<f->a<g->jT b f a=jT b g a:=by
 intro a;induction a using Nat.strongRecOn with
 | _ a ih =>
  intro f g d l k;obtain ⟨f,rfl⟩:∃ f',f=f'+1:=⟨f - 1,aD⟩;obtain ⟨g,rfl⟩:∃ g',g=g'+1:=⟨g - 1,aD⟩;unfold jT;split
  .rfl
  .rename_i n hn;have:=d a n (aZ _) hn;congr 1;split
   .exact ih n.D.toNat aD f g (λj m i e=>d j m aD e) aD aD
   .rfl
theorem Fg (t:Types)(l:t.ok):∀ a,a<t.h.length->parentsOK t.h a->Own prog 145 [t.d,dI a] 127 4 ((t.r a).map Attr.c):=by
 intro a;induction a using Nat.strongRecOn with
 | _ a ih =>
  intro g q;have A:=q a _ (aZ _) (aA g);have v:=uI t.h (λn r=>(l.h n r).bg) (a+1) a;have w:=l.aT;have B:=(l.h _ (aC g)).bg;refine C7 (Tz.cK ⟨λt=>t==5,λ_=>[]⟩ func145 rfl ?_);simp [go_sem,seval,dI,Types.d,Types.c,NodeTy.c,g];refine bC (λh=>?_) (λh=>?_)
  .have o:0<=t.h[a].D:=by simpa using h
   have k:t.h[a].D.toNat<a:=aD;have u:=ih _ k aD (λj m E s=>q j m aD s);rw [Int.toNat_of_nonneg o] at u;have e:t.r a=t.r t.h[a].D.toNat++t.h[a].r:=by
    have:=FX t.h t.h[a].D.toNat a (t.h[a].D.toNat+1) (λj m E s=>q j m aD s) k aD;simp [Types.r,jT,aA g,o,this]
   have f:=uI t.h (λn r=>(l.h n r).bg) (t.h[a].D.toNat+1) t.h[a].D.toNat
   have C:(t.r t.h[a].D.toNat).length<=2000000:=by
    have:(t.r t.h[a].D.toNat).length<=1000 * (t.h[a].D.toNat+1):=f;omega
   simp [go_sem,seval,dI,Types.d,Types.c] at u ⊢;refine lG u (by simp [D.L,D.P,dN _ NodeTy.P,dN _ EdgeTy.P]) ?_;simp [go_sem,seval,dI,NodeTy.c,g,e];exact ⟨⟨aD,λx _ y p=>Attr.cells x y p⟩,by rw [<- List.map_append];exact uH _⟩
  .have o:¬ 0<=t.h[a].D:=by simpa using h
   have e:t.r a=t.h[a].r:=by simp [Types.r,jT,aA g,o]
   simp [go_sem,seval,dI,NodeTy.c,g,e,uH];exact ⟨aD,λx _ y p=>Attr.cells x y p⟩
attribute [go_sem] uH
@[go_sem] theorem ac5 (l:List ByteArray):D.O (l.map cS)=true:=dN cS (λ_=>rfl) l
theorem IE (xs:List NodeTy)(g:FuncId)(b:UN)(p:NodeTy->Bool)(u:D.L b=true)(t:∀ x∈xs,Pure prog g (.agg x.c :: b) (.bool (p x))) :
  Pua 280 [.list (xs.map NodeTy.c),.fn g b] (dI (ED xs p)):=by
 refine aU (Tz.c0 func280 rfl ?_);simp [go_sem,seval,dI];intro m;refine fT (ι:=Nat) (λi e H=>H=.an/\i<=xs.length/\e 0=.list (xs.map NodeTy.c)/\e 1=.fn g b/\e 7=dI xs.length/\e 8=dI i/\(∀ j x,j<i->xs[j]?=some x->p x=false)) (λi=>xs.length - i) 0 (by simp [go_sem,seval,dI]) ?_;intro i e H ⟨v,y,q,o,n,k,l⟩;subst v;simp [go_sem,seval,n,k,dI];refine f9 (λd=>?_) (λs=>?_)
 .have hgx:=t xs[i] (aC d);simp [go_sem,seval,q,o,k,dI,d,NodeTy.c] at hgx ⊢;refine aB hgx (by simp [go_sem,u]) ?_;simp [go_sem,seval];refine bC (λh=>?_) (λh=>?_)
  .simp [go_sem,seval];rw [q6 l d h]
  .simp [go_sem,seval,q,o,n,k,dI];refine ⟨dL aD aD,i+1,aD,aD,aD,λj x r w=>?_⟩;grind
 .simp [go_sem,seval];rw [q7 λj x r=>l j x aD]
theorem DJ (xs:List NodeTy)(g:FuncId)(a:UN)(p:NodeTy->Bool)(d:D.L a=true)(e:D.P (.list (xs.map NodeTy.c))=true)(f:∀ x∈xs,Pure prog g (.agg x.c :: a) (.bool (p x))) :
  Pua 202 [.list (xs.map NodeTy.c),.fn g a] (.bool (xs.any p)):=by
 refine aU (Tz.c0 func202 rfl ?_);simp [go_sem,seval];refine aB (IE xs g a p d f) (by simp only [D.L,e,gW];simp [D.P,d]) ?_;simp [go_sem,seval,dI,uA]
theorem IF (xs:List EdgeTy)(g:FuncId)(b:UN)(p:EdgeTy->Bool)(u:D.L b=true)(t:∀ x∈xs,Pure prog g (.agg x.c :: b) (.bool (p x))) :
  Pua 284 [.list (xs.map EdgeTy.c),.fn g b] (dI (ED xs p)):=by
 refine aU (Tz.c0 func284 rfl ?_);simp [go_sem,seval,dI];intro m;refine fT (ι:=Nat) (λi e H=>H=.an/\i<=xs.length/\e 0=.list (xs.map EdgeTy.c)/\e 1=.fn g b/\e 7=dI xs.length/\e 8=dI i/\(∀ j x,j<i->xs[j]?=some x->p x=false)) (λi=>xs.length - i) 0 (by simp [go_sem,seval,dI]) ?_;intro i e H ⟨v,y,q,o,n,k,l⟩;subst v;simp [go_sem,seval,n,k,dI];refine f9 (λd=>?_) (λs=>?_)
 .have hgx:=t xs[i] (aC d);simp [go_sem,seval,q,o,k,dI,d,EdgeTy.c] at hgx ⊢;refine aB hgx (by simp [go_sem,u]) ?_;simp [go_sem,seval];refine bC (λh=>?_) (λh=>?_)
  .simp [go_sem,seval];rw [q6 l d h]
  .simp [go_sem,seval,q,o,n,k,dI];refine ⟨dL aD aD,i+1,aD,aD,aD,λj x r w=>?_⟩;grind
 .simp [go_sem,seval];rw [q7 λj x r=>l j x aD]
theorem DK (xs:List EdgeTy)(g:FuncId)(a:UN)(p:EdgeTy->Bool)(d:D.L a=true)(e:D.P (.list (xs.map EdgeTy.c))=true)(f:∀ x∈xs,Pure prog g (.agg x.c :: a) (.bool (p x))) :
  Pua 206 [.list (xs.map EdgeTy.c),.fn g a] (.bool (xs.any p)):=by
 refine aU (Tz.c0 func206 rfl ?_);simp [go_sem,seval];refine aB (IF xs g a p d f) (by simp only [D.L,e,gW];simp [D.P,d]) ?_;simp [go_sem,seval,dI,uA]
@[go_sem] theorem xB (l:List NodeTy):D.O (l.map NodeTy.c)=true:=dN _ NodeTy.P l
@[go_sem] theorem xL (l:List EdgeTy):D.O (l.map EdgeTy.c)=true:=dN _ EdgeTy.P l
theorem NQ (x y:NodeTy):Pua 203 [.agg y.c,.adr x.c] (.bool (decide (y.name=x.name))):=by
 refine aU (Tz.c0 func203 rfl ?_);simp [go_sem,seval,NodeTy.c,dI]
theorem xW (nodes:List NodeTy)(h:∀ n∈nodes,n.ok):∀ f a,∀ x∈jT nodes f a,x.ok
 | 0,a,x,hx=>by simp [jT] at hx
 | f+1,a,x,hx=>by
  unfold jT at hx;split at hx
  .simp at hx
  .rename_i n hn;rcases aX.1 hx with hx|hx
   .split at hx
    .exact xW nodes h f _ x hx
    .simp at hx
   .exact (h n (aL hn)).r x hx
def bU (f:Nat->Int):Nat->Nat->Int
 | _,0=>0
 | k,n+1=>if f k≠0 then f k else bU f (k+1) n
def iG (t:Types)(i:Nat):Int :=
 match t.h[i]? with
 | none=>0
 | some n =>
  if lD n.name=false then 2
  else if ((t.h.take i).any λm=>decide (m.name=n.name))=true then 5
  else if (decide (n.D < -1)||decide ((i:Int)<=n.D))=true then 6
  else if 4<n.r.length then 3
  else if 8<(t.r i).length then 3
  else bU (λk=>match (t.r i)[k]? with|some x=>dQ x ((t.r i).take k)|none=>0) ((t.r i).length - n.r.length) n.r.length
theorem Qx (t:Types)(A:t.ok)(i:Nat)(g:i<t.h.length)(Q:∀ j n,j<i->t.h[j]?=some n->n.D<j):Pua 142 [t.d,dI i] (dI (iG t i)):=by
 have F:=A.h _ (aC g);refine aU (Tz.cK ⟨λt=>t==5,λ_=>[]⟩ func142 rfl ?_);simp [go_sem,seval,dI,Types.d,Types.c,NodeTy.c,g];refine aB (pM _ F.name) rfl ?_;simp [go_sem,seval];refine bC (λm=>?_) (λm=>?_)
 .simp at m;simp [go_sem,seval,iG,aA g,m]
 .simp at m;simp [go_sem,seval];have U:=DJ (t.h.take i) 203 [.adr t.h[i].c] (λy=>decide (y.name=t.h[i].name)) (by simp [D.L,D.P,NodeTy.P]) (by rw [D.P];exact xB _) (λy _=>NQ t.h[i] y);refine ⟨⟨aD,by cases t.h<;>simp [NodeTy.c]⟩,vS U (by simp [J0,Gi,fP,go_sem,NodeTy.c,dI,List.map_take]) (by simp only [D.L,D.P,xB,NodeTy.P];rfl) rfl ?_⟩;simp [go_sem,seval];refine bC (λr=>?_) (λr=>?_)
  .simp [go_sem,seval,iG,aA g,m,r]
  .simp [go_sem,seval];refine bC (λB=>?_) (λB=>?_)
   .have f:(decide (t.h[i].D < -1)||decide ((i:Int)<=t.h[i].D))=true:=by simpa using B
    simp [go_sem,seval];have e:iG t i=6:=by simp only [iG,aA g];rw [if_neg (by simp [m]),if_neg (by simp [r]),if_pos f]
    simp [e]
   .simp at B;simp [go_sem,seval];have f:¬ (decide (t.h[i].D < -1)||decide ((i:Int)<=t.h[i].D))=true:=by simp;omega
    intro P;refine bC (λN=>?_) (λN=>?_)
    .have h4':4<t.h[i].r.length:=by simp at N;omega
     simp [go_sem,seval];have e:iG t i=3:=by simp only [iG,aA g];rw [if_neg (by simp [m]),if_neg (by simp [r]),if_neg f,if_pos h4']
     simp [e]
    .have h4':¬ 4<t.h[i].r.length:=by simp at N;omega
     simp [go_sem,seval];have C:parentsOK t.h i:=λj n W p=>by
      rcases cH j i with h|h
      .exact Q j n h p
      .have:j=i:=aD;subst this;rw [aA g] at p;cases p;omega
     have v:=Fg t A i g C;simp only [Types.d,Types.c,dI] at v;refine aB v.pure (by simp [D.L,D.P,xB,xL]) ?_;simp [go_sem,seval];intro I;refine bC (λK=>?_) (λK=>?_)
     .have h8':8<(t.r i).length:=by simp at K;omega
      simp [go_sem,seval];have e:iG t i=3:=by simp only [iG,aA g];rw [if_neg (by simp [m]),if_neg (by simp [r]),if_neg f,if_neg h4',if_pos h8']
      simp [e]
     .have h8':¬ 8<(t.r i).length:=by simp at K;omega
      have e:iG t i=bU (λk=>match (t.r i)[k]? with|some x=>dQ x ((t.r i).take k)|none=>0) ((t.r i).length - t.h[i].r.length) t.h[i].r.length:=by
       simp only [iG,aA g];rw [if_neg (by simp [m]),if_neg (by simp [r]),if_neg f,if_neg h4',if_neg h8']
      have R:t.h[i].r.length<=(t.r i).length:=by simp [Types.r,jT,aA g]
      have E:∀ x∈t.r i,x.ok:=xW t.h A.h _ _;simp [go_sem,seval];refine λ_ _=>⟨dL aD aD,?_⟩;refine fT (ι:=Nat) (λk e H=>k<=(t.r i).length/\e 6=.list ((t.r i).map Attr.c)/\e 7=dI k /\
       bU (λk=>match (t.r i)[k]? with|some x=>dQ x ((t.r i).take k)|none=>0) k ((t.r i).length - k)=iG t i) (λk=>(t.r i).length - k) ((t.r i).length - t.h[i].r.length) ?_ ?_
      .simp [go_sem,seval,dI];refine ⟨aD,?_⟩;rw [e];congr 1;omega
      .intro k e' H ⟨S,M,L,s⟩;simp [go_sem,seval,M,L,dI];intro G;refine f9 (λq=>?_) (λT=>?_)
       .simp [go_sem,seval,M,L,dI,q,Attr.c];have u:=Gb (t.r i)[k] ((t.r i).take k) (E _ (aC q));simp only [Attr.c,dI,List.map_take] at u;have J:D.O (List.take k (List.map Attr.c (t.r i)))=true:=by rw [<- List.map_take];exact uH _
        refine ⟨⟨S,by cases t.r i<;>simp [Attr.c]⟩,aI u (by simp [D.L,D.P,J,V9]) ?_⟩;have o:bU (λk=>match (t.r i)[k]? with|some x=>dQ x ((t.r i).take k)|none=>0) k ((t.r i).length - k) =
          if dQ (t.r i)[k] ((t.r i).take k)≠0 then dQ (t.r i)[k] ((t.r i).take k) else bU (λk=>match (t.r i)[k]? with|some x=>dQ x ((t.r i).take k)|none=>0) (k+1) ((t.r i).length - (k+1)):=by
         rw [(aD:(t.r i).length - k=(t.r i).length - (k+1)+1),bU,aA q]
        rw [o] at s;simp [go_sem,seval];refine bC (λz=>?_) (λz=>?_)
        .have hz':dQ (t.r i)[k] ((t.r i).take k)≠0:=by simpa using z
         rw [if_pos hz'] at s;simp [go_sem,seval,s]
        .have hz':¬ dQ (t.r i)[k] ((t.r i).take k)≠0:=by simpa using z
         rw [if_neg hz'] at s;simp [go_sem,seval,M,L,dI];exact ⟨dL aD aD,k+1,aD,aD,aD,s⟩
       .simp [go_sem,seval];rw [<- s,(aD:(t.r i).length - k=0)];rfl
def boundedF (low high:Int):Bool:=(decide (0<=low)&&decide (low<=40))&&(decide (high = -1)||(decide (low<=high)&&decide (high<=40)))
theorem JL (b a:Int):Pua 208 [dI b,dI a] (.bool (boundedF b a)):=by
 refine aU (Tz.c0 func208 rfl ?_);simp [go_sem,seval,dI,boundedF];try omega
theorem NT (t:Types)(a:Int):Pua 205 [dI a,.adr t.c] (.bool (decide (0<=a)&&decide (a<t.h.length))):=by
 refine aU (Tz.c0 func205 rfl ?_);simp [go_sem,seval,dI,Types.c]
theorem NS (x y:EdgeTy):Pua 207 [.agg y.c,.adr x.c] (.bool (decide (y.name=x.name))):=by
 refine aU (Tz.c0 func207 rfl ?_);simp [go_sem,seval,EdgeTy.c,dI]
def insideF (t:Types)(a:Int):Bool:=decide (0<=a)&&decide (a<t.h.length)
def j8 (t:Types)(i:Nat):Int :=
 match t.i[i]? with
 | none=>0
 | some x =>
  if lD x.name=false then 2
  else if ((t.i.take i).any λy=>decide (y.name=x.name))=true then 5
  else if (insideF t x.w&&insideF t x.M&&boundedF x.bx x.bi&&boundedF x.bW x.bz)=true then 0 else 6
theorem Qz (t:Types)(v:t.ok)(i:Nat)(k:i<t.i.length):Pua 143 [t.d,dI i] (dI (j8 t i)):=by
 have s:=v.i _ (aC k);have m:D.O (List.map NodeTy.c t.h)=true:=xB _;have n:D.O (List.map EdgeTy.c t.i)=true:=xL _;have l:∀ a:Int,Pua 205 [.int .i64 a,.adr [.list (t.h.map NodeTy.c),.list (t.i.map EdgeTy.c)]] (.bool (insideF t a)):=NT t;have o:∀ a b:Int,Pua 208 [.int .i64 a,.int .i64 b] (.bool (boundedF a b)):=JL;refine aU (Tz.cK ⟨λt=>t==5,λ_=>[]⟩ func143 rfl ?_);simp [go_sem,seval,dI,Types.d,Types.c,EdgeTy.c,k];refine aB (pM _ s.name) rfl ?_;simp [go_sem,seval];refine bC (λj=>?_) (λj=>?_)
 .simp at j;simp [go_sem,seval,j8,aA k,j]
 .simp at j;simp [go_sem,seval];have w:=DK (t.i.take i) 207 [.adr t.i[i].c] (λy=>decide (y.name=t.i[i].name)) (by simp [D.L,D.P,EdgeTy.P]) (by rw [D.P];exact xL _) (λy _=>NS t.i[i] y);refine ⟨⟨aD,by cases t.i<;>simp [EdgeTy.c]⟩,vS w (by simp [J0,Gi,fP,go_sem,EdgeTy.c,dI,List.map_take]) (by simp only [D.L,D.P,xL,EdgeTy.P];rfl) rfl ?_⟩;simp [go_sem,seval];refine bC (λp=>?_) (λp=>?_)
  .simp [go_sem,seval,j8,aA k,j,p]
  .simp [go_sem,seval];refine aB (l _) (by simp [D.L,D.P,m,n]) ?_;simp [go_sem,seval];refine aK (λ_=>l _) (λ_=>by simp [D.L,D.P,m,n]) ?_;simp [go_sem,seval];refine bC (λq=>?_) (λq=>?_)
   .have e:j8 t i=6:=by
     simp only [j8,aA k];rw [if_neg (by simp [j]),if_neg (by simp [p]),if_neg (by intro h;simp at h;simp [h] at q)]
    simp [go_sem,seval];refine bC (λ_=>?_) (λh=>?_)
    .simp [go_sem,seval,e]
    .rw [q] at h;cases h
   .simp [go_sem,seval];refine aB (o _ _) rfl ?_;simp [go_sem,seval];refine aK (λ_=>o _ _) (λ_=>rfl) ?_;simp [go_sem,seval];refine bC (λr=>?_) (λr=>?_)
    .have e:j8 t i=6:=by
      simp only [j8,aA k];rw [if_neg (by simp [j]),if_neg (by simp [p]),if_neg (by intro h;simp at h;simp [h] at r)]
     simp [go_sem,seval,e]
    .have e:j8 t i=0:=by
      simp only [j8,aA k];rw [if_neg (by simp [j]),if_neg (by simp [p]),if_pos (by simp at q r ⊢;simp [q,r])]
     simp [go_sem,seval,e]
theorem yO (t:Types)(j:Nat)(n:NodeTy)(h:iG t j=0)(a:t.h[j]?=some n):n.D<j:=by
 simp only [iG,a] at h;grind
def eY (f:Nat->Int)(nm:Nat->ByteArray)(last:ByteArray × Int):Nat->Nat->ByteArray × Int
 | _,0=>last
 | k,n+1=>if f k≠0 then (nm k,f k) else eY f nm last (k+1) n
def Types.as (t:Types)(i:Nat):ByteArray:=match t.h[i]? with|some n=>n.name|none=>⟨#[]⟩
def Types.ae (t:Types)(i:Nat):ByteArray:=match t.i[i]? with|some n=>n.name|none=>⟨#[]⟩
def cW (t:Types):ByteArray × Int :=
 if t.h.length=0 then (⟨#[]⟩,7)
 else if 12<t.h.length\/20<t.i.length then (⟨#[]⟩,3)
 else eY (iG t) t.as (eY (j8 t) t.ae (⟨#[]⟩,0) 0 t.i.length) 0 t.h.length
theorem mX (t:Types)(z:t.ok):Pua 92 [t.d] (.tup [.str (cW t).1,dI (cW t).2]):=by
 refine aU (Tz.cK ⟨λt=>t==5||t==8,λ_=>[]⟩ func92 rfl ?_);simp [go_sem,seval,dI,Types.d,Types.c];intro A;refine bC (λq=>?_) (λq=>?_)
 .simp at q;simp [go_sem,seval,cW,q]
 .simp at q;simp [go_sem,seval];intro _ _;refine bC (λx=>?_) (λx=>?_)
  .have hb':12<t.h.length\/20<t.i.length:=by simp at x;omega
   simp [go_sem,seval,cW,q,hb']
  .have hb':¬ (12<t.h.length\/20<t.i.length):=by simp at x;omega
   have e:cW t=eY (iG t) t.as (eY (j8 t) t.ae (⟨#[]⟩,0) 0 t.i.length) 0 t.h.length:=by simp [cW,q,hb']
   simp [go_sem,seval];intro _;refine fT (ι:=Nat) (λi e H=>i<=t.h.length/\e 1=.adr t.c/\e 27=.list (t.h.map NodeTy.c)/\e 28=dI t.h.length/\e 29=dI i/\(∀ j,j<i->iG t j=0) /\
    eY (iG t) t.as (eY (j8 t) t.ae (⟨#[]⟩,0) 0 t.i.length) i (t.h.length - i)=cW t) (λi=>t.h.length - i) 0 (by simp [go_sem,seval,dI,Types.c,e]) ?_
   intro i G H ⟨F,p,v,u,o,y,b⟩;simp [go_sem,seval,u,o,dI,Types.c];refine f9 (λg=>?_) (λw=>?_)
   .simp [go_sem,seval,p,v,o,dI,Types.c,NodeTy.c,g];have k:=Qx t z i g (λj n B E=>yO t j n (y j B) E);simp only [Types.d,Types.c,dI] at k;have f:eY (iG t) t.as (eY (j8 t) t.ae (⟨#[]⟩,0) 0 t.i.length) i (t.h.length - i) =
      if iG t i≠0 then (t.as i,iG t i) else eY (iG t) t.as (eY (j8 t) t.ae (⟨#[]⟩,0) 0 t.i.length) (i+1) (t.h.length - (i+1)):=by
     rw [(aD:t.h.length - i=t.h.length - (i+1)+1),eY]
    rw [f] at b;refine aB k (by simp [D.L,D.P,xB,xL]) ?_;simp [go_sem,seval];refine bC (λl=>?_) (λl=>?_)
    .have hc':iG t i≠0:=by simpa using l
     rw [if_pos hc'] at b;simp [go_sem,seval,<- b,Types.as,aA g]
    .have hc':¬ iG t i≠0:=by simpa using l
     rw [if_neg hc'] at b;simp [go_sem,seval,p,v,u,o,dI,Types.c];refine ⟨dL aD aD,i+1,aD,aD,aD,λj B=>?_,b⟩;rcases cH j i with hj'|hj'
     .exact y j hj'
     .have:j=i:=aD;subst this;simpa using hc'
   .simp [go_sem,seval,p,Types.c];intro _;rw [(aD:t.h.length - i=0)] at b;simp only [eY] at b;refine fT (ι:=Nat) (λi e H=>i<=t.i.length/\e 1=.adr t.c/\e 44=.list (t.i.map EdgeTy.c)/\e 45=dI t.i.length/\e 46=dI i /\
     eY (j8 t) t.ae (⟨#[]⟩,0) i (t.i.length - i)=cW t) (λi=>t.i.length - i) 0 (by simp [go_sem,seval,p,dI,Types.c,b]) ?_
    intro i G H ⟨F,p,s,r,m,b⟩;simp [go_sem,seval,r,m,dI,Types.c];refine f9 (λg=>?_) (λw=>?_)
    .simp [go_sem,seval,p,s,m,dI,Types.c,EdgeTy.c,g];have k:=Qz t z i g;simp only [Types.d,Types.c,dI] at k;have f:eY (j8 t) t.ae (⟨#[]⟩,0) i (t.i.length - i) =
       if j8 t i≠0 then (t.ae i,j8 t i) else eY (j8 t) t.ae (⟨#[]⟩,0) (i+1) (t.i.length - (i+1)):=by
      rw [(aD:t.i.length - i=t.i.length - (i+1)+1),eY]
     rw [f] at b;refine aB k (by simp [D.L,D.P,xB,xL]) ?_;simp [go_sem,seval];refine bC (λl=>?_) (λl=>?_)
     .have hc':j8 t i≠0:=by simpa using l
      rw [if_pos hc'] at b;simp [go_sem,seval,<- b,Types.ae,aA g]
     .have hc':¬ j8 t i≠0:=by simpa using l
      rw [if_neg hc'] at b;simp [go_sem,seval,p,s,r,m,dI,Types.c];exact ⟨dL aD aD,i+1,aD,aD,aD,b⟩
    .rw [(aD:t.i.length - i=0)] at b;simp only [eY] at b;simp [go_sem,seval,<- b]
end Go.Abs
end
