/- Hosts of the program: node, Valid. · Values of the program:  -/
import Derived.Test.YthalajhajpjjeaaGreatZhF
import Derived.Test.YthalajhajpjjeaaGreatZhP
import Derived.Test.YthalajhajpjjeaaGreatZhA
import Derived.Laws.Externs
set_option linter.unusedVariables false
set_option linter.unusedSimpArgs false
section
set_option maxRecDepth 100000
set_option maxHeartbeats 4000000
open Go Go.Proofs
namespace Go.Abs
theorem RM (t:Types)(q:t.ok)(a:Int)(y:0<=a)(vs:List Int):Pure Tryz.prog 228 [t.d,dI a,dLI vs] (dI (jR t a vs)):=by
 refine Tz.pK ⟨λt=>t==10,λ_=>[]⟩ Tryz.func228 rfl (λQ i=>?_)
 have Y:=trivial
 refine wv (h:=?_)
 repeat first|intro _|refine ⟨gL,?_⟩
 refine wq (λw=>?_) λw=>?_
 .have hE:jR t a vs=6:=by unfold jR;rw [if_pos aD]
  exact wv (h:=i _ _ (by simp [go_sem,hE]))
 .have hkn:a.toNat<t.nodes.length:=aD
  have u:k7 t a.toNat=t.nodes[a.toNat].abs:=by simp [k7,aA hkn]
  have b:jR t a vs=if k7 t a.toNat=true then 13 else if vs.length≠(bM t a).length then 20 else bT (H5 (bM t a) vs) 0 (bM t a).length:=by unfold jR;rw [if_neg aD]
  rw [u] at b
  have Y:=wa Y (wa (aA hkn) @NodeTy.c.eq_1)
  refine wv (h:=?_)
  repeat first|intro _|refine ⟨gL,?_⟩
  refine wq (λn=>?_) λn=>?_
  .rw [if_pos (bS n)] at b
   exact wv (h:=i _ _ (by simp [go_sem,b]))
  .rw [if_neg (bS n)] at b
   refine wv (h:=aB (pS t q a) wl ?_)
   refine wv (h:=?_)
   repeat first|intro _|refine ⟨gL,?_⟩
   refine wq (λv=>?_) λv=>?_
   .rw [if_pos aD] at b
    exact wv (h:=i _ _ (by simp [go_sem,b]))
   .rw [if_neg aD] at b
    have r:vs.length=(bM t a).length:=aD
    refine wo (h:=bV (λk e H=>(e 3=.adr t.c/\e 2=dLI vs/\e 33=.list ((bM t a).map Attr.c)/\e 34=dI (bM t a).length/\e 35=dI k)/\(k<=(bM t a).length)/\(bT (H5 (bM t a) vs) k ((bM t a).length - k)=jR t a vs)) (λk=>(bM t a).length - k) 0 ⟨wg,wi,(by exact b.symm)⟩ λz m k e H l=>?_)
    obtain ⟨x,s,p⟩:=l
    have Y:=wa Y x
    refine d7 (λj=>?_) λj=>?_
    .have hv:k<vs.length:=aD
     have f:=gF (H5 (bM t a) vs) j
     rw [p] at f
     have g:H5 (bM t a) vs k=if vs[k]<(bM t a)[k].low\/(bM t a)[k].high<vs[k] then 6 else 0:=by simp only [H5,aA hv,aA j,Option.getD_some]
     have Y:=wa Y (wa j (wa (aA hv) (wa (aA j) @Attr.c.eq_1)))
     refine wv (h:=?_)
     repeat first|intro _|refine ⟨gL,?_⟩
     refine wq (λo=>?_) λo=>?_
     .rw [if_pos aD] at g
      rw [g,if_pos aD] at f
      exact wv (h:=i _ _ (by simp [go_sem,f]))
     .rw [if_neg aD] at g
      rw [g,if_neg aD] at f
      exact wo (h:=wx m (k+1) ⟨wg,wj,(by exact f.symm)⟩)
    .have hZ:jR t a vs=0:=by rw [<- p,(aD:(bM t a).length - k=0)];rfl
     exact wv (h:=i _ _ (by simp [go_sem,hZ]))
theorem wB (t:Types)(w:t.ok)(h:Host):Pure Tryz.prog 137 [t.d,h.d] (.tup [dI (yT t h).1,dI (yT t h).2]):=by
 refine Tz.pK ⟨λt=>t==13,λ_=>[]⟩ Tryz.func137 rfl (λQ l=>?_)
 have Y:=wa @Host.d.eq_1 @Host.c.eq_1
 refine wv (h:=aB (nC t w) wl ?_)
 refine d7 (λD=>?_) λD=>?_
 .have hE:yT t h=(-1,(cH t).2):=by unfold yT;rw [if_pos (bS D)]
  exact wv (h:=l _ _ (by simp [go_sem,hE]))
 .have hE0:yT t h=if graphF h.graph≠0 then (-1,graphF h.graph) else if h.values.length≠h.graph.nodes.length then (-1,20) else if (kH (Pf t h) 0 h.graph.nodes.length).2≠0 then kH (Pf t h) 0 h.graph.nodes.length else kH (Vs t h) 0 h.graph.edges.length:=by unfold yT;rw [if_neg (bS D)]
  refine wv (h:=aB (l7 h.graph) wl ?_)
  refine d7 (λs=>?_) λs=>?_
  .rw [if_pos (bS s)] at hE0
   exact wv (h:=l _ _ (by simp [go_sem,hE0]))
  .rw [if_neg (bS s)] at hE0
   have q:graphF h.graph=0:=by simpa using s
   have p:=dF q
   have I:=cJ q
   refine f9 (λJ=>?_) λJ=>?_
   .rw [if_pos aD] at hE0
    exact wv (h:=l _ _ (by simp [go_sem,hE0]))
   .rw [if_neg aD] at hE0
    refine wo (h:=bV (λi e H=>(e 2=.adr t.c/\e 3=.adr h.c/\e 38=dLI h.graph.nodes/\e 39=dI h.graph.nodes.length/\e 40=dI i)/\(i<=h.graph.nodes.length)/\(kH (Pf t h) i (h.graph.nodes.length - i)=kH (Pf t h) 0 h.graph.nodes.length)) (λi=>h.graph.nodes.length - i) 0 ⟨wg,wi,(by rfl)⟩ λP C i e H A=>?_)
    obtain ⟨L,N,G⟩:=A
    have Y:=wa Y L
    refine d7 (λg=>?_) λg=>?_
    .have hv:i<h.values.length:=aD
     have y:0<=h.graph.nodes[i]:=(p.1 _ (aC g)).1
     have a:=Cf (Pf t h) g
     rw [G] at a
     have r:Pf t h i=jR t h.graph.nodes[i] h.values[i]:=by simp only [Pf,aA hv,aA g,Option.getD_some]
     have Y:=wa Y (wa g (wa (aA hv) (wa (aA g) @cL.eq_1)))
     refine wo (h:=aM (RM t w h.graph.nodes[i] y h.values[i]) wl ?_)
     refine f9 (λk=>?_) λk=>?_
     .rw [r,if_pos (bS k)] at a
      rw [a,if_pos (bS k)] at hE0
      exact wv (h:=l _ _ (by simp [go_sem,hE0]))
     .rw [r,if_neg (bS k)] at a
      exact wo (h:=wx C (i+1) ⟨wg,wj,(by exact a.symm)⟩)
    .have hN0:kH (Pf t h) 0 h.graph.nodes.length=(-1,0):=by rw [<- G,(aD:h.graph.nodes.length - i=0)];rfl
     rw [hN0,if_neg aF] at hE0
     refine wo (h:=bV (λj e H=>(e 2=.adr t.c/\e 3=.adr h.c/\e 60=.list (h.graph.edges.map Edge.c)/\e 61=dI h.graph.edges.length/\e 62=dI j)/\(j<=h.graph.edges.length)/\(kH (Vs t h) j (h.graph.edges.length - j)=yT t h)) (λj=>h.graph.edges.length - j) 0 ⟨wg,wi,(by exact hE0.symm)⟩ λO B j e H z=>?_)
     obtain ⟨K,M,F⟩:=z
     have Y:=wa Y K
     refine d7 (λf=>?_) λf=>?_
     .obtain ⟨x,v⟩:=cC (h.graph.edges[j])
      have u:=(p.2 _ (aC f)).2
      rw [<- v] at u
      have o:x.from_.toNat<h.graph.nodes.length:=aD
      have n:x.to_.toNat<h.graph.nodes.length:=aD
      have a:=Cf (Vs t h) f
      rw [F] at a
      have b:Vs t h j=if (t.edges.length:Int)<=x.type then 6 else if kS t x.type h.graph.nodes[x.from_.toNat] h.graph.nodes[x.to_.toNat]=true then 0 else 13:=by simp only [Vs,gN,aA f,Option.getD_some,<- v,aA o,aA n]
      have Y:=wa Y (wa f (wa (aA f) (wa (Eq.symm v) (wa (aA o) (aA n)))))
      refine f9 (λE=>?_) λE=>?_
      .rw [if_pos aD] at b
       rw [b,if_pos aD] at a
       exact wv (h:=l _ _ (by simp [go_sem,a]))
      .rw [if_neg aD] at b
       refine wo (h:=aM (Fl t w x.type h.graph.nodes[x.from_.toNat] h.graph.nodes[x.to_.toNat]) wl ?_)
       refine f9 (λm=>?_) λm=>?_
       .rw [if_neg (bS m)] at b
        rw [b,if_pos aD] at a
        exact wv (h:=l _ _ (by simp [go_sem,a]))
       .rw [if_pos (bS m)] at b
        rw [b,if_neg aD] at a
        exact wo (h:=wx B (j+1) ⟨wg,wj,(by exact a.symm)⟩)
     .have hZ:yT t h=(-1,0):=by rw [<- F,(aD:h.graph.edges.length - j=0)];rfl
      exact wv (h:=l _ _ (by simp [go_sem,hZ]))
end Go.Abs
end
section
set_option maxRecDepth 60000
set_option maxHeartbeats 4000000
open Go Go.Proofs
namespace Go.Abs
def Qo (s:Int):Int:=if s<0 then -1 else 0
def MW (s:Int):Int:=s % 18446744073709551616
theorem Sd (x y:Int)(b:0<=x)(a:0<=y)(w:World):(callFunc 399 #[.int .u64 x,.int .u64 y,.int .u64 0]).run Tryz.prog w =
  .ok (.value (.tuple #[.int .u64 ((x+y+0) % 18446744073709551616),.int .u64 ((x+y+0) / 18446744073709551616)])) w:=by
 rw [run_callFunc_extern Tryz.func399 (by kernel_rfl) (by kernel_rfl) (by kernel_rfl) (e:=add64Entry) (by kernel_rfl),run_add64 x y 0 b a aD aD]
 rfl
open RowKit in
theorem N6 (a b:Int)(j : -4000000<=a/\a<=4000000)(i : -4000000<=b/\b<=4000000)(w:World) :
  Calls Tryz.prog 348 #[.int .i64 a,.int .i64 b] w λe w'=>e=.returned (.tuple #[.int .i64 (Qo (a+b)),.int .u64 (MW (a+b))])/\w'=w:=by
 have h:=Sd (IntKind.u64.wrap a) (IntKind.u64.wrap b) (by rw [IntKind.wrap_u64];omega) (by rw [IntKind.wrap_u64];omega) w
 simp only [Int.add_zero] at h
 go_enter Tryz.func348,Tryz.ntmps348
 go_wp2
 have d:IntKind.u64.wrap a=if a<0 then a+18446744073709551616 else a:=by rw [IntKind.wrap_u64];split<;>omega
 have c:IntKind.u64.wrap b=if b<0 then b+18446744073709551616 else b:=by rw [IntKind.wrap_u64];split<;>omega
 have g:wrap64 (a / 9223372036854775808+b / 9223372036854775808+wrap64 ((IntKind.u64.wrap a+IntKind.u64.wrap b) / 18446744073709551616))=Qo (a+b):=by
  rw [d,c];unfold Qo wrap64
  repeat' split
  all_goals omega
 have f:(IntKind.u64.wrap a+IntKind.u64.wrap b) % 18446744073709551616=MW (a+b):=by
  rw [d,c];unfold MW
  repeat' split
  all_goals omega
 rw [g,f]
 go_ret2
 exact ⟨rfl,rfl⟩
theorem w6 (a b:Int)(o : -4000000<=a/\a<=4000000)(n : -4000000<=b/\b<=4000000):Pure Tryz.prog 348 [dI a,dI b] (.tup [dI (Qo (a+b)),.int .u64 (MW (a+b))]):=by
 refine ⟨⟨Tryz.f348,Tryz.func348,rfl,rfl⟩,λM w c s h=>?_⟩
 have l:c=[.int .i64 a,.int .i64 b]:=by
  obtain ⟨m,k⟩:=h
  match c,m with
  | [x,y],_ =>
   have q:=k 0 x _ rfl rfl
   have i:=k 1 y _ rfl rfl
   cases q
   cases i
   rfl
 subst l
 exact (N6 a b o n w).mono λe r ⟨i,p⟩=>⟨_,i,.tup _ _ rfl (λj u d f g=>by
  match j with
  | 0=>simp at f g;subst f;subst g;exact .int _ _
  | 1=>simp at f g;subst f;subst g;exact .int _ _
  | j+2=>simp at f),by subst p;exact ⟨rfl,rfl,rfl,bC _,λ_ _=>rfl⟩⟩
theorem tH (x:Term)(vs:List Int)(g:sF x vs.length)(i:Sm vs):Pure Tryz.prog 347 [.agg x.c,.adr [dLI vs]] (.tup [dI (Qo (dE x vs)),.int .u64 (MW (dE x vs)),.bool true]):=by
 have a:=g
 obtain ⟨⟨o,n⟩,m,l⟩:=a
 refine Tz.pK ⟨λ_=>false,λ_=>[]⟩ Tryz.func347 rfl (λQ d=>?_)
 have Y:=@Term.c.eq_1
 refine d7 (λk=>?_) λk=>?_
 .have b:dE x vs=0+x.add:=by unfold dE;rw [if_pos aD];omega
  refine wv (h:=aB (w6 0 x.add aD aD) wl ?_)
  exact wv (h:=d _ _ (by simp [go_sem,b]))
 .have hk:x.var.toNat<vs.length:=aD
  have j:=i.get hk
  have b:dE x vs=vs[x.var.toNat]+x.add:=by unfold dE;rw [if_neg aD,aA hk];rfl
  have f:¬ x.var<0:=aD
  have e:¬ (vs.length:Int)<=x.var:=aD
  have Y:=wa Y (wa (aA hk) (wa f e))
  refine wo (h:=aM (w6 vs[x.var.toNat] x.add j aD) wl ?_)
  exact wo (h:=d _ _ (by simp [go_sem,b]))
theorem Hb (a:Int):Pure Tryz.prog 400 [.int .u64 a] (.bool false):=by
 refine Tz.pK ⟨λ_=>false,λ_=>[]⟩ Tryz.func400 rfl (λQ b=>?_)
 have Y:=trivial
 exact wv (h:=b _ _ wy)
theorem KJ (a b:Int):Pure Tryz.prog 351 [.int .u64 a,.int .u64 b] (dI (cmp1 a b)):=by
 refine Tz.pK ⟨λ_=>false,λ_=>[]⟩ Tryz.func351 rfl (λQ e=>?_)
 have Y:=trivial
 refine wv (h:=aB (Hb a) wl ?_)
 refine wv (h:=aB (Hb b) wl ?_)
 refine d7 (λd=>?_) λd=>?_
 .have Y:=wa Y (wa d @cmp1.eq_1)
  exact wv (h:=e _ _ wy)
 .refine d7 (λc=>?_) λc=>?_
  .have Y:=wa Y (wa d (wa c @cmp1.eq_1))
   exact wv (h:=e _ _ wy)
  .have Y:=wa Y (wa d (wa c @cmp1.eq_1))
   exact wv (h:=e _ _ wy)
def Ul (a b:Int):Int:=T1 [cmp1 (Qo a) (Qo b),cmp1 (MW a) (MW b)]
theorem Uk {a b:Int}(f : -10000000<=a/\a<=10000000)(e : -10000000<=b/\b<=10000000):Ul a b=if a<b then -1 else if b<a then 1 else 0:=by
 have d:MW a=if a<0 then a+18446744073709551616 else a:=by unfold MW;split<;>omega
 have c:MW b=if b<0 then b+18446744073709551616 else b:=by unfold MW;split<;>omega
 unfold Ul
 simp only [T1,cmp1,Qo,d,c]
 repeat' split
 all_goals omega
theorem Fq {x:Term}{vs:List Int}(a:sF x vs.length)(b:Sm vs) : -10000000<=dE x vs/\dE x vs<=10000000:=by
 obtain ⟨⟨g,f⟩,e,d⟩:=a
 unfold dE
 split
 .omega
 .have hk:x.var.toNat<vs.length:=aD
  have c:=b.get hk
  rw [aA hk,Option.getD_some]
  omega
theorem vC (x:Test)(vs:List Int)(i:PT x vs.length)(b:Sm vs):Pure Tryz.prog 271 [.agg x.c,dLI vs] (.bool (Oc x vs)):=by
 obtain ⟨m,f,d⟩:=i
 have g:=Uk (Fq f b) (Fq d b)
 have a:Ul (dE x.left vs) (dE x.right vs)=T1 [cmp1 (Qo (dE x.left vs)) (Qo (dE x.right vs)),cmp1 (MW (dE x.left vs)) (MW (dE x.right vs))]:=rfl
 obtain ⟨o,j⟩:=cC (Ul (dE x.left vs) (dE x.right vs))
 rw [<- j] at g a
 have k:Oc x vs=(decide (x.kind=1)&&decide (o<=0)||decide (x.kind=2)&&decide (o=0)):=by
  unfold Oc
  rw [g,aX]
  simp
  constructor
  .rintro (⟨h1,h2⟩|⟨h1,h2⟩)
   .left;refine ⟨h1,?_⟩;split<;>(try split)<;>omega
   .right;refine ⟨h1,?_⟩;rw [h2];simp
  .rintro (⟨h1,h2⟩|⟨h1,h2⟩)
   .left;refine ⟨h1,?_⟩;split at h2<;>(try split at h2)<;>omega
   .right;refine ⟨h1,?_⟩;split at h2<;>(try split at h2)<;>omega
 refine Tz.pK ⟨λ_=>false,λ_=>[]⟩ Tryz.func271 rfl (λQ l=>?_)
 have Y:=@Test.c.eq_1
 refine wv (h:=?_)
 refine aB (tH x.left vs f b) wl ?_
 refine wv (h:=?_)
 refine aB (tH x.right vs d b) wl ?_
 refine wv (h:=?_)
 repeat first|intro _|refine ⟨gL,?_⟩
 refine aB (Nw (Qo (dE x.left vs)) (Qo (dE x.right vs))) wl ?_
 refine wv (h:=?_)
 repeat first|intro _|refine ⟨gL,?_⟩
 refine aB (KJ (MW (dE x.left vs)) (MW (dE x.right vs))) wl ?_
 refine wv (h:=?_)
 repeat first|intro _|refine ⟨gL,?_⟩
 refine aB ((by have e:=WG [cmp1 (Qo (dE x.left vs)) (Qo (dE x.right vs)),cmp1 (MW (dE x.left vs)) (MW (dE x.right vs))];rw [<- a] at e;exact e)) wl ?_
 refine wv (h:=?_)
 repeat first|intro _|refine ⟨gL,?_⟩
 exact l _ _ (by simp [go_sem,k]<;>(first|rfl|(rw [aX];simp)))
theorem k6 (x:Term)(vs:List Int)(e:sF x vs.length)(f:Sm vs):Pure Tryz.prog 270 [.agg x.c,dLI vs] (dI (dE x vs)):=by
 have a:=e
 obtain ⟨⟨l,k⟩,j,i⟩:=a
 refine Tz.pK ⟨λ_=>false,λ_=>[]⟩ Tryz.func270 rfl (λQ b=>?_)
 have Y:=@Term.c.eq_1
 refine d7 (λd=>?_) λd=>?_
 .exact wv (h:=b _ _ (by simp [go_sem,dE,d]))
 .have hk:x.var.toNat<vs.length:=aD
  have g:=f.get hk
  have Y:=wa Y (aA hk)
  exact wo (h:=b _ _ (by simp [go_sem,dE,(aD:¬ x.var<0),aA hk]))
theorem mA (x:Term)(vs:List Int)(d:sF x vs.length)(e:Sm vs):Pure Tryz.prog 336 [.agg x.c,dLI vs] (.tup [dI (dE x vs),dI 0]):=by
 have a:=d
 obtain ⟨⟨k,j⟩,i,g⟩:=a
 have b:inF x.var (-1) ((vs.length:Int) - 1)=true:=by unfold inF;simp;omega
 refine Tz.pK ⟨λ_=>false,λ_=>[]⟩ Tryz.func336 rfl (λQ f=>?_)
 have Y:=wa @Term.c.eq_1 b
 refine wo (h:=aB (jH x.var (-1) ((vs.length:Int) - 1)) wl ?_)
 refine wo (h:=aB (k6 x vs d e) wl ?_)
 exact wo (h:=f _ _ wy)
end Go.Abs
end
section
set_option maxRecDepth 100000
set_option maxHeartbeats 4000000
open Go Go.Proofs
namespace Go.Abs
theorem FG (t:Types)(a:Int):Pure Tryz.prog 384 [dI a,.adr t.c] (.bool (decide ((t.nodes.length:Int)<=a))):=by
 refine Tz.pK ⟨λ_=>false,λ_=>[]⟩ Tryz.func384 rfl (λQ b=>?_)
 have Y:=trivial
 exact wo (h:=b _ _ wy)
theorem FF (t:Types)(x:Edge):Pure Tryz.prog 385 [.agg x.c,.adr t.c] (.bool (decide ((t.edges.length:Int)<=x.type))):=by
 refine Tz.pK ⟨λ_=>false,λ_=>[]⟩ Tryz.func385 rfl (λQ a=>?_)
 have Y:=trivial
 exact wo (h:=a _ _ wy)
theorem AF (t:Types)(g:Graph):Pure Tryz.prog 326 [t.d,g.d] (.bool (dP t g)):=by
 refine Tz.pK ⟨λ_=>false,λ_=>[]⟩ Tryz.func326 rfl (λQ e=>?_)
 have Y:=trivial
 refine wo (h:=aB (fT g.nodes 384 [.adr t.c] (λa=>decide ((t.nodes.length:Int)<=a)) (by simp [go_sem]) (by simp [go_sem]) (λa _=>FG t a)) wl ?_)
 refine wo (h:=aO (λb=>kX g.edges 385 [.adr t.c] (λx=>decide ((t.edges.length:Int)<=x.type)) (by simp [go_sem]) (by simp [go_sem]) (λx _=>FF t x)) (λb=>wl) ?_)
 exact wo (h:=e _ _ (by simp [go_sem,dP];rw [aX];simp))
theorem Iq (t:Types){g:Graph}(d:graphF g=0):dP t g=kT t g:=by
 have c:=dF d
 have f:(g.nodes.any λn=>decide ((t.nodes.length:Int)<=n))=g.nodes.any λa=>!insideF t a:=by
  rw [aX,aZ,aZ]
  constructor<;>rintro ⟨a,b,h⟩<;>refine ⟨a,b,?_⟩<;>have:=c.1 a b<;>simp [insideF] at h ⊢<;>omega
 have e:(g.edges.any λx=>decide ((t.edges.length:Int)<=x.type))=g.edges.any λx=>!nJ t x:=by
  rw [aX,aZ,aZ]
  constructor<;>rintro ⟨a,b,h⟩<;>refine ⟨a,b,?_⟩<;>have:=(c.2 a b).1<;>simp [nJ] at h ⊢<;>omega
 unfold dP kT
 rw [f,e]
def Wr (p g:Graph)(i:Nat):Int:=if i=0 then graphF p else graphF g
theorem Wq (p g:Graph):bT (Wr p g) 0 2=if graphF p≠0 then graphF p else if graphF g≠0 then graphF g else 0:=by simp [bT,Wr]
theorem qV (t:Types)(z:t.ok)(p g:Graph):Pure Tryz.prog 232 [t.d,p.d,g.d] (dI (dM t p g)):=by
 refine Tz.pK ⟨λt=>t==10,λ_=>[]⟩ Tryz.func232 rfl (λQ m=>?_)
 have Y:=trivial
 refine wv (h:=aB (nC t z) wl ?_)
 refine d7 (λs=>?_) λs=>?_
 .have hA:dM t p g=(cH t).2:=by unfold dM;rw [if_pos (bS s)]
  exact wv (h:=m _ _ (by simp [go_sem,hA]))
 .have hA:dM t p g=if graphF p≠0 then graphF p else if graphF g≠0 then graphF g else if (!kT t p||!kT t g)=true then 13 else 0:=by unfold dM;rw [if_neg (bS s)]
  refine wo (h:=bV (λi e H=>(e 3=.adr t.c/\e 4=.adr p.c/\e 5=.adr g.c/\e 22=.list [p.c,g.c]/\e 23=dI 2/\e 24=dI i)/\(i<=2)/\(bT (Wr p g) i (2 - i)=bT (Wr p g) 0 2)) (λi=>2 - i) 0 ⟨wg,wi,(by rfl)⟩ λE r i e H o=>?_)
  obtain ⟨B,C,u⟩:=o
  have Y:=wa Y B
  refine d7 (λv=>?_) λv=>?_
  .have hi2:i<2:=aD
   have a:=gF (Wr p g) hi2
   rw [u] at a
   obtain ⟨x,y,j⟩:∃ x:Graph,[[D.list (p.nodes.map cI),D.list (p.edges.map Edge.c)],[D.list (g.nodes.map cI),D.list (g.edges.map Edge.c)]][i]?=some [D.list (x.nodes.map cI),D.list (x.edges.map Edge.c)]/\Wr p g i=graphF x:=by
    rcases bX i 1 with h|h
    .obtain rfl:i=0:=aD
     exact ⟨p,rfl,rfl⟩
    .obtain rfl:i=1:=aD
     exact ⟨g,rfl,rfl⟩
   have q:=l7 x
   have Y:=wa Y (wa v y)
   refine wo (h:=aB (q) wl ?_)
   refine f9 (λn=>?_) λn=>?_
   .have hR:dM t p g=graphF x:=by
     rw [j,if_pos (bS n),Wq] at a
     rw [hA]
     by_cases w:graphF p=0
     .rw [if_neg (by simp [w])] at a ⊢
      by_cases l:graphF g=0
      .rw [if_neg (by simp [l])] at a;exact absurd a.symm n
      .rw [if_pos l] at a ⊢;exact a
     .rw [if_pos w] at a ⊢;exact a
    exact wv (h:=m _ _ (by simp [go_sem,hR]))
   .rw [j,if_neg (bS n)] at a
    exact wo (h:=wx r (i+1) ⟨wg,wj,(by exact a.symm)⟩)
  .have hz:bT (Wr p g) 0 2=0:=by rw [<- u,(aD:2 - i=0)];rfl
   have f:graphF p=0:=dV _ _ hz 0 aD aD
   have k:graphF g=0:=dV _ _ hz 1 aD aD
   rw [if_neg (bS f),if_neg (bS k),<- Iq t f,<- Iq t k] at hA
   refine wo (h:=aB (AF t p) wl ?_)
   refine wo (h:=aO (λA=>AF t g) (λA=>wl) ?_)
   refine f9 (λb=>?_) λb=>?_
   .rw [if_pos (by simpa [Classical.or_iff_not_imp_left] using b)] at hA
    exact wv (h:=m _ _ (by simp [go_sem,hA]))
   .rw [if_neg (by simpa [Classical.or_iff_not_imp_left] using b)] at hA
    exact wv (h:=m _ _ (by simp [go_sem,hA]))
/-! ### below -/
def qP (n:Nat)(l:List Int):List Bool:=(List.range n).map λ(b:Nat)=>mem l (b:Int)
@[go_sem] theorem Rv (n:Nat)(l:List Int):(qP n l).length=n:=by simp [qP]
theorem Ru (n:Nat):qP n []=List.replicate n false:=by
 apply eW (by simp [qP]);intro i b a;simp [qP,zS]
theorem OW (n:Nat)(l:List Int)(x:Int)(c:0<=x):qP n (l++[x])=(qP n l).set x.toNat true:=by
 apply eW (by simp [qP]);intro i b a
 rw [Al]
 simp only [qP,jB,oO,uW]
 split
 .rename_i h;rw [cO];right;simp;omega
 .rename_i h;rw [show decide ((i:Int)=x)=false by simp;omega,nU]
def Ka (t:Types)(a:Nat):List Bool:=qP t.nodes.length (jS t a)
def qM (t:Types)(n:Nat):List (List D):=(List.range n).map λa=>[.list ((Ka t a).map cB)]
def belowD (t:Types):D:=.list (qM t t.nodes.length)
theorem Oz (t:Types)(n:Nat):qM t (n+1)=qM t n++[[.list ((Ka t n).map cB)]]:=by simp [qM,bK]
@[go_sem] theorem Xh (t:Types)(n:Nat):(qM t n).length=n:=by simp [qM]
@[go_sem] theorem SF (t:Types)(n:Nat):D.clLL (qM t n)=true:=by
 unfold qM;exact c8 (λa=>[.list ((Ka t a).map cB)]) (λa=>by simp [D.clL,go_sem]) _
theorem R4 {t:Types}{a:Int}{x:Int}(h:x∈jS t a):0<=x/\x<t.nodes.length:=by
 unfold jS at h
 split at h
 .simp at h;omega
 .cases h
theorem PK (t:Types)(a:Int):(jS t a).length<=t.nodes.length:=by
 unfold jS
 split
 .rw [aS];exact c9 (iB _ _) aF
 .simp
@[go_sem] theorem XF (t:Types):(belowD t).cl=true:=SF t _
theorem BB (t:Types)(w:t.ok):Pure Tryz.prog 327 [t.d] (belowD t):=by
 have x:=w.fewN
 refine Tz.pK ⟨λt=>t==3||t==5||t==19,λ_=>[]⟩ Tryz.func327 rfl (λQ A=>?_)
 have Y:=trivial
 refine wo (h:=bV (λi e H=>(e 1=.adr t.c/\e 11=.list (t.nodes.map NodeTy.c)/\e 12=dI t.nodes.length/\e 3=.own 0 i/\e 13=dI i)/\(H.get 0=some ⟨306,1,qM t i,false⟩)/\(0<H.next)/\(i<=t.nodes.length)) (λi=>t.nodes.length - i) 0 ⟨wg,(by simp [go_sem,qM]),wn,wi⟩ λG u i e H p=>?_)
 obtain ⟨C,m,f,E⟩:=p
 have Y:=wa Y (wa C (wa m (b8 f)))
 refine d7 (λy=>?_) λy=>?_
 .have hll:=PK t i
  have Y:=wa Y y
  refine wo (h:=aB (Lt t w i) wl ?_)
  refine wo (h:=bV (λk e H=>∃ q:Nat,(e 1=.adr t.c/\e 11=.list (t.nodes.map NodeTy.c)/\e 12=dI t.nodes.length/\e 3=.own 0 i/\e 13=dI i/\e 4=dI i/\e 5=.own q t.nodes.length/\e 26=dLI (jS t i)/\e 27=dI (jS t i).length/\e 28=dI k)/\(H.get 0=some ⟨306,1,qM t i,false⟩)/\(0<H.next)/\(H.get q=some ⟨4,1,(qP t.nodes.length ((jS t i).take k)).map cB,false⟩)/\(q<H.next)/\(k<=(jS t i).length)/\(0<q)) (λk=>(jS t i).length - k) 0 ⟨H.next,wg,wn,wn,(by simp [go_sem,Ru]),wn,wi,wi⟩ λF s k e H o=>?_)
  obtain ⟨q,B,l,b,j,a,D,z⟩:=o
  have v:=dG (aD:q≠0)
  have Y:=wa Y (wa B (wa l (wa (b8 b) (wa j (wa (b8 a) v)))))
  refine d7 (λg=>?_) λg=>?_
  .have hbx:=R4 (aC g)
   have r:(jS t i)[k].toNat<(qP t.nodes.length ((jS t i).take k)).length:=by rw [Rv];omega
   have n:qP t.nodes.length ((jS t i).take (k+1))=(qP t.nodes.length ((jS t i).take k)).set (jS t i)[k].toNat true:=by rw [List.take_succ_eq_append_getElem g,OW _ _ _ hbx.1]
   have Y:=wa Y (wa g (wa (aA g) (wa (aA r) (wa hbx.1 hbx.2))))
   exact wo (h:=wx s (k+1) ⟨q,wg,wn,wn,(by simp [go_sem,Y,n,dU,cB]),wn,wj,wj⟩)
  .have hke:(jS t i).take k=jS t i:=aY aD
   have Y:=wa Y hke
   exact wo (h:=wx u (i+1) ⟨wg,(by simp [go_sem,Y,Oz,Ka]),wn,wj⟩)
 .exact wv (h:=A _ _ (by simp [go_sem,Y,belowD,(aD:i=t.nodes.length)]))
theorem KC {t:Types}(a:(cH t).2=0){k:Int}(h:0<=k/\k<t.nodes.length):given2F t k k=0:=by
 unfold given2F;rw [if_neg (by rw [a];simp),if_pos (by simp [insideF];omega)]
@[go_sem] theorem Yg (t:Types)(a:Nat):(Ka t a).length=t.nodes.length:=by simp [Ka,qP]
theorem Iz {t:Types}{a:Int}(h:0<=a/\a<t.nodes.length):(qM t t.nodes.length)[a.toNat]?=some [.list ((Ka t a.toNat).map cB)]:=by
 unfold qM
 rw [aH,dZ aD];rfl
theorem PJ {t:Types}(d:(cH t).2=0){a b:Int}(e:0<=a/\a<t.nodes.length)(f:0<=b/\b<t.nodes.length):mem (jS t a) b=Ay t a b:=by
 unfold jS Ay
 rw [if_pos (KC d e),aX,cQ,aQ]
 constructor
 .rintro ⟨k,c,rfl⟩
  rw [dL] at c
  simpa using c.2
 .intro h
  exact ⟨b.toNat,by rw [dL];exact ⟨by simp;omega,h⟩,aD⟩
theorem LV {t:Types}(e:(cH t).2=0){a b:Int}(d:0<=a/\a<t.nodes.length)(c:0<=b/\b<t.nodes.length):(Ka t a.toNat)[b.toNat]?=some (Ay t a b):=by
 unfold Ka qP
 rw [aH,dZ aD,c6,Int.toNat_of_nonneg d.1,Int.toNat_of_nonneg c.1,PJ e d c]
theorem BA (t:Types)(L:t.ok)(p g:Graph)(u:G17 t p g)(K:(cH t).2=0)(m:Part):Pure Tryz.prog 233 [t.d,p.d,g.d,m.d] (dI (matchE t p g m false)):=by
 have P:=cJ u.gp
 have O:=cJ u.gg
 have y:=(dF u.gp).2
 refine Tz.pK ⟨λt=>t==14||t==15,λr=>match r with|17=>[(0,10),(1,10),(3,10),(4,10),(5,10),(6,10),(8,10),(9,10),(0,11),(1,11),(3,11),(4,11),(5,11),(6,11),(8,11),(9,11),(10,11),(5,12),(6,12),(8,12),(9,12)]|_=>[]⟩ Tryz.func233 rfl (λQ l=>?_)
 have Y:=@belowD.eq_1
 refine f9 (λS=>?_) λS=>?_
 .have hM:matchE t p g m false=20:=by unfold matchE;rw [if_pos aD]
  exact wv (h:=l _ _ (by simp [go_sem,hM]))
 .have hM:matchE t p g m false=(if bT (mNE t p g m) 0 p.nodes.length≠0 then bT (mNE t p g m) 0 p.nodes.length else if bT (mapEE p g m) 0 p.edges.length≠0 then bT (mapEE p g m) 0 p.edges.length else if false=true/\(¬ m.nodes.Nodup\/¬ m.edges.Nodup) then 5 else 0):=by unfold matchE;rw [if_neg aD]
  have N:m.nodes.length=p.nodes.length:=aD
  have M:m.edges.length=p.edges.length:=aD
  refine wv (h:=aB (BB t L) wl ?_)
  refine wo (h:=bV (λi e H=>(e 4=.adr t.c/\e 5=.adr p.c/\e 6=.adr g.c/\e 7=.adr m.c/\e 9=.list (qM t t.nodes.length)/\e 35=dLI m.nodes/\e 36=dI m.nodes.length/\e 37=dI i)/\(i<=m.nodes.length)/\(bT (mNE t p g m) i (p.nodes.length - i)=bT (mNE t p g m) 0 p.nodes.length)) (λi=>m.nodes.length - i) 0 ⟨wg,wi,(by rfl)⟩ λI0 D i e H A=>?_)
  obtain ⟨U,X,I⟩:=A
  have Y:=wa Y U
  refine d7 (λv=>?_) λv=>?_
  .have hn:i<p.nodes.length:=aD
   have a:=gF (mNE t p g m) hn
   rw [I] at a
   have f:mNE t p g m i=(if m.nodes[i]<0\/(g.nodes.length:Int)<=m.nodes[i] then 6 else if Ay t p.nodes[i] (g.nodes[m.nodes[i].toNat]?.getD 0)=true then 0 else 13):=by simp only [mNE,aA v,aA hn,Option.getD_some]
   have s:=u.tp _ (aC hn)
   have Y:=wa Y (wa v (wa (aA v) (aA hn)))
   refine f9 (λR=>?_) λR=>?_
   .rw [if_pos aD] at f
    rw [f,if_pos aD] at a
    rw [a,if_pos aD] at hM
    exact wv (h:=l _ _ (by simp [go_sem,hM]))
   .have hkb:m.nodes[i].toNat<g.nodes.length:=aD
    rw [if_neg aD,aA hkb,Option.getD_some] at f
    have B:=u.tg _ (aC hkb)
    have w:=Iz s
    have x:=LV K s B
    have Y:=wa Y (wa (aA hkb) (wa w x))
    refine f9 (λE=>?_) λE=>?_
    .rw [if_neg (bS E)] at f
     rw [f,if_pos aD] at a
     rw [a,if_pos aD] at hM
     exact wv (h:=l _ _ (by simp [go_sem,hM]))
    .rw [if_pos (bS E)] at f
     rw [f,if_neg aD] at a
     exact wo (h:=wx D (i+1) ⟨wg,wj,(by exact a.symm)⟩)
  .have hN0:bT (mNE t p g m) 0 p.nodes.length=0:=by rw [<- I,(aD:p.nodes.length - i=0)];rfl
   rw [hN0,if_neg aD] at hM
   refine wo (h:=bV (λk e H=>(e 4=.adr t.c/\e 5=.adr p.c/\e 6=.adr g.c/\e 7=.adr m.c/\e 9=.list (qM t t.nodes.length)/\e 69=dLI m.edges/\e 70=dI m.edges.length/\e 71=dI k)/\(k<=m.edges.length)/\(bT (mapEE p g m) k (p.edges.length - k)=bT (mapEE p g m) 0 p.edges.length)) (λk=>m.edges.length - k) 0 ⟨wg,wi,(by rfl)⟩ λZ C k e H z=>?_)
   obtain ⟨T,W,J⟩:=z
   have Y:=wa Y T
   refine d7 (λj=>?_) λj=>?_
   .have hn:k<p.edges.length:=aD
    have a:=gF (mapEE p g m) hn
    rw [J] at a
    have V:=y _ (aC hn)
    have q:p.edges[k].from_.toNat<m.nodes.length:=aD
    have o:p.edges[k].to_.toNat<m.nodes.length:=aD
    have b:mapEE p g m k=(if m.edges[k]<0\/(g.edges.length:Int)<=m.edges[k] then 6 else if p.edges[k].type≠(g.edges[m.edges[k].toNat]?.getD b4).type then 13 else if m.nodes[p.edges[k].from_.toNat]≠(g.edges[m.edges[k].toNat]?.getD b4).from_\/m.nodes[p.edges[k].to_.toNat]≠(g.edges[m.edges[k].toNat]?.getD b4).to_ then 11 else 0):=by
     simp only [mapEE,aA j,aA hn,Option.getD_some,aA q,aA o]
    have Y:=wa Y (wa j (wa (aA j) (wa (aA hn) (wa (aA q) (aA o)))))
    refine f9 (λG=>?_) λG=>?_
    .rw [if_pos aD] at b
     rw [b,if_pos aD] at a
     rw [a,if_pos aD] at hM
     exact wv (h:=l _ _ (by simp [go_sem,hM]))
    .have hkb:m.edges[k].toNat<g.edges.length:=aD
     rw [if_neg aD,aA hkb,Option.getD_some] at b
     have Y:=wa Y (aA hkb)
     refine f9 (λn=>?_) λn=>?_
     .rw [if_pos n] at b
      rw [b,if_pos aD] at a
      rw [a,if_pos aD] at hM
      exact wv (h:=l _ _ (by simp [go_sem,hM]))
     .rw [if_neg (bS n)] at b
      refine f9 (λF=>?_) λF=>?_
      .rw [if_pos aD] at b
       rw [b,if_pos aD] at a
       rw [a,if_pos aD] at hM
       exact wv (h:=l _ _ (by simp [go_sem,hM]))
      .rw [if_neg aD] at b
       rw [b,if_neg aD] at a
       exact wo (h:=wx C (k+1) ⟨wg,wj,(by exact a.symm)⟩)
   .have hE0:bT (mapEE p g m) 0 p.edges.length=0:=by rw [<- J,(aD:p.edges.length - k=0)];rfl
    rw [hE0,if_neg aD] at hM
    rw [if_neg aF] at hM
    exact wv (h:=l _ _ (by simp [go_sem,hM]))
/-! ### the finder -/
theorem HK (i:Nat):Pure Tryz.prog 441 [.nil,dI i] (dI (-1)):=by
 refine Tz.pK ⟨λ_=>false,λ_=>[]⟩ Tryz.func441 rfl (λQ a=>?_)
 have Y:=trivial
 exact wv (h:=a _ _ wy)
theorem J1 (l:List Int){i:Nat}(h:i<l.length):Pure Tryz.prog 441 [dLI l,dI i] (dI l[i]):=by
 have a:l≠[]:=λe=>by rw [e] at h;simp at h
 refine Tz.pK ⟨λ_=>false,λ_=>[]⟩ Tryz.func441 rfl (λQ b=>?_)
 have Y:=wa (aA h) a
 exact wo (h:=b _ _ wy)
def GivD (d:D)(l:List Int)(n:Nat):Prop:=d.cl=true/\∀ i,i<n->Pure Tryz.prog 441 [d,dI i] (dI (l[i]?.getD (-1)))
theorem GivD.nil (n:Nat):GivD .nil (List.replicate n (-1)) n:=⟨rfl,λi hi=>by
 have:=HK i
 rw [nT,if_pos hi];exact this⟩
theorem GivD.list (l:List Int):GivD (dLI l) l l.length:=⟨oF l,λi hi=>by rw [aA hi];exact J1 l hi⟩
theorem J0 (k n:Int):Pure Tryz.prog 463 [dI k,.adr [dI n]] (.bool (decide (k < -1)||decide (n<=k))):=by
 refine Tz.pK ⟨λ_=>false,λ_=>[]⟩ Tryz.func463 rfl (λQ a=>?_)
 have Y:=trivial
 exact wo (h:=a _ _ wy)
theorem Jn {f:Nat->Int}{c:Int}(h:∀ j,f j=0\/f j=c):∀ n k,bT f k n=0\/bT f k n=c
 | 0,k=>.inl rfl
 | n+1,k=>by
  unfold bT
  split
  .rename_i h1;exact .inr ((h k).resolve_left h1)
  .exact Jn h n (k+1)
theorem My (l:List Int)(n:Int):qN l n=if (l.any λk=>decide (k < -1)||decide (n<=k))=true then 6 else 0:=by
 by_cases h:(l.any λk=>decide (k < -1)||decide (n<=k))=true
 .rw [if_pos h]
  rcases Jn (f:=IP n l) (c:=6) (λj=>by unfold IP;split<;>simp) l.length 0 with h0|h0
  .obtain ⟨x,d,a⟩:=aZ.1 h
   obtain ⟨i,e,rfl⟩:=aK d
   have:=dV _ _ h0 i aD aD
   unfold IP at this
   rw [aA e,Option.getD_some] at this
   simp only [cO,decide_eq_true_eq] at a
   rw [if_pos a] at this;cases this
  .exact h0
 .rw [if_neg h]
  refine iJ _ _ λj _ g=>?_
  unfold IP
  rw [if_neg]
  intro a
  have b:j<l.length:=aD
  rw [aA b,Option.getD_some] at a
  exact h (aZ.2 ⟨_,aC b,by simpa using a⟩)
theorem DO (l:List Int)(n:Int):Pure Tryz.prog 462 [dLI l,dI n] (dI (qN l n)):=by
 refine Tz.pK ⟨λ_=>false,λ_=>[]⟩ Tryz.func462 rfl (λQ b=>?_)
 have Y:=trivial
 refine wv (h:=aB (fT l 463 [.adr [dI n]] (λk=>decide (k < -1)||decide (n<=k)) (by simp [go_sem]) (by simp [go_sem]) (λk _=>J0 k n)) wl ?_)
 refine d7 (λa=>?_) λa=>?_
 .have hO:qN l n=6:=by rw [My,if_pos (bS a)]
  exact wv (h:=b _ _ (by simp [go_sem,hO]))
 .have hO:qN l n=0:=by rw [My,if_neg (bS a)]
  exact wv (h:=b _ _ (by simp [go_sem,hO]))
def Srch.cellP (S:Srch)(most:Int)(pn pe ns es ou:D):List D:=[dLI S.p.nodes,.list (S.p.edges.map Edge.c),dLI S.g.nodes,.list (S.g.edges.map Edge.c),.list (qM S.t S.t.nodes.length),pn,pe,.bool S.inj,dI most,ns,es,ou]
def EL (S:Srch)(l:List Int)(i k:Nat):Bool:=yY S.pe i k&&hitE S l i k
theorem DP (S:Srch)(a:Int)(r pe es s:D)(j:r.cl=true)(q:es.cl=true)(n:s.cl=true)(l:List Int)(i k:Nat)(o:i<S.p.edges.length)(w:k<S.g.edges.length)
  (b:GivD pe S.pe S.p.edges.length) (B:0<=S.p.edges[i].from_) (y:S.p.edges[i].from_.toNat<l.length) (x:0<=S.p.edges[i].to_) (e:S.p.edges[i].to_.toNat<l.length) :
  Pure Tryz.prog 443 [.adr (S.cellP a r pe (dLI l) es s),dI i,dI k] (.bool (EL S l i k)):=by
 have m:=b.1
 obtain ⟨v,u⟩:=cC (S.pe[i]?.getD (-1))
 have d:=b.2 i o
 rw [<- u] at d
 have f:yY S.pe i k=(decide (v<0)||decide (v=(k:Int))):=by unfold yY;rw [<- u]
 have C:hitE S l i k=(decide (S.g.edges[k].type=S.p.edges[i].type)&&(decide (S.g.edges[k].from_=l[S.p.edges[i].from_.toNat])&&decide (S.g.edges[k].to_=l[S.p.edges[i].to_.toNat]))):=by
  simp only [hitE,Xz,US,aA w,aA o,Option.getD_some,aA y,aA e]
  simp
 refine Tz.pK ⟨λt=>t==7,λ_=>[]⟩ Tryz.func443 rfl (λQ z=>?_)
 have Y:=wa @Srch.cellP.eq_1 (wa (aA o) (wa (aA w) (wa (aA y) (wa (aA e) (wa @Edge.c.eq_1 (wa j (wa q (wa n m))))))))
 refine wo (h:=aB (d) wl ?_)
 refine f9 (λA=>?_) λA=>?_
 .have hE:EL S l i k=false:=by unfold EL;rw [f,show decide (v<0)=false by simp;omega,show decide (v=(k:Int))=false by simp;omega];rfl
  exact wv (h:=z _ _ (by simp [go_sem,hE]))
 .have hE:EL S l i k=hitE S l i k:=by
   unfold EL;rw [f]
   rcases Int.lt_or_le v 0 with h|h
   .simp [h]
   .simp [A h]
  exact wo (h:=z _ _ (by simp [go_sem,hE,C,Ql,Ew]))
theorem EA (S:Srch)(L:graphF S.p=0)(U:graphF S.g=0)(a:Int)(r s es u:D)(f:r.cl=true)(n:es.cl=true)(m:u.cl=true)(l:List Int)(v:GivD s S.pe S.p.edges.length) :
  Pure Tryz.prog 442 [.adr (S.cellP a r s (dLI l) es u)] (.bool (sX S l)):=by
 have w:=v.1
 have B:=(dF L).2
 have T:=cJ L
 have R:=cJ U
 have V:D.clL (S.cellP a r s (dLI l) es u)=true:=by simp [go_sem,Srch.cellP,D.clL,f,n,m,w]
 refine Tz.pK ⟨λt=>t==5,λ_=>[]⟩ Tryz.func442 rfl (λQ O=>?_)
 have Y:=wa @Srch.cellP.eq_1 (wa f (wa n (wa m w)))
 refine wo (h:=bV (λi e H=>(e 0=.adr (S.cellP a r s (dLI l) es u)/\e 3=dI ((l.length:Int) - 1)/\e 18=.list (S.p.edges.map Edge.c)/\e 19=dI S.p.edges.length/\e 20=dI i)/\(i<=S.p.edges.length)/\(∀ j,j<i->Gc S l j=true)) (λi=>S.p.edges.length - i) 0 ⟨wg,wi,(by intro j C;omega)⟩ λI0 x i e H F=>?_)
 obtain ⟨Z,hi,I⟩:=F
 have Y:=wa Y Z
 refine d7 (λq=>?_) λq=>?_
 .have hxi:=(B _ (aC q)).2
  have o:Gc S l i=(decide (max S.p.edges[i].from_ S.p.edges[i].to_≠(l.length:Int) - 1)||(List.range S.g.edges.length).any (EL S l i)):=by
   unfold Gc;rw [aA q,Option.getD_some];rfl
  have Y:=wa Y (wa q (wa (aA q) @Edge.c.eq_1))
  refine f9 (λP=>?_) λP=>?_
  .have hKi:Gc S l i=true:=by rw [o];simp;omega
   exact wo (h:=wx x (i+1) ⟨wg,wj,(by intro j C;rcases bX j i with hji|hji;exact I j hji;(obtain rfl:j=i:=aD;exact hKi))⟩)
  .have hf:S.p.edges[i].from_.toNat<l.length:=aD
   have G:S.p.edges[i].to_.toNat<l.length:=aD
   have A:=hxi.1.1
   have z:=hxi.2.1
   have W:=q
   have Y:=wa Y P
   refine wo (h:=bV (λk e H=>(e 0=.adr (S.cellP a r s (dLI l) es u)/\e 3=dI ((l.length:Int) - 1)/\e 18=.list (S.p.edges.map Edge.c)/\e 19=dI S.p.edges.length/\e 20=dI i/\e 4=dI i/\e 6=.bool false/\e 37=dI S.g.edges.length/\e 38=dI k)/\(k<=S.g.edges.length)/\((List.range k).any (EL S l i)=false)) (λk=>S.g.edges.length - k) 0 ⟨wg,wi,(by rfl)⟩ λI2 J k e H E=>?_)
   obtain ⟨X,hk,N⟩:=E
   have Y:=wa Y X
   refine d7 (λy=>?_) λy=>?_
   .obtain ⟨fb,M⟩:∃ b,b=EL S l i k:=⟨_,rfl⟩
    have Y:=wa Y y
    refine wv (h:=aB (DP S a r s es u f n m l i k W y v A hf z G) wl ?_)
    refine d7 (λd=>?_) λd=>?_
    .have hKi:Gc S l i=true:=by
      rw [o,cO];right
      exact aZ.2 ⟨k,by simpa using y,by simpa using d⟩
     exact wo (h:=wx x (i+1) ⟨wg,wj,(by intro j C;rcases bX j i with hji|hji;exact I j hji;(obtain rfl:j=i:=aD;exact hKi))⟩)
    .have hfb:EL S l i k=false:=by simpa using d
     have Y:=wa Y d
     exact wo (h:=wx J (k+1) ⟨wg,wj,(by rw [Ho,N,hfb];rfl)⟩)
   .have hb0:(List.range S.g.edges.length).any (EL S l i)=false:=by rw [(aD:S.g.edges.length=k)];exact N
    have K:sX S l=false:=by
     simp only [sX,List.all_eq_false,aR]
     exact ⟨i,q,by rw [o,hb0];simp;omega⟩
    exact wo (h:=O _ _ (by simp [go_sem,K]))
 .have K:sX S l=true:=by
   simp only [sX,cD,aR]
   exact λj C=>I j aD
  exact wv (h:=O _ _ (by simp [go_sem,K]))
def Jq (S:Srch)(N:Nat)(ns es:List Int)(out:List Part):List Part:=if ns.length<S.p.nodes.length then Qa S N (S.p.nodes.length - ns.length) ns out else PY S N ns (S.p.edges.length - es.length) es out
theorem SN (S:Srch){N:Nat}(d:Nat)(l:List Int){a:List Part}(h:N<=a.length):Qa S N d l a=a:=by cases d<;>simp only [Qa,if_pos h]
theorem GX (S:Srch){N:Nat}(ns es:List Int){a:List Part}(h:N<=a.length):Jq S N ns es a=a:=by
 unfold Jq;split;exact SN S _ _ h;exact LD _ _ _ h
theorem GW (S:Srch)(N:Nat)(ns:List Int)(a:List Part):Jq S N ns [] a=Qa S N (S.p.nodes.length - ns.length) ns a:=by
 unfold Jq
 split
 .rfl
 .rename_i h
  rw [(aD:S.p.nodes.length - ns.length=0)]
  simp only [Qa,pQ,Nat.sub_zero]
  split
  .rename_i h2;exact LD _ _ _ h2
  .rfl
structure FdS (f a b o:Nat) (S:Srch) (N:Nat) (pn pe:D) (ns es:List Int) (out:List Part) (H:AHeap):Prop where
 bf:H.get f=some ⟨400,12,[S.cellP N pn pe (.own a ns.length) (.own b es.length) (.own o out.length)],false⟩
 ba:H.get a=some ⟨3,1,ns.map cI,false⟩
 bb:H.get b=some ⟨3,1,es.map cI,false⟩
 bo:H.get o=some ⟨36,2,out.map Part.c,false⟩
 le:out.length<=N
 nf:f<H.next/\a<H.next/\b<H.next/\o<H.next
 d:(f≠a/\f≠b/\f≠o)/\(a≠b/\a≠o)/\b≠o
@[go_sem] theorem WA (H:AHeap)(i:Nat):(H.drop i).next=H.next:=rfl
@[go_sem] theorem XA (H:AHeap)(i j:Nat):(H.drop i).get j=if j=i then none else H.get j:=rfl
theorem uL {H:AHeap}{d:D}(h:d.cl=true):eM H d=d:=by cases d<;>first|rfl|simp [D.cl] at h
def TV (S:Srch)(N:Nat)(pn pe:D)(f o m:Nat):Prop :=
  ∀ (ns es:List Int) (out:List Part) (a b:Nat) (G:AHeap) (Q:D->AHeap->Prop),(S.p.nodes.length - ns.length)+(S.p.edges.length - es.length)=m->ns.length<=S.p.nodes.length->es.length<=S.p.edges.length->(ns.length<S.p.nodes.length->es=[])->FdS f a b o S N pn pe ns es out G ->
  (∀ a' b' H',FdS f a' b' o S N pn pe ns es (Jq S N ns es out) H'->Q (.tup []) H')->ACalls Tryz.prog 398 [.ptr f 1 0 0] G Q
theorem J5 (S:Srch)(A:G17 S.t S.p S.g)(hv:(cH S.t).2=0)(N:Nat)(hN:N<=5001)(pn E:D)(X:GivD pn S.pn S.p.nodes.length)(Z:GivD E S.pe S.p.edges.length)(f o:Nat)(m:Nat)(ih:∀ k,k<m->TV S N pn E f o k)(ns es:List Int)(i:List Part)(a b:Nat)(G:AHeap)(Q:D->AHeap->Prop)(hm:(S.p.nodes.length - ns.length)+(S.p.edges.length - es.length)=m)(f6:ns.length<=S.p.nodes.length)(f1:es.length<=S.p.edges.length)(c5:ns.length<S.p.nodes.length->es=[])(hF:FdS f a b o S N pn E ns es i G)
  (hQ:∀ a' b' H',FdS f a' b' o S N pn E ns es (Jq S N ns es i) H'->Q (.tup []) H') (c6:ns.length<S.p.nodes.length) :
  ACalls Tryz.prog 398 [.ptr f 1 0 0] G Q:=by
 have f8:=cJ A.gp
 have f7:=cJ A.gg
 have f9:∀ x∈S.p.edges,(0<=x.from_/\x.from_<S.p.nodes.length)/\(0<=x.to_/\x.to_<S.p.nodes.length):=λx hx=>((dF A.gp).2 x hx).2
 obtain ⟨gf,ga,gb,go,a5,⟨lf,la,lb,lo⟩,⟨d1,d2,d3⟩,⟨d4,d5⟩,d6⟩:=hF
 have ff:=b8 lf
 have fa:=b8 la
 have fb:=b8 lb
 have fo:=b8 lo
 have w:=X.1
 have F:=Z.1
 have b6:∀ H:AHeap,eM H pn=pn:=λH=>uL w
 have W:∀ H:AHeap,eM H E=E:=λH=>uL F
 refine (aG (cfg:=⟨λ_=>false,λr=>match r with|0=>[(2,16),(3,16),(4,16)]|_=>[]⟩) Tz.mixed Tryz.func398 rfl rfl (aE rfl) (by kernel_rfl) ?_)
 have e9:=And.intro (dG (aD:o≠b)) (And.intro (dG (aD:o≠a)) (And.intro (dG (aD:o≠f)) (And.intro (dG (aD:b≠a)) (And.intro (dG (aD:b≠f)) (dG (aD:a≠f))))))
 have Y:=wa gf (wa ga (wa gb (wa go (wa ff (wa fa (wa fb (wa fo (wa @Part.c.eq_1 (wa @Srch.cellP.eq_1 (wa w (wa F (wa b6 (wa W (wa c6 e9))))))))))))))
 refine vJ (λh1=>?_) λh1=>?_
 .have hX:Jq S N ns es i=i:=GX S _ _ aD
  refine wv (h:=?_)
  exact hQ a b _ (by rw [hX];exact ⟨gf,ga,gb,go,a5,⟨by first|exact lf|(simp;omega),by first|exact la|(simp;omega),by first|exact lb|(simp;omega),by first|exact lo|(simp;omega)⟩,⟨d1,d2,d3⟩,⟨d4,d5⟩,d6⟩)
 .have hnf:¬ N<=i.length:=aD
  have c9:=c5 aD
  subst c9
  obtain ⟨U,c0⟩:∃ U,S.p.nodes.length - ns.length=U+1:=⟨S.p.nodes.length - ns.length - 1,aD⟩
  have C:ns.length<S.p.nodes.length:=aD
  have a7:=A.tp _ (aC C)
  have b4:=Iz a7
  obtain ⟨v,V⟩:=cC (S.pn[ns.length]?.getD (-1))
  have a6:=X.2 ns.length C
  rw [<- V] at a6
  have a0:∀ j (hj:j<S.g.nodes.length),okN S ns j=((decide (v<0)||decide (v=(j:Int)))&&(!(S.inj&&mem ns j)&&Ay S.t S.p.nodes[ns.length] S.g.nodes[j])):=λj hj=>by
   simp only [okN,yY,<- V,aA hj,aA C,Option.getD_some]
  have Y:=wa Y (wa (aA C) b4)
  refine wp (h:=bV (λj e H=>∃ s:Nat,∃ q:Nat,∃ n:List Part,(e 0=.ptr f 1 0 0/\e 2=dI ns.length/\e 61=dLI S.g.nodes/\e 62=dI S.g.nodes.length/\e 63=dI j)/\(H.get f=some ⟨400,12,[S.cellP N pn E (.own s ns.length) (.own q 0) (.own o n.length)],false⟩)/\(f<H.next)/\(H.get s=some ⟨3,1,ns.map cI,false⟩)/\(s<H.next)/\(H.get q=some ⟨3,1,[],false⟩)/\(q<H.next)/\(H.get o=some ⟨36,2,n.map Part.c,false⟩)/\(o<H.next)/\(f≠s)/\(f≠q)/\(s≠q)/\(s≠o)/\(q≠o)/\(j<=S.g.nodes.length)/\(n.length<=N)/\(n=(List.range j).foldl (λn k=>if (okN S ns k&&sX S (ns++[(k:Int)]))=true then Qa S N U (ns++[(k:Int)]) n else n) i)) (λj=>S.g.nodes.length - j) 0 ⟨a,b,i,wg,wn,wn,wn,wn,wn,wn,wn,wn,wi,wi,wi,wi,wi,wi,(by exact a5),(by rfl)⟩ λI1 K j e H c4=>?_)
  obtain ⟨s,q,n,E1,b0,R,O,J,M,I,a9,P,e1,e2,e3,e4,e5,hj,l,B⟩:=c4
  have e8:=And.intro (dG (aD:o≠q)) (And.intro (dG (aD:o≠s)) (And.intro (dG (aD:o≠f)) (And.intro (dG (aD:q≠s)) (And.intro (dG (aD:q≠f)) (dG (aD:s≠f))))))
  have Y:=wa Y (wa E1 (wa b0 (wa (b8 R) (wa O (wa (b8 J) (wa M (wa (b8 I) (wa a9 (wa (b8 P) e8)))))))))
  refine d7 (λh5=>?_) λh5=>?_
  .have hEj:=a0 j h5
   have c7:=A.tg _ (aC h5)
   have b5:=LV hv a7 c7
   have Y:=wa Y (wa h5 (wa (aA h5) b5))
   refine wp (h:=aB (a6) wl ?_)
   refine wp (h:=Ic (λhg=>fF ns j) wr (λhg=>wl) (λhg=> rfl) rfl wrd ?_)
   refine vJ (λh8=>?_) λh8=>?_
   .have hE:(okN S ns j&&sX S (ns++[(j:Int)]))=false:=by
     have:okN S ns j=false:=by
      rw [hEj,bN];intro hT;simp at hT
      obtain ⟨c1,c2,c3⟩:=hT
      rcases h8 with (⟨k1,T⟩|k1)|⟨k1,T⟩
      .rcases c1 with c1|c1
       .omega
       .exact T c1
      .rw [k1] at c3;cases c3
      .rcases c2 with c2|c2
       .rw [k1] at c2;cases c2
       .rw [T] at c2;cases c2
     rw [this];rfl
    obtain ⟨u,d⟩:∃ x,x=n:=⟨_,rfl⟩
    obtain ⟨a2,z⟩:∃ x,x=s:=⟨_,rfl⟩
    obtain ⟨b2,y⟩:∃ x,x=q:=⟨_,rfl⟩
    have Y:=wa Y (wa d (wa z y))
    exact wp (h:=wx K (j+1) ⟨a2,b2,u,wg,wn,wn,wn,wn,wn,wn,wn,wn,wj,wj,wj,wj,wj,wj,(by rw [d];first|exact l|exact OR A.gp _ _ l),(by rw [iQ,<- B,d];first|rw [if_pos hE]|rw [if_neg (by rw [hE];simp)])⟩)
   .have hO:okN S ns j=true:=by
     obtain ⟨⟨k1,T⟩,k3⟩:=h8
     have c1:(decide (v<0)||decide (v=(j:Int)))=true:=by simp;omega
     have c2:(S.inj&&mem ns (j:Int))=false:=by cases hI:S.inj;rfl;simp [k3 hI]
     rw [hEj,c1,T,c2];rfl
    have a4:(S.p.nodes.length - (ns++[(j:Int)]).length)+(S.p.edges.length - ([]:List Int).length)=m - 1:=by simp at hm ⊢;omega
    obtain ⟨m',b7⟩:∃ x,x=m - 1:=⟨_,rfl⟩
    rw [<- b7] at a4
    have Y:=wa Y h8
    refine wp (h:=y7 (EA S A.gp A.gg N pn E (dLI []) (.list (n.map Part.c)) w (by simp [D.cl,go_sem]) (by simp [D.cl,Gi]) (ns++[(j:Int)]) Z) wrq wl rfl ?_)
    refine vJ (λL=>?_) λL=>?_
    .have hE:(okN S ns j&&sX S (ns++[(j:Int)]))=true:=by rw [hO,L];rfl
     obtain ⟨u,d⟩:∃ x,x=Qa S N U (ns++[(j:Int)]) n:=⟨_,rfl⟩
     have b9:S.p.nodes.length - (ns.length+1)=U:=aD
     have Y:=wa Y (wa b9 (Eq.symm d))
     refine wv (h:=?_)
     unfold g5
     refine ih m' aD (ns++[(j:Int)]) [] n s q _ _ a4 (by simp;omega) aF (λ_=>rfl) ⟨by simp [go_sem,Y],by simp [go_sem,Y],by simp [go_sem,Y],by simp [go_sem,Y],l,⟨by simp [go_sem];omega,by simp [go_sem];omega,by simp [go_sem];omega,by simp [go_sem];omega⟩,⟨e1,e2,d3⟩,⟨e3,e4⟩,e5⟩ (λa3 b3 H3 a8=>?_)
     rw [GW] at a8
     obtain ⟨d8,e0,d9,d0,f0,⟨f3,f5,f4,f2⟩,⟨x1,x2,x3⟩,⟨x4,x5⟩,x6⟩:=a8
     have e6:=And.intro (b8 (aD:f<H3.next)) (And.intro (b8 (aD:a3<H3.next)) (And.intro (b8 (aD:b3<H3.next)) (b8 (aD:o<H3.next))))
     have e7:=And.intro (dG (aD:o≠b3)) (And.intro (dG (aD:o≠a3)) (And.intro (dG (aD:o≠f)) (And.intro (dG (aD:b3≠a3)) (And.intro (dG (aD:b3≠f)) (dG (aD:a3≠f))))))
     obtain ⟨a2,z⟩:∃ x,x=H3.next:=⟨_,rfl⟩
     obtain ⟨b2,y⟩:∃ x,x=b3:=⟨_,rfl⟩
     have Y:=wa Y (wa d8 (wa e0 (wa d9 (wa d0 (wa e6 (wa e7 (wa z y)))))))
     exact wp (h:=BW (Ghosts.trunc (.refl _) f 0 9 a3 ns.length _ _ _ (by simp [go_sem,Y];rfl) rfl rfl (by simp [go_sem,Y];rfl) (by simp [go_sem,Y]) rfl aD) (j+1) aD ((K _ _ _).2 ⟨a2,b2,u,wg,wn,wn,wn,wn,wn,wn,wn,wn,wj,wj,wj,wj,wj,wj,(by rw [d];first|exact l|exact OR A.gp _ _ l),(by rw [iQ,<- B,d];first|rw [if_pos hE]|rw [if_neg (by rw [hE];simp)])⟩))
    .have hE:(okN S ns j&&sX S (ns++[(j:Int)]))=false:=by rw [hO,L];rfl
     obtain ⟨u,d⟩:∃ x,x=n:=⟨_,rfl⟩
     obtain ⟨a2,z⟩:∃ x,x=H.next+41:=⟨_,rfl⟩
     obtain ⟨b2,y⟩:∃ x,x=q:=⟨_,rfl⟩
     have Y:=wa Y (wa d (wa z y))
     exact wp (h:=BW (Ghosts.trunc (.refl _) f 0 9 s ns.length _ _ _ (by simp [go_sem,Y];rfl) rfl rfl (by simp [go_sem,Y];rfl) (by simp [go_sem,Y]) rfl aD) (j+1) aD ((K _ _ _).2 ⟨a2,b2,u,wg,wn,wn,wn,wn,wn,wn,wn,wn,wj,wj,wj,wj,wj,wj,(by rw [d];first|exact l|exact OR A.gp _ _ l),(by rw [iQ,<- B,d];first|rw [if_pos hE]|rw [if_neg (by rw [hE];simp)])⟩))
  .have hJ:j=S.g.nodes.length:=aD
   have c8:Jq S N ns [] i=n:=by rw [GW,c0];simp only [Qa];rw [if_neg hnf,B,hJ]
   refine wv (h:=?_)
   exact hQ s q _ (by rw [c8];exact ⟨by assumption,by assumption,by assumption,by assumption,l,⟨by assumption,by assumption,by assumption,by assumption⟩,⟨e1,e2,d3⟩,⟨e3,e4⟩,e5⟩)
theorem abP (a k:Nat):a+(k+1) - (a+1)=k+1 - 1:=aD
theorem abO (a k:Nat):a+(k+1) - (a+1)=k:=aD
theorem abN (a k:Nat):a+(k+1) - a=k+1:=aD
theorem J4 (S:Srch)(hG:G17 S.t S.p S.g)(hv:(cH S.t).2=0)(N:Nat)(hN:N<=5001)(pn pe:D)(hpn:GivD pn S.pn S.p.nodes.length)(hpe:GivD pe S.pe S.p.edges.length)(f o:Nat)(m:Nat)(ih:∀ k,k<m->TV S N pn pe f o k)(ns es:List Int)(out:List Part)(a b:Nat)(G:AHeap)(Q:D->AHeap->Prop)(hm:(S.p.nodes.length - ns.length)+(S.p.edges.length - es.length)=m)(hnl:ns.length<=S.p.nodes.length)(hel0:es.length<=S.p.edges.length)(hes:ns.length<S.p.nodes.length->es=[])(hF:FdS f a b o S N pn pe ns es out G)
  (hQ:∀ a' b' H',FdS f a' b' o S N pn pe ns es (Jq S N ns es out) H'->Q (.tup []) H') (hc1:¬ ns.length<S.p.nodes.length) (hc2:es.length<S.p.edges.length) :
  ACalls Tryz.prog 398 [.ptr f 1 0 0] G Q:=by
 have hla:=cJ hG.gp
 have hlb:=cJ hG.gg
 have hib:∀ x∈S.p.edges,(0<=x.from_/\x.from_<S.p.nodes.length)/\(0<=x.to_/\x.to_<S.p.nodes.length):=λx hx=>((dF hG.gp).2 x hx).2
 obtain ⟨gf,ga,gb,go,hle,⟨lf,la,lb,lo⟩,⟨d1,d2,d3⟩,⟨d4,d5⟩,d6⟩:=hF
 have ff:=b8 lf
 have fa:=b8 la
 have fb:=b8 lb
 have fo:=b8 lo
 have hpnc:=hpn.1
 have hpec:=hpe.1
 have hpr:∀ H:AHeap,eM H pn=pn:=λH=>uL hpnc
 have hpr2:∀ H:AHeap,eM H pe=pe:=λH=>uL hpec
 refine (aG (cfg:=⟨λ_=>false,λr=>match r with|0=>[(2,16),(3,16),(4,16)]|_=>[]⟩) Tz.mixed Tryz.func398 rfl rfl (aE rfl) (by kernel_rfl) ?_)
 have di1:=And.intro (dG (aD:o≠b)) (And.intro (dG (aD:o≠a)) (And.intro (dG (aD:o≠f)) (And.intro (dG (aD:b≠a)) (And.intro (dG (aD:b≠f)) (dG (aD:a≠f))))))
 have Y:=wa gf (wa ga (wa gb (wa go (wa ff (wa fa (wa fb (wa fo (wa @Part.c.eq_1 (wa @Srch.cellP.eq_1 (wa hpnc (wa hpec (wa hpr (wa hpr2 (wa hc1 (wa hc2 di1)))))))))))))))
 refine vJ (λh1=>?_) λh1=>?_
 .have hX:Jq S N ns es out=out:=GX S _ _ aD
  refine wv (h:=?_)
  exact hQ a b _ (by rw [hX];exact ⟨gf,ga,gb,go,hle,⟨by first|exact lf|(simp;omega),by first|exact la|(simp;omega),by first|exact lb|(simp;omega),by first|exact lo|(simp;omega)⟩,⟨d1,d2,d3⟩,⟨d4,d5⟩,d6⟩)
 .have hnf:¬ N<=out.length:=aD
  obtain ⟨k',hk'⟩:∃ k',S.p.edges.length - es.length=k'+1:=⟨S.p.edges.length - es.length - 1,aD⟩
  have hmk:m=k'+1:=by rw [<- hm,Nat.sub_eq_zero_of_le (Nat.not_lt.1 hc1),d8,hk']
  have hks:S.p.edges.length=es.length+(k'+1):=aD
  clear hm hk'
  have hel2:es.length<S.p.edges.length:=aD
  have hbx:=hib _ (aC hel2)
  have hf1:S.p.edges[es.length].from_.toNat<ns.length:=aD
  have hft:S.p.edges[es.length].to_.toNat<ns.length:=aD
  refine wp (h:=bV (λj e H=>∃ a1:Nat,∃ b1:Nat,∃ ou:List Part,(e 0=.ptr f 1 0 0/\e 6=dI es.length/\e 162=.list (S.g.edges.map Edge.c)/\e 163=dI S.g.edges.length/\e 164=dI j)/\(H.get f=some ⟨400,12,[S.cellP N pn pe (.own a1 ns.length) (.own b1 es.length) (.own o ou.length)],false⟩)/\(f<H.next)/\(H.get a1=some ⟨3,1,ns.map cI,false⟩)/\(a1<H.next)/\(H.get b1=some ⟨3,1,es.map cI,false⟩)/\(b1<H.next)/\(H.get o=some ⟨36,2,ou.map Part.c,false⟩)/\(o<H.next)/\(f≠a1)/\(f≠b1)/\(a1≠b1)/\(a1≠o)/\(b1≠o)/\(j<=S.g.edges.length)/\(ou.length<=N)/\(ou=(List.range j).foldl (λou k=>if okE S ns es k=true then PY S N ns k' (es++[(k:Int)]) ou else ou) out)) (λj=>S.g.edges.length - j) 0 ⟨a,b,out,wg,wn,wn,wn,wn,wn,wn,wn,wn,wi,wi,wi,wi,wi,wi,(by exact hle),(by rfl)⟩ λI3 hI3 j e H hi3=>?_)
  obtain ⟨a1,b1,ou,E3,gf_3,nf_3,ga1_3,na1_3,gb1_3,nb1_3,go_3,no_3,e1,e2,e3,e4,e5,hj,hou,hst⟩:=hi3
  have di2:=And.intro (dG (aD:o≠b1)) (And.intro (dG (aD:o≠a1)) (And.intro (dG (aD:o≠f)) (And.intro (dG (aD:b1≠a1)) (And.intro (dG (aD:b1≠f)) (dG (aD:a1≠f))))))
  have Y:=wa Y (wa E3 (wa gf_3 (wa (b8 nf_3) (wa ga1_3 (wa (b8 na1_3) (wa gb1_3 (wa (b8 nb1_3) (wa go_3 (wa (b8 no_3) di2)))))))))
  refine d7 (λh17=>?_) λh17=>?_
  .have hEj:okE S ns es j=(EL S ns es.length j&&!(S.inj&&mem es j)):=by
    simp only [okE,EL]
    cases yY S.pe es.length j<;>cases hitE S ns es.length j<;>cases (S.inj&&mem es j)<;>rfl
   have Y:=wa Y h17
   refine wp (h:=y7 (DP S N pn pe (dLI es) (.list (ou.map Part.c)) hpnc (by simp [D.cl,go_sem]) (by simp [D.cl,Gi]) ns es.length j hel2 h17 hpe hbx.1.1 hf1 hbx.2.1 hft) wrq wl rfl ?_)
   refine wp (h:=Cd (λhg=>fF es j) wr (λhg=>wl) (λhg=> rfl) ?_)
   refine vJ (λh19=>?_) λh19=>?_
   .have hE:okE S ns es j=false:=by
     rw [hEj]
     rcases h19 with k1|⟨k1,k2⟩
     .rw [k1];rfl
     .rw [k1,k2];simp
    obtain ⟨ou2,hou2⟩:∃ x,x=ou:=⟨_,rfl⟩
    obtain ⟨a2,ha2⟩:∃ x,x=a1:=⟨_,rfl⟩
    obtain ⟨b2,hb2⟩:∃ x,x=b1:=⟨_,rfl⟩
    have Y:=wa Y (wa hou2 (wa ha2 hb2))
    exact wp (h:=wx hI3 (j+1) ⟨a2,b2,ou2,wg,wn,wn,wn,wn,wn,wn,wn,wn,wj,wj,wj,wj,wj,wj,(by rw [hou2];first|exact hou|exact SA _ _ _ _ hou),(by rw [iQ,<- hst,hou2];first|rw [if_pos hE]|rw [if_neg (by rw [hE];simp)])⟩)
   .have hE:okE S ns es j=true:=by
     obtain ⟨k1,k2⟩:=h19
     have c2:(S.inj&&mem es (j:Int))=false:=by cases hI:S.inj;rfl;simp [k2 hI]
     rw [hEj,k1,c2];rfl
    have hm1:(S.p.nodes.length - ns.length)+(S.p.edges.length - (es++[(j:Int)]).length)=m - 1:=by
     rw [Nat.sub_eq_zero_of_le (Nat.not_lt.1 hc1),aJ,pP,d8,hks,hmk];exact abP _ _
    have hmm:m - 1<m:=by rw [hmk];exact Nat.lt_succ_self k'
    obtain ⟨m',hm'⟩:∃ x,x=m - 1:=⟨_,rfl⟩
    rw [<- hm'] at hm1 hmm
    obtain ⟨ou2,hou2⟩:∃ x,x=PY S N ns k' (es++[(j:Int)]) ou:=⟨_,rfl⟩
    have hfd:Jq S N ns (es++[(j:Int)]) ou=ou2:=by
     have hk3:S.p.edges.length - (es++[(j:Int)]).length=k':=by
      rw [aJ,pP,hks];exact abO _ _
     rw [hou2];unfold Jq;rw [if_neg (aD:¬ ns.length<S.p.nodes.length),hk3]
    have Y:=wa Y (wa h19 hfd)
    refine wp (h:=?_)
    unfold g5
    refine ih m' hmm ns (es++[(j:Int)]) ou a1 b1 _ _ hm1 aD (by simp;omega) (λh=>absurd h aD) ⟨by simp [go_sem,Y],by simp [go_sem,Y],by simp [go_sem,Y],by simp [go_sem,Y],hou,⟨by simp [go_sem];omega,by simp [go_sem];omega,by simp [go_sem];omega,by simp [go_sem];omega⟩,⟨e1,e2,d3⟩,⟨e3,e4⟩,e5⟩ (λa3 b3 H3 hF3=>?_)
    obtain ⟨gf3,ga3,gb3,go3,hle3,⟨lf3,la3,lb3,lo3⟩,⟨x1,x2,x3⟩,⟨x4,x5⟩,x6⟩:=hF3
    have fr3:=And.intro (b8 (aD:f<H3.next)) (And.intro (b8 (aD:a3<H3.next)) (And.intro (b8 (aD:b3<H3.next)) (b8 (aD:o<H3.next))))
    have di4:=And.intro (dG (aD:o≠b3)) (And.intro (dG (aD:o≠a3)) (And.intro (dG (aD:o≠f)) (And.intro (dG (aD:b3≠a3)) (And.intro (dG (aD:b3≠f)) (dG (aD:a3≠f))))))
    obtain ⟨a2,ha2⟩:∃ x,x=a3:=⟨_,rfl⟩
    obtain ⟨b2,hb2⟩:∃ x,x=H3.next:=⟨_,rfl⟩
    have Y:=wa Y (wa gf3 (wa ga3 (wa gb3 (wa go3 (wa fr3 (wa di4 (wa ha2 hb2)))))))
    exact wp (h:=BW (Ghosts.trunc (.refl _) f 0 10 b3 es.length _ _ _ (by simp [go_sem,Y];rfl) rfl rfl (by simp [go_sem,Y];rfl) (by simp [go_sem,Y]) rfl aD) (j+1) aD ((hI3 _ _ _).2 ⟨a2,b2,ou2,wg,wn,wn,wn,wn,wn,wn,wn,wn,wj,wj,wj,wj,wj,wj,(by rw [hou2];first|exact hou|exact SA _ _ _ _ hou),(by rw [iQ,<- hst,hou2];first|rw [if_pos hE]|rw [if_neg (by rw [hE];simp)])⟩))
  .have hJ:j=S.g.edges.length:=aD
   have hk2:S.p.edges.length - es.length=k'+1:=by
    rw [hks];exact abN _ _
   have hOV:Jq S N ns es out=ou:=by unfold Jq;rw [if_neg hc1,hk2];simp only [PY];rw [if_neg hnf,hst,hJ]
   refine wv (h:=?_)
   exact hQ a1 b1 _ (by rw [hOV];exact ⟨by assumption,by assumption,by assumption,by assumption,hou,⟨by assumption,by assumption,by assumption,by assumption⟩,⟨e1,e2,d3⟩,⟨e3,e4⟩,e5⟩)
theorem J3 (S:Srch)(A:G17 S.t S.p S.g)(hv:(cH S.t).2=0)(N:Nat)(hN:N<=5001)(j l:D)(s:GivD j S.pn S.p.nodes.length)(u:GivD l S.pe S.p.edges.length)(f o:Nat)(m:Nat)(ih:∀ k,k<m->TV S N j l f o k)(ns es:List Int)(d:List Part)(a b:Nat)(G:AHeap)(Q:D->AHeap->Prop)(hm:(S.p.nodes.length - ns.length)+(S.p.edges.length - es.length)=m)(a0:ns.length<=S.p.nodes.length)(J:es.length<=S.p.edges.length)(a4:ns.length<S.p.nodes.length->es=[])(hF:FdS f a b o S N j l ns es d G)
  (K:∀ a' b' H',FdS f a' b' o S N j l ns es (Jq S N ns es d) H'->Q (.tup []) H') (y:¬ ns.length<S.p.nodes.length) (w:¬ es.length<S.p.edges.length) :
  ACalls Tryz.prog 398 [.ptr f 1 0 0] G Q:=by
 have a2:=cJ A.gp
 have a1:=cJ A.gg
 have a3:∀ x∈S.p.edges,(0<=x.from_/\x.from_<S.p.nodes.length)/\(0<=x.to_/\x.to_<S.p.nodes.length):=λx Z=>((dF A.gp).2 x Z).2
 obtain ⟨M,P,O,L,v,⟨E,I,F,C⟩,⟨X,W,V⟩,⟨U,T⟩,R⟩:=hF
 have ff:=b8 E
 have fa:=b8 I
 have fb:=b8 F
 have fo:=b8 C
 have e:=s.1
 have i:=u.1
 have q:∀ H:AHeap,eM H j=j:=λH=>uL e
 have n:∀ H:AHeap,eM H l=l:=λH=>uL i
 refine (aG (cfg:=⟨λ_=>false,λr=>match r with|0=>[(2,16),(3,16),(4,16)]|_=>[]⟩) Tz.mixed Tryz.func398 rfl rfl (aE rfl) (by kernel_rfl) ?_)
 have B:=And.intro (dG (aD:o≠b)) (And.intro (dG (aD:o≠a)) (And.intro (dG (aD:o≠f)) (And.intro (dG (aD:b≠a)) (And.intro (dG (aD:b≠f)) (dG (aD:a≠f))))))
 have Y:=wa M (wa P (wa O (wa L (wa ff (wa fa (wa fb (wa fo (wa @Part.c.eq_1 (wa @Srch.cellP.eq_1 (wa e (wa i (wa q (wa n (wa y (wa w B)))))))))))))))
 refine vJ (λh1=>?_) λh1=>?_
 .have z:Jq S N ns es d=d:=GX S _ _ aD
  refine wv (h:=?_)
  exact K a b _ (by rw [z];exact ⟨M,P,O,L,v,⟨by first|exact E|(simp;omega),by first|exact I|(simp;omega),by first|exact F|(simp;omega),by first|exact C|(simp;omega)⟩,⟨X,W,V⟩,⟨U,T⟩,R⟩)
 .have hnf:¬ N<=d.length:=aD
  have z:Jq S N ns es d=d++[⟨ns,es⟩]:=by
   unfold Jq;rw [if_neg aD,(aD:S.p.edges.length - es.length=0)];simp only [PY];rw [if_neg hnf]
  refine wp (h:=?_)
  refine j6 (kK ns aD) (by simp [go_sem,Y,dLI]) (by simp [go_sem]) (Eg _) rfl (by simp [go_sem]) ?_
  refine wp (h:=?_)
  refine j6 (kK es aD) (by simp [go_sem,Y,dLI]) (by simp [go_sem]) (Eg _) rfl (by simp [go_sem]) ?_
  refine wp (h:=?_)
  exact K a b _ (by rw [z];exact ⟨by simp [go_sem,Y],by simp [go_sem,Y],by simp [go_sem,Y],by simp [go_sem,Y],by simp;omega,⟨by simp [go_sem];omega,by simp [go_sem];omega,by simp [go_sem];omega,by simp [go_sem];omega⟩,⟨X,W,V⟩,⟨U,T⟩,R⟩)
theorem LM (S:Srch)(v:G17 S.t S.p S.g)(q:(cH S.t).2=0)(N:Nat)(u:N<=5001)(l n:D)(e:GivD l S.pn S.p.nodes.length)(h:GivD n S.pe S.p.edges.length)(f o:Nat) :
  ∀ (m:Nat) (ns es:List Int) (c:List Part) (a b:Nat) (G:AHeap) (Q:D->AHeap->Prop),(S.p.nodes.length - ns.length)+(S.p.edges.length - es.length)=m->ns.length<=S.p.nodes.length->es.length<=S.p.edges.length->(ns.length<S.p.nodes.length->es=[])->FdS f a b o S N l n ns es c G ->
  (∀ a' b' H',FdS f a' b' o S N l n ns es (Jq S N ns es c) H'->Q (.tup []) H')->ACalls Tryz.prog 398 [.ptr f 1 0 0] G Q:=by
 intro m
 induction m using Nat.strongRecOn with
 | _ m ih =>
 intro ns es c a b G Q r i d j w s
 by_cases k:ns.length<S.p.nodes.length
 .exact J5 S v q N u l n e h f o m ih ns es c a b G Q r i d j w s k
 .by_cases hc2:es.length<S.p.edges.length
  .exact J4 S v q N u l n e h f o m ih ns es c a b G Q r i d j w s k hc2
  .exact J3 S v q N u l n e h f o m ih ns es c a b G Q r i d j w s k hc2
theorem J2 (S:Srch)(v:G17 S.t S.p S.g)(x:S.t.ok)(w:(cH S.t).2=0)(N:Nat)(B:N<=5001)(l m:D)(f:GivD l S.pn S.p.nodes.length)(j:GivD m S.pe S.p.edges.length)(n:l.cell=true)(o:m.cell=true){L:List Part}(C:L=(allM S).take N) :
  Pure Tryz.prog 346 [S.t.d,S.p.d,S.g.d,.agg [l,m],.bool S.inj,dI N] (.list (L.map Part.c)):=by
 have q:Jq S N [] [] []=L:=by rw [GW,OS v.gp N _ _ _ aF,C];simp [allM]
 have e:=f.1
 have i:=j.1
 have a:=n
 have b:=o
 unfold D.cell at a b
 refine tT (by first|rfl|(simp [go_sem];done)) (λQ A=>(aG (cfg:=⟨λt=>t==22,λ_=>[]⟩) Tz.mixed Tryz.func346 rfl rfl (aE rfl) (by kernel_rfl) ?_))
 have Y:=wa e (wa i (wa @belowD.eq_1 (wa a b)))
 refine wv (h:=aM (BB S.t x) wl ?_)
 refine wv (h:=?_)
 refine Cw (.step (.step (.step (.refl _) 8 0 9 3 1 _ _ (by simp [go_sem];rfl) rfl rfl rfl) 8 0 10 3 1 _ _ (by simp [go_sem];rfl) rfl rfl rfl) 8 0 11 36 2 _ _ (by simp [go_sem];rfl) rfl rfl rfl) ?_
 simp [go_sem]
 unfold g5
 refine LM S v w N B l m f j 8 12 _ [] [] [] 10 11 _ _ rfl aF aF (λ_=>rfl) ⟨by simp [go_sem,Srch.cellP,Graph.c,dLI,dI],by simp [go_sem],by simp [go_sem],by simp [go_sem],by simp,by simp [go_sem],by simp,by simp,by simp⟩ (λH G I k=>?_)
 rw [q] at k
 obtain ⟨s,F,E,r,u,y,z⟩:=k
 have Y:=wa Y (wa s (wa r @Srch.cellP.eq_1))
 refine wv (h:=?_)
 exact A _ _ (by simp [go_sem,Y,oM,SZ])
theorem FH (t:Types)(z:t.ok)(y:(cH t).2=0)(p g:Graph)(A:G17 t p g)(o s:List Int)(a:Bool)(n q:D)(i:GivD n o p.nodes.length)(k:GivD q s p.edges.length)(l:n.cell=true)(m:q.cell=true){w:List Part × Int}(x:w=xM (allM ⟨t,p,g,o,s,a⟩)) :
  Pure Tryz.prog 269 [t.d,p.d,g.d,.agg [n,q],.bool a] (.tup [.list (w.1.map Part.c),dI w.2]):=by
 obtain ⟨L,v⟩:=cC ((allM ⟨t,p,g,o,s,a⟩).take 5001)
 have r:w=if 5000<L.length then ([],3) else (L,0):=by rw [x];unfold xM;rw [<- v]
 have f:=i.1
 have j:=k.1
 have b:=l
 have e:=m
 unfold D.cell at b e
 refine Tz.pK ⟨λ_=>false,λ_=>[]⟩ Tryz.func269 rfl (λQ u=>?_)
 have Y:=wa f (wa j (wa b e))
 refine wv (h:=aB (J2 ⟨t,p,g,o,s,a⟩ A z y 5001 aD n q i k l m v) wl ?_)
 refine f9 (λB=>?_) λB=>?_
 .rw [if_pos aD] at r
  exact wv (h:=u _ _ (by simp [go_sem,r]))
 .rw [if_neg aD] at r
  exact wv (h:=u _ _ (by simp [go_sem,r]))
theorem zX {t:Types}{p g:Graph}(h:dM t p g=0):(cH t).2=0:=by
 unfold dM at h
 split at h
 .exact absurd h (by assumption)
 .rename_i h1;simpa using h1
theorem On (t:Types)(i:t.ok)(p g:Graph)(a:Bool):Pure Tryz.prog 177 [t.d,p.d,g.d,.bool a] (.tup [.list ((nO t p g a).1.map Part.c),dI (nO t p g a).2]):=by
 refine Tz.pK ⟨λ_=>false,λ_=>[]⟩ Tryz.func177 rfl (λQ j=>?_)
 have Y:=trivial
 refine wv (h:=aB (qV t i p g) wl ?_)
 refine d7 (λb=>?_) λb=>?_
 .have e:nO t p g a=([],dM t p g):=by unfold nO;rw [if_pos (bS b)]
  exact wv (h:=j _ _ (by simp [go_sem,e]))
 .have hG:=o8 (bS b)
  have k:=zX (bS b)
  obtain ⟨w,f⟩:=cC (xM (allM ⟨t,p,g,List.replicate p.nodes.length (-1),List.replicate p.edges.length (-1),a⟩))
  have e:nO t p g a=w:=by unfold nO;rw [if_neg (bS b),f]
  refine wv (h:=aB (FH t i k p g hG _ _ a .nil .nil (GivD.nil _) (GivD.nil _) rfl rfl f) wl ?_)
  exact wv (h:=j _ _ (by simp [go_sem,e]))
theorem HL (t:Types)(l:t.ok)(p g:Graph)(q:Part)(a:Bool):Pure Tryz.prog 458 [t.d,p.d,g.d,q.d,.bool a] (.tup [.list ((mZ t p g q a).1.map Part.c),dI (mZ t p g q a).2]):=by
 refine Tz.pK ⟨λ_=>false,λ_=>[]⟩ Tryz.func458 rfl (λQ i=>?_)
 have Y:=trivial
 refine wv (h:=aB (qV t l p g) wl ?_)
 refine d7 (λe=>?_) λe=>?_
 .have b:mZ t p g q a=([],dM t p g):=by unfold mZ;rw [if_pos (bS e)]
  exact wv (h:=i _ _ (by simp [go_sem,b]))
 .have hG:=o8 (bS e)
  have m:=zX (bS e)
  refine f9 (λn=>?_) λn=>?_
  .have b:mZ t p g q a=([],20):=by unfold mZ;rw [if_neg (bS e),if_pos aD]
   exact wv (h:=i _ _ (by simp [go_sem,b]))
  .have hq:q.nodes.length=p.nodes.length/\q.edges.length=p.edges.length:=aD
   refine wo (h:=aB (DO q.nodes g.nodes.length) wl ?_)
   refine f9 (λj=>?_) λj=>?_
   .have b:mZ t p g q a=([],qN q.nodes g.nodes.length):=by unfold mZ;rw [if_neg (bS e),if_neg aD,if_pos (bS j)]
    exact wv (h:=i _ _ (by simp [go_sem,b]))
   .have h7':qN q.nodes g.nodes.length=0:=by simpa using j
    refine wo (h:=aB (DO q.edges g.edges.length) wl ?_)
    refine f9 (λf=>?_) λf=>?_
    .have b:mZ t p g q a=([],qN q.edges g.edges.length):=by unfold mZ;rw [if_neg (bS e),if_neg aD,if_neg aD,if_pos (bS f)]
     exact wv (h:=i _ _ (by simp [go_sem,b]))
    .have h10':qN q.edges g.edges.length=0:=by simpa using f
     obtain ⟨w,k⟩:=cC (xM (allM ⟨t,p,g,q.nodes,q.edges,a⟩))
     have b:mZ t p g q a=w:=by unfold mZ;rw [if_neg (bS e),if_neg aD,if_neg aD,if_neg aD,k]
     refine wv (h:=aB (FH t l m p g hG q.nodes q.edges a (dLI q.nodes) (dLI q.edges) (hq.1 ▸ GivD.list q.nodes) (hq.2 ▸ GivD.list q.edges) rfl rfl k) wl ?_)
     exact wv (h:=i _ _ (by simp [go_sem,b]))
theorem Vu (l:List Edge):∀ d∈(l.map Edge.c).flatten,d.flat=true:=by
 intro d a
 rw [i9] at a
 obtain ⟨c,b,a⟩:=a
 rw [aQ] at b
 obtain ⟨x,_,rfl⟩:=b
 simp only [Edge.c,bP,i7,or_false] at a
 rcases a with rfl|rfl|rfl<;>rfl
theorem EB (t:Types)(B:t.ok)(p g:Graph)(m:Part):Pure Tryz.prog 139 [t.d,p.d,g.d,m.d] (.tup [(Kv t p g m).d,dI (checkE t p g m false)]):=by
 refine Tz.pK ⟨λt=>t==8||t==12,λr=>match r with|11=>[(0,7),(1,7)]|_=>[]⟩ Tryz.func139 rfl (λQ y=>?_)
 have Y:=trivial
 refine wv (h:=aB (qV t B p g) wl ?_)
 refine d7 (λf=>?_) λf=>?_
 .have b:checkE t p g m false=dM t p g:=by unfold checkE;rw [if_pos (bS f)]
  have n:Kv t p g m=⟨[],[]⟩:=by unfold Kv;rw [if_neg (by rw [b];simpa using f)]
  exact wv (h:=y _ _ (by simp [go_sem,n,b]))
 .have hG:=o8 (bS f)
  have D:=zX (bS f)
  have G:=cJ hG.gp
  have F:=cJ hG.gg
  have b:checkE t p g m false=matchE t p g m false:=by unfold checkE;rw [if_neg (bS f)]
  refine wv (h:=aB (BA t B p g hG D m) wl ?_)
  refine d7 (λA=>?_) λA=>?_
  .have n:Kv t p g m=⟨[],[]⟩:=by unfold Kv;rw [if_neg (by rw [b];simpa using A)]
   exact wv (h:=y _ _ (by simp [go_sem,n,b]))
  .have hM:matchE t p g m false=0:=by simpa using A
   obtain ⟨⟨J,I⟩,w,E⟩:=Dd hM
   have n:Kv t p g m=nI p g m:=by unfold Kv;rw [if_pos (by rw [b];exact hM)]
   refine wv (h:=?_)
   refine PD (Hd p.edges aD) (by simp [go_sem]) (by simp [go_sem]) (Vu _) ?_
   refine wp (h:=tX (Ghosts.step (Ghosts.refl _) 1 0 0 3 1 _ _ (rfl) rfl rfl rfl) (λi e H=>∃ a:List Int,(e 4=.adr t.c/\e 5=.adr p.c/\e 6=.adr g.c/\e 7=.adr m.c/\e 8=.ptr 0 1 0 0/\e 12=.ptr 1 1 0 0/\e 37=dLI m.nodes/\e 38=dI m.nodes.length/\e 39=dI i)/\(H.get 0=some ⟨29,2,[[.nil,.nil]],false⟩)/\(0<H.next)/\(H.get 1=some ⟨29,2,[[.own 2 a.length,.list (p.edges.map Edge.c)]],false⟩)/\(1<H.next)/\(H.get 2=some ⟨3,1,a.map cI,false⟩)/\(2<H.next)/\(i<=m.nodes.length)/\(a=(m.nodes.take i).map (gN g))) (λi=>m.nodes.length - i) 0 ⟨([]),wg,wn,wn,wn,wn,wn,wn,wi,(by rfl)⟩ λN z i e H x=>?_)
   obtain ⟨a,L,u,l,s,k,q,j,M,v⟩:=x
   have Y:=wa Y (wa L (wa u (wa (b8 l) (wa s (wa (b8 k) (wa q (b8 j)))))))
   refine d7 (λo=>?_) λo=>?_
   .have hmi:=w _ (aC o)
    have K:m.nodes[i].toNat<g.nodes.length:=aD
    have C:a.length=i:=by rw [v];simp;omega
    have Y:=wa Y (wa o (wa (aA o) (wa (aA K) @gN.eq_1)))
    exact wp (h:=wx z (i+1) ⟨(a++[gN g m.nodes[i]]),wg,wn,wn,wn,wn,wn,wn,wj,(by rw [lA _ o,<- v])⟩)
   .have hX:a=m.nodes.map (gN g):=by rw [v,mJ _ aD]
    exact wv (h:=y _ _ (by simp [go_sem,Y,n,b,hM,nI,Graph.d,Graph.c,hX,dLI]))
end Go.Abs
end
