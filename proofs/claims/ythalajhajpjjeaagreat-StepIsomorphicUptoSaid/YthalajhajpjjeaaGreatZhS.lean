/- Conditions of the program: given, Witness, Satisfies. · The  -/
import Derived.Test.YthalajhajpjjeaaGreatZhF
import Derived.Test.YthalajhajpjjeaaGreatZhR
import Derived.Test.YthalajhajpjjeaaGreatZhA
set_option linter.unusedVariables false
set_option linter.unusedSimpArgs false
section
set_option maxRecDepth 100000
set_option maxHeartbeats 4000000
open Go Go.Proofs
namespace Go.Abs
def U0 (t:Types)(p:Pattern)(c:Cond)(h:Host)(m:Mat)(inj:Bool):Int :=
 if condF t p c≠0 then condF t p c
 else if fA t h≠0 then fA t h
 else if checkE t p.graph h.graph m.m inj≠0 then checkE t p.graph h.graph m.m inj
 else if (eL t p h m.m).2≠0 then (eL t p h m.m).2
 else if (eL t p h m.m).1≠m.vars then 11 else 0
theorem EO (t:Types)(g:t.ok)(p:Pattern)(c:Cond)(o:c.ok)(n:c.size<=1000000)(h:Host)(m:Mat)(a:Bool):Pure Tryz.prog 331 [t.d,p.d,.agg c.c,h.d,m.d,.bool a] (dI (U0 t p c h m a)):=by
 refine Tz.pK ⟨λ_=>false,λ_=>[]⟩ Tryz.func331 rfl (λQ f=>?_)
 have Y:=wa @Cond.c_eq (wa @Pattern.d.eq_1 (wa @Pattern.c.eq_1 (wa @Host.d.eq_1 (wa @Host.c.eq_1 (wa @Mat.d.eq_1 (wa @Mat.c.eq_1 (wa @Graph.c.eq_1 @Part.c.eq_1)))))))
 refine wv (h:=aB ((by have i:=w8 t g p c o n;rw [Cond.c_eq] at i;unfold Types.d Types.c Pattern.d Pattern.c dLI dI at i;exact i)) wl ?_)
 refine d7 (λl=>?_) λl=>?_
 .have hM:U0 t p c h m a=condF t p c:=by unfold U0;rw [if_pos l]
  exact wv (h:=f _ _ (by simp [go_sem,hM]))
 .have hM:U0 t p c h m a=if fA t h≠0 then fA t h else if checkE t p.graph h.graph m.m a≠0 then checkE t p.graph h.graph m.m a else if (eL t p h m.m).2≠0 then (eL t p h m.m).2 else if (eL t p h m.m).1≠m.vars then 11 else 0:=by unfold U0;rw [if_neg (bS l)]
  refine wv (h:=aB (wB t g h) wl ?_)
  refine d7 (λk=>?_) λk=>?_
  .have h5':fA t h≠0:=k
   rw [if_pos h5'] at hM
   exact wv (h:=f _ _ (by simp [go_sem,hM,fA]))
  .have h5':¬ fA t h≠0:=by unfold fA;simpa using k
   rw [if_neg h5'] at hM
   refine wv (h:=aB (vQ t g p.graph h.graph m.m a) wl ?_)
   refine d7 (λj=>?_) λj=>?_
   .rw [if_pos (bS j)] at hM
    exact wv (h:=f _ _ (by simp [go_sem,hM]))
   .rw [if_neg (bS j)] at hM
    refine wv (h:=aB (xD t g p h m.m) wl ?_)
    refine d7 (λe=>?_) λe=>?_
    .rw [if_pos (bS e)] at hM
     exact wv (h:=f _ _ (by simp [go_sem,hM]))
    .rw [if_neg (bS e)] at hM
     refine wp (h:=aB (u9 (eL t p h m.m).1 m.vars) wl ?_)
     refine vJ (λb=>?_) λb=>?_
     .rw [if_pos (bS b)] at hM
      exact wv (h:=f _ _ (by simp [go_sem,hM]))
     .rw [if_neg (bS b)] at hM
      exact wv (h:=f _ _ (by simp [go_sem,hM]))
theorem Ct (t:Types)(f:t.ok)(p:Pattern)(c:Cond)(o:c.ok)(g:CondV t p c)(k:PatOk t p)(h:Host)(l:HostOk t h)(m:Mat)(n:MatOk t p h m)(a:Bool)(r:U0 t p c h m a=0) :
  Pure Tryz.prog 239 [t.d,p.d,.agg c.c,h.d,m.d,.bool a] (.tup [.agg (N5 t h a c m).1.c,dI (N5 t h a c m).2]):=by
 obtain ⟨w,s,u,v,e,j,i⟩:=CL t h a c m
 refine tT (by first|rfl|(simp [go_sem];done)) (λQ q=>(aG (cfg:=⟨λt=>t==12,λ_=>[]⟩) Tz.mixed Tryz.func239 rfl rfl (aE rfl) (by kernel_rfl) ?_))
 have Y:=wa @Cond.c_eq (wa @scnC.eq_1 (wa @Pattern.d.eq_1 (wa @Pattern.c.eq_1 (wa @Host.d.eq_1 (wa @Host.c.eq_1 (wa @Mat.d.eq_1 (wa @Mat.c.eq_1 @Prf.c_eq)))))))
 refine wv (h:=aB ((by have b:=EO t f p c o g.sz h m a;rw [r,Cond.c_eq] at b;unfold Types.d Types.c Pattern.d Pattern.c Host.d Host.c Mat.d Mat.c dLI dI at b;exact b)) wl ?_)
 refine wv (h:=aB ((by have b:=HM t f h l a c p g k m n;simp only [e,Prf.c_eq,Cond.c_eq] at b;unfold scnC Mat.d Mat.c dLI dI at b;exact b)) wl ?_)
 refine wv (h:=?_)
 exact q _ _ (by simp [go_sem,Y,e,Prf.c_eq,oM,kJ,eI,dLI,fZ,kW])
theorem Av (t:Types)(n:t.ok)(p:Pattern)(c:Cond)(s:c.ok)(u:CondV t p c)(o:PatOk t p)(h:Host)(q:HostOk t h)(m:Mat)(r:MatOk t p h m)(a:Bool)(v:U0 t p c h m a=0) :
  Pure Tryz.prog 141 [t.d,p.d,.agg c.c,h.d,m.d,.bool a] (.tup [.bool (qR t h a c m).1,dI (qR t h a c m).2]):=by
 obtain ⟨y,w,x,e,l,f,k⟩:=CL t h a c m
 have b:qR t h a c m=if e=10 then (false,0) else (decide (e=0),e):=by unfold qR Fg;rw [f]
 refine Tz.pK ⟨λt=>t==14,λ_=>[]⟩ Tryz.func141 rfl (λQ j=>?_)
 have Y:=wa @Cond.c_eq (wa @Pattern.d.eq_1 (wa @Pattern.c.eq_1 (wa @Host.d.eq_1 (wa @Host.c.eq_1 (wa @Mat.d.eq_1 (wa @Mat.c.eq_1 @Prf.c_eq))))))
 refine wv (h:=aB ((by have g:=Ct t n p c s u o h q m r a v;simp only [l,Prf.c_eq,Cond.c_eq] at g;unfold Types.d Types.c Pattern.d Pattern.c Host.d Host.c Mat.d Mat.c dLI dI at g;exact g)) wl ?_)
 refine d7 (λi=>?_) λi=>?_
 .rw [if_pos (bS i)] at b
  exact wv (h:=j _ _ (by simp [go_sem,b]))
 .rw [if_neg (bS i)] at b
  exact wv (h:=j _ _ (by simp [go_sem,b,Ql]))
theorem Ai {l:List Int}(b:l.Pairwise (· < ·))(v:Int):iM l l.length v=if mem l v=true then (pY l v:Int) else -1:=by
 by_cases h:mem l v=true
 .rw [if_pos h,<- B8 b h]
  obtain ⟨p,d,e⟩:=aK ((cQ l v).1 h)
  have c:=dH.1 b
  rw [u3 (i:=p) (λj k f=>by
   have a:j<l.length:=aD
   rw [aA a] at f
   have:=c j p a d k
   simp at f;omega) (by rw [aA d,e]),<- e,oI (nM b) d]
 .rw [if_neg h,pB (λg=>h ((cQ _ _).2 g)) _ (bC _)]
def Ez (d:List Int)(n i:Nat):List Int:=zA d i++List.replicate (n - i) 0
theorem Fo {d:List Int}{n i:Nat}(h:i<=n):(Ez d n i).length=n:=by simp [Ez,rH];omega
theorem Lw {d:List Int}{n i:Nat}(h:i<n):(Ez d n i).set i (iM d d.length i)=Ez d n (i+1):=by
 unfold Ez
 rw [List.set_append_right _ _ (by rw [rH];omega),rH,Nat.sub_self,PL,show n - i=(n - (i+1))+1 by omega,sJ,uF,List.append_assoc];rfl
theorem Fr (n:Nat)(s:n<=1000000)(d:List Int)(m:d.Pairwise (· < ·))(o:d.length<=1000000):Pure Tryz.prog 144 [dI n,dLI d] (dLI (mM d n)):=by
 refine Tz.pK ⟨λ_=>false,λ_=>[]⟩ Tryz.func144 rfl (λQ q=>?_)
 have Y:=trivial
 refine wp (h:=bV (λi e H=>(e 1=dLI d/\e 5=.own 0 n/\e 12=dI n/\e 13=dI i)/\(H.get 0=some ⟨3,1,(Ez d n i).map cI,false⟩)/\(0<H.next)/\(i<=n)) (λi=>n - i) 0 ⟨wg,(by simp [go_sem,Ez,zA,cI]),wn,wi⟩ λu c i e H k=>?_)
 obtain ⟨r,g,b,t⟩:=k
 have Y:=wa Y (wa r (wa g (b8 b)))
 refine d7 (λf=>?_) λf=>?_
 .have hB:=Ai m (i:Int)
  have j:i<(Ez d n i).length:=by rw [Fo aD];exact f
  have a:(Ez d n i).length=n:=Fo aD
  have Y:=wa Y (wa f (wa (aA j) a))
  refine wv (h:=aB (tL d i m o) wl ?_)
  refine vJ (λl=>?_) λl=>?_
  .rw [if_neg (bS l)] at hB
   have Y:=wa Y hB
   exact wp (h:=wx c (i+1) ⟨wg,(by simp [go_sem,Y,<- Lw f,dU,cI]),wn,wj⟩)
  .rw [if_pos (bS l)] at hB
   have Y:=wa Y hB
   exact wp (h:=wx c (i+1) ⟨wg,(by simp [go_sem,Y,<- Lw f,dU,cI]),wn,wj⟩)
 .have a:(Ez d n i).length=n:=Fo aD
  have p:mM d n=Ez d n i:=by unfold Ez mM;rw [(aD:i=n)];simp
  have Y:=wa Y a
  exact wv (h:=q _ _ (by simp [go_sem,Y,p,dLI]))
/-! ### comatch -/
def Tx (keep into at_:List Int)(n j:Nat):Int:=if 0<=iM into n j then at_[(keep[(iM into n j).toNat]?.getD 0).toNat]?.getD 0 else -1
def Pu (keep into at_:List Int)(count n:Nat):List Int:=(List.range count).map (Tx keep into at_ n)
def Hc (keep into at_:List Int)(count remain i:Nat):List Int:=(List.range count).map λj=>if j<i then Lg keep into at_ remain j else Tx keep into at_ into.length j
theorem UZ (keep b at_:List Int)(a n:Nat):(Pu keep b at_ a n).length=a:=by simp [Pu]
theorem KK (keep c at_:List Int)(a b i:Nat):(Hc keep c at_ a b i).length=a:=by simp [Hc]
theorem TA (keep b at_:List Int)(a:Nat):Pu keep b at_ a 0=List.replicate a (-1):=by
 apply eW (by simp [Pu]);intro i d c;simp [Pu,Tx,iM]
theorem TB (keep a at_:List Int)(b n:Nat)(h:n<a.length)(f:0<=a[n]):Pu keep a at_ b (n+1)=(Pu keep a at_ b n).set a[n].toNat (at_[(keep[n]?.getD 0).toNat]?.getD 0):=by
 apply eW (by simp [Pu]);intro i e d
 rw [Al]
 simp only [Pu,jB,oO,Tx,wK,aA h,Option.getD_some]
 by_cases c:a[n]=(i:Int)
 .rw [if_pos c,if_pos aD,if_pos aD,Int.toNat_natCast]
 .rw [if_neg c,if_neg (aD:¬ a[n].toNat=i)]
theorem Ty (keep a at_:List Int)(b c:Nat):Hc keep a at_ b c 0=Pu keep a at_ b a.length:=by simp [Hc,Pu]
theorem UW (keep c at_:List Int)(b a:Nat){i:Nat}(h:i<b):(Hc keep c at_ b a i).set i (Lg keep c at_ a i)=Hc keep c at_ b a (i+1):=by
 apply eW (by simp [Hc]);intro j g f
 rw [Al]
 simp only [Hc,jB,oO]
 by_cases d:i=j
 .subst d;rw [if_pos rfl,if_pos aD]
 .rw [if_neg d]
  by_cases e:j<i
  .rw [if_pos e,if_pos aD]
  .rw [if_neg e,if_neg aD]
theorem UY (keep c at_:List Int)(a b:Nat):Hc keep c at_ a b a=N4 keep c at_ a b:=by
 unfold Hc N4
 exact bW λj d=>by rw [if_pos (aR.1 d)]
theorem UX (keep a at_:List Int)(b c:Nat){i:Nat}(h:i<b):(Hc keep a at_ b c i)[i]?=some (Tx keep a at_ a.length i):=by
 simp [Hc,h]
theorem Bv (b:Nat)(hc:b<=1000)(keep a c d:List Int)(n:Nat)(hn:n<=1000)(hl:a.length<=keep.length)(L:∀ x∈a,0<=x/\x<b)(K:∀ x∈keep,0<=x/\x<c.length)(I:∀ x∈keep,0<=iA c x/\iA c x<d.length)
  (X:∀ x∈keep,0<=(uE c d)[x.toNat]?.getD 0):Pure Tryz.prog 145 [dI b,dLI keep,dLI a,dLI c,dLI d,dI n] (dLI (N4 keep a (uE c d) b n)):=by
 refine Tz.pK ⟨λt=>t==19,λ_=>[]⟩ Tryz.func145 rfl (λQ hQ=>?_)
 have Y:=trivial
 refine wv (h:=kY (FQ (-1) b hc) wl ?_)
 refine wv (h:=?_)
 repeat first|intro _|refine ⟨eK,?_⟩
 refine bV (λi e H=>(e 1=dLI keep/\e 2=dLI a/\e 3=dLI c/\e 4=dLI d/\e 13=.own 0 b/\e 20=dLI a/\e 21=dI a.length/\e 22=dI i/\e 5=dI n)/\(H.get 0=some ⟨3,1,(Pu keep a (uE c d) b i).map cI,false⟩)/\(0<H.next)/\(i<=a.length)) (λi=>a.length - i) 0 ⟨wg,(by simp [go_sem,TA,cI]),wn,wi⟩ λI0 U i e H P=>?_
 obtain ⟨E0,D,s,hi⟩:=P
 have Y:=wa Y (wa E0 (wa D (b8 s)))
 refine d7 (λA=>?_) λA=>?_
 .have hki:i<keep.length:=aD
  have Z:=K _ (aC hki)
  have G:=I _ (aC hki)
  have o:keep[i].toNat<c.length:=aD
  have N:iA c keep[i]=c[keep[i].toNat]:=by unfold iA;rw [aA o];rfl
  rw [N] at G
  have w:(c[keep[i].toNat]).toNat<d.length:=aD
  have M:=L _ (aC A)
  have f:(Pu keep a (uE c d) b i).length=b:=UZ _ _ _ _ _
  have T:a[i].toNat<(Pu keep a (uE c d) b i).length:=aD
  have W:(uE c d)[(keep[i]?.getD 0).toNat]?.getD 0=d[(c[keep[i].toNat]).toNat]:=by
   rw [aA hki,Option.getD_some];unfold uE
   rw [aH,aA o,c6,Option.getD_some,aA w,Option.getD_some]
  have u:=TB keep a (uE c d) b i A M.1
  rw [W] at u
  have Y:=wa Y (wa A (wa (aA A) (wa (aA hki) (wa (aA o) (wa (aA w) (wa (aA T) f))))))
  refine wv (h:=?_)
  repeat first|intro _|refine ⟨eK,?_⟩
  exact wx U (i+1) ⟨wg,(by simp [go_sem,Y,u,dU,cI]),wn,wj⟩
 .have hA:Pu keep a (uE c d) b i=Hc keep a (uE c d) b n 0:=by rw [Ty,(aD:i=a.length)]
  have f:(Hc keep a (uE c d) b n 0).length=b:=KK _ _ _ _ _ _
  have F:Db a 0=0:=Rq a
  have Y:=wa Y (wa hA (wa f F))
  refine wv (h:=?_)
  repeat first|intro _|refine ⟨eK,?_⟩
  refine bV (λk e H=>(e 1=dLI keep/\e 2=dLI a/\e 3=dLI c/\e 4=dLI d/\e 13=.own 0 b/\e 42=dI b/\e 43=dI k/\e 5=dI ((n+Db a k:Nat):Int))/\(H.get 0=some ⟨3,1,(Hc keep a (uE c d) b n k).map cI,false⟩)/\(0<H.next)/\(k<=b)) (λk=>b - k) 0 ⟨wg,(by simp [go_sem,Y]),wn,wi⟩ λI2 z k e H O=>?_
  obtain ⟨E2,C,r,hk⟩:=O
  have Y:=wa Y (wa E2 (wa C (b8 r)))
  refine d7 (λE=>?_) λE=>?_
  .have hnl:=Ut a k
   have f:(Hc keep a (uE c d) b n k).length=b:=KK _ _ _ _ _ _
   have S:k<(Hc keep a (uE c d) b n k).length:=aD
   have R:=UX keep a (uE c d) b n E
   have p:(Hc keep a (uE c d) b n k)[k]=Tx keep a (uE c d) a.length k:=by rw [aA S] at R;exact Option.some.inj R
   have l:=UW keep a (uE c d) b n E
   have m:=Rr a k
   have a0:=Hi a (k:Int) a.length
   have Y:=wa Y (wa f (wa E R))
   refine wv (h:=?_)
   repeat first|intro _|refine ⟨eK,?_⟩
   refine wq (λg=>?_) λg=>?_
   .rw [p] at g
    have v:¬ 0<=iM a a.length k:=by
     intro B
     have y:(iM a a.length k).toNat<keep.length:=aD
     have:=X _ (aC y)
     simp only [Tx,if_pos B,aA y,Option.getD_some] at g
     omega
    have q:Lg keep a (uE c d) n k=((n+Db a k:Nat):Int):=by unfold Lg;rw [if_neg v]
    rw [q] at l
    rw [if_pos aD] at m
    have j:(Hc keep a (uE c d) b n (k+1)).map cI=((Hc keep a (uE c d) b n k).map cI).set k [.int .i64 ((n+Db a k:Nat):Int)]:=by rw [<- l,dU];rfl
    have Y:=wa Y m
    refine wv (h:=?_)
    repeat first|intro _|refine ⟨eK,?_⟩
    exact wx z (k+1) ⟨wg,(by simp [go_sem,Y,j]),wn,wj⟩
   .rw [p] at g
    have q:Lg keep a (uE c d) n k=Tx keep a (uE c d) a.length k:=by
     unfold Lg Tx
     split
     .rfl
     .rename_i B;exfalso;unfold Tx at g;rw [if_neg B] at g;omega
    have V:0<=iM a a.length k:=by
     refine bA λB=>?_
     unfold Tx at g;rw [if_neg B] at g;omega
    rw [q,<- p,List.set_getElem_self] at l
    rw [if_neg aD] at m
    have j:(Hc keep a (uE c d) b n (k+1))=Hc keep a (uE c d) b n k:=l.symm
    have Y:=wa Y m
    refine wv (h:=?_)
    repeat first|intro _|refine ⟨eK,?_⟩
    exact wx z (k+1) ⟨wg,(by simp [go_sem,Y,j]),wn,wj⟩
  .have hE:=UY keep a (uE c d) b n
   have J:k=b:=aD
   have f:(Hc keep a (uE c d) b n b).length=b:=KK _ _ _ _ _ _
   rw [hE] at f
   have Y:=wa Y (wa f (wa J hE))
   exact wv (h:=hQ _ _ (by simp [go_sem,Y,hE,dLI]))
/-! ### copies -/
@[go_sem] theorem Mat.cld (m:Mat):m.d.cl=true:=by simp [Mat.d,D.cl,Mat.cl]
theorem Fv (m:Mat)(f:m.m.nodes.length<=1000000)(e:m.m.edges.length<=1000000)(b:m.vars.length<=1000000):Pure Tryz.prog 142 [m.d] m.d:=by
 refine Tz.pK ⟨λt=>t==2,λ_=>[]⟩ Tryz.func142 rfl (λQ a=>?_)
 have Y:=wa @Mat.d.eq_1 @Mat.c.eq_1
 refine wv (h:=?_)
 refine j6 (kK m.m.nodes f) (by simp [go_sem,dLI]) (by simp [go_sem]) (Eg _) rfl (by simp [go_sem]) ?_
 refine wv (h:=?_)
 refine j6 (kK m.m.edges e) (by simp [go_sem,dLI]) (by simp [go_sem]) (Eg _) rfl (by simp [go_sem]) ?_
 refine wv (h:=?_)
 refine j6 (kK m.vars b) (by simp [go_sem,dLI]) (by simp [go_sem]) (Eg _) rfl (by simp [go_sem]) ?_
 exact wv (h:=a _ _ (by simp [go_sem,Y,dLI]))
def EG (t:Types)(r:Rule)(h:Host)(m:Mat):Int :=
 if checkE t r.left.graph h.graph m.m r.inj≠0 then 1
 else if (eL t r.left h m.m).2≠0 then (eL t r.left h m.m).2
 else if (eL t r.left h m.m).1≠m.vars then 11 else 0
theorem Mn (t:Types)(r:Rule)(h:Host)(m:Mat):vV t r h m=if EG t r h m≠0 then EG t r h m else tJ (nI r.left.graph h.graph m.m) h.graph r.keep m.m:=by
 unfold vV EG
 by_cases c:checkE t r.left.graph h.graph m.m r.inj≠0
 .rw [if_pos c,if_pos c];simp
 .rw [if_neg c,if_neg c]
  by_cases a:(eL t r.left h m.m).2≠0
  .rw [if_pos a,if_pos a,if_pos a]
  .rw [if_neg a,if_neg a]
   by_cases b:(eL t r.left h m.m).1≠m.vars
   .rw [if_pos b,if_pos b];simp
   .rw [if_neg b,if_neg b];simp
theorem JU (t:Types)(g:t.ok)(r:Rule)(h:Host)(m:Mat):Pure Tryz.prog 138 [t.d,r.d,h.d,m.d] (dI (EG t r h m)):=by
 refine Tz.pK ⟨λ_=>false,λ_=>[]⟩ Tryz.func138 rfl (λQ a=>?_)
 have Y:=wa @Rule.d.eq_1 (wa @Rule.c.eq_1 (wa @Pattern.c.eq_1 (wa @Host.d.eq_1 (wa @Host.c.eq_1 (wa @Mat.d.eq_1 (wa @Mat.c.eq_1 (wa @Graph.c.eq_1 @Part.c.eq_1)))))))
 refine wv (h:=aB (vQ t g r.left.graph h.graph m.m r.inj) wl ?_)
 refine d7 (λf=>?_) λf=>?_
 .have hM:EG t r h m=1:=by unfold EG;rw [if_pos (bS f)]
  exact wv (h:=a _ _ (by simp [go_sem,hM]))
 .have hM:EG t r h m=if (eL t r.left h m.m).2≠0 then (eL t r.left h m.m).2 else if (eL t r.left h m.m).1≠m.vars then 11 else 0:=by unfold EG;rw [if_neg (bS f)]
  refine wv (h:=aB (xD t g r.left h m.m) wl ?_)
  refine d7 (λe=>?_) λe=>?_
  .rw [if_pos (bS e)] at hM
   exact wv (h:=a _ _ (by simp [go_sem,hM]))
  .rw [if_neg (bS e)] at hM
   refine wo (h:=aB (u9 (eL t r.left h m.m).1 m.vars) wl ?_)
   refine f9 (λb=>?_) λb=>?_
   .rw [if_pos (bS b)] at hM
    exact wv (h:=a _ _ (by simp [go_sem,hM]))
   .rw [if_neg (bS b)] at hM
    exact wv (h:=a _ _ (by simp [go_sem,hM]))
theorem Fu (t:Types)(b:t.ok)(r:Rule)(g:r.ok)(h:Host):Pure Tryz.prog 57 [t.d,r.d,h.d] (dI (fV t r h)):=by
 refine Tz.pK ⟨λ_=>false,λ_=>[]⟩ Tryz.func57 rfl (λQ c=>?_)
 have Y:=trivial
 refine wv (h:=aB (nC t b) wl ?_)
 refine d7 (λf=>?_) λf=>?_
 .have hE:ruleF t r=(cH t).2:=by unfold ruleF;rw [if_pos (bS f)]
  have a:fV t r h=(cH t).2:=by unfold fV;rw [if_pos (by rw [hE];simpa using f),hE]
  exact wv (h:=c _ _ (by simp [go_sem,a]))
 .refine wv (h:=aB (Ox t b r g) wl ?_)
  refine d7 (λe=>?_) λe=>?_
  .have a:fV t r h=ruleF t r:=by unfold fV;rw [if_pos (bS e)]
   exact wv (h:=c _ _ (by simp [go_sem,a]))
  .have a:fV t r h=fA t h:=by unfold fV;rw [if_neg (bS e)]
   refine wv (h:=aB (wB t b h) wl ?_)
   exact wv (h:=c _ _ (by simp [go_sem,a,fA]))
theorem P3 {H:AHeap}{d:D}(h:d.cl=true):eM H d=d:=by cases d<;>first|rfl|simp [D.cl] at h
theorem P2 {H:AHeap}{d:D}(h:d.cl=true):iP H d=d:=by
 cases d with
 | agg cs =>
  simp only [D.cl] at h
  simp only [iP]
  congr 1
  conv=>rhs;rw [<- List.map_id cs]
  exact bW λy a=>P3 (jK h y a)
 | _=>exact P3 (H:=H) h
theorem P1 (H:AHeap){d:D}(h:d.cl=true):oX H d=d:=by
 cases d with
 | tup vs =>
  simp only [D.cl] at h
  simp only [oX]
  congr 1
  conv=>rhs;rw [<- List.map_id vs]
  exact bW λy a=>P2 (jK h y a)
 | _=>exact P2 (H:=H) h
theorem Vd {P:Program}{f:FuncId}{args:List D}{r:D}(a:r.cl=true)(h:ACalls P f args .emp λd H'=>iV H' d=r):Pure P f args r:=by
 refine aU (ACalls.deep (h.mono λd H' e=>⟨?_,a⟩))
 rw [e];exact P1 _ a
theorem QY {H:AHeap}{a:List Nat}{vals:List (List Int)}(d:a.length=vals.length)(f:∀ (i q:Nat) (v:List Int),a[i]?=some q->vals[i]?=some v->H.get q=some ⟨3,1,v.map cI,false⟩):(mS a vals).map (·.map (eM H))=vals.map cL:=by
 apply eZ
 intro i
 simp only [aH]
 by_cases e:i<vals.length
 .have hq:i<a.length:=aD
  have b:=aA e
  have c:=aA hq
  rw [uM c b,b]
  have:=f i _ _ c b
  simp [eM,this,cL,dLI]
 .rw [bE (by rw [k9 d];omega),bE aD];rfl
theorem HF (h:Host)(hn:h.graph.nodes.length<=100000)(he:h.graph.edges.length<=100000)(hv:h.values.length<=100000)(hr:∀ v∈h.values,v.length<=100000):Pure Tryz.prog 143 [h.d] h.d:=by
 refine Vd (Host.cld h) ?_
 obtain ⟨Q,hQ⟩:∃ Q:D->AHeap->Prop,∀ d H',Q d H'↔iV H' d=h.d:=⟨_,λ_ _=>Iff.rfl⟩
 rw [show (λd H'=>iV H' d=h.d)=Q from funext λd=>funext λH'=>propext (hQ d H').symm]
 refine (aG (cfg:=⟨λt=>t==2||t==3||t==25||t==1000001,λr=>match r with|1=>[(0,10),(1,10),(2,10),(3,10),(4,10),(5,10),(6,10),(7,10)]|5=>[(0,2),(1,2),(0,4),(1,4),(0,5),(1,5)]|_=>[]⟩) Tz.mixed Tryz.func143 rfl rfl (aE rfl) (by kernel_rfl) ?_)
 have Y:=wa @Host.d.eq_1 @Host.c.eq_1
 refine wv (h:=?_)
 refine j6 (kK h.graph.nodes aD) (by simp [go_sem,dLI]) (by simp [go_sem]) (Eg _) rfl (by simp [go_sem]) ?_
 refine wv (h:=?_)
 refine j6 (Hd h.graph.edges aD) (by simp [go_sem]) (by simp [go_sem]) (Vu _) rfl (by simp [go_sem]) ?_
 refine wp (h:=tX (Ghosts.step (Ghosts.refl _) 11 0 2 26 1 _ _ ((by simp [go_sem];rfl)) rfl rfl rfl) (λi e H=>∃ qs:List Nat,(e 1=.adr h.c/\e 2=.ptr 0 1 0 0/\e 3=.ptr 11 1 0 0/\e 17=.list (h.values.map cL)/\e 18=dI h.values.length/\e 19=dI i)/\(H.get 0=some ⟨44,3,[[.nil,.nil,.nil]],false⟩)/\(0<H.next)/\(H.get 11=some ⟨44,3,[[dLI h.graph.nodes,.list (h.graph.edges.map Edge.c),.own 13 i]],false⟩)/\(11<H.next)/\(H.get 13=some ⟨26,1,mS qs (h.values.take i),false⟩)/\(13<H.next)/\(i<=h.values.length)/\(qs.length=(h.values.take i).length)/\(∀ q∈qs,13<q/\q<H.next)/\(13<H.next)/\(∀ (k q:Nat) (v:List Int),qs[k]?=some q->(h.values.take i)[k]?=some v->H.get q=some ⟨3,1,v.map cI,false⟩)) (λi=>h.values.length - i) 0 ⟨([]),wg,wn,wn,wn,wn,(by simp [go_sem,Y,mS]),wn,wi,(by rfl),(by intro q hq;cases hq),(by simp [go_sem]),(by intro k q v hk;simp at hk)⟩ λI0 hI0 i e H hi0=>?_)
 obtain ⟨qs,E0,g0_0,n0_0,g11_0,n11_0,g13_0,n13_0,hi,hql,hqr,hnx,hgq⟩:=hi0
 have Y:=wa Y (wa E0 (wa g0_0 (wa (b8 n0_0) (wa g11_0 (wa (b8 n11_0) (wa g13_0 (b8 n13_0)))))))
 refine d7 (λh3=>?_) λh3=>?_
 .have hr8:=hr _ (aC h3)
  have hrl:(mS qs (h.values.take i)).length=i:=by rw [k9 hql];simp;omega
  have hgq2:∀ H2:AHeap,H2.get (H.next+2)=some ⟨3,1,h.values[i].map cI,false⟩->(∀ q∈qs,H2.get q=H.get q)->∀ (k q:Nat) (v:List Int),(qs++[H.next+2])[k]?=some q->(h.values.take (i+1))[k]?=some v->H2.get q=some ⟨3,1,v.map cI,false⟩:=λH2 g1 g2 k q v e1 e2=>by
   rw [List.take_succ_eq_append_getElem h3] at e2
   have hqi:qs.length=i:=by rw [hql];simp;omega
   have hti:(h.values.take i).length=i:=by simp;omega
   by_cases hk:k<i
   .rw [aT aD] at e1
    rw [aT aD] at e2
    rw [g2 q (aI e1)];exact hgq k q v e1 e2
   .have h1':=(aL.1 e1).1
    have:k=i:=by simp at h1';omega
    subst this
    rw [bB aD,hqi,Nat.sub_self] at e1
    rw [bB aD,hti,Nat.sub_self] at e2
    simp at e1 e2
    subst e1 e2;exact g1
  have Y:=wa Y (wa h3 (wa (aA h3) (wa @cL.eq_1 hrl)))
  exact wp (h:=wx hI0 (i+1) ⟨(qs++[H.next+2]),wg,wn,wn,wn,wn,(by rw [List.take_succ_eq_append_getElem h3,FP hql];simp [go_sem,Y,cL]),wn,wj,(by simp [hql];omega),(by intro q hq;rw [aV,aW] at hq;rcases hq with hq|rfl;(have:=hqr q hq;simp [go_sem];omega);(simp [go_sem];omega)),(by simp [go_sem];omega),(by exact hgq2 _ (by simp [go_sem,Y,cL]) (λq hq=>by have:=hqr q hq;simp [go_sem,b8 this.2,(aD:q≠13),(aD:q≠11)]))⟩)
 .rw [aY aD] at hql hgq
  have hie:i=h.values.length:=aD
  refine wv (h:=?_)
  refine (hQ _ _).2 ?_
  obtain ⟨E,hEq⟩:=cC (H.put 0 ⟨44,3,[[D.list (List.map cI h.graph.nodes),D.list (List.map Edge.c h.graph.edges),D.own 13 i]],false⟩)
  rw [<- hEq]
  have hE13:E.get 13=some ⟨26,1,mS qs (h.values.take i),false⟩:=by rw [hEq];simp [go_sem,g13_0]
  rw [aY (aD:h.values.length<=i)] at hE13
  have hR:=QY (H:=E) hql (λk q v e1 e2=>by
   have:=hqr q (aI e1)
   rw [hEq];simp [go_sem,(aD:q≠0)];exact hgq k q v e1 e2)
  have hrl:=k9 hql
  simp only [iV,kD,oY,eM,gS,lO,hE13,hrl,hR,hie,if_true]
  rfl
theorem Ft (t:Types)(o:t.ok)(k:Int):Own Tryz.prog 243 [t.d,dI k] 3 1 ((oA t k).map cI):=by
 have p:=r9 o k
 refine Tz.oK ⟨λt=>t==9||t==16,λ_=>[]⟩ Tryz.func243 rfl (λQ q=>?_)
 have Y:=trivial
 refine wv (h:=aB (pS t o k) wl ?_)
 refine wo (h:=bV (λi e H=>∃ b:List Int,(e 2=.adr t.c/\e 17=.list ((bM t k).map Attr.c)/\e 18=dI (bM t k).length/\e 19=dI i/\e 7=.own 0 b.length)/\(H.get 0=some ⟨3,1,b.map cI,false⟩)/\(0<H.next)/\(i<=(bM t k).length)/\(b=((bM t k).take i).map (λa=>a.low))) (λi=>(bM t k).length - i) 0 ⟨([]),wg,wn,wn,wi,(by rfl)⟩ λu n i e H m=>?_)
 obtain ⟨b,r,g,f,s,l⟩:=m
 have Y:=wa Y (wa r (wa g (b8 f)))
 refine d7 (λj=>?_) λj=>?_
 .have hxl:b.length=i:=by rw [l];simp;omega
  have Y:=wa Y (wa j (wa (aA j) @Attr.c.eq_1))
  exact wo (h:=wx n (i+1) ⟨(b++[(bM t k)[i].low]),wg,wn,wn,wj,(by rw [lA _ j,<- l])⟩)
 .have hX:b=oA t k:=by rw [l,mJ _ aD];rfl
  refine wv (h:=?_)
  exact q _ _ _ (by simp [go_sem,Y,hX,dLI]) (by simp [go_sem,Y,hX,dLI])
theorem HH.nodeRow {H H':AHeap}{lo a b V:Nat}{qs:List Nat}{x:Host}(h:HH H lo a b V qs x)(hn:H.next<=H'.next){q:Nat}{nd:Int}{v:List Int}(hlo:lo<=q)(hq:∀ j∈a :: b :: V :: qs,j≠q)(hq2:q<H'.next)
  (ga:H'.get a=some ⟨3,1,(x.graph.nodes++[nd]).map cI,false⟩) (gq:H'.get q=some ⟨3,1,v.map cI,false⟩) (gV:H'.get V=some ⟨26,1,mS qs x.values++[[.own q v.length]],false⟩) (hf:∀ j∈b :: qs,H'.get j=H.get j) :
  HH H' lo a b V (qs++[q]) ⟨⟨x.graph.nodes++[nd],x.graph.edges⟩,x.values++[v]⟩ where
 ga:=ga
 gb:=(hf b aF).trans h.gb
 gV:=by rw [FP h.len];exact gV
 len:=by simp [h.len]
 gq i q' v' h1 h2:=by
  by_cases hi:i<qs.length
  .rw [aT hi] at h1
   rw [aT (by rw [<- h.len];exact hi)] at h2
   exact (hf q' (by simp [aI h1])).trans (h.gq i q' v' h1 h2)
  .have h1':=(aL.1 h1).1
   have:i=qs.length:=by simp at h1';omega
   subst this
   simp at h1
   rw [h.len] at h2;simp at h2
   subst h1 h2;exact gq
 nd:=by
  have:=h.nd
  have e:a :: b :: V :: (qs++[q])=(a :: b :: V :: qs)++[q]:=rfl
  rw [e,List.nodup_append]
  exact ⟨this,by simp,λy hy z hz=>by rw [aW] at hz;subst hz;exact hq y hy⟩
 rng j hj:=by
  have e:a :: b :: V :: (qs++[q])=(a :: b :: V :: qs)++[q]:=rfl
  rw [e,aV,aW] at hj
  rcases hj with hj|rfl
  .exact ⟨(h.rng j hj).1,cW (h.rng j hj).2 hn⟩
  .exact ⟨hlo,hq2⟩
def eU (r:Rule)(m:Mat)(h:Host)(A B C:D)(tr co:Part):List D:=[.str r.name,dLI r.left.graph.nodes,.list (r.left.graph.edges.map Edge.c),.list (r.left.slots.map Slot.c),dI r.left.vars,.list (r.left.tests.map Test.c),
 dLI r.right.graph.nodes,.list (r.right.graph.edges.map Edge.c),.list (r.right.slots.map Slot.c),dI r.right.vars,.list (r.right.tests.map Test.c),
 dLI r.keep.nodes,dLI r.keep.edges,dLI r.into.nodes,dLI r.into.edges,.bool r.inj,
 dI r.cond.kind,.list (r.cond.kids.map Cond.c),dLI r.cond.map.nodes,dLI r.cond.map.edges,dLI r.cond.pattern.graph.nodes,.list (r.cond.pattern.graph.edges.map Edge.c),.list (r.cond.pattern.slots.map Slot.c),dI r.cond.pattern.vars,.list (r.cond.pattern.tests.map Test.c),
 dLI m.m.nodes,dLI m.m.edges,dLI m.vars,dLI h.graph.nodes,.list (h.graph.edges.map Edge.c),.list (h.values.map cL),A,B,C,dLI tr.nodes,dLI tr.edges,dLI co.nodes,dLI co.edges]
def trE (h:Host)(tr:Part)(k:Int):Edge:=⟨(eA h.graph k).type,iA tr.nodes (eA h.graph k).from_,iA tr.nodes (eA h.graph k).to_⟩
def XG (h:Host)(d:Part)(i:Nat):Host:=⟨⟨(d.nodes.take i).map (gN h.graph),[]⟩,(d.nodes.take i).map λk=>h.values[k.toNat]?.getD []⟩
def bdE (h:Host)(d tr:Part)(i:Nat):Host:=⟨⟨d.nodes.map (gN h.graph),(d.edges.take i).map (trE h tr)⟩,d.nodes.map λk=>h.values[k.toNat]?.getD []⟩
theorem TG (h:Host)(d a:Part){i:Nat}(b:d.nodes.length<=i):bdE h d a 0=XG h d i:=by unfold bdE XG;rw [aY b];rfl
theorem Oi (t:Types)(ht:t.ok)(r:Rule)(hR:RuleV t r)(m:Mat)(h:Host)(ho:HostOk t h)(d U co:Part)(j1:∀ x∈d.nodes,0<=x/\x<h.graph.nodes.length)(j2:∀ x∈d.edges,0<=x/\x<h.graph.edges.length)
  (l3:d.nodes.length<=40/\d.edges.length<=80) (j8:U.nodes.length=h.graph.nodes.length) (l4:co.nodes.length=r.right.graph.nodes.length/\co.edges.length=r.right.graph.edges.length)
  (j3:∀ i,i<r.right.graph.nodes.length->(co.nodes[i]?.getD 0=((d.nodes.length+(bF r.into.nodes i).length:Nat):Int)↔mem r.into.nodes i=false))
  (j4:∀ i,i<r.right.graph.edges.length->(co.edges[i]?.getD 0=((d.edges.length+(bF r.into.edges i).length:Nat):Int)↔mem r.into.edges i=false))
  (s a b V:Nat) (G:AHeap) (F:G.get s=some ⟨53,38,[eU r m h (.own a 0) (.own b 0) (.own V 0) U co],false⟩) (a7:HH G 0 a b V [] ⟨⟨[],[]⟩,[]⟩) (j9:s<G.next) (i1:s≠a/\s≠b/\s≠V) (g9:∀ j,G.next<=j->¬ G.al j) (Q:D->AHeap->Prop)
  (hQ:∀ qs H',HH H' 0 a b V qs (Ca t r co (bdE h d U d.edges.length))->H'.get s=some ⟨53,38,[eU r m h (.own a (Ca t r co (bdE h d U d.edges.length)).graph.nodes.length) (.own b (Ca t r co (bdE h d U d.edges.length)).graph.edges.length) (.own V (Ca t r co (bdE h d U d.edges.length)).values.length) U co],false⟩ ->
   (∀ j∈a :: b :: V :: qs,j≠s)->(∀ j∈qs,G.next<=j)->(∀ j,j<G.next->j∉[s,a,b,V]->H'.get j=G.get j)->G.next<=H'.next->Q (.tup []) H') :
  ACalls Tryz.prog 146 [t.d,.ptr s 1 0 0,d.d] G Q:=by
 have l2:=cJ hR.gr
 have j0:=dF hR.gr
 have l1:=cJ ho.gg
 have i8:=dF ho.gg
 have j7:=ho.vl
 have l7:=a7.rng a a7.a_in
 have l5:=a7.rng b a7.b_in
 have l8:=a7.rng V a7.V_in
 have l6:=a7.ab
 obtain ⟨k6,k5,k0⟩:=i1
 refine (aG (cfg:=⟨λt=>t==6||t==7||t==12||t==16||t==59||t==166||t==1000001,λr=>match r with|1=>[(1,10),(2,10),(3,10),(5,10),(6,10),(7,10),(8,10),(9,10),(1,11),(2,11),(3,11),(5,11),(6,11),(7,11),(8,11),(9,11),(10,11),(5,12),(6,12),(7,12),(8,12),(9,12)]|5=>[(2,13),(3,13),(4,13),(5,13),(6,13)]|6=>[(2,6),(3,6),(4,6),(5,6),(6,7),(6,8),(6,10),(6,11),(2,12),(3,12),(4,12),(5,12),(2,13),(3,13),(4,13),(5,13)]|12=>[(2,28),(3,28),(4,28),(5,28),(6,28)]|19=>[(2,8),(3,8),(4,8),(5,8),(2,9),(3,9),(4,9),(5,9)]|25=>[(2,28),(3,28),(4,28),(5,28),(6,28)]|_=>[]⟩) Tz.mixed Tryz.func146 rfl rfl (aE rfl) (by kernel_rfl) ?_)
 have g:=And.intro (dG (aD:V≠b)) (And.intro (dG (aD:V≠a)) (And.intro (dG (aD:V≠s)) (And.intro (dG (aD:b≠a)) (And.intro (dG (aD:b≠s)) (dG (aD:a≠s))))))
 have f:=And.intro (b8 (aD:s<G.next)) (And.intro (b8 (aD:a<G.next)) (And.intro (b8 (aD:b<G.next)) (b8 (aD:V<G.next))))
 try simp [go_sem,seval,F,eU,Part.d,Part.c,Host.c,Graph.c,g,f]
 repeat first|intro _|refine ⟨eK,?_⟩
 obtain ⟨I0,e5⟩:∃ I0:Nat->dA->AHeap->Prop,∀ (i:Nat) (e:dA) (H:AHeap),I0 i e H↔(∃ X:Nat,∃ Y:Nat,∃ x:Host,∃ qs:List Nat,(e 1=.ptr s 1 0 0)/\(e 3=.adr t.c)/\(e 5=.adr d.c)/\(e 6=.ptr X 1 0 0)/\(e 7=.ptr Y 1 0 0)/\(e 28=dLI d.nodes)/\(e 29=dI d.nodes.length)/\(e 30=dI i)/\(H.get X=some ⟨44,3,[h.c],false⟩)/\(X<H.next)/\(H.get Y=some ⟨29,2,[r.right.graph.c],false⟩)/\(Y<H.next)/\(H.get s=some ⟨53,38,[eU r m h (.own a x.graph.nodes.length) (.own b x.graph.edges.length) (.own V x.values.length) U co],false⟩)/\(s<H.next)/\(i<=d.nodes.length)/\(HH H 0 a b V qs x)/\(x=XG h d i)/\(∀ j∈a :: b :: V :: qs,j≠s)/\(∀ j∈qs,G.next<=j)/\(∀ j,H.next<=j->¬ H.al j)/\(∀ j,j<G.next->j∉[s,a,b,V]->H.get j=G.get j)/\(G.next<=H.next)/\(G.next<=X/\X<Y)):=⟨λi e H=>_,λ_ _ _=>Iff.rfl⟩
 refine oR I0 (λi=>d.nodes.length - i) (0) ((e5 _ _ _).2 ⟨(G.next+10),(G.next+11),(⟨⟨[],[]⟩,[]⟩),([]),?_,?_,?_,?_,?_,?_,?_,?_,?_,?_,?_,?_,?_,?_,(by first|assumption|omega|(simp [go_sem,F,eU,Part.d,Part.c,Host.c,Graph.c,g,f];done)|(simp_all;done)),(by exact a7.same (by first|(simp [go_sem];done)|(simp [go_sem];omega)) (λj hj=>by have:=(a7.rng j hj).2;simp [go_sem,b8 this])),(by rfl),(by intro j hj;simp at hj;omega),(by intro j hj;cases hj),(by intro j hj;simp [go_sem,tN,zD,TN] at hj ⊢;exact ⟨aD,aD,g9 j aD⟩),(by intro j hj hn;simp [go_sem,b8 hj]),(by first|(simp [go_sem];done)|(simp [go_sem];omega)),aD⟩) ?_
 iterate 14 (first|omega|(simp [go_sem,seval,F,eU,Part.d,Part.c,Host.c,Graph.c,g,f]<;>omega))
 intro i e H i6
 obtain ⟨X,Y,x,qs,g2,f8,f4,f0,e8,d8,d7,d6,gX_0,nX_0,gY_0,nY_0,h4,g6,hi,B,hx,a4,b7,a1,hG,b2,j5⟩:=(e5 _ _ _).1 i6
 have xX:=b8 nX_0
 have xY:=b8 nY_0
 have xs:=b8 g6
 have F0:=And.intro g2 (And.intro f8 (And.intro f4 (And.intro f0 (And.intro e8 (And.intro d8 (And.intro d7 (And.intro d6 (And.intro gX_0 (And.intro gY_0 (And.intro h4 (And.intro xX (And.intro xY xs))))))))))))
 have l:=And.intro (dG (aD:Y≠X)) (And.intro (dG (aD:Y≠V)) (And.intro (dG (aD:Y≠b)) (And.intro (dG (aD:Y≠a)) (And.intro (dG (aD:Y≠s)) (And.intro (dG (aD:X≠V)) (And.intro (dG (aD:X≠b)) (And.intro (dG (aD:X≠a)) (And.intro (dG (aD:X≠s)) (And.intro (dG (aD:V≠b)) (And.intro (dG (aD:V≠a)) (And.intro (dG (aD:V≠s)) (And.intro (dG (aD:b≠a)) (And.intro (dG (aD:b≠s)) (dG (aD:a≠s)))))))))))))))
 try simp [go_sem,seval,F,eU,Part.d,Part.c,Host.c,Graph.c,g,f,F0,l]
 refine aP (λh3=>?_) (λh3=>?_)
 .try simp [go_sem] at h3
  obtain ⟨k,hk⟩:∃ y,y=d.nodes[i]:=⟨_,rfl⟩
  have e3:=j1 _ (aC h3)
  rw [<- hk] at e3
  have W:k.toNat<h.graph.nodes.length:=aD
  have b0:k.toNat<h.values.length:=aD
  obtain ⟨S,u⟩:∃ y:Host,y=⟨⟨x.graph.nodes++[h.graph.nodes[k.toNat]],x.graph.edges⟩,x.values++[h.values[k.toNat]]⟩:=⟨_,rfl⟩
  have a3:S=XG h d (i+1):=by rw [u,hx];unfold XG;rw [List.take_succ_eq_append_getElem h3,<- hk];simp [gN,aA W,aA b0]
  have j6:(h.values[k.toNat]).length<=1000:=by
   have:=(ho.row _ (aC b0)).1
   omega
  have b1:x.graph.nodes.length=i/\x.graph.edges.length=0/\x.values.length=i:=by rw [hx];simp [XG];omega
  have p:S.graph.nodes.length=x.graph.nodes.length+1/\S.graph.edges.length=x.graph.edges.length/\S.values.length=x.values.length+1:=by rw [u];simp
  have w:=B.ga
  have A:=B.gV
  have M:=k9 B.len
  have e0:=B.rng a B.a_in
  have e1:=B.rng V B.V_in
  have c0:=B.rng b B.b_in
  have c9:∀ j∈a :: b :: V :: qs,j≠H.next+20+6:=λj hj=>by have:=(B.rng j hj).2;omega
  have Z:∀ j∈b :: qs,j≠a/\j≠s/\j≠V/\j<H.next:=λj hj=>by
   rcases bP.1 hj with rfl|hj
   .exact ⟨aD,aD,aD,c0.2⟩
   .exact ⟨(B.qn hj).1,a4 j (B.q_in hj),(B.qn hj).2.2,(B.rng j (B.q_in hj)).2⟩
  have a8:∀ j∈a :: b :: V :: (qs++[H.next+20+6]),j≠s:=λj hj=>by
   have e:a :: b :: V :: (qs++[H.next+20+6])=(a :: b :: V :: qs)++[H.next+20+6]:=rfl
   rw [e,aV,aW] at hj
   rcases hj with hj|rfl
   .exact a4 j hj
   .omega
  have a9:∀ j∈qs++[H.next+20+6],G.next<=j:=λj hj=>by
   rw [aV,aW] at hj
   rcases hj with hj|rfl
   .exact b7 j hj
   .omega
  have b9:=And.intro (b8 (aD:s<H.next)) (And.intro (b8 (aD:a<H.next)) (And.intro (b8 (aD:b<H.next)) (b8 (aD:V<H.next))))
  try simp [go_sem,seval,F,eU,Part.d,Part.c,Host.c,Graph.c,g,f,F0,l,h3,aA h3,<- hk,aA W,aA b0,w,A,M,p,cL,b9]
  repeat first|intro _|refine ⟨eK,?_⟩
  refine dN (i+1) aD ((e5 _ _ _).2 ⟨(X),(Y),(S),(qs++[H.next+20+6]),?_,?_,?_,?_,?_,?_,?_,?_,?_,?_,?_,?_,?_,?_,(by first|assumption|omega|(simp [go_sem,F,eU,Part.d,Part.c,Host.c,Graph.c,g,f,F0,l,h3,aA h3,<- hk,aA W,aA b0,w,A,M,p,cL,b9];done)|(simp_all<;>omega)),(by rw [u];exact B.nodeRow (by first|(simp [go_sem];done)|(simp [go_sem];omega)) (eJ _) c9 (by first|(simp [go_sem];done)|(simp [go_sem];omega)) (by simp [go_sem,F,eU,Part.d,Part.c,Host.c,Graph.c,g,f,F0,l,h3,aA h3,<- hk,aA W,aA b0,w,A,M,p,cL,b9,cI]) (by simp [go_sem,F,eU,Part.d,Part.c,Host.c,Graph.c,g,f,F0,l,h3,aA h3,<- hk,aA W,aA b0,w,A,M,p,cL,b9]) (by simp [go_sem,F,eU,Part.d,Part.c,Host.c,Graph.c,g,f,F0,l,h3,aA h3,<- hk,aA W,aA b0,w,A,M,p,cL,b9]) (λj hj=>by obtain ⟨k1,k2,k3,k4⟩:=Z j hj;simp [go_sem,k1,k2,k3,b8 k4])),(by exact a3),(by exact a8),(by exact a9),(by intro j hj;simp [go_sem,tN,zD] at hj ⊢;exact ⟨aD,a1 j aD⟩),(by intro j hj hn;simp only [bP,i7,or_false,not_or] at hn;simp [go_sem,hn,b8 (aD:j<H.next)];exact hG j hj (by simp [hn])),(by first|(simp [go_sem];done)|(simp [go_sem];omega)),(by exact j5)⟩)<;>first|omega|(simp [go_sem,seval,F,eU,Part.d,Part.c,Host.c,Graph.c,g,f,F0,l,h3,aA h3,<- hk,aA W,aA b0,w,A,M,p,cL,b9]<;>omega)
 .try simp [go_sem] at h3
  have h8:x=bdE h d U 0:=by rw [hx,TG _ _ _ aD]
  have n:=And.intro (b8 (aD:s<H.next)) (And.intro (b8 (aD:a<H.next)) (And.intro (b8 (aD:b<H.next)) (b8 (aD:V<H.next))))
  try simp [go_sem,seval,F,eU,Part.d,Part.c,Host.c,Graph.c,g,f,F0,l,n]
  repeat first|intro _|refine ⟨eK,?_⟩
  obtain ⟨I2,e4⟩:∃ I2:Nat->dA->AHeap->Prop,∀ (i:Nat) (e:dA) (H:AHeap),I2 i e H↔(∃ x:Host,(e 1=.ptr s 1 0 0)/\(e 3=.adr t.c)/\(e 5=.adr d.c)/\(e 6=.ptr X 1 0 0)/\(e 7=.ptr Y 1 0 0)/\(e 73=dLI d.edges)/\(e 74=dI d.edges.length)/\(e 75=dI i)/\(H.get X=some ⟨44,3,[h.c],false⟩)/\(X<H.next)/\(H.get Y=some ⟨29,2,[r.right.graph.c],false⟩)/\(Y<H.next)/\(H.get s=some ⟨53,38,[eU r m h (.own a x.graph.nodes.length) (.own b x.graph.edges.length) (.own V x.values.length) U co],false⟩)/\(s<H.next)/\(i<=d.edges.length)/\(HH H 0 a b V qs x)/\(x=bdE h d U i)/\(∀ j,H.next<=j->¬ H.al j)/\(∀ j,j<G.next->j∉[s,a,b,V]->H.get j=G.get j)/\(G.next<=H.next)):=⟨λi e H=>_,λ_ _ _=>Iff.rfl⟩
  refine oR I2 (λi=>d.edges.length - i) (0) ((e4 _ _ _).2 ⟨(x),?_,?_,?_,?_,?_,?_,?_,?_,?_,?_,?_,?_,?_,?_,(by first|assumption|omega|(simp [go_sem,F,eU,Part.d,Part.c,Host.c,Graph.c,g,f,F0,l,n];done)|(simp_all;done)),(by exact B),(by exact h8),(by exact a1),(by exact hG),(by exact b2)⟩) ?_
  iterate 14 (first|omega|(simp [go_sem,seval,F,eU,Part.d,Part.c,Host.c,Graph.c,g,f,F0,l,n]<;>omega))
  intro i e H i5
  obtain ⟨x,g1,f7,f3,e9,e7,d5,d4,d3,gX_2,nX_2,gY_2,nY_2,h2,g5,hi,B,hx,a1,hG,b2⟩:=(e4 _ _ _).1 i5
  have xX:=b8 nX_2
  have xY:=b8 nY_2
  have xs:=b8 g5
  have F2:=And.intro g1 (And.intro f7 (And.intro f3 (And.intro e9 (And.intro e7 (And.intro d5 (And.intro d4 (And.intro d3 (And.intro gX_2 (And.intro gY_2 (And.intro h2 (And.intro xX (And.intro xY xs))))))))))))
  have o:=And.intro (dG (aD:Y≠X)) (And.intro (dG (aD:Y≠V)) (And.intro (dG (aD:Y≠b)) (And.intro (dG (aD:Y≠a)) (And.intro (dG (aD:Y≠s)) (And.intro (dG (aD:X≠V)) (And.intro (dG (aD:X≠b)) (And.intro (dG (aD:X≠a)) (And.intro (dG (aD:X≠s)) (And.intro (dG (aD:V≠b)) (And.intro (dG (aD:V≠a)) (And.intro (dG (aD:V≠s)) (And.intro (dG (aD:b≠a)) (And.intro (dG (aD:b≠s)) (dG (aD:a≠s)))))))))))))))
  try simp [go_sem,seval,F,eU,Part.d,Part.c,Host.c,Graph.c,g,f,l,n,F2,o]
  refine aP (λh9=>?_) (λh9=>?_)
  .try simp [go_sem] at h9
   obtain ⟨k,hk⟩:∃ y,y=d.edges[i]:=⟨_,rfl⟩
   have e3:=j2 _ (aC h9)
   rw [<- hk] at e3
   have W:k.toNat<h.graph.edges.length:=aD
   obtain ⟨y,hy⟩:=cC (h.graph.edges[k.toNat])
   have d9:=(i8.2 _ (aC W)).2
   rw [<- hy] at d9
   have R:y.from_.toNat<U.nodes.length:=aD
   have P:y.to_.toNat<U.nodes.length:=aD
   have h5:eA h.graph k=y:=by rw [hy];simp [eA,aA W]
   have i0:trE h U k=⟨y.type,U.nodes[y.from_.toNat],U.nodes[y.to_.toNat]⟩:=by unfold trE;rw [h5];simp [iA,aA R,aA P]
   obtain ⟨S,u⟩:∃ z:Host,z=⟨⟨x.graph.nodes,x.graph.edges++[trE h U k]⟩,x.values⟩:=⟨_,rfl⟩
   have a3:S=bdE h d U (i+1):=by rw [u,hx];unfold bdE;rw [List.take_succ_eq_append_getElem h9,<- hk];simp
   have b1:x.graph.edges.length=i:=by rw [hx];simp [bdE];omega
   have p:S.graph.nodes.length=x.graph.nodes.length/\S.graph.edges.length=x.graph.edges.length+1/\S.values.length=x.values.length:=by rw [u];simp
   have K:=B.gb
   have e0:=B.rng a B.a_in
   have e1:=B.rng V B.V_in
   have c0:=B.rng b B.b_in
   have Z:∀ j∈a :: V :: qs,j≠b/\j≠s/\j<H.next:=λj hj=>by
    have c1:j∈a :: b :: V :: qs:=by simp only [bP] at hj ⊢;rcases hj with h|h|h<;>simp [h]
    refine ⟨?_,a4 j c1,(B.rng j c1).2⟩
    rintro rfl
    have:=B.nd;simp only [Bl,bP,not_or] at this
    simp only [bP] at hj
    rcases hj with h|h|h
    .exact this.1.1 h.symm
    .exact this.2.1.1 h
    .exact this.2.1.2 h
   have d2:=And.intro (b8 (aD:s<H.next)) (And.intro (b8 (aD:a<H.next)) (And.intro (b8 (aD:b<H.next)) (b8 (aD:V<H.next))))
   try simp [go_sem,seval,F,eU,Part.d,Part.c,Host.c,Graph.c,g,f,l,n,F2,o,h9,aA h9,<- hk,aA W,<- hy,aA R,aA P,K,p,Edge.c,d2]
   repeat first|intro _|refine ⟨eK,?_⟩
   refine dN (i+1) aD ((e4 _ _ _).2 ⟨(S),?_,?_,?_,?_,?_,?_,?_,?_,?_,?_,?_,?_,?_,?_,(by first|assumption|omega|(simp [go_sem,F,eU,Part.d,Part.c,Host.c,Graph.c,g,f,l,n,F2,o,h9,aA h9,<- hk,aA W,<- hy,aA R,aA P,K,p,Edge.c,d2,h3];done)|(simp_all<;>omega)),(by rw [u];exact B.edges (by first|(simp [go_sem];done)|(simp [go_sem];omega)) (by simp [go_sem,F,eU,Part.d,Part.c,Host.c,Graph.c,g,f,l,n,F2,o,h9,aA h9,<- hk,aA W,<- hy,aA R,aA P,K,p,Edge.c,d2,i0,Edge.c]) (λj hj=>by obtain ⟨k1,k2,k3⟩:=Z j hj;simp [go_sem,k1,k2,b8 k3])),(by exact a3),(by intro j hj;simp [go_sem,tN,zD] at hj ⊢;first|exact ⟨aD,a1 j aD⟩|exact a1 j aD|exact ⟨aD,aD,a1 j aD⟩),(by intro j hj hn;simp only [bP,i7,or_false,not_or] at hn;simp [go_sem,hn,b8 (aD:j<H.next)];exact hG j hj (by simp [hn])),(by first|(simp [go_sem];done)|(simp [go_sem];omega))⟩)<;>first|omega|(simp [go_sem,seval,F,eU,Part.d,Part.c,Host.c,Graph.c,g,f,l,n,F2,o,h9,aA h9,<- hk,aA W,<- hy,aA R,aA P,K,p,Edge.c,d2]<;>omega)
  .try simp [go_sem] at h9
   have h7:x=RO t r (bdE h d U d.edges.length) 0:=by rw [hx,(aD:i=d.edges.length)];simp [RO,bF]
   have v:=And.intro (b8 (aD:s<H.next)) (And.intro (b8 (aD:a<H.next)) (And.intro (b8 (aD:b<H.next)) (b8 (aD:V<H.next))))
   try simp [go_sem,seval,F,eU,Part.d,Part.c,Host.c,Graph.c,g,f,l,n,F2,o,v]
   repeat first|intro _|refine ⟨eK,?_⟩
   obtain ⟨I4,d1⟩:∃ I4:Nat->dA->AHeap->Prop,∀ (i:Nat) (e:dA) (H:AHeap),I4 i e H↔(∃ x:Host,∃ qs:List Nat,(e 1=.ptr s 1 0 0)/\(e 3=.adr t.c)/\(e 5=.adr d.c)/\(e 7=.ptr Y 1 0 0)/\(e 121=dLI r.right.graph.nodes)/\(e 122=dI r.right.graph.nodes.length)/\(e 123=dI i)/\(H.get Y=some ⟨29,2,[r.right.graph.c],false⟩)/\(Y<H.next)/\(H.get s=some ⟨53,38,[eU r m h (.own a x.graph.nodes.length) (.own b x.graph.edges.length) (.own V x.values.length) U co],false⟩)/\(s<H.next)/\(i<=r.right.graph.nodes.length)/\(HH H 0 a b V qs x)/\(x=RO t r (bdE h d U d.edges.length) i)/\(∀ j∈a :: b :: V :: qs,j≠s)/\(∀ j∈qs,G.next<=j)/\(∀ j,H.next<=j->¬ H.al j)/\(∀ j,j<G.next->j∉[s,a,b,V]->H.get j=G.get j)/\(G.next<=H.next)):=⟨λi e H=>_,λ_ _ _=>Iff.rfl⟩
   refine oR I4 (λi=>r.right.graph.nodes.length - i) (0) ((d1 _ _ _).2 ⟨(x),(qs),?_,?_,?_,?_,?_,?_,?_,?_,?_,?_,?_,(by first|assumption|omega|(simp [go_sem,F,eU,Part.d,Part.c,Host.c,Graph.c,g,f,l,n,F2,o,v];done)|(simp_all;done)),(by exact B),(by exact h7),(by exact a4),(by exact b7),(by exact a1),(by exact hG),(by exact b2)⟩) ?_
   iterate 11 (first|omega|(simp [go_sem,seval,F,eU,Part.d,Part.c,Host.c,Graph.c,g,f,l,n,F2,o,v]<;>omega))
   intro i e H i4
   obtain ⟨x,qs,g0,f6,f2,e6,c8,c7,c6,gY_4,nY_4,h1,g4,hi,B,hx,a4,b7,a1,hG,b2⟩:=(d1 _ _ _).1 i4
   have xY:=b8 nY_4
   have xs:=b8 g4
   have F4:=And.intro g0 (And.intro f6 (And.intro f2 (And.intro e6 (And.intro c8 (And.intro c7 (And.intro c6 (And.intro gY_4 (And.intro h1 (And.intro xY xs)))))))))
   have C:=And.intro (dG (aD:Y≠V)) (And.intro (dG (aD:Y≠b)) (And.intro (dG (aD:Y≠a)) (And.intro (dG (aD:Y≠s)) (And.intro (dG (aD:V≠b)) (And.intro (dG (aD:V≠a)) (And.intro (dG (aD:V≠s)) (And.intro (dG (aD:b≠a)) (And.intro (dG (aD:b≠s)) (dG (aD:a≠s))))))))))
   try simp [go_sem,seval,F,eU,Part.d,Part.c,Host.c,Graph.c,g,f,l,n,o,v,F4,C]
   refine aP (λq=>?_) (λq=>?_)
   .try simp [go_sem] at q
    have a6:=vW r.into.nodes i
    obtain ⟨nd,T⟩:∃ y,y=r.right.graph.nodes[i]:=⟨_,rfl⟩
    have i9:gN r.right.graph (i:Int)=nd:=by rw [T];simp [gN,aA q]
    have k7:=s5 r.into.nodes i
    have E:i<co.nodes.length:=aD
    have b3:=j3 i q
    rw [aA E,Option.getD_some] at b3
    have b1:x.graph.nodes.length=d.nodes.length+(bF r.into.nodes i).length/\x.values.length=x.graph.nodes.length/\x.graph.edges.length<=100:=by rw [hx];simp [RO,bdE];omega
    have w:=B.ga
    have A:=B.gV
    have M:=k9 B.len
    have e0:=B.rng a B.a_in
    have e1:=B.rng V B.V_in
    have c0:=B.rng b B.b_in
    have L:=And.intro (b8 (aD:s<H.next)) (And.intro (b8 (aD:a<H.next)) (And.intro (b8 (aD:b<H.next)) (b8 (aD:V<H.next))))
    try simp [go_sem,seval,F,eU,Part.d,Part.c,Host.c,Graph.c,g,f,l,n,o,v,F4,C,q,aA q,<- T,aA E,w,A,M,L]
    repeat first|intro _|refine ⟨eK,?_⟩
    refine aP (λb6=>?_) (λb6=>?_)
    .try simp [go_sem] at b6
     have hm:mem r.into.nodes i=false:=b3.1 (by simpa [b1.1] using b6)
     rw [if_neg (by rw [hm];simp)] at a6
     have l0:(oA t nd).length<=8:=by unfold oA;rw [aS];exact wM hR.vf nd
     obtain ⟨S,u⟩:∃ y:Host,y=⟨⟨x.graph.nodes++[nd],x.graph.edges⟩,x.values++[oA t nd]⟩:=⟨_,rfl⟩
     obtain ⟨a5,a2⟩:∃ y,y=qs++[H.next]:=⟨_,rfl⟩
     have a3:S=RO t r (bdE h d U d.edges.length) (i+1):=by rw [u,hx];unfold RO;rw [a6];simp [i9]
     have p:S.graph.nodes.length=x.graph.nodes.length+1/\S.graph.edges.length=x.graph.edges.length/\S.values.length=x.values.length+1:=by rw [u];simp
     have c9:∀ j∈a :: b :: V :: qs,j≠H.next:=λj hj=>by have:=(B.rng j hj).2;omega
     have Z:∀ j∈b :: qs,j≠a/\j≠s/\j≠V/\j<H.next:=λj hj=>by
      rcases bP.1 hj with rfl|hj
      .exact ⟨aD,aD,aD,c0.2⟩
      .exact ⟨(B.qn hj).1,a4 j (B.q_in hj),(B.qn hj).2.2,(B.rng j (B.q_in hj)).2⟩
     have a8:∀ j∈a :: b :: V :: a5,j≠s:=λj hj=>by
      have e:a :: b :: V :: a5=(a :: b :: V :: qs)++[H.next]:=by rw [a2];rfl
      rw [e,aV,aW] at hj
      rcases hj with hj|rfl
      .exact a4 j hj
      .omega
     have a9:∀ j∈a5,G.next<=j:=λj hj=>by
      rw [a2,aV,aW] at hj
      rcases hj with hj|rfl
      .exact b7 j hj
      .omega
     try simp [go_sem,seval,F,eU,Part.d,Part.c,Host.c,Graph.c,g,f,l,n,o,v,F4,C,q,aA q,<- T,aA E,w,A,M,L,p]
     repeat first|intro _|refine ⟨eK,?_⟩
     refine Em H.next (Ft t ht nd) (by first|rfl|(simp [go_sem];done)) rfl (by first|omega|(simp [go_sem];done)|(first|(simp [go_sem];done)|(simp [go_sem];omega))) (by simp [tN,zD];exact a1 _ aD) (by first|trivial|(simp [go_sem];done)|(simp [go_sem,KM];done)|(simp [go_sem,KM];omega)) ?_
     try simp [go_sem,seval,F,eU,Part.d,Part.c,Host.c,Graph.c,g,f,l,n,o,v,F4,C,q,aA q,<- T,aA E,w,A,M,L,p]
     repeat first|intro _|refine ⟨eK,?_⟩
     refine dN (i+1) aD ((d1 _ _ _).2 ⟨(S),(a5),?_,?_,?_,?_,?_,?_,?_,?_,?_,?_,?_,(by first|assumption|omega|(simp [go_sem,F,eU,Part.d,Part.c,Host.c,Graph.c,g,f,l,n,o,v,F4,C,q,aA q,<- T,aA E,w,A,M,L,p,h3,h9,b6];done)|(simp_all<;>omega)),(by first|exact O|exact O.same (by first|(simp [go_sem];done)|(simp [go_sem];omega)) (λ_ _=>rfl)|exact O.same (by first|(simp [go_sem];done)|(simp [go_sem];omega)) (λj hj=>by have:=(O.rng j hj).2;simp [go_sem,b8 this])|(rw [u,a2];exact B.nodeRow (by first|(simp [go_sem];done)|(simp [go_sem];omega)) (eJ _) c9 (by first|(simp [go_sem];done)|(simp [go_sem];omega)) (by simp [go_sem,F,eU,Part.d,Part.c,Host.c,Graph.c,g,f,l,n,o,v,F4,C,q,aA q,<- T,aA E,w,A,M,L,p,cI]) (by simp [go_sem,F,eU,Part.d,Part.c,Host.c,Graph.c,g,f,l,n,o,v,F4,C,q,aA q,<- T,aA E,w,A,M,L,p]) (by simp [go_sem,F,eU,Part.d,Part.c,Host.c,Graph.c,g,f,l,n,o,v,F4,C,q,aA q,<- T,aA E,w,A,M,L,p]) (λj hj=>by obtain ⟨k1,k2,k3,k4⟩:=Z j hj;simp [go_sem,k1,k2,k3,b8 k4]))),(by exact a3),(by exact a8),(by exact a9),(by intro j hj;simp [go_sem,tN,zD] at hj ⊢;first|exact ⟨aD,a1 j aD⟩|exact a1 j aD),(by first|exact c2|(intro j hj hn;simp only [bP,i7,or_false,not_or] at hn;simp [go_sem,hn,b8 (aD:j<H.next)];exact hG j hj (by simp [hn]))),(by first|(simp [go_sem];done)|(simp [go_sem];omega))⟩)<;>first|omega|(simp [go_sem,seval,F,eU,Part.d,Part.c,Host.c,Graph.c,g,f,l,n,o,v,F4,C,q,aA q,<- T,aA E,w,A,M,L,p]<;>omega)
    .try simp [go_sem] at b6
     have hm:mem r.into.nodes i=true:=by
      cases e2:mem r.into.nodes i with
      | true=>rfl
      | false=>exact absurd (by simpa [b1.1] using b3.2 e2) b6
     rw [if_pos hm,jV] at a6
     obtain ⟨S,u⟩:∃ y,y=x:=⟨_,rfl⟩
     obtain ⟨a5,a2⟩:∃ y,y=qs:=⟨_,rfl⟩
     have a3:S=RO t r (bdE h d U d.edges.length) (i+1):=by rw [u,hx];unfold RO;rw [a6]
     have O:HH H 0 a b V a5 S:=by rw [u,a2];exact B
     have a8:∀ j∈a :: b :: V :: a5,j≠s:=by rw [a2];exact a4
     have a9:∀ j∈a5,G.next<=j:=by rw [a2];exact b7
     have c2:=hG
     try simp [go_sem,seval,F,eU,Part.d,Part.c,Host.c,Graph.c,g,f,l,n,o,v,F4,C,q,aA q,<- T,aA E,w,A,M,L,u]
     repeat first|intro _|refine ⟨eK,?_⟩
     refine dN (i+1) aD ((d1 _ _ _).2 ⟨(S),(a5),?_,?_,?_,?_,?_,?_,?_,?_,?_,?_,?_,(by first|assumption|omega|(simp [go_sem,F,eU,Part.d,Part.c,Host.c,Graph.c,g,f,l,n,o,v,F4,C,q,aA q,<- T,aA E,w,A,M,L,u,h3,h9,b6];done)|(simp_all<;>omega)),(by first|exact O|exact O.same (by first|(simp [go_sem];done)|(simp [go_sem];omega)) (λ_ _=>rfl)|exact O.same (by first|(simp [go_sem];done)|(simp [go_sem];omega)) (λj hj=>by have:=(O.rng j hj).2;simp [go_sem,b8 this])|(rw [u,a2];exact B.nodeRow (by first|(simp [go_sem];done)|(simp [go_sem];omega)) (eJ _) c9 (by first|(simp [go_sem];done)|(simp [go_sem];omega)) (by simp [go_sem,F,eU,Part.d,Part.c,Host.c,Graph.c,g,f,l,n,o,v,F4,C,q,aA q,<- T,aA E,w,A,M,L,u,cI]) (by simp [go_sem,F,eU,Part.d,Part.c,Host.c,Graph.c,g,f,l,n,o,v,F4,C,q,aA q,<- T,aA E,w,A,M,L,u]) (by simp [go_sem,F,eU,Part.d,Part.c,Host.c,Graph.c,g,f,l,n,o,v,F4,C,q,aA q,<- T,aA E,w,A,M,L,u]) (λj hj=>by obtain ⟨k1,k2,k3,k4⟩:=Z j hj;simp [go_sem,k1,k2,k3,b8 k4]))),(by exact a3),(by exact a8),(by exact a9),(by intro j hj;simp [go_sem,tN,zD] at hj ⊢;first|exact ⟨aD,a1 j aD⟩|exact a1 j aD),(by first|exact c2|(intro j hj hn;simp only [bP,i7,or_false,not_or] at hn;simp [go_sem,hn,b8 (aD:j<H.next)];exact hG j hj (by simp [hn]))),(by first|(simp [go_sem];done)|(simp [go_sem];omega))⟩)<;>first|omega|(simp [go_sem,seval,F,eU,Part.d,Part.c,Host.c,Graph.c,g,f,l,n,o,v,F4,C,q,aA q,<- T,aA E,w,A,M,L,u]<;>omega)
   .try simp [go_sem] at q
    have i2:i=r.right.graph.nodes.length:=aD
    have h6:x=Vt t r co (RO t r (bdE h d U d.edges.length) r.right.graph.nodes.length) 0:=by rw [hx,i2];simp [Vt,bF]
    have J:=And.intro (b8 (aD:s<H.next)) (And.intro (b8 (aD:a<H.next)) (And.intro (b8 (aD:b<H.next)) (b8 (aD:V<H.next))))
    try simp [go_sem,seval,F,eU,Part.d,Part.c,Host.c,Graph.c,g,f,l,n,o,v,F4,C,J]
    repeat first|intro _|refine ⟨eK,?_⟩
    obtain ⟨I6,d0⟩:∃ I6:Nat->dA->AHeap->Prop,∀ (i:Nat) (e:dA) (H:AHeap),I6 i e H↔(∃ x:Host,(e 1=.ptr s 1 0 0)/\(e 3=.adr t.c)/\(e 5=.adr d.c)/\(e 174=.list (r.right.graph.edges.map Edge.c))/\(e 175=dI r.right.graph.edges.length)/\(e 176=dI i)/\(H.get s=some ⟨53,38,[eU r m h (.own a x.graph.nodes.length) (.own b x.graph.edges.length) (.own V x.values.length) U co],false⟩)/\(s<H.next)/\(i<=r.right.graph.edges.length)/\(HH H 0 a b V qs x)/\(x=Vt t r co (RO t r (bdE h d U d.edges.length) r.right.graph.nodes.length) i)/\(∀ j,j<G.next->j∉[s,a,b,V]->H.get j=G.get j)/\(G.next<=H.next)):=⟨λi e H=>_,λ_ _ _=>Iff.rfl⟩
    refine oR I6 (λi=>r.right.graph.edges.length - i) (0) ((d0 _ _ _).2 ⟨(x),?_,?_,?_,?_,?_,?_,?_,?_,(by first|assumption|omega|(simp [go_sem,F,eU,Part.d,Part.c,Host.c,Graph.c,g,f,l,n,o,v,F4,C,J];done)|(simp_all;done)),(by exact B),(by exact h6),(by exact hG),(by exact b2)⟩) ?_
    iterate 8 (first|omega|(simp [go_sem,seval,F,eU,Part.d,Part.c,Host.c,Graph.c,g,f,l,n,o,v,F4,C,J]<;>omega))
    intro i e H i3
    obtain ⟨x,f9,f5,f1,c5,c4,c3,h0,g3,hi,B,hx,hG,b2⟩:=(d0 _ _ _).1 i3
    have xs:=b8 g3
    have F6:=And.intro f9 (And.intro f5 (And.intro f1 (And.intro c5 (And.intro c4 (And.intro c3 (And.intro h0 xs))))))
    have N:=And.intro (dG (aD:V≠b)) (And.intro (dG (aD:V≠a)) (And.intro (dG (aD:V≠s)) (And.intro (dG (aD:b≠a)) (And.intro (dG (aD:b≠s)) (dG (aD:a≠s))))))
    try simp [go_sem,seval,F,eU,Part.d,Part.c,Host.c,Graph.c,g,f,l,n,o,v,C,J,F6,N]
    refine aP (λI=>?_) (λI=>?_)
    .try simp [go_sem] at I
     have a6:=vW r.into.edges i
     obtain ⟨y,hy⟩:=cC (r.right.graph.edges[i])
     have g7:r.right.graph.edges[i]?.getD b4=y:=by rw [hy,aA I];rfl
     have d9:=(j0.2 _ (aC I)).2
     rw [<- hy] at d9
     have R:y.from_.toNat<co.nodes.length:=aD
     have P:y.to_.toNat<co.nodes.length:=aD
     have k8:=s5 r.into.edges i
     have E:i<co.edges.length:=aD
     have b3:=j4 i I
     rw [aA E,Option.getD_some] at b3
     have b1:x.graph.edges.length=d.edges.length+(bF r.into.edges i).length:=by rw [hx];simp [Vt,RO,bdE]
     have K:=B.gb
     have c0:=B.rng b B.b_in
     have e0:=B.rng a B.a_in
     have e1:=B.rng V B.V_in
     have a0:=And.intro (b8 (aD:s<H.next)) (And.intro (b8 (aD:a<H.next)) (And.intro (b8 (aD:b<H.next)) (b8 (aD:V<H.next))))
     try simp [go_sem,seval,F,eU,Part.d,Part.c,Host.c,Graph.c,g,f,l,n,o,v,C,J,F6,N,I,aA I,<- hy,aA R,aA P,aA E,K,Edge.c,a0]
     repeat first|intro _|refine ⟨eK,?_⟩
     refine aP (λb5=>?_) (λb5=>?_)
     .try simp [go_sem] at b5
      have hm:mem r.into.edges i=false:=b3.1 (by simpa [b1] using b5)
      rw [if_neg (by rw [hm];simp)] at a6
      have g8:freshE co y=⟨y.type,co.nodes[y.from_.toNat],co.nodes[y.to_.toNat]⟩:=by unfold freshE;rw [aA R,aA P];rfl
      obtain ⟨S,u⟩:∃ z:Host,z=⟨⟨x.graph.nodes,x.graph.edges++[freshE co y]⟩,x.values⟩:=⟨_,rfl⟩
      have a3:S=Vt t r co (RO t r (bdE h d U d.edges.length) r.right.graph.nodes.length) (i+1):=by rw [u,hx];unfold Vt;rw [a6];simp [g7]
      have p:S.graph.nodes.length=x.graph.nodes.length/\S.graph.edges.length=x.graph.edges.length+1/\S.values.length=x.values.length:=by rw [u];simp
      have Z:∀ j∈a :: V :: qs,j≠b/\j≠s/\j<H.next:=λj hj=>by
       have c1:j∈a :: b :: V :: qs:=by simp only [bP] at hj ⊢;rcases hj with h|h|h<;>simp [h]
       refine ⟨?_,a4 j c1,(B.rng j c1).2⟩
       rintro rfl
       have:=B.nd;simp only [Bl,bP,not_or] at this
       simp only [bP] at hj
       rcases hj with h|h|h
       .exact this.1.1 h.symm
       .exact this.2.1.1 h
       .exact this.2.1.2 h
      try simp [go_sem,seval,F,eU,Part.d,Part.c,Host.c,Graph.c,g,f,l,n,o,v,C,J,F6,N,I,aA I,<- hy,aA R,aA P,aA E,K,Edge.c,a0,p]
      repeat first|intro _|refine ⟨eK,?_⟩
      refine dN (i+1) aD ((d0 _ _ _).2 ⟨(S),?_,?_,?_,?_,?_,?_,?_,?_,(by first|assumption|omega|(simp [go_sem,F,eU,Part.d,Part.c,Host.c,Graph.c,g,f,l,n,o,v,C,J,F6,N,I,aA I,<- hy,aA R,aA P,aA E,K,Edge.c,a0,p,h3,h9,q,b5];done)|(simp_all<;>omega)),(by first|exact O|exact O.same (by first|(simp [go_sem];done)|(simp [go_sem];omega)) (λ_ _=>rfl)|exact O.same (by first|(simp [go_sem];done)|(simp [go_sem];omega)) (λj hj=>by have:=(O.rng j hj).2;simp [go_sem,b8 this])|(rw [u];exact B.edges (by first|(simp [go_sem];done)|(simp [go_sem];omega)) (by simp [go_sem,F,eU,Part.d,Part.c,Host.c,Graph.c,g,f,l,n,o,v,C,J,F6,N,I,aA I,<- hy,aA R,aA P,aA E,K,Edge.c,a0,p,g8,Edge.c]) (λj hj=>by obtain ⟨k1,k2,k3⟩:=Z j hj;simp [go_sem,k1,k2,b8 k3]))),(by exact a3),(by first|exact c2|(intro j hj hn;simp only [bP,i7,or_false,not_or] at hn;simp [go_sem,hn,b8 (aD:j<H.next)];exact hG j hj (by simp [hn]))),(by first|(simp [go_sem];done)|(simp [go_sem];omega))⟩)<;>first|omega|(simp [go_sem,seval,F,eU,Part.d,Part.c,Host.c,Graph.c,g,f,l,n,o,v,C,J,F6,N,I,aA I,<- hy,aA R,aA P,aA E,K,Edge.c,a0,p]<;>omega)
     .try simp [go_sem] at b5
      have hm:mem r.into.edges i=true:=by
       cases e2:mem r.into.edges i with
       | true=>rfl
       | false=>exact absurd (by simpa [b1] using b3.2 e2) b5
      rw [if_pos hm,jV] at a6
      obtain ⟨S,u⟩:∃ z,z=x:=⟨_,rfl⟩
      have a3:S=Vt t r co (RO t r (bdE h d U d.edges.length) r.right.graph.nodes.length) (i+1):=by rw [u,hx];unfold Vt;rw [a6]
      have O:HH H 0 a b V qs S:=by rw [u];exact B
      have c2:=hG
      try simp [go_sem,seval,F,eU,Part.d,Part.c,Host.c,Graph.c,g,f,l,n,o,v,C,J,F6,N,I,aA I,<- hy,aA R,aA P,aA E,K,Edge.c,a0,u]
      repeat first|intro _|refine ⟨eK,?_⟩
      refine dN (i+1) aD ((d0 _ _ _).2 ⟨(S),?_,?_,?_,?_,?_,?_,?_,?_,(by first|assumption|omega|(simp [go_sem,F,eU,Part.d,Part.c,Host.c,Graph.c,g,f,l,n,o,v,C,J,F6,N,I,aA I,<- hy,aA R,aA P,aA E,K,Edge.c,a0,u,h3,h9,q,b5];done)|(simp_all<;>omega)),(by first|exact O|exact O.same (by first|(simp [go_sem];done)|(simp [go_sem];omega)) (λ_ _=>rfl)|exact O.same (by first|(simp [go_sem];done)|(simp [go_sem];omega)) (λj hj=>by have:=(O.rng j hj).2;simp [go_sem,b8 this])|(rw [u];exact B.edges (by first|(simp [go_sem];done)|(simp [go_sem];omega)) (by simp [go_sem,F,eU,Part.d,Part.c,Host.c,Graph.c,g,f,l,n,o,v,C,J,F6,N,I,aA I,<- hy,aA R,aA P,aA E,K,Edge.c,a0,u,g8,Edge.c]) (λj hj=>by obtain ⟨k1,k2,k3⟩:=Z j hj;simp [go_sem,k1,k2,b8 k3]))),(by exact a3),(by first|exact c2|(intro j hj hn;simp only [bP,i7,or_false,not_or] at hn;simp [go_sem,hn,b8 (aD:j<H.next)];exact hG j hj (by simp [hn]))),(by first|(simp [go_sem];done)|(simp [go_sem];omega))⟩)<;>first|omega|(simp [go_sem,seval,F,eU,Part.d,Part.c,Host.c,Graph.c,g,f,l,n,o,v,C,J,F6,N,I,aA I,<- hy,aA R,aA P,aA E,K,Edge.c,a0,u]<;>omega)
    .try simp [go_sem] at I
     have hX:x=Ca t r co (bdE h d U d.edges.length):=by rw [hx,(aD:i=r.right.graph.edges.length)];rfl
     rw [hX] at B
     try simp [go_sem,seval,F,eU,Part.d,Part.c,Host.c,Graph.c,g,f,l,n,o,v,C,J,F6,N,hX]
     exact hQ qs _ B (by simp [go_sem,F,eU,Part.d,Part.c,Host.c,Graph.c,g,f,l,n,o,v,C,J,F6,N,hX]) a4 b7 hG b2
end Go.Abs
end
