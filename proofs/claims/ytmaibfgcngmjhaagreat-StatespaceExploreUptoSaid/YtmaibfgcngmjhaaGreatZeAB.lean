/- The abstraction layer, part E: operations that write or make -/
import Derived.Test.YtmaibfgcngmjhaaGreatZeAA
import Derived.Lib.AppendZerosOnto
set_option linter.unusedVariables false
set_option linter.unusedSimpArgs false
section
namespace Go.Abs
section
variable {P:Program} {M0:Nat→Prop} {H:AHeap} {σ:Nat→Option Ow} {w:World}
theorem IJ (o:Ow)(a:Nat)(h:σ a=some o):(λi=>if i=a then some o else σ i)=σ:=by grind
theorem GA {n:Nat}:∀ (es:Xa1) (i:Nat) (c c':Xa2),(∀ c∈es,c.length=n)->es[i]?=some c->c'.length=n ->
  (es.set i c').flatten=es.flatten.take (i * n)++c'++es.flatten.drop (i * n+n)
 | [],i,c,c',_,h,_=>by simp at h
 | e :: es,0,c,c',hl,h,hc'=>by
  have he:=hl e bS;simp [he]
 | e :: es,i+1,c,c',hl,h,hc'=>by
  have he:=hl e bS;simp at h;have ih:=GA es i c c' (λc hc=>hl c (fg hc)) h hc';simp only [xT,fB,ih];have e1:(i+1) * n=e.length+i * n:=by rw [Nat.add_mul,he];omega
  rw [e1,vP,Ld];simp only [List.append_assoc];rw [show List.take (e.length+i * n) e=e by rw [aH];omega,(bL:e.length+i * n - e.length=i * n),
   show List.drop (e.length+i * n+n) e=[] by rw [iX];omega,(bL:e.length+i * n+n - e.length=i * n+n)]
  simp
theorem jZ {α:Type}(a b c:List α)(j:Nat):(a++b++c)[j]?=if j<a.length then a[j]? else if j<a.length+b.length then b[j - a.length]? else c[j - a.length - b.length]?:=by grind
theorem BZ {M:Nat->Prop}{N:Nat->Prop}{v:Value}{d:D}(h:RepV M σ N w v d)(f:d.cells.all D.cell=true) :
    RepL M σ N w v.cells.toList d.cells/\∀ u∈v.cells.toList,u.oneCell'=true:=by
  cases d with
  | agg ds =>
    cases h
    rename_i g a e c;exact ⟨⟨by simpa [Value.cells,D.cells] using e,λj u x hu hx=>c j u x (by simpa [Value.cells] using hu) (by simpa [D.cells] using hx)⟩,by simpa [Value.cells] using a⟩
  | _ =>
    first
    | (simp [D.cells,D.cell] at f;done)
    | (have a:=h.cw rfl
       have b:v.cells=#[v]:=by cases v<;>first|rfl|(simp [Value.oneCell'] at a)
       rw [b];refine ⟨⟨by simp [D.cells],λj u x hu hx=>?_⟩,by simpa using a⟩;cases j with
       | zero=>simp [D.cells] at hu hx;subst hu;subst hx;exact h
       | succ j=>simp at hu)
theorem Mx {M:Nat->Prop}{N:Nat->Prop}{v:Value}{d:D}(h:RepV M σ N w v d)(a:d.cells.all D.cell=true):v.cells.size=d.cells.length:=by
 have:=(BZ h a).1.len;simpa using this
def OpU (P:Program)(x:Sem Unit)(M0:Nat->Prop)(H:AHeap)(σ:Nat->Option Ow)(w:World)(H':AHeap):Prop :=
 ∃ w' σ',x.run P w=.ok () w'/\Rel M0 H' σ' w'/\Stp σ w σ' w'/\Keeps (dK M0 H σ) σ H.J w (dK M0 H' σ') σ' H'.J w'
theorem OR {t:TypeId}{va r:Value}{x v:D}(hR:Rel M0 H σ w)(hx:RepV (dK M0 H σ) σ H.J w va x)(hv:RepV (dK M0 H σ) σ H.J w r v)(Y:(nJ P t x v H).cond) :
  OpU P (Instr.storeAt t va r) M0 H σ w (nJ P t x v H).heap:=by
 unfold nJ at *;cases x<;>try (simp [AOut.bad] at Y;done)
 rename_i id ver i a;cases V:H.get id with
 | none=>simp [V,AOut.bad] at Y
 | some k =>
  cases s:k.es[i]? with
  | none=>simp [V,s,AOut.bad] at Y
  | some c =>
   simp only [V,s] at Y ⊢;obtain ⟨a8,b5,a2,I,z,b6⟩:=Y;obtain ⟨ti,Q⟩:=l8.1 I;obtain ⟨o,ho,l⟩:=hR.ah id k V;obtain ⟨E,S,N,p⟩:=l.row;have a4:i<k.es.length:=(aL.1 s).1;have b2:c.length=o.K:=l.K c (aK s);cases hx
   rename_i hN h1 h;rcases h o ho with C|⟨b8,b,hb,rfl⟩
   .have:=l.af;omega
   .obtain ⟨a3,O⟩:=BZ hv z;have a1:=Mx hv z;have F:E.length=k.es.length * o.K:=p.len.trans (lP k.es l.K);have a0:i * o.K+o.K<=E.length:=by
     rw [F];have:(i+1) * o.K<=k.es.length * o.K:=c9 _ a4;rw [Nat.add_mul] at this;omega
    rcases S.2 with ⟨T,_⟩|⟨g,b4,n,B,b3,hg,U,b1,b0,G⟩
    .simp [Ow.block,T,Value.ownBlock] at hb
    .have a7:g=b:=by simpa [Ow.block,B,Value.ownBlock] using hb
     subst a7;have b7:k.es.length * o.K<=n.size:=by rw [b0];exact c9 _ U
     have R:=run_storeCells_at (P:=P) g (i * o.K+a) k.ty r.cells.toList 0 n w hg et O;simp only [p7] at R;have y:r.cells.size=ti.size:=by rw [a1,a2];simp [Program.cellsOf,Q]
     refine ⟨w.setRow g (n.toList.take (i * o.K+a)++r.cells.toList++n.toList.drop (i * o.K+a+r.cells.toList.length)).toArray,σ,?_,?_⟩
     .simp [Instr.storeAt,Instr.sureAddr,storeVar,sizeOf,typeInfo,Q,y];simpa [y] using R
     .have A:(uN c a v.cells).length=o.K:=by simp [uN];omega
      have hp:=Rel.put hR V a8 ho { k with es:=k.es.set i (uN c a v.cells) } o (w':=w.setRow g (n.toList.take (i * o.K+a)++r.cells.toList++n.toList.drop (i * o.K+a+r.cells.toList.length)).toArray)
       ⟨rfl,rfl,rfl,by simp,λq _ hq=>setRow_other w g q _ (λe=>hq (by rw [e,hb]))⟩ (λb' hb'=>.inl hb') (.inl rfl) (cG l.af) l.ty l.sz
       (λd m=>by
        rcases lE m with C|C
        .exact l.K d C
        .rw [C,A])
       (E.take (i * o.K+a)++r.cells.toList++E.drop (i * o.K+a+r.cells.toList.length))
       ⟨by simp [F];omega,.inr ⟨g,b4,_,by simpa using B,b3,setRow_heap w g n _ k.ty _ hg,by simpa using U,b1,by simp;omega,by
        have c0:r.cells.toList.length=r.cells.size:=bS;simp only [iZ];rw [<- G];apply fC;intro j;simp only [bX,jZ,bT,bV,gB];by_cases hj:j<k.es.length * o.K
        .rw [if_pos hj];have m1:min (i * o.K+a) n.size=i * o.K+a:=bL;have M:min (i * o.K+a) (min (k.es.length * o.K) n.size)=i * o.K+a:=bL;rw [m1,M];split
         .first|rfl|rw [if_pos hj]
         .split
          .rfl
          .first|rfl|rw [if_pos bL]
        .rw [if_neg hj];have M:min (i * o.K+a) (min (k.es.length * o.K) n.size)=i * o.K+a:=bL;rw [M,if_neg bL,if_neg bL,if_neg bL]⟩⟩
       (λu f=>by
        simp only [aQ] at f;rcases f with (f|f)|f
        .exact N u (bJ f)
        .exact O u f
        .exact N u (cQ f))
       ⟨by rw [lP _ (λd m=>by
          rcases lE m with C|C
          .exact l.K d C
          .rw [C,A])];simp [F];omega,λj u d f m=>by
        simp only at m;rw [GA k.es i c _ l.K s A] at m;have a9:k.es.flatten.length=E.length:=p.len.symm;simp only [jZ,bT,bX,bV,a9,A,gB] at f m;have m1:min (i * o.K+a) E.length=i * o.K+a:=bL;have M:min (i * o.K) E.length=i * o.K:=bL;rw [m1] at f;rw [M] at m;split at m
        .rename_i X;rw [if_pos bL,if_pos bL] at f;try rw [if_pos X] at m
         exact p.Y j u d f m
        .rename_i X;split at m
         .rename_i a6;simp only [uN,jZ,bT,bX,bV] at m;have m3:min a c.length=a:=bL;rw [m3] at m;split at m
          .rename_i W;rw [if_pos bL,if_pos bL] at f;try rw [if_pos W] at m
           refine p.Y j u d f ?_;have:=l7 k.es i c l.K s (j - i * o.K) bL;rw [(bL:i * o.K+(j - i * o.K)=j)] at this;rw [this,m]
          .rename_i W;split at m
           .rename_i a5;rw [if_neg bL,if_pos bL] at f;refine a3.Y (j - (i * o.K+a)) u d f ?_;rw [<- m];congr 1;omega
           .rename_i a5;rw [if_neg bL,if_neg bL] at f;have e1:i * o.K+a+r.cells.size+(j - (i * o.K+a) - r.cells.size)=j:=bL;rw [e1] at f;refine p.Y j u d f ?_;have:=l7 k.es i c l.K s (j - i * o.K) bL;rw [(bL:i * o.K+(j - i * o.K)=j)] at this;rw [this,<- m];congr 1;omega
         .rename_i a6;rw [if_neg bL,if_neg bL] at f;have e1:i * o.K+a+r.cells.size+(j - (i * o.K+a) - r.cells.size)=j:=bL;rw [e1] at f;refine p.Y j u d f ?_;rw [<- m];congr 1;omega⟩
      simp only [IJ o id ho] at hp;exact hp
end
end Go.Abs
end
section
namespace Go.Abs
section
variable {P:Program} {M0:Nat→Prop} {H:AHeap} {σ:Nat→Option Ow} {w:World}
theorem tM {t:TypeId}{s:SlI}(h:sl P t=some s) :
  P.underlying t=some (.slice s.e)/\∃ i z,P.info? s.e=some i/\i.zero=some z/\i.size=s.sz/\i.bytes=s.dh/\0<s.sz/\s.dh<=4096/\s.z=z.cells.toList.map rZ/\s.z.length=s.sz/\z.cells.size=s.sz/\s.z.all D.cell=true:=by
 unfold sl at h;split at h
 .rename_i e f;split at h
  .rename_i i g;split at h
   .rename_i j;obtain ⟨l,k,c,b⟩:=j;cases h
    cases a:i.zero with
    | none=>simp [AO,a] at c;omega
    | some z =>
     refine ⟨f,i,z,g,a,rfl,rfl,l,k,by simp [AO,a],c,?_,b⟩;simpa [AO,a] using c
   .cases h
  .cases h
 .cases h
theorem JF {M:Nat->Prop}{N:Nat->Prop}(v:Value):RepV M σ N w v (rZ v):=by
 unfold rZ;split
 .exact .int _ _
 .exact .bool _
 .exact .str _
 .exact .nil
 .exact .nilp
 .exact .nilf
 .exact .junk _
theorem SF {v:Value}(h:(rZ v).cell=true):v.oneCell'=true:=by
 cases v<;>first|rfl|(simp [rZ,D.cell] at h)
theorem HG {M:Nat->Prop}{N:Nat->Prop}(zs:List Value)(h:(zs.map rZ).all D.cell=true):RepL M σ N w zs (zs.map rZ)/\∀ u∈zs,u.oneCell'=true:=by
 refine ⟨⟨by simp,λj u d hu hd=>?_⟩,λu hu=>?_⟩
 .rw [aW,hu] at hd;simp at hd;subst hd;exact JF u
 .simp only [List.all_map,cF,Function.comp] at h;exact SF (h u hu)
theorem uX {M:Nat->Prop}{N:Nat->Prop}{v:Value}{es:Xa1}(h:RepV M σ N w v (.list es)) :
  (v=.slice none 0 0/\es=[])\/∃ ad cap sz xs,v=.slice (some ad) es.length cap/\RepL M σ N w xs es.flatten/\(∀ u∈xs,u.oneCell'=true) /\
   (∀ j u,xs[j]?=some u->¬ M ad.block/\w.cell? (ad.add j)=some u)/\es.length<=cap/\cap<=maxLen/\∀ c∈es,c.length=sz:=by
 generalize e:D.list es=d at h;cases h with
 | listN=>cases e;exact .inl ⟨rfl,rfl⟩
 | list ad cap sz xs es k g b i l a f=>cases e;exact .inr ⟨ad,cap,sz,xs,rfl,⟨i,f⟩,l,a,k,g,b⟩
 | _=>cases e
theorem q7 {n:Nat}:∀ (es:Xa1) (i:Nat),(∀ c∈es,c.length=n)->(es.take i).flatten=es.flatten.take (i * n)
 | [],i,_=>by simp
 | e :: es,0,_=>by simp
 | e :: es,i+1,hl=>by
  have he:=hl e bS;simp only [kV,fB,q7 es i (λc hc=>hl c (fg hc)),vP,Nat.add_mul,he];rw [aH (by omega:e.length<=i * n+1 * n)];congr 2;omega
theorem q8 {n:Nat}:∀ (es:Xa1) (i:Nat),(∀ c∈es,c.length=n)->(es.drop i).flatten=es.flatten.drop (i * n)
 | [],i,_=>by simp
 | e :: es,0,_=>by simp
 | e :: es,i+1,hl=>by
  have he:=hl e bS;simp only [List.drop_succ_cons,fB,q8 es i (λc hc=>hl c (fg hc)),Ld,Nat.add_mul,he];rw [iX (by omega:e.length<=i * n+1 * n)];simp only [fT];congr 1;omega
theorem Qt {v:Value}{x:D}{es:Xa1}(Q:Rel M0 H σ w)(C:RepV (dK M0 H σ) σ H.J w v x)(p:pN H x=some es) :
  (v=.slice none 0 0/\es=[])\/∃ ad cap xs,v=.slice (some ad) es.length cap/\RepL (dK M0 H σ) σ H.J w xs es.flatten/\(∀ u∈xs,u.oneCell'=true) /\
   (∀ j u,xs[j]?=some u->w.cell? (ad.add j)=some u)/\es.length<=cap/\cap<=maxLen:=by
 cases x<;>simp only [pN] at p<;>try (cases p;done)
 case nil=>cases p;cases C;exact .inl ⟨rfl,rfl⟩
 case ne =>
  cases p;cases C;rename_i ad cap S
  exact .inr ⟨ad,cap,[],rfl,⟨rfl,λj u d a=>by simp at a⟩,by simp,λj u a=>by simp at a,dN _,S⟩
 case list es' =>
  cases p
  rcases uX C with h|⟨ad,cap,Y,xs,M,A,B,L,K,V,_⟩
  .exact .inl h
  .exact .inr ⟨ad,cap,xs,M,A,B,λj u a=>(L j u a).2,K,V⟩
 case own id n =>
  cases z:H.get id with
  | none=>simp [z] at p
  | some k =>
   simp only [z] at p;split at p
   .rename_i hn;cases p
    obtain ⟨o,I,l⟩:=Q.ah id k z;obtain ⟨xs,i,y,q⟩:=l.row;cases C
    rename_i U M h;rcases h o I with X|⟨_,rfl⟩
    .have:=l.af;omega
    .rcases i.2 with ⟨r,W⟩|⟨g,cap,N,f,_,_,E,G,_⟩
     .exact .inl ⟨r,bI W⟩
     .exact .inr ⟨⟨g,0,none⟩,cap,xs,f,q,y,i.cells (g:=g) (by simp [f,Value.ownBlock]),E,G⟩
   .cases p
 case win id n lo hi =>
  cases z:H.get id with
  | none=>simp [z] at p
  | some k =>
   simp only [z] at p;split at p
   .rename_i hn;cases p
    obtain ⟨o,I,l⟩:=Q.ah id k z;obtain ⟨xs,i,y,q⟩:=l.row;have O:=l.af;cases C
    rename_i M U T h;have R:S8 o v n lo hi:=by
     rcases h o I with X|⟨_,A⟩
     .omega
     .exact A
    rcases R with ⟨_,B,L⟩|⟨b,s,A,P,B⟩
    .subst B L;exact .inl ⟨rfl,by simp⟩
    .have hlen:((k.es.take hi).drop lo).length=hi - lo:=by simp;omega
     have m:((k.es.take hi).drop lo).flatten=(k.es.flatten.take (hi * o.K)).drop (lo * o.K):=by
      rw [q8 _ lo (λc P=>l.K c (bJ P)),q7 _ hi l.K]
     rcases i.2 with ⟨r,_⟩|⟨g,cap,N,f,_,_,E,G,_⟩
     .rw [A] at r;cases r
     .rw [A] at f;cases f
      have t:=i.cells (g:=b) (by rw [A];simp [Value.ownBlock]);by_cases F:s=lo
      .have hba:hi=lo:=bL;refine .inr ⟨⟨b,0,none⟩,s - lo,[],?_,⟨?_,λj u d a=>by simp at a⟩,by simp,λj u a=>by simp at a,?_,bL⟩
       .rw [B,hlen,if_pos F]
       .rw [m];subst hba;simp
       .rw [hlen];omega
      .refine .inr ⟨⟨b,lo * o.K,none⟩,s - lo,(xs.take (hi * o.K)).drop (lo * o.K),?_,⟨?_,λj u d a J=>?_⟩,λu a=>y u (bJ (cQ a)),λj u a=>?_,?_,bL⟩
       .rw [B,hlen,if_neg F]
       .rw [m];simp [q.len]
       .rw [m,bV,bX] at J;rw [bV,bX] at a;split at a
        .rename_i hj;rw [if_pos hj] at J;exact q.Y _ u d a J
        .cases a
       .rw [bV,bX] at a;split at a
        .have K:=t _ u a;have e:(Addr.add ⟨b,0,none⟩ (lo * o.K))=⟨b,lo * o.K,none⟩:=by simp [jL]
         rw [<- e,BE];exact K
        .cases a
       .rw [hlen];omega
   .cases p
theorem Ob {nid:Nat}(hn:¬ H.J nid){t t' ty:TypeId}{va vb:Value}{x y:D}(hR:Rel M0 H σ w)(hx:RepV (dK M0 H σ) σ H.J w va x)(hy:RepV (dK M0 H σ) σ H.J w vb y)
  (b0:(pN H y).isSome=true) (U:(lT P nid t t' x y H).cond):(lT P nid t t' x y H).aa/\OpS P (Builtin.append_ #[t,t'] ty #[va,vb]) M0 H σ w (lT P nid t t' x y H).val (lT P nid t t' x y H).heap:=by
 unfold lT at *;cases hs:sl P t with
 | none=>simp [hs,AOut.bad] at U
 | some s =>
  cases he:pN H y with
  | none=>rw [he] at b0;cases b0
  | some ys =>
   simp only [hs,he] at U ⊢;obtain ⟨F,i,z,hi,hz,C,M,b5,c0,c3,c2,b1,c4⟩:=tM hs;have a9:∀ m:Nat,m<=4294967296->m<=maxLen/\m * s.dh<=140737488355328:=λm hm=>by
    refine ⟨by simp only [maxLen];omega,?_⟩;have:=iY hm c0;omega
   have V:∀ (v:Value) (n:Nat) (J:List Value),w.ownsRow 0 s.e s.sz v n J->n+ys.length<=4294967296->(∀ c∈ys,c.length=s.sz)->ys.flatten.all D.cell=true ->
     ∃ G w' a,(Builtin.append_ #[t,t] ty #[v,vb]).run P w=.ok G w'/\w'.ownsRow 0 s.e s.sz G (n+ys.length) (J++a)/\w.grownBy w' v.ownBlock /\
      RepL (dK M0 H σ) σ H.J w a ys.flatten/\(∀ u∈a,u.oneCell'=true)/\(ys.length=0->G=v)/\(∀ b,G.ownBlock=some b->v.ownBlock=some b\/w.heap.size<=b):=by
    intro v n J q a1 B E;rcases Qt hR hy he with ⟨rfl,L⟩|⟨ad,Q,a,rfl,r,h1,T,c7,c6⟩
    .subst L;exact ⟨v,w,[],run_append_owned_none w 0 t ty s.e i s.sz F hi v n J q,by simpa using q,⟨rfl,rfl,rfl,aT _,λ_ _ _=>rfl⟩,⟨rfl,λj u d F=>by simp at F⟩,by simp,λ_=>rfl,λb O=>.inl O⟩
    .have hnl:a.length=ys.length * s.sz:=r.len.trans (lP ys B);by_cases h0:ys.length=0
     .have hn0:a=[]:=bI (by rw [hnl,h0];simp);subst hn0;have f:(Builtin.append_ #[t,t] ty #[v,.slice (some ad) ys.length Q]).run P w=.ok v w:=by
       rw [h0];rcases q.2 with ⟨rfl,rfl⟩|⟨g,I,a2,rfl,_,_,a7,_⟩
       .simp [Builtin.append_,run_underlying F,sizeOf,typeInfo,hi,Builtin.lenOf,Builtin.firstCells,loadCells,loadCellsFrom]
       .simp [Builtin.append_,run_underlying F,sizeOf,typeInfo,hi,Builtin.lenOf,Builtin.firstCells,loadCells,loadCellsFrom,a7,storeCells]
      exact ⟨v,w,[],f,by simpa [h0] using q,⟨rfl,rfl,rfl,aT _,λ_ _ _=>rfl⟩,r,by simp,λ_=>rfl,λb O=>.inl O⟩
     .obtain ⟨a0,Z⟩:=a9 _ a1;obtain ⟨G,w',f,p,S,_⟩:=run_append_own (P:=P) w 0 t ty s.e i z s.sz s.dh F hi hz C M b1 b5 v n J q ad ys.length Q a hnl T h1 a0 Z (dN _);refine ⟨G,w',a,f,p,S,r,h1,λh=>absurd h h0,λb O=>?_⟩;rcases bD b w.heap.size with c5|hge
      .left
       rcases q.2 with ⟨L,hn⟩|⟨g,I,a2,hv,_,b7,a7,c8,b9,b4⟩
       .subst L;subst hn;have b3:J=[]:=bI (cG q.1);subst b3;have hr:=run_append_nil (P:=P) w t ty s.e i z F hi hz ad ys.length Q a (by rw [hnl,C]) T bL (by simp only [maxLen] at a0;omega) (by rw [M];have:=Z;simp only [eQ] at this;omega);rw [hr] at f;cases f
        simp [Value.ownBlock] at O;omega
       .subst hv;by_cases K:n+ys.length<=I
        .have hfit':n * i.size+a.length<=a2.size:=by rw [hnl,b9,C,<- Nat.add_mul];exact c9 _ K
         have hr:=run_append_room (P:=P) w t ty s.e i F hi g n I a2 b7 ad ys.length Q a (by rw [hnl,C]) T h1 K hfit';rw [hr] at f;cases f
         exact O
        .have holds:∀ j u,J[j]?=some u->w.cell? ((⟨g,0,none⟩:Addr).add j)=some u:=q.cells (g:=g) rfl;have hr:=run_append_grow (P:=P) w t ty s.e i z F hi hz ⟨g,0,none⟩ n I J (by rw [q.1,C]) holds ad ys.length Q a (by rw [hnl,C]) T bL (by simp only [maxLen] at a0;omega) (growslice_fits bL (by rw [M];exact Z));rw [hr] at f;cases f
         simp [Value.ownBlock] at O;omega
      .exact .inr hge
   cases x<;>try (simp [AOut.bad] at U;done)
   case nil =>
    obtain ⟨rfl,a1,B,E⟩:=U;cases hx
    obtain ⟨G,w',a,f,p,S,r,h1,_,N⟩:=V _ 0 [] (World.ownsRow_nil w 0 s.e s.sz) bL B E;have Y:=Rel.push hR nid hn (w':=w') S.os S.tape S.output S.size (λb O=>S.block b O (by simp [Value.ownBlock])) ⟨s.e,s.sz,ys,false⟩ ⟨ys.length,G,s.sz,s.e⟩
     (λb O=>by
      rcases N b O with h|h
      .simp [Value.ownBlock] at h
      .exact h) rfl rfl rfl B a (cG p) h1 r
    refine ⟨trivial,G,w',_,f,Y.1,.own G nid ys.length (.inl rfl) ?_ λo ho=>?_,Y.2.1,Y.2.2⟩
    .rcases p.2 with ⟨rfl,_⟩|⟨g,c,cu,rfl,_⟩<;>rfl
    .simp at ho;subst ho;exact .inr ⟨rfl,rfl⟩
   case own id n =>
    cases hk:H.get id with
    | none=>simp [hk,AOut.bad] at U
    | some k =>
     simp only [hk] at U ⊢;obtain ⟨rfl,b8,R,a6,a1,a8,B,E⟩:=U;obtain ⟨o,ho,l⟩:=hR.ah id k hk;obtain ⟨J,a4,b2,A⟩:=l.row;cases hx
     rename_i d0 hN h;rcases h o ho with h'|⟨_,rfl⟩
     .have:=l.af;omega
     .have hesz:o.K=s.sz:=l.sz.trans a8;have X:w.ownsRow 0 s.e s.sz o.val k.es.length J:=by rw [<- R,<- hesz];exact a4
      obtain ⟨G,w',a,f,p,S,r,h1,W,N⟩:=V o.val k.es.length J X bL B E;have Y:=Rel.put hR (w':=w') hk b8 ho { k with es:=k.es++ys } ⟨k.es.length+ys.length,G,s.sz,s.e⟩ S N
       (by
        by_cases h0:ys.length=0
        .left
         have:=l.af;have a3:=W h0;obtain ⟨ov,c1,oe,ot⟩:=o;simp only at this a3 hesz ⊢;have ht:=l.ty;simp only at ht;subst this;subst a3;subst hesz;rw [ht,R];simp [h0]
        .right;have:=l.af;simp only;omega)
       bS (fg R) (fg a8)
       (λc U=>by
        rcases aQ.1 U with h'|h'
        .simpa [<- hesz] using l.K c h'
        .exact B c h')
       (J++a) (by simpa [R] using p) (λu F=>by
        rcases aQ.1 F with h'|h'
        .exact b2 u h'
        .exact h1 u h')
       ⟨by simp only [aO,mV,A.len,r.len],λj u d F hd=>by
        simp only [mV] at hd;by_cases hj:j<J.length
        .rw [aY hj] at F;rw [aY (by rw [<- A.len];exact hj)] at hd;exact A.Y j u d F hd
        .rw [bF bL] at F;rw [bF (by rw [<- A.len];omega),<- A.len] at hd;exact r.Y _ u d F hd⟩
      have b6:n=k.es.length:=a6.symm;subst b6;refine ⟨trivial,G,w',_,f,Y.1,.own G id _ hN ?_ λo' a5=>?_,Y.2.1,Y.2.2⟩
      .rcases p.2 with ⟨rfl,_⟩|⟨g,c,cu,rfl,_⟩<;>rfl
      .simp at a5;subst a5;exact .inr ⟨rfl,rfl⟩
end
end Go.Abs
end
section
namespace Go.Abs
section
variable {P:Program} {M0:Nat→Prop} {H:AHeap} {σ:Nat→Option Ow} {w:World}
theorem nO (z:Xa2)(n:Nat):((List.replicate n z).flatten).length=n * z.length:=by simp_all
theorem AC (z:Xa2)(n j:Nat)(d:0<z.length)(b:j<n * z.length):((List.replicate n z).flatten)[j]?=z[j % z.length]?:=by
 have a:=l7 (n:=z.length) (List.replicate n z) (j / z.length) z (λc hc=>by rw [l9 hc])
  (by rw [j6,if_pos (Nat.div_lt_of_lt_mul (by rw [sG];exact b))]) (j % z.length) (Nat.mod_lt _ d)
 rw [show j / z.length * z.length+j % z.length=j by rw [sG];exact Nat.div_add_mod _ _] at a;exact a
theorem sC {M:Nat->Prop}{N:Nat->Prop}(z:Value)(n:Nat)(e:0<z.cells.size)(h:(z.cells.toList.map rZ).all D.cell=true) :
  RepL M σ N w (madeCells z.cells (n * z.cells.size)).toList (List.replicate n (z.cells.toList.map rZ)).flatten/\∀ u∈(madeCells z.cells (n * z.cells.size)).toList,u.oneCell'=true:=by
 obtain ⟨g,i⟩:=HG (M:=M) (σ:=σ) (N:=N) (w:=w) z.cells.toList h;have a:∀ j u,(madeCells z.cells (n * z.cells.size)).toList[j]?=some u->j<n * z.cells.size/\z.cells.toList[j % z.cells.size]?=some u:=by
  intro j u b;have c:j<n * z.cells.size:=by
   have:=(aL.1 b).1;simpa [size_madeCells] using this
  refine ⟨c,?_⟩;have k:j % z.cells.size<z.cells.size:=Nat.mod_lt _ e;simp [madeCells,c] at b;grind
 refine ⟨⟨by rw [nO];simp [size_madeCells],λj u d b hd=>?_⟩,λu b=>?_⟩
 .obtain ⟨c,f⟩:=a j u b;rw [AC _ n j (cG e) (cG c)] at hd;exact g.Y _ u d f (cG hd)
 .obtain ⟨j,c⟩:=List.mem_iff_getElem?.1 b;exact i u (aK (a j u c).2)
theorem Sa {nid:Nat}(S:¬ H.J nid){t:TypeId}{F G:Value}{l c:D}(W:Rel M0 H σ w)(T:RepV (dK M0 H σ) σ H.J w F l)(B:RepV (dK M0 H σ) σ H.J w G c)
  (r:(ED P nid t l c H).cond):(ED P nid t l c H).aa/\OpS P (Instr.makeSlice t F G) M0 H σ w (ED P nid t l c H).val (ED P nid t l c H).heap:=by
 unfold ED at *;split at r
 .rename_i s _ n _ m O;obtain ⟨rfl,A,R⟩:=r;cases T;cases B
  obtain ⟨K,i,z,V,J,j,p,L,C,a,f,v,x⟩:=tM O;obtain ⟨k,rfl⟩:=fE A;have U:k<=4294967296:=bL;have u:i.bytes * k<=281474976710656:=by
   rw [p];have:=iY C U;omega
  obtain ⟨w',g,h,q⟩:=run_make_full (P:=P) w 0 t s.e i z s.sz K V J j _ _ k u (by simp only [maxLen];omega) (dN _);obtain ⟨Q,X⟩:=sC (M:=dK M0 H σ) (σ:=σ) (N:=H.J) (w:=w) z k bL (by rw [<- a];exact x);have y:=Rel.push W nid S (w':=w') q.os q.tape q.output q.size (λb u=>q.block b u bS) ⟨s.e,s.sz,List.replicate k s.z,false⟩ ⟨k,.slice (some ⟨w.heap.size,0,none⟩) k k,s.sz,s.e⟩
   (λb u=>by simp [Ow.block,Value.ownBlock] at u;omega) bS rfl rfl (λc r=>by rw [l9 r,f])
   _ (by simpa [v] using h) X (by simpa [a] using Q)
  refine ⟨trivial,_,w',_,g,y.1,.own _ nid k (.inl rfl) rfl λo ho=>?_,y.2.1,y.2.2⟩;grind
 .exact r.elim
theorem AW {t K ty e:TypeId}{i:TypeInfo}{z:Value}{kq kn:IntKind}(N:P.underlying t=some (.slice e))(C:P.underlying K=some (.int kn))(Z:P.info? e=some i)(hz:i.zero=some z)
  (M:z.cells.size=i.size) (O:0<i.size) (v:Value) (n:Nat) (xs:List Value) (c:w.ownsRow 0 e i.size v n xs) (m:Nat) (T:∀ u∈(madeCells z.cells (m * z.cells.size)).toList,u.oneCell'=true) (hm:n+m<=4294967296) (a9:n+m<=maxLen) (G:(n+m) * i.bytes<=140737488355328) :
  ∃ v' w',(Builtin.append_ #[t,K] ty #[v,.int kq m]).run P w=.ok v' w'/\w'.ownsRow 0 e i.size v' (n+m) (xs++(madeCells z.cells (m * z.cells.size)).toList)/\w.grownBy w' v.ownBlock /\
   (m=0->v'=v)/\(∀ b,v'.ownBlock=some b->v.ownBlock=some b\/w.heap.size<=b):=by
 have X:∀ k,madeCells z.cells (k * z.cells.size)=Builtin.zeroCells z.cells k:=λk=>rfl;have D:(madeCells z.cells (m * z.cells.size)).toList.length=m * i.size:=by simp [size_madeCells,M]
 obtain ⟨a,j⟩:∃ x,x=(madeCells z.cells (m * z.cells.size)).toList:=⟨_,rfl⟩;rw [<- j] at D ⊢;have s:(xs++a).length=(n+m) * i.size:=by rw [aO,c.1,D,Nat.add_mul]
 have hw:IntKind.i64.wrap (m:Int)=m:=by rw [IntKind.wrap_i64];omega
 have V:¬ ((m:Int)<0):=bL;have Y:m * i.bytes<=281474976710656:=by have:=c9 i.bytes (bL:m<=n+m);omega
 have a1:¬ (281474976710656<(m:Int) * (i.bytes:Int)):=by rw [<- Int.natCast_mul];omega
 have TT:∀ (o:Nat),o<n+m->∀ (L:Option Nat),
   (w.drew.alloc (.cells (xs.toArray++Builtin.zeroCells z.cells m++Builtin.zeroCells z.cells (grownCap w (n+m) o e - (n+m))) e)).ownsRow 0 e i.size
    (.slice (some ⟨w.heap.size,0,none⟩) (n+m) (grownCap w (n+m) o e)) (n+m) (xs++a) /\
   w.grownBy (w.drew.alloc (.cells (xs.toArray++Builtin.zeroCells z.cells m++Builtin.zeroCells z.cells (grownCap w (n+m) o e - (n+m))) e)) L:=by
  intro o ho L;have a6:=grownCap_ge w (n+m) o e;have J:grownCap w (n+m) o e<=maxLen:=grownCap_le_maxLen w (n+m) o e a9;have a2:Builtin.zeroCells z.cells m=a.toArray:=by rw [j,<- X]
  rw [a2];refine ⟨⟨s,.inr ⟨w.heap.size,_,_,rfl,dN _,heap_alloc_new w.drew _,a6,J,?_,?_⟩⟩,⟨rfl,rfl,rfl,by simp,λk hk _=>heap_alloc_old w.drew _ hk⟩⟩
  .simp only [Array.size_append,pB,size_zeroCells,M,c.1,D,<- Nat.add_mul];congr 1;omega
  .simp only [Array.toList_append,List.append_assoc];rw [<- List.append_assoc,<- s];exact List.take_left
 by_cases E:m=0
 .subst E;have a5:a=[]:=bI (by rw [D];simp);subst a5;have R:(Builtin.append_ #[t,K] ty #[v,.int kq (0:Nat)]).run P w=.ok v w:=by
   rcases c.2 with ⟨rfl,rfl⟩|⟨g,b0,A,rfl,_,_,W,_⟩
   .simp [Builtin.append_,run_underlying N,run_underlying C,sizeOf,typeInfo,Z,asInt,asIntOf,IntKind.wrap_i64]
   .simp [Builtin.append_,run_underlying N,run_underlying C,sizeOf,typeInfo,Z,asInt,asIntOf,IntKind.wrap_i64,W,storeCells]
  exact ⟨v,w,R,by simpa using c,⟨rfl,rfl,rfl,aT _,λ_ _ _=>rfl⟩,λ_=>rfl,λb hb=>.inl hb⟩
 .rcases c.2 with ⟨rfl,rfl⟩|⟨g,l,A,rfl,a8,hg,W,J,a7,I⟩
  .have hx:xs=[]:=bI (cG c.1);subst hx;have S:=Lib.run_append_nil_zeros (P:=P) w t K ty e i z kq kn N C Z hz m bL O bL Y;have y:=TT 0 bL (Value.ownBlock (.slice none 0 0));simp only [eQ,fT,Array.empty_append] at y ⊢;exact ⟨_,_,S,y.1,y.2,λh=>absurd h E,λb hb=>.inr (by simp [Value.ownBlock] at hb;omega)⟩
  .by_cases q:n+m<=l
   .have a0:n * i.size+a.length<=A.size:=by rw [D,a7,<- Nat.add_mul];exact c9 _ q
    have Q:=run_storeCells_at P g (n * i.size) e a 0 A w hg (cG a0) (λu hu=>by
     rw [j] at hu;exact T u hu)
    have a3:(Builtin.zeroCells z.cells m).toList=a:=by rw [j,X]
    have a4:¬ (m * i.size=0):=Nat.mul_ne_zero E bL;simp only [p7] at Q;have S:(Builtin.append_ #[t,K] ty #[.slice (some ⟨g,0,none⟩) n l,.int kq m]).run P w=.ok (.slice (some ⟨g,0,none⟩) (n+m) l) (w.setRow g (A.toList.take (n * i.size)++a++A.toList.drop (n * i.size+a.length)).toArray):=by
     simp [Builtin.append_,run_underlying N,run_underlying C,sizeOf,typeInfo,zeroValue,Z,hz,asInt,asIntOf,hw,V,a4,a1,q,Addr.add_lit,a3,Q]
    refine ⟨_,_,S,⟨s,.inr ⟨g,l,_,rfl,a8,setRow_heap w g A _ e _ hg,q,J,?_,?_⟩⟩,⟨rfl,rfl,rfl,by simp,λk _ hk=>setRow_other w g k _ (λe=>hk (by simp [Value.ownBlock,e]))⟩,λh=>absurd h E,λb hb=>.inl hb⟩
    .simp only [pB,aO,bT,dV,gB];omega
    .rw [I,<- s];exact List.take_left
   .have U:(Builtin.firstCells i.size n (.slice (some ⟨g,0,none⟩) n l)).run P w.drew=.ok xs.toArray w.drew :=
     run_firstCells_some (P:=P) w.drew i.size n ⟨g,0,none⟩ n l xs c.1 (c.cells (g:=g) rfl)
    have S:=Lib.run_append_grow_zeros (P:=P) w t K ty e i z kq kn N C Z hz (some ⟨g,0,none⟩) n l xs U m bL O bL bL Y (growslice_fits bL G);have y:=TT l bL (Value.ownBlock (.slice (some ⟨g,0,none⟩) n l));exact ⟨_,_,S,y.1,y.2,λh=>absurd h E,λb hb=>.inr (by simp [Value.ownBlock] at hb;omega)⟩
theorem K7 {t E ty:TypeId}{s:SlI}{va vb:Value}{x y:D}(hs:sl P t=some s)(hR:Rel M0 H σ w)(hx:RepV (dK M0 H σ) σ H.J w va x)(hy:RepV (dK M0 H σ) σ H.J w vb y)
  (q:(rE P s E x y H).cond):(rE P s E x y H).aa/\OpS P (Builtin.append_ #[t,E] ty #[va,vb]) M0 H σ w (rE P s E x y H).val (rE P s E x y H).heap:=by
 unfold rE at *;obtain ⟨v,i,z,hi,hz,V,a7,R,a8,f,A,Q,a1⟩:=tM hs;cases y<;>try (simp [AOut.bad] at q;done)
 rename_i kq m;cases x<;>try (simp [AOut.bad] at q;done)
 rename_i id n;cases K:Si P E with
 | none=>simp [K,AOut.bad] at q
 | some kn =>
  simp only [K] at q ⊢;cases Y:H.get id with
  | none=>simp [Y,AOut.bad] at q
  | some k =>
   simp only [Y] at q ⊢;obtain ⟨a4,a5,r,U,I,J⟩:=q;obtain ⟨m,rfl⟩:=fE a4;simp only [Int.toNat_natCast] at I ⊢;have a3:P.underlying E=some (.int kn):=by
    unfold Si at K;grind
   obtain ⟨o,ho,l⟩:=hR.ah id k Y;obtain ⟨X,B,a2,a⟩:=l.row;cases hx
   rename_i a9 hN h;cases hy
   rcases h o ho with C|⟨_,rfl⟩
   .have:=l.af;omega
   .have b:o.K=s.sz:=l.sz.trans J;rw [<- V] at R A Q b J;have G:w.ownsRow 0 s.e i.size o.val k.es.length X:=by rw [<- r];rw [b] at B;exact B
    have hb:(n+m) * i.bytes<=140737488355328:=by
     have:=iY I (bL:i.bytes<=4096);omega
    obtain ⟨hr,h1⟩:=sC (M:=dK M0 H σ) (σ:=σ) (N:=H.J) (w:=w) z m bL (by rw [<- f];exact a1);subst U;obtain ⟨Z,w',T,p,hg,F,W⟩:=AW (P:=P) (ty:=ty) (kq:=kq) v a3 hi hz Q R o.val k.es.length X G m h1 I (by simp only [maxLen];omega) hb;have a0:∀ c∈List.replicate m s.z,c.length=i.size:=λc q=>by rw [l9 q,A]
    have hp:=Rel.put hR (w':=w') Y a5 ho { k with es:=k.es++List.replicate m s.z } ⟨k.es.length+m,Z,i.size,s.e⟩ hg W
     (by
      by_cases h0:m=0
      .left
       have:=l.af;have S:=F h0;obtain ⟨ov,a6,oe,ot⟩:=o;simp only at this S b ⊢;have ht:=l.ty;simp only at ht;subst this;subst S;subst b;rw [ht,r];simp [h0]
      .right;have:=l.af;simp only;omega)
     bS (fg r) (fg J)
     (λc q=>by
      rcases aQ.1 q with C|C
      .simpa [<- b] using l.K c C
      .exact a0 c C)
     (X++(madeCells z.cells (m * z.cells.size)).toList) (by simpa [r] using p) (λu v=>by
      rcases aQ.1 v with C|C
      .exact a2 u C
      .exact h1 u C)
     ⟨by simp only [aO,mV,a.len];rw [hr.len,f],λj u d v hd=>by
      simp only [mV] at hd;by_cases hj:j<X.length
      .rw [aY hj] at v;rw [aY (by rw [<- a.len];exact hj)] at hd;exact a.Y j u d v hd
      .rw [bF bL] at v;rw [bF (by rw [<- a.len];omega),<- a.len,f] at hd;exact hr.Y _ u d v hd⟩
    refine ⟨trivial,Z,w',_,T,hp.1,.own Z id _ hN ?_ λo' ho'=>?_,hp.2.1,hp.2.2⟩
    .rcases p.2 with ⟨rfl,_⟩|⟨g,c,cu,rfl,_⟩<;>rfl
    .simp at ho';subst ho';exact .inr ⟨rfl,rfl⟩
theorem K6 {nid:Nat}(l:¬ H.J nid){t a ty:TypeId}{h g:Value}{x y:D}(k:Rel M0 H σ w)(j:RepV (dK M0 H σ) σ H.J w h x)(i:RepV (dK M0 H σ) σ H.J w g y)
  (d:(lT P nid t a x y H).cond):(lT P nid t a x y H).aa/\OpS P (Builtin.append_ #[t,a] ty #[h,g]) M0 H σ w (lT P nid t a x y H).val (lT P nid t a x y H).heap:=by
 cases f:pN H y with
 | some n=>exact Ob l k j i (by rw [f];rfl) d
 | none =>
  cases e:sl P t with
  | none=>unfold lT at d;simp [e,f,AOut.bad] at d
  | some s =>
   have m:lT P nid t a x y H=rE P s a x y H:=by unfold lT;simp only [e,f]
   rw [m] at d ⊢;exact K7 e k j i d
theorem JP (w:World)(cs:Array Value)(t:TypeId)(j:Nat):(w.alloc (.cells cs t)).cell? ⟨w.heap.size,j,none⟩=cs[j]?:=by simp_all
theorem PY {M0:Nat->Prop}{nid:Nat}(hn:¬ H.J nid)(hR:Rel M0 H σ w)(m:Bool)(t:TypeId)(cs:Array Value)(ds:Xa2)(hrep:RepL (dK M0 H σ) σ H.J w cs.toList ds)(h1:∀ u∈cs.toList,u.oneCell'=true) :
  let d:D:=if m then .ptr nid 1 0 0 else .adr ds
  let H':=if m then H.push nid ⟨t,ds.length,[ds],false⟩ else H
  ∃ σ',Rel M0 H' σ' (w.alloc (.cells cs t))/\RepV (dK M0 H' σ') σ' H'.J (w.alloc (.cells cs t)) (.pointer (some ⟨w.heap.size,0,none⟩)) d/\Stp σ w σ' (w.alloc (.cells cs t)) /\
   Keeps (dK M0 H σ) σ H.J w (dK M0 H' σ') σ' H'.J (w.alloc (.cells cs t)):=by
 have hold:∀ b,b<w.heap.size->(w.alloc (.cells cs t)).heap[b]?=w.heap[b]?:=λ_ hb=>heap_alloc_old _ _ hb
 have hl:cs.size=ds.length:=by simpa using hrep.len
 cases m with
 | false =>
  obtain ⟨hR',hS,hK⟩:=Rel.grow hR (w':=w.alloc (.cells cs t)) rfl rfl rfl bS hold
  refine ⟨σ,hR',.adr _ cs.toList ds hrep.len h1 (λj u hu=>⟨?_,?_⟩) λj u d hu hd=>(hrep.Y j u d hu hd).G hK,hS,hK⟩
  .rintro (hm|⟨i,k,o,_,_,ho,hb⟩)
   .exact absurd (hR.m0 _ hm) (j4 _)
   .exact absurd (hR.lt i o _ ho hb).1 (j4 _)
  .rw [jL,eQ,JP];simpa using hu
 | true =>
  simp only [if_true]
  have hp:=Rel.push hR nid hn (w':=w.alloc (.cells cs t)) rfl rfl rfl bS hold ⟨t,ds.length,[ds],false⟩ ⟨1,.slice (some ⟨w.heap.size,0,none⟩) 1 1,ds.length,t⟩
   (λb hb=>by simp [Ow.block,Value.ownBlock] at hb;omega) rfl rfl rfl bS cs.toList
   (World.ownsRow_lit w cs 1 (dN _) (by simp [maxLen]) (by simp [hl])) h1 (cG hrep)
  refine ⟨_,hp.1,.ptr _ nid 1 0 0 (.inl rfl) rfl λo ho=>?_,hp.2.1,hp.2.2⟩
  simp at ho;subst ho
  exact .inr ⟨rfl,_,rfl,by simp⟩
theorem VJ {nid:Nat}(o:¬ H.J nid){m:Bool}{t:TypeId}{d:Value}{x:D}(p:Rel M0 H σ w)(l:RepV (dK M0 H σ) σ H.J w d x)(g:(Ok P nid m t x H).cond) :
  (Ok P nid m t x H).aa/\OpS P (Instr.box t d) M0 H σ w (Ok P nid m t x H).val (Ok P nid m t x H).heap:=by
 have c:x.cells.all D.cell=true:=by unfold Ok at g;cases m<;>exact g
 obtain ⟨n,q⟩:=BZ l c;obtain ⟨σ',k,j,i,h⟩:=PY o p m t d.cells x.cells n q;have b:(Instr.box t d).run P w=.ok (.pointer (some ⟨w.heap.size,0,none⟩)) (w.alloc (.cells d.cells t)):=by
  simp [Instr.box,newVar,newRow]
 cases m with
 | false=>exact ⟨trivial,_,_,σ',b,k,j,i,h⟩
 | true=>exact ⟨trivial,_,_,σ',b,k,j,i,h⟩
theorem Ta {t:TypeId}{z:Xa2}(h:zd P t=some z):∃ de i v,P.underlying t=some de/\P.info? t=some i/\i.zero=some v/\z=v.cells.toList.map rZ/\z.length=i.size/\0<i.size/\z.all D.cell=true:=by
 unfold zd at h;split at h
 .rename_i de i d e;split at h
  .rename_i a;cases h
   cases b:i.zero with
   | none=>simp [AO,b] at a;omega
   | some v=>exact ⟨de,i,v,d,e,b,by simp [AO,b],a.1,a.2.1,a.2.2⟩
  .cases h
 .cases h
theorem QV {nid:Nat}(q:¬ H.J nid){m:Bool}{t:TypeId}(u:Rel M0 H σ w)(s:(Af P nid m t H).cond) :
  (Af P nid m t H).aa/\OpS P (Instr.alloc t true (.tuple #[])) M0 H σ w (Af P nid m t H).val (Af P nid m t H).heap:=by
 unfold Af at *;cases h:zd P t with
 | none=>simp [h,AOut.bad] at s
 | some z =>
  obtain ⟨C,i,v,y,r,o,rfl,A,B,d⟩:=Ta h;obtain ⟨p,x⟩:=HG (M:=dK M0 H σ) (σ:=σ) (N:=H.J) (w:=w) v.cells.toList d;obtain ⟨σ',n,l,k,j⟩:=PY q u m t v.cells _ p x;have b:(Instr.alloc t true (.tuple #[])).run P w=.ok (.pointer (some ⟨w.heap.size,0,none⟩)) (w.alloc (.cells v.cells t)):=by
   simp [Instr.alloc,zeroValue,typeInfo,r,o,newVar,newRow]
  cases m with
  | false=>exact ⟨trivial,_,_,σ',b,n,l,k,j⟩
  | true=>exact ⟨trivial,_,_,σ',b,n,l,k,j⟩
theorem Qo (cs:List Value):∀ (b d:Nat) (zs:Array Value),b+d+cs.length<=zs.size ->
  ((cs.zipIdx d).foldl (λa (p:Value × Nat)=>a.setIfInBounds (b+p.2) p.1) zs).toList=zs.toList.take (b+d)++cs++zs.toList.drop (b+d+cs.length):=by
 induction cs with
 | nil=>intro b d zs h;simp
 | cons c cs ih =>
  intro b d zs h;simp only [List.zipIdx_cons,iD];have i:b+d+(cs.length+1)<=zs.size:=by simpa using h
  rw [ih b (d+1) _ et];apply fC;intro q;simp only [Array.toList_setIfInBounds,jZ,bT,iZ,gB,bX,bV,cT,cD];have e:min (b+(d+1)) zs.size=b+(d+1):=bL;grind
theorem C4 {M:Nat->Prop}{N:Nat->Prop}(places:Nat->Option (Nat × Nat)):∀ (pv:List (Nat × Value)) (pd:List (Nat × D)) (zs:Array Value) (ds out:Xa2),
  pv.map (·.1)=pd.map (·.1)->(∀ (j:Nat) (v:Value) (d:D),(pv.map (·.2))[j]?=some v->(pd.map (·.2))[j]?=some d->RepV M σ N w v d)->(∀ p∈pd,p.2.cells.all D.cell=true) ->
  RepL M σ N w zs.toList ds->(∀ u∈zs.toList,u.oneCell'=true)->Cy places ds pd=some out ->
  ∃ cs,Instr.fill places zs pv=some cs/\RepL M σ N w cs.toList out/\(∀ u∈cs.toList,u.oneCell'=true)/\out.length=ds.length
 | [],pd,zs,ds,out,hk,hr,hcl,hz,h1,hf=>by
  cases pd with
  | cons p pd=>simp at hk
  | nil=>simp [Cy] at hf;subst hf;exact ⟨zs,rfl,hz,h1,rfl⟩
 | (i,v) :: pv,pd,zs,ds,out,hk,hr,hcl,hz,h1,hf=>by
  cases pd with
  | nil=>simp at hk
  | cons p pd =>
   obtain ⟨i',d⟩:=p;simp at hk;obtain ⟨rfl,hk⟩:=hk;unfold Cy at hf;unfold Instr.fill;cases hp:places i with
   | none=>simp [hp] at hf
   | some q =>
    obtain ⟨off,size⟩:=q;simp only [hp] at hf ⊢;split at hf
    .rename_i hc;obtain ⟨hc1,hc2⟩:=hc;have hvd:=hr 0 v d rfl rfl;obtain ⟨hrv,hv1⟩:=BZ hvd (hcl (i,d) bS);have hvl:v.cells.size=d.cells.length:=Mx hvd (hcl (i,d) bS);have hzl:zs.size=ds.length:=by simpa using hz.len
     have hcond:(v.cells.size≠size||off+v.cells.size > zs.size)=false:=by simp;omega
     have hs:=Qo v.cells.toList off 0 zs et;simp only [p7] at hs;have hfold:v.cells.zipIdx.foldl (λcs (x:Value × Nat)=>cs.setIfInBounds (off+x.2) x.1) zs=(v.cells.toList.zipIdx 0).foldl (λcs (x:Value × Nat)=>cs.setIfInBounds (off+x.2) x.1) zs:=by
      rw [<- Array.foldl_toList,Array.toList_zipIdx]
     obtain ⟨cs,hfill,hrep,h1',hlen⟩:=C4 places pv pd (v.cells.zipIdx.foldl (λcs (x:Value × Nat)=>cs.setIfInBounds (off+x.2) x.1) zs) (uN ds off d.cells) out hk
      (λj u x hu hx=>hr (j+1) u x hu hx) (λp hp=>hcl p (fg hp))
      (by
       rw [hfold,hs];have hvl':v.cells.toList.length=d.cells.length:=by simpa using hvl
       refine ⟨by simp [uN];omega,λj u x hu hx=>?_⟩;simp only [uN,jZ,bT,bX,bV,gB,hvl',hzl] at hu hx;split at hx
       .rename_i hj;rw [if_pos hj] at hu;split at hx
        .rename_i hj';rw [if_pos hj'] at hu;exact hz.Y j u x hu hx
        .cases hx
       .rename_i hj;rw [if_neg hj] at hu;split at hx
        .rename_i hj';rw [if_pos hj'] at hu;exact hrv.Y _ u x hu hx
        .rename_i hj';rw [if_neg hj'] at hu;exact hz.Y _ u x hu hx)
      (by
       rw [hfold,hs];intro u hu;simp only [aQ] at hu;rcases hu with (hu|hu)|hu
       .exact h1 u (bJ hu)
       .exact hv1 u hu
       .exact h1 u (cQ hu)) hf
     refine ⟨cs,?_,hrep,h1',by rw [hlen];simp [uN];omega⟩;simp only [hcond,eW,if_false];exact hfill
    .cases hf
end
end Go.Abs
end
section
namespace Go.Abs
section
variable {P:Program} {M0:Nat→Prop} {H:AHeap} {σ:Nat→Option Ow} {w:World}
structure Parts (M:Nat->Prop) (σ:Nat->Option Ow) (N:Nat->Prop) (w:World) (pv:List (Nat × Value)) (pd:List (Nat × D)):Prop where
 dq:pv.map (·.1)=pd.map (·.1)
 Y:∀ (j:Nat) (v:Value) (d:D),(pv.map (·.2))[j]?=some v->(pd.map (·.2))[j]?=some d->RepV M σ N w v d
theorem QO {t:TypeId}{m:List (Nat × Value)}{d:List (Nat × D)}(C:Rel M0 H σ w)(s:Parts (dK M0 H σ) σ H.J w m d)
  (j:(vO P t d H).cond):(vO P t d H).aa/\OpS P (Instr.build t m.toArray) M0 H σ w (vO P t d H).val (vO P t d H).heap:=by
 unfold vO at *;cases n:zd P t with
 | none=>simp [n,AOut.bad] at j
 | some z =>
  cases h:bk P t with
  | none=>simp [n,h,AOut.bad] at j
  | some b =>
   simp only [n,h] at j ⊢;cases p:Cy b.place z d with
   | none=>simp [p,AOut.bad] at j
   | some out =>
    simp only [p] at j ⊢;refine ⟨trivial,?_⟩;obtain ⟨F,i,v,r,B,y,rfl,J,L,g⟩:=Ta n;obtain ⟨A,E⟩:=HG (M:=dK M0 H σ) (σ:=σ) (N:=H.J) (w:=w) v.cells.toList g;obtain ⟨u,f,c,q,_⟩:=C4 _ m d v.cells _ out s.dq s.Y (cG j) A E p;refine .pure C (run_build w t m.toArray u ?_) (.agg u.toList out c.len q c.Y);unfold Program.built;unfold bk at h;rw [r] at h;cases F<;>simp at h
    case array n' e =>
     obtain ⟨G,o,rfl⟩:=h;simp only [B,r,y,o];exact f
    case struct fs =>
     obtain ⟨l,I,rfl⟩:=h;have K:(BK.st l).place=λx=>l[x]?:=rfl;simp_all
theorem vB (sz:Nat):∀ (n:Nat) (l:Xa2),(tB sz n l).length=n
 | 0,_=>rfl
 | n+1,l=>by simp [tB,vB sz n]
theorem GF (sz:Nat):∀ (n:Nat) (l:Xa2),l.length=n * sz->(tB sz n l).flatten=l
 | 0,l,h=>by simp at h;subst h;rfl
 | n+1,l,h=>by
  simp only [tB,fB];rw [GF sz n _ (by rw [dV,h,Nat.add_mul];omega),List.take_append_drop]
theorem FH (sz:Nat):∀ (n:Nat) (l:Xa2),l.length=n * sz->∀ c∈tB sz n l,c.length=sz
 | 0,l,h,c,hc=>by cases hc
 | n+1,l,h,c,hc=>by
  simp only [tB,aP] at hc;rw [Nat.add_mul] at h;rcases hc with rfl|hc
  .rw [bT];omega
  .exact FH sz n _ (by rw [dV];omega) c hc
theorem FJ {nid:Nat}(S:¬ H.J nid){m:Bool}{t:TypeId}{n:Nat}{Y:List (Nat × Value)}{y:List (Nat × D)}(hR:Rel M0 H σ w)(hp:Parts (dK M0 H σ) σ H.J w Y y)
  (V:(jR P nid m t n y H).cond):(jR P nid m t n y H).aa/\OpS P (Instr.buildSlice t n Y.toArray) M0 H σ w (jR P nid m t n y H).val (jR P nid m t n y H).heap:=by
 unfold jR at *;cases hs:sl P t with
 | none=>simp [hs,AOut.bad] at V
 | some s =>
  simp only [hs] at V ⊢;cases hf:Cy (λi=>some (i * s.sz,s.sz)) (List.replicate n s.z).flatten y with
  | none=>simp [hf,AOut.bad] at V
  | some out =>
   simp only [hf] at V ⊢;obtain ⟨O,i,z,hi,hz,E,a4,a5,a6,A,R,Q,a0⟩:=tM hs;have K:n<=1000/\s.sz<=1000/\(y.all λp=>p.2.cells.all D.cell)=true:=by cases m<;>exact V
   obtain ⟨hn,a1,a2⟩:=K;obtain ⟨hr,h1⟩:=sC (M:=dK M0 H σ) (σ:=σ) (N:=H.J) (w:=w) z n bL (by rw [<- A];exact a0);rw [<- A] at hr;obtain ⟨v,a,g,X,T⟩:=C4 (λi=>some (i * s.sz,s.sz)) Y y (madeCells z.cells (n * z.cells.size)) _ out hp.dq hp.Y (cG a2) hr h1 hf;have I:out.length=n * s.sz:=by rw [T,nO,R]
   have U:v.size=n * s.sz:=by have:=g.len;simp at this;omega
   have Z:¬ n * s.sz > 2 ^ 24:=by
    have:=iY hn a1;omega
   have B:(Instr.buildSlice t n Y.toArray).run P w=.ok (.slice (some ⟨w.heap.size,0,none⟩) n n) (w.alloc (.cells v s.e)):=by
    by_cases h0:n * s.sz=0
    .have c:(Array.range (n * s.sz)).map (λx=>(#[]:Array Value)[x % (#[]:Array Value).size]!)=madeCells z.cells (n * z.cells.size):=by
      rw [Q];simp [madeCells,h0,Array.range_zero']
     rw [<- c] at a;simp [Instr.buildSlice,run_underlying O,sizeOf,typeInfo,hi,E,h0] at a ⊢;simp [a,newRow]
    .have c:(Array.range (n * s.sz)).map (λx=>z.cells[x % z.cells.size]!)=madeCells z.cells (n * z.cells.size):=by
      simp [madeCells,Q]
     rw [<- c] at a;have q:¬ 16777216<n * s.sz:=bL;simp [Instr.buildSlice,run_underlying O,sizeOf,typeInfo,hi,E,h0,q,zeroValue,hz,a,newRow]
   have J:=GF s.sz n out I;have C:∀ b,b<w.heap.size->(w.alloc (.cells v s.e)).heap[b]?=w.heap[b]?:=λ_ W=>heap_alloc_old _ _ W;cases m with
   | false =>
    simp only [eW,if_false];obtain ⟨a3,hS,hK⟩:=Rel.grow hR (w':=w.alloc (.cells v s.e)) rfl rfl rfl bS C;refine ⟨trivial,_,_,σ,B,a3,?_,hS,hK⟩;have hv:=RepV.list (M:=dK M0 H σ) (σ:=σ) (N:=H.J) (w:=w.alloc (.cells v s.e)) ⟨w.heap.size,0,none⟩ n s.sz v.toList (tB s.sz n out) (by simp [vB]) (by simp only [maxLen];omega)
     (FH s.sz n out I) (by rw [J];exact g.len) X (λj u O=>⟨by
      rintro (hm|⟨i,k,o,_,_,ho,W⟩)
      .exact absurd (hR.m0 _ hm) (j4 _)
      .exact absurd (hR.lt i o _ ho W).1 (j4 _),by
      rw [jL,eQ,JP];simpa using O⟩) (λj u d O hd=>by rw [J] at hd;exact (g.Y j u d O hd).G hK)
    rw [vB] at hv;exact hv
   | true =>
    simp only [if_true];have G:=Rel.push hR nid S (w':=w.alloc (.cells v s.e)) rfl rfl rfl bS C ⟨s.e,s.sz,tB s.sz n out,false⟩ ⟨n,.slice (some ⟨w.heap.size,0,none⟩) n n,s.sz,s.e⟩
     (λb W=>by simp [Ow.block,Value.ownBlock] at W;omega) (by simp [vB]) rfl rfl (FH s.sz n out I) v.toList
     (by simp only [vB];exact World.ownsRow_lit w v n (dN _) (by simp only [maxLen];omega) U) X (by simp only;rw [J];exact g)
    refine ⟨trivial,_,_,_,B,G.1,.own _ nid n (.inl rfl) rfl λo ho=>?_,G.2.1,G.2.2⟩;simp at ho;subst ho;exact .inr ⟨rfl,rfl⟩
theorem Tv {v:Value}{e n:Nat}{k:Blk}(t:Rel M0 H σ w)(p:RepV (dK M0 H σ) σ H.J w v (.own e n))(s:H.get e=some k)(r:k.es.length=n) :
  (v=.slice none 0 0/\n=0)\/∃ b cap,v=.slice (some ⟨b,0,none⟩) n cap/\n<=cap/\cap<=maxLen/\∃ o,σ e=some o/\o.block=some b/\o.K=k.sz/\o.af=n:=by
 obtain ⟨o,j,l⟩:=t.ah e k s;obtain ⟨z,c,m,i⟩:=l.row;cases p
 rename_i B A h;rcases h o j with D|⟨u,rfl⟩
 .have:=l.af;omega
 .rcases c.2 with ⟨d,C⟩|⟨g,cap,x,a,_,_,q,f,_⟩
  .exact .inl ⟨d,bL⟩
  .exact .inr ⟨g,cap,by rw [a,r],bL,f,o,j,by simp [Ow.block,a,Value.ownBlock],l.sz,u.symm⟩
theorem Vj {t ty:TypeId}{l:Value}{x:D}(f:Rel M0 H σ w)(g:RepV (dK M0 H σ) σ H.J w l x)(d:(Hj P t x H).cond) :
  (Hj P t x H).aa/\OpS P (Builtin.len_ #[t] ty #[l]) M0 H σ w (Hj P t x H).val (Hj P t x H).heap:=by
 unfold Hj at *;split at d
 .rename_i e c;split at d
  .cases g
   exact ⟨trivial,.pure f (by simp [Builtin.len_,run_underlying c,goInt]) (.int _ _)⟩
  .rename_i s;rcases uX g with ⟨rfl,rfl⟩|⟨u,j,p,o,rfl,_,_,_,i,h,_⟩
   .exact ⟨by simp,.pure f (by simp [Builtin.len_,run_underlying c,goInt]) (.int _ _)⟩
   .refine ⟨?_,.pure f (by simp [Builtin.len_,run_underlying c,goInt]) (.int _ _)⟩;simp only [maxLen] at h;simp only;omega
  .rename_i r n;split at d
   .rename_i k m;rcases Tv f g m d with ⟨rfl,rfl⟩|⟨b,j,rfl,i,h,_⟩
    .exact ⟨by simp,.pure f (by simp [Builtin.len_,run_underlying c,goInt]) (.int _ _)⟩
    .refine ⟨?_,.pure f (by simp [Builtin.len_,run_underlying c,goInt]) (.int _ _)⟩;simp only [maxLen] at h;simp only;omega
   .exact d.elim
  .exact d.elim
 .rename_i c;split at d
  .cases g
   exact ⟨trivial,.pure f (by simp [Builtin.len_,run_underlying c,goInt]) (.int _ _)⟩
  .exact d.elim
 .rename_i n e c;refine ⟨trivial,.pure f ?_ (.int _ _)⟩;simp [Builtin.len_,run_underlying c,goInt]
 .exact d.elim
end
end Go.Abs
end
