/- The abstraction layer, part E: operations that write or make -/
import Derived.Test.YtbgbahlipnaflaaGreatZvAA
import Derived.Lib.AppendZerosOnto
set_option linter.unusedVariables false
set_option linter.unusedSimpArgs false
section
namespace Go.Abs
section
variable {P:Program} {M0:Nat→Prop} {H:AHeap} {σ:Nat→Option Ow} {w:World}
theorem Ja (o:Ow)(a:Nat)(h:σ a=some o):(λi=>if i=a then some o else σ i)=σ:=by grind
theorem GC {n:Nat}:∀ (es:UE) (i:Nat) (c c':UN),(∀ c∈es,c.length=n)->es[i]?=some c->c'.length=n ->
  (es.set i c').flatten=es.flatten.take (i * n)++c'++es.flatten.drop (i * n+n)
 | [],i,c,c',_,h,_=>by simp at h
 | e :: es,0,c,c',hl,h,hc'=>by
  have he:=hl e aE;simp [he]
 | e :: es,i+1,c,c',hl,h,hc'=>by
  have he:=hl e aE;simp at h;have ih:=GC es i c c' (λc hc=>hl c (iw hc)) h hc';simp only [FX,fJ,ih];have e1:(i+1) * n=e.length+i * n:=by rw [Nat.add_mul,he];omega
  rw [e1,BQ,List.drop_append];simp only [List.append_assoc];rw [show List.take (e.length+i * n) e=e by rw [aG];omega,(aD:e.length+i * n - e.length=i * n),
   show List.drop (e.length+i * n+n) e=[] by rw [iW];omega,(aD:e.length+i * n+n - e.length=i * n+n)]
  simp
theorem jU {α:Type}(a b c:List α)(j:Nat):(a++b++c)[j]?=if j<a.length then a[j]? else if j<a.length+b.length then b[j - a.length]? else c[j - a.length - b.length]?:=by grind
theorem BM {M:Nat->Prop}{N:Nat->Prop}{v:Value}{d:D}(h:RepV M σ N w v d)(f:d.cells.all D.cell=true) :
    RepL M σ N w v.cells.toList d.cells/\∀ u∈v.cells.toList,u.oneCell'=true:=by
  cases d with
  | agg ds =>
    cases h
    rename_i g a e c;exact ⟨⟨by simpa [Value.cells,D.cells] using e,λj u x hu hx=>c j u x (by simpa [Value.cells] using hu) (by simpa [D.cells] using hx)⟩,by simpa [Value.cells] using a⟩
  | _ =>
    first
    | (simp [D.cells,D.cell] at f;done)
    | (have a:=h.e4 rfl
       have b:v.cells=#[v]:=by cases v<;>first|rfl|(simp [Value.oneCell'] at a)
       rw [b];refine ⟨⟨by simp [D.cells],λj u x hu hx=>?_⟩,by simpa using a⟩;cases j with
       | zero=>simp [D.cells] at hu hx;subst hu;subst hx;exact h
       | succ j=>simp at hu)
theorem Nl {M:Nat->Prop}{N:Nat->Prop}{v:Value}{d:D}(h:RepV M σ N w v d)(a:d.cells.all D.cell=true):v.cells.size=d.cells.length:=by
 have:=(BM h a).1.len;simpa using this
def OpU (P:Program)(x:Sem Unit)(M0:Nat->Prop)(H:AHeap)(σ:Nat->Option Ow)(w:World)(H':AHeap):Prop :=
 ∃ w' σ',x.run P w=.ok () w'/\Rel M0 H' σ' w'/\Stp σ w σ' w'/\Keeps (dV M0 H σ) σ H.F w (dV M0 H' σ') σ' H'.F w'
theorem PD {t:TypeId}{va r:Value}{x v:D}(hR:Rel M0 H σ w)(hx:RepV (dV M0 H σ) σ H.F w va x)(hv:RepV (dV M0 H σ) σ H.F w r v)(Y:(nO P t x v H).cond) :
  OpU P (Instr.storeAt t va r) M0 H σ w (nO P t x v H).heap:=by
 unfold nO at *;cases x<;>try (simp [AOut.bad] at Y;done)
 rename_i id ver i a;cases V:H.get id with
 | none=>simp [V,AOut.bad] at Y
 | some k =>
  cases s:k.P[i]? with
  | none=>simp [V,s,AOut.bad] at Y
  | some c =>
   simp only [V,s] at Y ⊢;obtain ⟨a8,b5,a2,I,z,b6⟩:=Y;obtain ⟨ti,Q⟩:=gZ.1 I;obtain ⟨o,ho,l⟩:=hR.am id k V;obtain ⟨E,S,N,p⟩:=l.row;have a4:i<k.P.length:=(aQ.1 s).1;have b2:c.length=o.H:=l.H c (aL s);cases hx
   rename_i hN h1 h;rcases h o ho with C|⟨b8,b,hb,rfl⟩
   .have:=l.ah;omega
   .obtain ⟨a3,O⟩:=BM hv z;have a1:=Nl hv z;have F:E.length=k.P.length * o.H:=p.len.trans (nA k.P l.H);have a0:i * o.H+o.H<=E.length:=by
     rw [F];have:(i+1) * o.H<=k.P.length * o.H:=fY _ a4;rw [Nat.add_mul] at this;omega
    rcases S.2 with ⟨T,_⟩|⟨g,b4,n,B,b3,hg,U,b1,b0,G⟩
    .simp [Ow.block,T,Value.ownBlock] at hb
    .have a7:g=b:=by simpa [Ow.block,B,Value.ownBlock] using hb
     subst a7;have b7:k.P.length * o.H<=n.size:=by rw [b0];exact fY _ U
     have R:=run_storeCells_at (P:=P) g (i * o.H+a) k.ty r.cells.toList 0 n w hg ie O;simp only [vQ] at R;have y:r.cells.size=ti.size:=by rw [a1,a2];simp [Program.cellsOf,Q]
     refine ⟨w.setRow g (n.toList.take (i * o.H+a)++r.cells.toList++n.toList.drop (i * o.H+a+r.cells.toList.length)).toArray,σ,?_,?_⟩
     .simp [Instr.storeAt,Instr.sureAddr,storeVar,sizeOf,typeInfo,Q,y];simpa [y] using R
     .have A:(uQ c a v.cells).length=o.H:=by simp [uQ];omega
      have hp:=Rel.put hR V a8 ho { k with P:=k.P.set i (uQ c a v.cells) } o (w':=w.setRow g (n.toList.take (i * o.H+a)++r.cells.toList++n.toList.drop (i * o.H+a+r.cells.toList.length)).toArray)
       ⟨rfl,rfl,rfl,by simp,λq _ hq=>setRow_other w g q _ (λe=>hq (by rw [e,hb]))⟩ (λb' hb'=>.inl hb') (.inl rfl) (bY l.ah) l.ty l.Y
       (λd m=>by
        rcases oL m with C|C
        .exact l.H d C
        .rw [C,A])
       (E.take (i * o.H+a)++r.cells.toList++E.drop (i * o.H+a+r.cells.toList.length))
       ⟨by simp [F];omega,.inr ⟨g,b4,_,by simpa using B,b3,setRow_heap w g n _ k.ty _ hg,by simpa using U,b1,by simp;omega,by
        have c0:r.cells.toList.length=r.cells.size:=aE;simp only [f9];rw [<- G];apply gA;intro j;simp only [cO,jU,cX,cY,g8];by_cases hj:j<k.P.length * o.H
        .rw [if_pos hj];have m1:min (i * o.H+a) n.size=i * o.H+a:=aD;have M:min (i * o.H+a) (min (k.P.length * o.H) n.size)=i * o.H+a:=aD;rw [m1,M];split
         .first|rfl|rw [if_pos hj]
         .split
          .rfl
          .first|rfl|rw [if_pos aD]
        .rw [if_neg hj];have M:min (i * o.H+a) (min (k.P.length * o.H) n.size)=i * o.H+a:=aD;rw [M,if_neg aD,if_neg aD,if_neg aD]⟩⟩
       (λu f=>by
        simp only [aZ] at f;rcases f with (f|f)|f
        .exact N u (dD f)
        .exact O u f
        .exact N u (e9 f))
       ⟨by rw [nA _ (λd m=>by
          rcases oL m with C|C
          .exact l.H d C
          .rw [C,A])];simp [F];omega,λj u d f m=>by
        simp only at m;rw [GC k.P i c _ l.H s A] at m;have a9:k.P.flatten.length=E.length:=p.len.symm;simp only [jU,cX,cO,cY,a9,A,g8] at f m;have m1:min (i * o.H+a) E.length=i * o.H+a:=aD;have M:min (i * o.H) E.length=i * o.H:=aD;rw [m1] at f;rw [M] at m;split at m
        .rename_i X;rw [if_pos aD,if_pos aD] at f;try rw [if_pos X] at m
         exact p.Z j u d f m
        .rename_i X;split at m
         .rename_i a6;simp only [uQ,jU,cX,cO,cY] at m;have m3:min a c.length=a:=aD;rw [m3] at m;split at m
          .rename_i W;rw [if_pos aD,if_pos aD] at f;try rw [if_pos W] at m
           refine p.Z j u d f ?_;have:=oC k.P i c l.H s (j - i * o.H) aD;rw [(aD:i * o.H+(j - i * o.H)=j)] at this;rw [this,m]
          .rename_i W;split at m
           .rename_i a5;rw [if_neg aD,if_pos aD] at f;refine a3.Z (j - (i * o.H+a)) u d f ?_;rw [<- m];congr 1;omega
           .rename_i a5;rw [if_neg aD,if_neg aD] at f;have e1:i * o.H+a+r.cells.size+(j - (i * o.H+a) - r.cells.size)=j:=aD;rw [e1] at f;refine p.Z j u d f ?_;have:=oC k.P i c l.H s (j - i * o.H) aD;rw [(aD:i * o.H+(j - i * o.H)=j)] at this;rw [this,<- m];congr 1;omega
         .rename_i a6;rw [if_neg aD,if_neg aD] at f;have e1:i * o.H+a+r.cells.size+(j - (i * o.H+a) - r.cells.size)=j:=aD;rw [e1] at f;refine p.Z j u d f ?_;rw [<- m];congr 1;omega⟩
      simp only [Ja o id ho] at hp;exact hp
end
end Go.Abs
end
section
namespace Go.Abs
section
variable {P:Program} {M0:Nat→Prop} {H:AHeap} {σ:Nat→Option Ow} {w:World}
theorem tQ {t:TypeId}{s:SlI}(h:sl P t=some s) :
  P.underlying t=some (.slice s.e)/\∃ i z,P.info? s.e=some i/\i.zero=some z/\i.size=s.Y/\i.bytes=s.gv/\0<s.Y/\s.gv<=4096/\s.z=z.cells.toList.map r7/\s.z.length=s.Y/\z.cells.size=s.Y/\s.z.all D.cell=true:=by
 unfold sl at h;split at h
 .rename_i e f;split at h
  .rename_i i g;split at h
   .rename_i j;obtain ⟨l,k,c,b⟩:=j;cases h
    cases a:i.zero with
    | none=>simp [Ax,a] at c;omega
    | some z =>
     refine ⟨f,i,z,g,a,rfl,rfl,l,k,by simp [Ax,a],c,?_,b⟩;simpa [Ax,a] using c
   .cases h
  .cases h
 .cases h
theorem Kj {M:Nat->Prop}{N:Nat->Prop}(v:Value):RepV M σ N w v (r7 v):=by
 unfold r7;split
 .exact .int _ _
 .exact .bool _
 .exact .str _
 .exact .nil
 .exact .nilp
 .exact .nilf
 .exact .junk _
theorem TG {v:Value}(h:(r7 v).cell=true):v.oneCell'=true:=by
 cases v<;>first|rfl|(simp [r7,D.cell] at h)
theorem HR {M:Nat->Prop}{N:Nat->Prop}(zs:List Value)(h:(zs.map r7).all D.cell=true):RepL M σ N w zs (zs.map r7)/\∀ u∈zs,u.oneCell'=true:=by
 refine ⟨⟨by simp,λj u d hu hd=>?_⟩,λu hu=>?_⟩
 .rw [aN,hu] at hd;simp at hd;subst hd;exact Kj u
 .simp only [List.all_map,cF,Function.comp] at h;exact TG (h u hu)
theorem u3 {M:Nat->Prop}{N:Nat->Prop}{v:Value}{es:UE}(h:RepV M σ N w v (.list es)) :
  (v=.slice none 0 0/\es=[])\/∃ ad cap sz xs,v=.slice (some ad) es.length cap/\RepL M σ N w xs es.flatten/\(∀ u∈xs,u.oneCell'=true) /\
   (∀ j u,xs[j]?=some u->¬ M ad.block/\w.cell? (ad.add j)=some u)/\es.length<=cap/\cap<=maxLen/\∀ c∈es,c.length=sz:=by
 generalize e:D.list es=d at h;cases h with
 | listN=>cases e;exact .inl ⟨rfl,rfl⟩
 | list ad cap sz xs es k g b i l a f=>cases e;exact .inr ⟨ad,cap,sz,xs,rfl,⟨i,f⟩,l,a,k,g,b⟩
 | _=>cases e
theorem q7 {n:Nat}:∀ (es:UE) (i:Nat),(∀ c∈es,c.length=n)->(es.take i).flatten=es.flatten.take (i * n)
 | [],i,_=>by simp
 | e :: es,0,_=>by simp
 | e :: es,i+1,hl=>by
  have he:=hl e aE;simp only [vL,fJ,q7 es i (λc hc=>hl c (iw hc)),BQ,Nat.add_mul,he];rw [aG (by omega:e.length<=i * n+1 * n)];congr 2;omega
theorem q8 {n:Nat}:∀ (es:UE) (i:Nat),(∀ c∈es,c.length=n)->(es.drop i).flatten=es.flatten.drop (i * n)
 | [],i,_=>by simp
 | e :: es,0,_=>by simp
 | e :: es,i+1,hl=>by
  have he:=hl e aE;simp only [List.drop_succ_cons,fJ,q8 es i (λc hc=>hl c (iw hc)),List.drop_append,Nat.add_mul,he];rw [iW (by omega:e.length<=i * n+1 * n)];simp only [dS];congr 1;omega
theorem Ry {v:Value}{x:D}{es:UE}(Q:Rel M0 H σ w)(C:RepV (dV M0 H σ) σ H.F w v x)(p:pM H x=some es) :
  (v=.slice none 0 0/\es=[])\/∃ ad cap xs,v=.slice (some ad) es.length cap/\RepL (dV M0 H σ) σ H.F w xs es.flatten/\(∀ u∈xs,u.oneCell'=true) /\
   (∀ j u,xs[j]?=some u->w.cell? (ad.add j)=some u)/\es.length<=cap/\cap<=maxLen:=by
 cases x<;>simp only [pM] at p<;>try (cases p;done)
 case nil=>cases p;cases C;exact .inl ⟨rfl,rfl⟩
 case ne =>
  cases p;cases C;rename_i ad cap S
  exact .inr ⟨ad,cap,[],rfl,⟨rfl,λj u d a=>by simp at a⟩,by simp,λj u a=>by simp at a,eL _,S⟩
 case list es' =>
  cases p
  rcases u3 C with h|⟨ad,cap,Y,xs,M,A,B,L,K,V,_⟩
  .exact .inl h
  .exact .inr ⟨ad,cap,xs,M,A,B,λj u a=>(L j u a).2,K,V⟩
 case own id n =>
  cases z:H.get id with
  | none=>simp [z] at p
  | some k =>
   simp only [z] at p;split at p
   .rename_i hn;cases p
    obtain ⟨o,I,l⟩:=Q.am id k z;obtain ⟨xs,i,y,q⟩:=l.row;cases C
    rename_i U M h;rcases h o I with X|⟨_,rfl⟩
    .have:=l.ah;omega
    .rcases i.2 with ⟨r,W⟩|⟨g,cap,N,f,_,_,E,G,_⟩
     .exact .inl ⟨r,bM W⟩
     .exact .inr ⟨⟨g,0,none⟩,cap,xs,f,q,y,i.cells (g:=g) (by simp [f,Value.ownBlock]),E,G⟩
   .cases p
 case win id n lo hi =>
  cases z:H.get id with
  | none=>simp [z] at p
  | some k =>
   simp only [z] at p;split at p
   .rename_i hn;cases p
    obtain ⟨o,I,l⟩:=Q.am id k z;obtain ⟨xs,i,y,q⟩:=l.row;have O:=l.ah;cases C
    rename_i M U T h;have R:WV o v n lo hi:=by
     rcases h o I with X|⟨_,A⟩
     .omega
     .exact A
    rcases R with ⟨_,B,L⟩|⟨b,s,A,P,B⟩
    .subst B L;exact .inl ⟨rfl,by simp⟩
    .have hlen:((k.P.take hi).drop lo).length=hi - lo:=by simp;omega
     have m:((k.P.take hi).drop lo).flatten=(k.P.flatten.take (hi * o.H)).drop (lo * o.H):=by
      rw [q8 _ lo (λc P=>l.H c (dD P)),q7 _ hi l.H]
     rcases i.2 with ⟨r,_⟩|⟨g,cap,N,f,_,_,E,G,_⟩
     .rw [A] at r;cases r
     .rw [A] at f;cases f
      have t:=i.cells (g:=b) (by rw [A];simp [Value.ownBlock]);by_cases F:s=lo
      .have hba:hi=lo:=aD;refine .inr ⟨⟨b,0,none⟩,s - lo,[],?_,⟨?_,λj u d a=>by simp at a⟩,by simp,λj u a=>by simp at a,?_,aD⟩
       .rw [B,hlen,if_pos F]
       .rw [m];subst hba;simp
       .rw [hlen];omega
      .refine .inr ⟨⟨b,lo * o.H,none⟩,s - lo,(xs.take (hi * o.H)).drop (lo * o.H),?_,⟨?_,λj u d a J=>?_⟩,λu a=>y u (dD (e9 a)),λj u a=>?_,?_,aD⟩
       .rw [B,hlen,if_neg F]
       .rw [m];simp [q.len]
       .rw [m,cY,cO] at J;rw [cY,cO] at a;split at a
        .rename_i hj;rw [if_pos hj] at J;exact q.Z _ u d a J
        .cases a
       .rw [cY,cO] at a;split at a
        .have K:=t _ u a;have e:(Addr.add ⟨b,0,none⟩ (lo * o.H))=⟨b,lo * o.H,none⟩:=by simp [jK]
         rw [<- e,Bn];exact K
        .cases a
       .rw [hlen];omega
   .cases p
theorem O2 {nid:Nat}(hn:¬ H.F nid){t t' ty:TypeId}{va vb:Value}{x y:D}(hR:Rel M0 H σ w)(hx:RepV (dV M0 H σ) σ H.F w va x)(hy:RepV (dV M0 H σ) σ H.F w vb y)
  (b7:(pM H y).isSome=true) (hc:(lZ P nid t t' x y H).cond):(lZ P nid t t' x y H).X/\OpS P (Builtin.append_ #[t,t'] ty #[va,vb]) M0 H σ w (lZ P nid t t' x y H).val (lZ P nid t t' x y H).heap:=by
 unfold lZ at *;cases hs:sl P t with
 | none=>simp [hs,AOut.bad] at hc
 | some s =>
  cases he:pM H y with
  | none=>rw [he] at b7;cases b7
  | some E =>
   simp only [hs,he] at hc ⊢;obtain ⟨I,i,z,hi,hz,F,V,c2,c9,d3,d2,b8,d4⟩:=tQ hs;have b6:∀ m:Nat,m<=4294967296->m<=maxLen/\m * s.gv<=140737488355328:=λm hm=>by
    refine ⟨by simp only [maxLen];omega,?_⟩;have:=lH hm c9;omega
   have a2:∀ (v:Value) (n:Nat) (O:List Value),w.ownsRow 0 s.e s.Y v n O->n+E.length<=4294967296->(∀ c∈E,c.length=s.Y)->E.flatten.all D.cell=true ->
     ∃ K w' a,(Builtin.append_ #[t,t] ty #[v,vb]).run P w=.ok K w'/\w'.ownsRow 0 s.e s.Y K (n+E.length) (O++a)/\w.grownBy w' v.ownBlock /\
      RepL (dV M0 H σ) σ H.F w a E.flatten/\(∀ u∈a,u.oneCell'=true)/\(E.length=0->K=v)/\(∀ b,K.ownBlock=some b->v.ownBlock=some b\/w.heap.size<=b):=by
    intro v n O q a8 C G;rcases Ry hR hy he with ⟨rfl,U⟩|⟨ad,Y,a,rfl,r,h1,a1,d7,d6⟩
    .subst U;exact ⟨v,w,[],run_append_owned_none w 0 t ty s.e i s.Y I hi v n O q,by simpa using q,⟨rfl,rfl,rfl,bC _,λ_ _ _=>rfl⟩,⟨rfl,λj u d I=>by simp at I⟩,by simp,λ_=>rfl,λb X=>.inl X⟩
    .have R:a.length=E.length * s.Y:=r.len.trans (nA E C);by_cases h0:E.length=0
     .have c4:a=[]:=bM (by rw [R,h0];simp);subst c4;have f:(Builtin.append_ #[t,t] ty #[v,.slice (some ad) E.length Y]).run P w=.ok v w:=by
       rw [h0];rcases q.2 with ⟨rfl,rfl⟩|⟨g,N,b0,rfl,_,_,b4,_⟩
       .simp [Builtin.append_,run_underlying I,sizeOf,typeInfo,hi,Builtin.lenOf,Builtin.firstCells,loadCells,loadCellsFrom]
       .simp [Builtin.append_,run_underlying I,sizeOf,typeInfo,hi,Builtin.lenOf,Builtin.firstCells,loadCells,loadCellsFrom,b4,storeCells]
      exact ⟨v,w,[],f,by simpa [h0] using q,⟨rfl,rfl,rfl,bC _,λ_ _ _=>rfl⟩,r,by simp,λ_=>rfl,λb X=>.inl X⟩
     .obtain ⟨a7,a6⟩:=b6 _ a8;obtain ⟨K,w',f,p,hg,_⟩:=run_append_own (P:=P) w 0 t ty s.e i z s.Y s.gv I hi hz F V b8 c2 v n O q ad E.length Y a R a1 h1 a7 a6 (eL _);refine ⟨K,w',a,f,p,hg,r,h1,λh=>absurd h h0,λb X=>?_⟩;rcases bX b w.heap.size with d5|c6
      .left
       rcases q.2 with ⟨U,hn⟩|⟨g,N,b0,hv,_,c5,b4,d8,c8,c1⟩
       .subst U;subst hn;have c0:O=[]:=bM (bY q.1);subst c0;have hr:=run_append_nil (P:=P) w t ty s.e i z I hi hz ad E.length Y a (by rw [R,F]) a1 aD (by simp only [maxLen] at a7;omega) (by rw [V];have:=a6;simp only [fE] at this;omega);rw [hr] at f;cases f
        simp [Value.ownBlock] at X;omega
       .subst hv;by_cases T:n+E.length<=N
        .have a9:n * i.size+a.length<=b0.size:=by rw [R,c8,F,<- Nat.add_mul];exact fY _ T
         have hr:=run_append_room (P:=P) w t ty s.e i I hi g n N b0 c5 ad E.length Y a (by rw [R,F]) a1 h1 T a9;rw [hr] at f;cases f
         exact X
        .have a5:∀ j u,O[j]?=some u->w.cell? ((⟨g,0,none⟩:Addr).add j)=some u:=q.cells (g:=g) rfl;have hr:=run_append_grow (P:=P) w t ty s.e i z I hi hz ⟨g,0,none⟩ n N O (by rw [q.1,F]) a5 ad E.length Y a (by rw [R,F]) a1 aD (by simp only [maxLen] at a7;omega) (growslice_fits aD (by rw [V];exact a6));rw [hr] at f;cases f
         simp [Value.ownBlock] at X;omega
      .exact .inr c6
   cases x<;>try (simp [AOut.bad] at hc;done)
   case nil =>
    obtain ⟨rfl,a8,C,G⟩:=hc;cases hx
    obtain ⟨K,w',a,f,p,hg,r,h1,_,W⟩:=a2 _ 0 [] (World.ownsRow_nil w 0 s.e s.Y) aD C G;have hp:=Rel.push hR nid hn (w':=w') hg.os hg.tape hg.output hg.size (λb X=>hg.block b X (by simp [Value.ownBlock])) ⟨s.e,s.Y,E,false⟩ ⟨E.length,K,s.Y,s.e⟩
     (λb X=>by
      rcases W b X with h|h
      .simp [Value.ownBlock] at h
      .exact h) rfl rfl rfl C a (bY p) h1 r
    refine ⟨trivial,K,w',_,f,hp.1,.own K nid E.length (.inl rfl) ?_ λo ho=>?_,hp.2.1,hp.2.2⟩
    .rcases p.2 with ⟨rfl,_⟩|⟨g,c,cu,rfl,_⟩<;>rfl
    .simp at ho;subst ho;exact .inr ⟨rfl,rfl⟩
   case own id n =>
    cases hk:H.get id with
    | none=>simp [hk,AOut.bad] at hc
    | some k =>
     simp only [hk] at hc ⊢;obtain ⟨rfl,c7,a0,b3,a8,b5,C,G⟩:=hc;obtain ⟨o,ho,l⟩:=hR.am id k hk;obtain ⟨O,b2,b9,B⟩:=l.row;cases hx
     rename_i d9 hN h;rcases h o ho with h'|⟨_,rfl⟩
     .have:=l.ah;omega
     .have M:o.H=s.Y:=l.Y.trans b5;have a4:w.ownsRow 0 s.e s.Y o.val k.P.length O:=by rw [<- a0,<- M];exact b2
      obtain ⟨K,w',a,f,p,hg,r,h1,a3,W⟩:=a2 o.val k.P.length O a4 aD C G;have hp:=Rel.put hR (w':=w') hk c7 ho { k with P:=k.P++E } ⟨k.P.length+E.length,K,s.Y,s.e⟩ hg W
       (by
        by_cases h0:E.length=0
        .left
         have:=l.ah;have b1:=a3 h0;obtain ⟨ov,d1,oe,ot⟩:=o;simp only at this b1 M ⊢;have ht:=l.ty;simp only at ht;subst this;subst b1;subst M;rw [ht,a0];simp [h0]
        .right;have:=l.ah;simp only;omega)
       aE (iw a0) (iw b5)
       (λc hc=>by
        rcases aZ.1 hc with h'|h'
        .simpa [<- M] using l.H c h'
        .exact C c h')
       (O++a) (by simpa [a0] using p) (λu I=>by
        rcases aZ.1 I with h'|h'
        .exact b9 u h'
        .exact h1 u h')
       ⟨by simp only [aI,nF,B.len,r.len],λj u d I hd=>by
        simp only [nF] at hd;by_cases hj:j<O.length
        .rw [aS hj] at I;rw [aS (by rw [<- B.len];exact hj)] at hd;exact B.Z j u d I hd
        .rw [bG aD] at I;rw [bG (by rw [<- B.len];omega),<- B.len] at hd;exact r.Z _ u d I hd⟩
      have c3:n=k.P.length:=b3.symm;subst c3;refine ⟨trivial,K,w',_,f,hp.1,.own K id _ hN ?_ λo' ho'=>?_,hp.2.1,hp.2.2⟩
      .rcases p.2 with ⟨rfl,_⟩|⟨g,c,cu,rfl,_⟩<;>rfl
      .simp at ho';subst ho';exact .inr ⟨rfl,rfl⟩
end
end Go.Abs
end
section
namespace Go.Abs
section
variable {P:Program} {M0:Nat→Prop} {H:AHeap} {σ:Nat→Option Ow} {w:World}
theorem nS (z:UN)(n:Nat):((List.replicate n z).flatten).length=n * z.length:=by simp_all
theorem As (z:UN)(n j:Nat)(d:0<z.length)(b:j<n * z.length):((List.replicate n z).flatten)[j]?=z[j % z.length]?:=by
 have a:=oC (n:=z.length) (List.replicate n z) (j / z.length) z (λc hc=>by rw [mD hc])
  (by rw [qC,if_pos (Nat.div_lt_of_lt_mul (by rw [Nat.mul_comm];exact b))]) (j % z.length) (Nat.mod_lt _ d)
 rw [show j / z.length * z.length+j % z.length=j by rw [Nat.mul_comm];exact Nat.div_add_mod _ _] at a;exact a
theorem sG {M:Nat->Prop}{N:Nat->Prop}(z:Value)(n:Nat)(e:0<z.cells.size)(h:(z.cells.toList.map r7).all D.cell=true) :
  RepL M σ N w (madeCells z.cells (n * z.cells.size)).toList (List.replicate n (z.cells.toList.map r7)).flatten/\∀ u∈(madeCells z.cells (n * z.cells.size)).toList,u.oneCell'=true:=by
 obtain ⟨g,i⟩:=HR (M:=M) (σ:=σ) (N:=N) (w:=w) z.cells.toList h;have a:∀ j u,(madeCells z.cells (n * z.cells.size)).toList[j]?=some u->j<n * z.cells.size/\z.cells.toList[j % z.cells.size]?=some u:=by
  intro j u b;have c:j<n * z.cells.size:=by
   have:=(aQ.1 b).1;simpa [size_madeCells] using this
  refine ⟨c,?_⟩;have k:j % z.cells.size<z.cells.size:=Nat.mod_lt _ e;simp [madeCells,c] at b;grind
 refine ⟨⟨by rw [nS];simp [size_madeCells],λj u d b hd=>?_⟩,λu b=>?_⟩
 .obtain ⟨c,f⟩:=a j u b;rw [As _ n j (bY e) (bY c)] at hd;exact g.Z _ u d f (bY hd)
 .obtain ⟨j,c⟩:=List.mem_iff_getElem?.1 b;exact i u (aL (a j u c).2)
theorem Ti {nid:Nat}(S:¬ H.F nid){t:TypeId}{F G:Value}{l c:D}(W:Rel M0 H σ w)(T:RepV (dV M0 H σ) σ H.F w F l)(B:RepV (dV M0 H σ) σ H.F w G c)
  (r:(EM P nid t l c H).cond):(EM P nid t l c H).X/\OpS P (Instr.makeSlice t F G) M0 H σ w (EM P nid t l c H).val (EM P nid t l c H).heap:=by
 unfold EM at *;split at r
 .rename_i s _ n _ m O;obtain ⟨rfl,A,R⟩:=r;cases T;cases B
  obtain ⟨K,i,z,V,J,j,p,L,C,a,f,v,x⟩:=tQ O;obtain ⟨k,rfl⟩:=fO A;have U:k<=4294967296:=aD;have u:i.bytes * k<=281474976710656:=by
   rw [p];have:=lH C U;omega
  obtain ⟨w',g,h,q⟩:=run_make_full (P:=P) w 0 t s.e i z s.Y K V J j _ _ k u (by simp only [maxLen];omega) (eL _);obtain ⟨Q,X⟩:=sG (M:=dV M0 H σ) (σ:=σ) (N:=H.F) (w:=w) z k aD (by rw [<- a];exact x);have y:=Rel.push W nid S (w':=w') q.os q.tape q.output q.size (λb u=>q.block b u aE) ⟨s.e,s.Y,List.replicate k s.z,false⟩ ⟨k,.slice (some ⟨w.heap.size,0,none⟩) k k,s.Y,s.e⟩
   (λb u=>by simp [Ow.block,Value.ownBlock] at u;omega) aE rfl rfl (λc r=>by rw [mD r,f])
   _ (by simpa [v] using h) X (by simpa [a] using Q)
  refine ⟨trivial,_,w',_,g,y.1,.own _ nid k (.inl rfl) rfl λo ho=>?_,y.2.1,y.2.2⟩;grind
 .exact r.elim
theorem AG {t K ty e:TypeId}{i:TypeInfo}{z:Value}{kq kn:IntKind}(N:P.underlying t=some (.slice e))(C:P.underlying K=some (.int kn))(Z:P.info? e=some i)(hz:i.zero=some z)
  (M:z.cells.size=i.size) (O:0<i.size) (v:Value) (n:Nat) (xs:List Value) (c:w.ownsRow 0 e i.size v n xs) (m:Nat) (T:∀ u∈(madeCells z.cells (m * z.cells.size)).toList,u.oneCell'=true) (hm:n+m<=4294967296) (a9:n+m<=maxLen) (G:(n+m) * i.bytes<=140737488355328) :
  ∃ v' w',(Builtin.append_ #[t,K] ty #[v,.int kq m]).run P w=.ok v' w'/\w'.ownsRow 0 e i.size v' (n+m) (xs++(madeCells z.cells (m * z.cells.size)).toList)/\w.grownBy w' v.ownBlock /\
   (m=0->v'=v)/\(∀ b,v'.ownBlock=some b->v.ownBlock=some b\/w.heap.size<=b):=by
 have X:∀ k,madeCells z.cells (k * z.cells.size)=Builtin.zeroCells z.cells k:=λk=>rfl;have D:(madeCells z.cells (m * z.cells.size)).toList.length=m * i.size:=by simp [size_madeCells,M]
 obtain ⟨a,j⟩:∃ x,x=(madeCells z.cells (m * z.cells.size)).toList:=⟨_,rfl⟩;rw [<- j] at D ⊢;have s:(xs++a).length=(n+m) * i.size:=by rw [aI,c.1,D,Nat.add_mul]
 have hw:IntKind.i64.wrap (m:Int)=m:=by rw [IntKind.wrap_i64];omega
 have V:¬ ((m:Int)<0):=aD;have Y:m * i.bytes<=281474976710656:=by have:=fY i.bytes (aD:m<=n+m);omega
 have a1:¬ (281474976710656<(m:Int) * (i.bytes:Int)):=by rw [<- Int.natCast_mul];omega
 have u5:∀ (o:Nat),o<n+m->∀ (L:Option Nat),
   (w.drew.alloc (.cells (xs.toArray++Builtin.zeroCells z.cells m++Builtin.zeroCells z.cells (grownCap w (n+m) o e - (n+m))) e)).ownsRow 0 e i.size
    (.slice (some ⟨w.heap.size,0,none⟩) (n+m) (grownCap w (n+m) o e)) (n+m) (xs++a) /\
   w.grownBy (w.drew.alloc (.cells (xs.toArray++Builtin.zeroCells z.cells m++Builtin.zeroCells z.cells (grownCap w (n+m) o e - (n+m))) e)) L:=by
  intro o ho L;have a6:=grownCap_ge w (n+m) o e;have J:grownCap w (n+m) o e<=maxLen:=grownCap_le_maxLen w (n+m) o e a9;have a2:Builtin.zeroCells z.cells m=a.toArray:=by rw [j,<- X]
  rw [a2];refine ⟨⟨s,.inr ⟨w.heap.size,_,_,rfl,eL _,heap_alloc_new w.drew _,a6,J,?_,?_⟩⟩,⟨rfl,rfl,rfl,by simp,λk hk _=>heap_alloc_old w.drew _ hk⟩⟩
  .simp only [Array.size_append,pB,size_zeroCells,M,c.1,D,<- Nat.add_mul];congr 1;omega
  .simp only [Array.toList_append,List.append_assoc];rw [<- List.append_assoc,<- s];exact List.take_left
 by_cases E:m=0
 .subst E;have a5:a=[]:=bM (by rw [D];simp);subst a5;have R:(Builtin.append_ #[t,K] ty #[v,.int kq (0:Nat)]).run P w=.ok v w:=by
   rcases c.2 with ⟨rfl,rfl⟩|⟨g,b0,A,rfl,_,_,W,_⟩
   .simp [Builtin.append_,run_underlying N,run_underlying C,sizeOf,typeInfo,Z,asInt,asIntOf,IntKind.wrap_i64]
   .simp [Builtin.append_,run_underlying N,run_underlying C,sizeOf,typeInfo,Z,asInt,asIntOf,IntKind.wrap_i64,W,storeCells]
  exact ⟨v,w,R,by simpa using c,⟨rfl,rfl,rfl,bC _,λ_ _ _=>rfl⟩,λ_=>rfl,λb hb=>.inl hb⟩
 .rcases c.2 with ⟨rfl,rfl⟩|⟨g,l,A,rfl,a8,hg,W,J,a7,I⟩
  .have hx:xs=[]:=bM (bY c.1);subst hx;have S:=Lib.run_append_nil_zeros (P:=P) w t K ty e i z kq kn N C Z hz m aD O aD Y;have y:=u5 0 aD (Value.ownBlock (.slice none 0 0));simp only [fE,dS,Array.empty_append] at y ⊢;exact ⟨_,_,S,y.1,y.2,λh=>absurd h E,λb hb=>.inr (by simp [Value.ownBlock] at hb;omega)⟩
  .by_cases q:n+m<=l
   .have a0:n * i.size+a.length<=A.size:=by rw [D,a7,<- Nat.add_mul];exact fY _ q
    have Q:=run_storeCells_at P g (n * i.size) e a 0 A w hg (bY a0) (λu hu=>by
     rw [j] at hu;exact T u hu)
    have a3:(Builtin.zeroCells z.cells m).toList=a:=by rw [j,X]
    have a4:¬ (m * i.size=0):=Nat.mul_ne_zero E aD;simp only [vQ] at Q;have S:(Builtin.append_ #[t,K] ty #[.slice (some ⟨g,0,none⟩) n l,.int kq m]).run P w=.ok (.slice (some ⟨g,0,none⟩) (n+m) l) (w.setRow g (A.toList.take (n * i.size)++a++A.toList.drop (n * i.size+a.length)).toArray):=by
     simp [Builtin.append_,run_underlying N,run_underlying C,sizeOf,typeInfo,zeroValue,Z,hz,asInt,asIntOf,hw,V,a4,a1,q,Addr.add_lit,a3,Q]
    refine ⟨_,_,S,⟨s,.inr ⟨g,l,_,rfl,a8,setRow_heap w g A _ e _ hg,q,J,?_,?_⟩⟩,⟨rfl,rfl,rfl,by simp,λk _ hk=>setRow_other w g k _ (λe=>hk (by simp [Value.ownBlock,e]))⟩,λh=>absurd h E,λb hb=>.inl hb⟩
    .simp only [pB,aI,cX,f8,g8];omega
    .rw [I,<- s];exact List.take_left
   .have U:(Builtin.firstCells i.size n (.slice (some ⟨g,0,none⟩) n l)).run P w.drew=.ok xs.toArray w.drew :=
     run_firstCells_some (P:=P) w.drew i.size n ⟨g,0,none⟩ n l xs c.1 (c.cells (g:=g) rfl)
    have S:=Lib.run_append_grow_zeros (P:=P) w t K ty e i z kq kn N C Z hz (some ⟨g,0,none⟩) n l xs U m aD O aD aD Y (growslice_fits aD G);have y:=u5 l aD (Value.ownBlock (.slice (some ⟨g,0,none⟩) n l));exact ⟨_,_,S,y.1,y.2,λh=>absurd h E,λb hb=>.inr (by simp [Value.ownBlock] at hb;omega)⟩
theorem LS {t E ty:TypeId}{s:SlI}{va vb:Value}{x y:D}(hs:sl P t=some s)(hR:Rel M0 H σ w)(hx:RepV (dV M0 H σ) σ H.F w va x)(hy:RepV (dV M0 H σ) σ H.F w vb y)
  (q:(rG P s E x y H).cond):(rG P s E x y H).X/\OpS P (Builtin.append_ #[t,E] ty #[va,vb]) M0 H σ w (rG P s E x y H).val (rG P s E x y H).heap:=by
 unfold rG at *;obtain ⟨v,i,z,hi,hz,V,a7,R,a8,f,A,Q,a1⟩:=tQ hs;cases y<;>try (simp [AOut.bad] at q;done)
 rename_i kq m;cases x<;>try (simp [AOut.bad] at q;done)
 rename_i id n;cases K:Tq P E with
 | none=>simp [K,AOut.bad] at q
 | some kn =>
  simp only [K] at q ⊢;cases Y:H.get id with
  | none=>simp [Y,AOut.bad] at q
  | some k =>
   simp only [Y] at q ⊢;obtain ⟨a4,a5,r,U,I,J⟩:=q;obtain ⟨m,rfl⟩:=fO a4;simp only [Int.toNat_natCast] at I ⊢;have a3:P.underlying E=some (.int kn):=by
    unfold Tq at K;grind
   obtain ⟨o,ho,l⟩:=hR.am id k Y;obtain ⟨X,B,a2,a⟩:=l.row;cases hx
   rename_i a9 hN h;cases hy
   rcases h o ho with C|⟨_,rfl⟩
   .have:=l.ah;omega
   .have b:o.H=s.Y:=l.Y.trans J;rw [<- V] at R A Q b J;have G:w.ownsRow 0 s.e i.size o.val k.P.length X:=by rw [<- r];rw [b] at B;exact B
    have hb:(n+m) * i.bytes<=140737488355328:=by
     have:=lH I (aD:i.bytes<=4096);omega
    obtain ⟨hr,h1⟩:=sG (M:=dV M0 H σ) (σ:=σ) (N:=H.F) (w:=w) z m aD (by rw [<- f];exact a1);subst U;obtain ⟨Z,w',T,p,hg,F,W⟩:=AG (P:=P) (ty:=ty) (kq:=kq) v a3 hi hz Q R o.val k.P.length X G m h1 I (by simp only [maxLen];omega) hb;have a0:∀ c∈List.replicate m s.z,c.length=i.size:=λc q=>by rw [mD q,A]
    have hp:=Rel.put hR (w':=w') Y a5 ho { k with P:=k.P++List.replicate m s.z } ⟨k.P.length+m,Z,i.size,s.e⟩ hg W
     (by
      by_cases h0:m=0
      .left
       have:=l.ah;have S:=F h0;obtain ⟨ov,a6,oe,ot⟩:=o;simp only at this S b ⊢;have ht:=l.ty;simp only at ht;subst this;subst S;subst b;rw [ht,r];simp [h0]
      .right;have:=l.ah;simp only;omega)
     aE (iw r) (iw J)
     (λc q=>by
      rcases aZ.1 q with C|C
      .simpa [<- b] using l.H c C
      .exact a0 c C)
     (X++(madeCells z.cells (m * z.cells.size)).toList) (by simpa [r] using p) (λu v=>by
      rcases aZ.1 v with C|C
      .exact a2 u C
      .exact h1 u C)
     ⟨by simp only [aI,nF,a.len];rw [hr.len,f],λj u d v hd=>by
      simp only [nF] at hd;by_cases hj:j<X.length
      .rw [aS hj] at v;rw [aS (by rw [<- a.len];exact hj)] at hd;exact a.Z j u d v hd
      .rw [bG aD] at v;rw [bG (by rw [<- a.len];omega),<- a.len,f] at hd;exact hr.Z _ u d v hd⟩
    refine ⟨trivial,Z,w',_,T,hp.1,.own Z id _ hN ?_ λo' ho'=>?_,hp.2.1,hp.2.2⟩
    .rcases p.2 with ⟨rfl,_⟩|⟨g,c,cu,rfl,_⟩<;>rfl
    .simp at ho';subst ho';exact .inr ⟨rfl,rfl⟩
theorem LR {nid:Nat}(l:¬ H.F nid){t a ty:TypeId}{h g:Value}{x y:D}(k:Rel M0 H σ w)(j:RepV (dV M0 H σ) σ H.F w h x)(i:RepV (dV M0 H σ) σ H.F w g y)
  (d:(lZ P nid t a x y H).cond):(lZ P nid t a x y H).X/\OpS P (Builtin.append_ #[t,a] ty #[h,g]) M0 H σ w (lZ P nid t a x y H).val (lZ P nid t a x y H).heap:=by
 cases f:pM H y with
 | some n=>exact O2 l k j i (by rw [f];rfl) d
 | none =>
  cases e:sl P t with
  | none=>unfold lZ at d;simp [e,f,AOut.bad] at d
  | some s =>
   have m:lZ P nid t a x y H=rG P s a x y H:=by unfold lZ;simp only [e,f]
   rw [m] at d ⊢;exact LS e k j i d
theorem Ku (w:World)(cs:Array Value)(t:TypeId)(j:Nat):(w.alloc (.cells cs t)).cell? ⟨w.heap.size,j,none⟩=cs[j]?:=by simp_all
theorem QU {M0:Nat->Prop}{nid:Nat}(hn:¬ H.F nid)(hR:Rel M0 H σ w)(m:Bool)(t:TypeId)(cs:Array Value)(ds:UN)(hrep:RepL (dV M0 H σ) σ H.F w cs.toList ds)(h1:∀ u∈cs.toList,u.oneCell'=true) :
  let d:D:=if m then .ptr nid 1 0 0 else .adr ds
  let H':=if m then H.push nid ⟨t,ds.length,[ds],false⟩ else H
  ∃ σ',Rel M0 H' σ' (w.alloc (.cells cs t))/\RepV (dV M0 H' σ') σ' H'.F (w.alloc (.cells cs t)) (.pointer (some ⟨w.heap.size,0,none⟩)) d/\Stp σ w σ' (w.alloc (.cells cs t)) /\
   Keeps (dV M0 H σ) σ H.F w (dV M0 H' σ') σ' H'.F (w.alloc (.cells cs t)):=by
 have hold:∀ b,b<w.heap.size->(w.alloc (.cells cs t)).heap[b]?=w.heap[b]?:=λ_ hb=>heap_alloc_old _ _ hb
 have hl:cs.size=ds.length:=by simpa using hrep.len
 cases m with
 | false =>
  obtain ⟨hR',hS,hK⟩:=Rel.grow hR (w':=w.alloc (.cells cs t)) rfl rfl rfl aE hold
  refine ⟨σ,hR',.adr _ cs.toList ds hrep.len h1 (λj u hu=>⟨?_,?_⟩) λj u d hu hd=>(hrep.Z j u d hu hd).q hK,hS,hK⟩
  .rintro (hm|⟨i,k,o,_,_,ho,hb⟩)
   .exact absurd (hR.m0 _ hm) (nT _)
   .exact absurd (hR.lt i o _ ho hb).1 (nT _)
  .rw [jK,fE,Ku];simpa using hu
 | true =>
  simp only [if_true]
  have hp:=Rel.push hR nid hn (w':=w.alloc (.cells cs t)) rfl rfl rfl aE hold ⟨t,ds.length,[ds],false⟩ ⟨1,.slice (some ⟨w.heap.size,0,none⟩) 1 1,ds.length,t⟩
   (λb hb=>by simp [Ow.block,Value.ownBlock] at hb;omega) rfl rfl rfl aE cs.toList
   (World.ownsRow_lit w cs 1 (eL _) (by simp [maxLen]) (by simp [hl])) h1 (bY hrep)
  refine ⟨_,hp.1,.ptr _ nid 1 0 0 (.inl rfl) rfl λo ho=>?_,hp.2.1,hp.2.2⟩
  simp at ho;subst ho
  exact .inr ⟨rfl,_,rfl,by simp⟩
theorem WG {nid:Nat}(o:¬ H.F nid){m:Bool}{t:TypeId}{d:Value}{x:D}(p:Rel M0 H σ w)(l:RepV (dV M0 H σ) σ H.F w d x)(g:(O9 P nid m t x H).cond) :
  (O9 P nid m t x H).X/\OpS P (Instr.box t d) M0 H σ w (O9 P nid m t x H).val (O9 P nid m t x H).heap:=by
 have c:x.cells.all D.cell=true:=by unfold O9 at g;cases m<;>exact g
 obtain ⟨n,q⟩:=BM l c;obtain ⟨σ',k,j,i,h⟩:=QU o p m t d.cells x.cells n q;have b:(Instr.box t d).run P w=.ok (.pointer (some ⟨w.heap.size,0,none⟩)) (w.alloc (.cells d.cells t)):=by
  simp [Instr.box,newVar,newRow]
 cases m with
 | false=>exact ⟨trivial,_,_,σ',b,k,j,i,h⟩
 | true=>exact ⟨trivial,_,_,σ',b,k,j,i,h⟩
theorem T7 {t:TypeId}{z:UN}(h:zd P t=some z):∃ de i v,P.underlying t=some de/\P.info? t=some i/\i.zero=some v/\z=v.cells.toList.map r7/\z.length=i.size/\0<i.size/\z.all D.cell=true:=by
 unfold zd at h;split at h
 .rename_i de i d e;split at h
  .rename_i a;cases h
   cases b:i.zero with
   | none=>simp [Ax,b] at a;omega
   | some v=>exact ⟨de,i,v,d,e,b,by simp [Ax,b],a.1,a.2.1,a.2.2⟩
  .cases h
 .cases h
theorem R8 {nid:Nat}(q:¬ H.F nid){m:Bool}{t:TypeId}(u:Rel M0 H σ w)(s:(zU P nid m t H).cond) :
  (zU P nid m t H).X/\OpS P (Instr.alloc t true (.tuple #[])) M0 H σ w (zU P nid m t H).val (zU P nid m t H).heap:=by
 unfold zU at *;cases h:zd P t with
 | none=>simp [h,AOut.bad] at s
 | some z =>
  obtain ⟨C,i,v,y,r,o,rfl,A,B,d⟩:=T7 h;obtain ⟨p,x⟩:=HR (M:=dV M0 H σ) (σ:=σ) (N:=H.F) (w:=w) v.cells.toList d;obtain ⟨σ',n,l,k,j⟩:=QU q u m t v.cells _ p x;have b:(Instr.alloc t true (.tuple #[])).run P w=.ok (.pointer (some ⟨w.heap.size,0,none⟩)) (w.alloc (.cells v.cells t)):=by
   simp [Instr.alloc,zeroValue,typeInfo,r,o,newVar,newRow]
  cases m with
  | false=>exact ⟨trivial,_,_,σ',b,n,l,k,j⟩
  | true=>exact ⟨trivial,_,_,σ',b,n,l,k,j⟩
theorem Rs (cs:List Value):∀ (b d:Nat) (zs:Array Value),b+d+cs.length<=zs.size ->
  ((cs.zipIdx d).foldl (λa (p:Value × Nat)=>a.setIfInBounds (b+p.2) p.1) zs).toList=zs.toList.take (b+d)++cs++zs.toList.drop (b+d+cs.length):=by
 induction cs with
 | nil=>intro b d zs h;simp
 | cons c cs ih =>
  intro b d zs h;simp only [List.zipIdx_cons,pD];have i:b+d+(cs.length+1)<=zs.size:=by simpa using h
  rw [ih b (d+1) _ ie];apply gA;intro q;simp only [Array.toList_setIfInBounds,jU,cX,f9,g8,cO,cY,dL,eO];have e:min (b+(d+1)) zs.size=b+(d+1):=aD;grind
theorem C0 {M:Nat->Prop}{N:Nat->Prop}(places:Nat->Option (Nat × Nat)):∀ (pv:List (Nat × Value)) (pd:List (Nat × D)) (zs:Array Value) (ds out:UN),
  pv.map (·.1)=pd.map (·.1)->(∀ (j:Nat) (v:Value) (d:D),(pv.map (·.2))[j]?=some v->(pd.map (·.2))[j]?=some d->RepV M σ N w v d)->(∀ p∈pd,p.2.cells.all D.cell=true) ->
  RepL M σ N w zs.toList ds->(∀ u∈zs.toList,u.oneCell'=true)->Ct places ds pd=some out ->
  ∃ cs,Instr.fill places zs pv=some cs/\RepL M σ N w cs.toList out/\(∀ u∈cs.toList,u.oneCell'=true)/\out.length=ds.length
 | [],pd,zs,ds,out,hk,hr,hcl,hz,h1,hf=>by
  cases pd with
  | cons p pd=>simp at hk
  | nil=>simp [Ct] at hf;subst hf;exact ⟨zs,rfl,hz,h1,rfl⟩
 | (i,v) :: pv,pd,zs,ds,out,hk,hr,hcl,hz,h1,hf=>by
  cases pd with
  | nil=>simp at hk
  | cons p pd =>
   obtain ⟨i',d⟩:=p;simp at hk;obtain ⟨rfl,hk⟩:=hk;unfold Ct at hf;unfold Instr.fill;cases hp:places i with
   | none=>simp [hp] at hf
   | some q =>
    obtain ⟨off,size⟩:=q;simp only [hp] at hf ⊢;split at hf
    .rename_i hc;obtain ⟨hc1,hc2⟩:=hc;have hvd:=hr 0 v d rfl rfl;obtain ⟨hrv,hv1⟩:=BM hvd (hcl (i,d) aE);have hvl:v.cells.size=d.cells.length:=Nl hvd (hcl (i,d) aE);have hzl:zs.size=ds.length:=by simpa using hz.len
     have hcond:(v.cells.size≠size||off+v.cells.size > zs.size)=false:=by simp;omega
     have hs:=Rs v.cells.toList off 0 zs ie;simp only [vQ] at hs;have hfold:v.cells.zipIdx.foldl (λcs (x:Value × Nat)=>cs.setIfInBounds (off+x.2) x.1) zs=(v.cells.toList.zipIdx 0).foldl (λcs (x:Value × Nat)=>cs.setIfInBounds (off+x.2) x.1) zs:=by
      rw [<- Array.foldl_toList,Array.toList_zipIdx]
     obtain ⟨cs,hfill,hrep,h1',hlen⟩:=C0 places pv pd (v.cells.zipIdx.foldl (λcs (x:Value × Nat)=>cs.setIfInBounds (off+x.2) x.1) zs) (uQ ds off d.cells) out hk
      (λj u x hu hx=>hr (j+1) u x hu hx) (λp hp=>hcl p (iw hp))
      (by
       rw [hfold,hs];have hvl':v.cells.toList.length=d.cells.length:=by simpa using hvl
       refine ⟨by simp [uQ];omega,λj u x hu hx=>?_⟩;simp only [uQ,jU,cX,cO,cY,g8,hvl',hzl] at hu hx;split at hx
       .rename_i hj;rw [if_pos hj] at hu;split at hx
        .rename_i hj';rw [if_pos hj'] at hu;exact hz.Z j u x hu hx
        .cases hx
       .rename_i hj;rw [if_neg hj] at hu;split at hx
        .rename_i hj';rw [if_pos hj'] at hu;exact hrv.Z _ u x hu hx
        .rename_i hj';rw [if_neg hj'] at hu;exact hz.Z _ u x hu hx)
      (by
       rw [hfold,hs];intro u hu;simp only [aZ] at hu;rcases hu with (hu|hu)|hu
       .exact h1 u (dD hu)
       .exact hv1 u hu
       .exact h1 u (e9 hu)) hf
     refine ⟨cs,?_,hrep,h1',by rw [hlen];simp [uQ];omega⟩;simp only [hcond,fP,if_false];exact hfill
    .cases hf
end
end Go.Abs
end
section
namespace Go.Abs
section
variable {P:Program} {M0:Nat→Prop} {H:AHeap} {σ:Nat→Option Ow} {w:World}
structure Parts (M:Nat->Prop) (σ:Nat->Option Ow) (N:Nat->Prop) (w:World) (pv:List (Nat × Value)) (pd:List (Nat × D)):Prop where
 g2:pv.map (·.1)=pd.map (·.1)
 Z:∀ (j:Nat) (v:Value) (d:D),(pv.map (·.2))[j]?=some v->(pd.map (·.2))[j]?=some d->RepV M σ N w v d
theorem RT {t:TypeId}{m:List (Nat × Value)}{d:List (Nat × D)}(C:Rel M0 H σ w)(s:Parts (dV M0 H σ) σ H.F w m d)
  (j:(vI P t d H).cond):(vI P t d H).X/\OpS P (Instr.build t m.toArray) M0 H σ w (vI P t d H).val (vI P t d H).heap:=by
 unfold vI at *;cases n:zd P t with
 | none=>simp [n,AOut.bad] at j
 | some z =>
  cases h:bk P t with
  | none=>simp [n,h,AOut.bad] at j
  | some b =>
   simp only [n,h] at j ⊢;cases p:Ct b.dk z d with
   | none=>simp [p,AOut.bad] at j
   | some out =>
    simp only [p] at j ⊢;refine ⟨trivial,?_⟩;obtain ⟨F,i,v,r,B,y,rfl,J,L,g⟩:=T7 n;obtain ⟨A,E⟩:=HR (M:=dV M0 H σ) (σ:=σ) (N:=H.F) (w:=w) v.cells.toList g;obtain ⟨u,f,c,q,_⟩:=C0 _ m d v.cells _ out s.g2 s.Z (bY j) A E p;refine .pure C (run_build w t m.toArray u ?_) (.agg u.toList out c.len q c.Z);unfold Program.built;unfold bk at h;rw [r] at h;cases F<;>simp at h
    case array n' e =>
     obtain ⟨G,o,rfl⟩:=h;simp only [B,r,y,o];exact f
    case struct fs =>
     obtain ⟨l,I,rfl⟩:=h;have K:(BK.st l).dk=λx=>l[x]?:=rfl;simp_all
theorem vB (sz:Nat):∀ (n:Nat) (l:UN),(tF sz n l).length=n
 | 0,_=>rfl
 | n+1,l=>by simp [tF,vB sz n]
theorem GH (sz:Nat):∀ (n:Nat) (l:UN),l.length=n * sz->(tF sz n l).flatten=l
 | 0,l,h=>by simp at h;subst h;rfl
 | n+1,l,h=>by
  simp only [tF,fJ];rw [GH sz n _ (by rw [f8,h,Nat.add_mul];omega),List.take_append_drop]
theorem FJ (sz:Nat):∀ (n:Nat) (l:UN),l.length=n * sz->∀ c∈tF sz n l,c.length=sz
 | 0,l,h,c,hc=>by cases hc
 | n+1,l,h,c,hc=>by
  simp only [tF,aW] at hc;rw [Nat.add_mul] at h;rcases hc with rfl|hc
  .rw [cX];omega
  .exact FJ sz n _ (by rw [f8];omega) c hc
theorem FK {nid:Nat}(S:¬ H.F nid){m:Bool}{t:TypeId}{n:Nat}{Y:List (Nat × Value)}{y:List (Nat × D)}(hR:Rel M0 H σ w)(hp:Parts (dV M0 H σ) σ H.F w Y y)
  (V:(jP P nid m t n y H).cond):(jP P nid m t n y H).X/\OpS P (Instr.buildSlice t n Y.toArray) M0 H σ w (jP P nid m t n y H).val (jP P nid m t n y H).heap:=by
 unfold jP at *;cases hs:sl P t with
 | none=>simp [hs,AOut.bad] at V
 | some s =>
  simp only [hs] at V ⊢;cases hf:Ct (λi=>some (i * s.Y,s.Y)) (List.replicate n s.z).flatten y with
  | none=>simp [hf,AOut.bad] at V
  | some out =>
   simp only [hf] at V ⊢;obtain ⟨O,i,z,hi,hz,E,a4,a5,a6,A,R,Q,a0⟩:=tQ hs;have K:n<=1000/\s.Y<=1000/\(y.all λp=>p.2.cells.all D.cell)=true:=by cases m<;>exact V
   obtain ⟨hn,a1,a2⟩:=K;obtain ⟨hr,h1⟩:=sG (M:=dV M0 H σ) (σ:=σ) (N:=H.F) (w:=w) z n aD (by rw [<- A];exact a0);rw [<- A] at hr;obtain ⟨v,a,g,X,T⟩:=C0 (λi=>some (i * s.Y,s.Y)) Y y (madeCells z.cells (n * z.cells.size)) _ out hp.g2 hp.Z (bY a2) hr h1 hf;have I:out.length=n * s.Y:=by rw [T,nS,R]
   have U:v.size=n * s.Y:=by have:=g.len;simp at this;omega
   have Z:¬ n * s.Y > 2 ^ 24:=by
    have:=lH hn a1;omega
   have B:(Instr.buildSlice t n Y.toArray).run P w=.ok (.slice (some ⟨w.heap.size,0,none⟩) n n) (w.alloc (.cells v s.e)):=by
    by_cases h0:n * s.Y=0
    .have c:(Array.range (n * s.Y)).map (λx=>(#[]:Array Value)[x % (#[]:Array Value).size]!)=madeCells z.cells (n * z.cells.size):=by
      rw [Q];simp [madeCells,h0,Array.range_zero']
     rw [<- c] at a;simp [Instr.buildSlice,run_underlying O,sizeOf,typeInfo,hi,E,h0] at a ⊢;simp [a,newRow]
    .have c:(Array.range (n * s.Y)).map (λx=>z.cells[x % z.cells.size]!)=madeCells z.cells (n * z.cells.size):=by
      simp [madeCells,Q]
     rw [<- c] at a;have q:¬ 16777216<n * s.Y:=aD;simp [Instr.buildSlice,run_underlying O,sizeOf,typeInfo,hi,E,h0,q,zeroValue,hz,a,newRow]
   have J:=GH s.Y n out I;have C:∀ b,b<w.heap.size->(w.alloc (.cells v s.e)).heap[b]?=w.heap[b]?:=λ_ W=>heap_alloc_old _ _ W;cases m with
   | false =>
    simp only [fP,if_false];obtain ⟨a3,hS,hK⟩:=Rel.grow hR (w':=w.alloc (.cells v s.e)) rfl rfl rfl aE C;refine ⟨trivial,_,_,σ,B,a3,?_,hS,hK⟩;have hv:=RepV.list (M:=dV M0 H σ) (σ:=σ) (N:=H.F) (w:=w.alloc (.cells v s.e)) ⟨w.heap.size,0,none⟩ n s.Y v.toList (tF s.Y n out) (by simp [vB]) (by simp only [maxLen];omega)
     (FJ s.Y n out I) (by rw [J];exact g.len) X (λj u O=>⟨by
      rintro (hm|⟨i,k,o,_,_,ho,W⟩)
      .exact absurd (hR.m0 _ hm) (nT _)
      .exact absurd (hR.lt i o _ ho W).1 (nT _),by
      rw [jK,fE,Ku];simpa using O⟩) (λj u d O hd=>by rw [J] at hd;exact (g.Z j u d O hd).q hK)
    rw [vB] at hv;exact hv
   | true =>
    simp only [if_true];have G:=Rel.push hR nid S (w':=w.alloc (.cells v s.e)) rfl rfl rfl aE C ⟨s.e,s.Y,tF s.Y n out,false⟩ ⟨n,.slice (some ⟨w.heap.size,0,none⟩) n n,s.Y,s.e⟩
     (λb W=>by simp [Ow.block,Value.ownBlock] at W;omega) (by simp [vB]) rfl rfl (FJ s.Y n out I) v.toList
     (by simp only [vB];exact World.ownsRow_lit w v n (eL _) (by simp only [maxLen];omega) U) X (by simp only;rw [J];exact g)
    refine ⟨trivial,_,_,_,B,G.1,.own _ nid n (.inl rfl) rfl λo ho=>?_,G.2.1,G.2.2⟩;simp at ho;subst ho;exact .inr ⟨rfl,rfl⟩
theorem Up {v:Value}{e n:Nat}{k:Blk}(t:Rel M0 H σ w)(p:RepV (dV M0 H σ) σ H.F w v (.own e n))(s:H.get e=some k)(r:k.P.length=n) :
  (v=.slice none 0 0/\n=0)\/∃ b cap,v=.slice (some ⟨b,0,none⟩) n cap/\n<=cap/\cap<=maxLen/\∃ o,σ e=some o/\o.block=some b/\o.H=k.Y/\o.ah=n:=by
 obtain ⟨o,j,l⟩:=t.am e k s;obtain ⟨z,c,m,i⟩:=l.row;cases p
 rename_i B A h;rcases h o j with D|⟨u,rfl⟩
 .have:=l.ah;omega
 .rcases c.2 with ⟨d,C⟩|⟨g,cap,x,a,_,_,q,f,_⟩
  .exact .inl ⟨d,aD⟩
  .exact .inr ⟨g,cap,by rw [a,r],aD,f,o,j,by simp [Ow.block,a,Value.ownBlock],l.Y,u.symm⟩
theorem Wi {t ty:TypeId}{l:Value}{x:D}(f:Rel M0 H σ w)(g:RepV (dV M0 H σ) σ H.F w l x)(d:(Hu P t x H).cond) :
  (Hu P t x H).X/\OpS P (Builtin.len_ #[t] ty #[l]) M0 H σ w (Hu P t x H).val (Hu P t x H).heap:=by
 unfold Hu at *;split at d
 .rename_i e c;split at d
  .cases g
   exact ⟨trivial,.pure f (by simp [Builtin.len_,run_underlying c,goInt]) (.int _ _)⟩
  .rename_i s;rcases u3 g with ⟨rfl,rfl⟩|⟨u,j,p,o,rfl,_,_,_,i,h,_⟩
   .exact ⟨by simp,.pure f (by simp [Builtin.len_,run_underlying c,goInt]) (.int _ _)⟩
   .refine ⟨?_,.pure f (by simp [Builtin.len_,run_underlying c,goInt]) (.int _ _)⟩;simp only [maxLen] at h;simp only;omega
  .rename_i r n;split at d
   .rename_i k m;rcases Up f g m d with ⟨rfl,rfl⟩|⟨b,j,rfl,i,h,_⟩
    .exact ⟨by simp,.pure f (by simp [Builtin.len_,run_underlying c,goInt]) (.int _ _)⟩
    .refine ⟨?_,.pure f (by simp [Builtin.len_,run_underlying c,goInt]) (.int _ _)⟩;simp only [maxLen] at h;simp only;omega
   .exact d.elim
  .exact d.elim
 .rename_i c;split at d
  .cases g
   exact ⟨trivial,.pure f (by simp [Builtin.len_,run_underlying c,goInt]) (.int _ _)⟩
  .exact d.elim
 .rename_i n e c;refine ⟨trivial,.pure f ?_ (.int _ _)⟩;simp [Builtin.len_,run_underlying c,goInt]
 .exact d.elim
end
end Go.Abs
end
