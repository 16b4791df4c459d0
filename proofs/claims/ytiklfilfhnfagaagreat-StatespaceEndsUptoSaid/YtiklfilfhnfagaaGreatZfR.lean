/- Layer 15, plain law: the canonical order of the program (all -/
import Derived.Test.YtiklfilfhnfagaaGreatZfO
import Derived.Test.YtiklfilfhnfagaaGreatZfG
import Derived.Test.YtiklfilfhnfagaaGreatZfQ
import Derived.Test.YtiklfilfhnfagaaGreatZfM
import Derived.Test.YtiklfilfhnfagaaGreatZfA
set_option linter.unusedVariables false
set_option linter.unusedSimpArgs false
section
set_option maxRecDepth 100000
set_option maxHeartbeats 4000000
open Go Go.Proofs
namespace Go.Abs
theorem Iy {l:List Int}{n:Int}:mem l n=false↔n∉l:=by rw [← mem_iff];simp
def bV:List Int→List Int→Int
 | [],[]=>0
 | [],_ :: _=>-1
 | _ :: _,[]=>1
 | a :: l,b :: k=>if a<b then -1 else if b<a then 1 else bV l k
theorem gC:∀ a:List Int,bV a a=0
 | []=>rfl
 | a :: l=>by simp [bV,gC l]
theorem nY:∀ {a b:List Int},bV a b=0→a=b
 | [],[],_=>rfl
 | [],_ :: _,h=>by simp [bV] at h
 | _ :: _,[],h=>by simp [bV] at h
 | a :: l,b :: k,h=>by
  simp only [bV] at h
  split at h
  ·cases h
  ·split at h
   ·cases h
   ·rw [show a=b by omega,nY h]
theorem jK:∀ a b:List Int,bV b a = - bV a b
 | [],[]=>rfl
 | [],_ :: _=>rfl
 | _ :: _,[]=>rfl
 | a :: l,b :: k=>by
  simp only [bV]
  have:=jK l k
  split<;>split<;>(try split)<;>omega
theorem nX:∀ {a b c:List Int},bV a b≤0→bV b c<0→bV a c<0
 | [],[],c,_,h=>h
 | [],_ :: _,[],_,h=>by simp [bV] at h
 | [],_ :: _,_ :: _,_,_=>by simp [bV]
 | _ :: _,[],_,h,_=>by simp [bV] at h
 | _ :: _,_ :: _,[],_,h=>by simp [bV] at h
 | a :: l,b :: k,c :: j,h1,h2=>by
  simp only [bV] at h1 h2 ⊢
  have:=@nX l k j
  grind
theorem xO:∀ (p a b:List Int),bV (p++a) (p++b)=bV a b
 | [],a,b=>rfl
 | x :: p,a,b=>by simp [bV,xO p a b]
theorem K6:∀ (c l r:List Int),0<bV c (l.take (min c.length l.length))→0<bV (c++r) l
 | [],l,r,h=>by simp [bV] at h
 | a :: c,[],r,h=>by simp [bV]
 | a :: c,b :: l,r,h=>by
  have:=K6 c l r
  simp only [bW,Nat.succ_min_succ,nG,bV,eY] at h ⊢
  grind
theorem FG:∀ {a b:List Int} (r s:List Int),bV a b<0→¬ a <+: b→bV (a++r) (b++s)<0
 | [],b,r,s,_,h=>absurd (List.nil_prefix) h
 | a :: l,[],r,s,h,_=>by simp [bV] at h
 | a :: l,b :: k,r,s,h,hp=>by
  have:=@FG l k r s
  rw [List.cons_prefix_cons] at hp
  simp only [bV,eY] at h ⊢
  grind
def eV (sg:List Int→Int→List Int):List Int→List Int→List Int
 | _,[]=>[]
 | p,k :: r=>sg p k++eV sg (p++[k]) r
theorem l7 (sg:List Int→Int→List Int):∀ (p l r:List Int),eV sg p (l++r)=eV sg p l++eV sg (p++l) r
 | p,[],r=>by simp [eV]
 | p,k :: l,r=>by simp [eV,l7 sg (p++[k]) l r]
structure BC where
 found:Bool
 best:List Int
 least:List Int
def r9 (o code:List Int)(s:BC):BC:=if (!s.found||decide (bV code s.least<0))=true then ⟨true,o,code⟩ else s
def UD (c:List Int)(s:BC):Bool:=!s.found||decide (bV c (s.least.take (min c.length s.least.length))≤0)
def sN (N:Nat)(sg:List Int→Int→List Int):Nat→List Int→List Int→BC→BC
 | 0,l,c,s=>r9 l c s
 | d+1,l,c,s=>(List.range N).foldl (fun s (k:Nat)=>if mem l k=true then s else if UD (c++sg l k) s=true then sN N sg d (l++[(k:Int)]) (c++sg l k) s else s) s
def rQ (N:Nat):Nat→List Int→List (List Int)
 | 0,l=>[l]
 | d+1,l=>((List.range N).filter fun k:Nat=>!mem l k).flatMap fun k:Nat=>rQ N d (l++[(k:Int)])
theorem Bp {N:Nat}:∀ {d:Nat} {l o:List Int},o∈rQ N d l→∃ r,o=l++r
 | 0,l,o,h=>⟨[],by simpa [rQ] using h⟩
 | d+1,l,o,h=>by
  simp only [rQ,bK] at h
  obtain ⟨k,_,h⟩:=h
  obtain ⟨r,rfl⟩:=Bp h
  exact ⟨(k:Int) :: r,by simp⟩
theorem Hy {α β:Type}{f:β→α→β}{s:β}:∀ {l:List α},(∀ x∈l,f s x=s)→l.foldl f s=s
 | [],_=>rfl
 | a :: l,h=>by rw [c8,h a (by simp)];exact Hy fun x hx=>h x (by simp [hx])
theorem Pj {sg:List Int→Int→List Int}{c o:List Int}{s:BC}(hg:UD c s=false)(ho:∃ r,eV sg [] o=c++r):r9 o (eV sg [] o) s=s:=by
 obtain ⟨r,hr⟩:=ho
 unfold UD at hg
 simp only [pX,decide_eq_false_iff_not,Bool.not_eq_false',Int.not_le] at hg
 have:=K6 c s.least r hg.2
 unfold r9
 rw [hr,if_neg]
 rw [hg.1]
 simp;omega
theorem Nk {N : Nat} {sg : List Int → Int → List Int} : ∀ (d : Nat) (l : List Int) (s : BC), sN N sg d l (eV sg [] l) s = (rQ N d l).foldl (fun s o => r9 o (eV sg [] o) s) s
  | 0, l, s => rfl
  | d + 1, l, s => by
    simp only [sN, rQ]
    rw [List.foldl_flatMap]
    generalize List.range N = ks
    induction ks generalizing s with
    | nil => rfl
    | cons k ks ih =>
      rw [c8]
      by_cases hm : mem l k = true
      · rw [if_pos hm, s5 (by simp [hm])]; exact ih s
      · rw [if_neg hm, Ga (by simp [hm]), c8]
        have hc : eV sg [] (l ++ [(k : Int)]) = eV sg [] l ++ sg l k := by rw [l7]; simp [eV]
        have key : (if UD (eV sg [] l ++ sg l k) s = true then sN N sg d (l ++ [(k : Int)]) (eV sg [] l ++ sg l k) s else s) = (rQ N d (l ++ [(k : Int)])).foldl (fun s o => r9 o (eV sg [] o) s) s := by
          split
          · rw [← hc]; exact Nk d _ s
          · rename_i hg
            refine (Hy fun o ho => Pj (c := eV sg [] l ++ sg l k) (by simpa using hg) ?_).symm
            obtain ⟨r, rfl⟩ := Bp ho
            exact ⟨_, by rw [l7, hc]⟩
        rw [key]; exact ih _
theorem zZ {cd:List Int→List Int}:∀ (L:List (List Int)) (s:BC),s.found=true→s.least=cd s.best→∃ o,L.foldl (fun s o=>r9 o (cd o) s) s=⟨true,o,cd o⟩∧(o=s.best∨bV (cd o) s.least<0) ∧
  (∀ x∈L,bV (cd o) (cd x)≤0)∧(o=s.best∨∃ a b,L=a++o :: b∧∀ x∈a,bV (cd o) (cd x)<0)
 | [],s,hf,hl=>⟨s.best,by cases s;simp_all,.inl rfl,by simp,.inl rfl⟩
 | x :: L,s,hf,hl=>by
  rw [c8]
  by_cases hc:bV (cd x) s.least<0
  ·have e:r9 x (cd x) s=⟨true,x,cd x⟩:=by unfold r9;rw [if_pos (by simp [hc])]
   obtain ⟨o,h1,h2,h3,h4⟩:=zZ L ⟨true,x,cd x⟩ rfl rfl
   rw [e]
   refine ⟨o,h1,.inr ?_,fun y hy=>?_,.inr ?_⟩
   ·rcases h2 with rfl|h2
    ·exact hc
    ·exact nX (j4 h2) hc
   ·rcases aO.1 hy with rfl|hy
    ·rcases h2 with rfl|h2
     ·rw [gC];omega
     ·exact j4 h2
    ·exact h3 y hy
   ·rcases h4 with rfl|⟨a,b,rfl,ha⟩
    ·exact ⟨[],L,rfl,by simp⟩
    ·rcases h2 with rfl|h2
     ·exact ⟨[],_,rfl,by simp⟩
     ·exact ⟨x :: a,b,rfl,fun y hy=>by
       rcases aO.1 hy with rfl|hy
       ·exact h2
       ·exact ha y hy⟩
  ·have e:r9 x (cd x) s=s:=by unfold r9;rw [if_neg (by simp [hf,hc])]
   obtain ⟨o,h1,h2,h3,h4⟩:=zZ L s hf hl
   rw [e]
   have hx:bV s.least (cd x)≤0:=by have:=jK (cd x) s.least;omega
   refine ⟨o,h1,h2,fun y hy=>?_,?_⟩
   ·rcases aO.1 hy with rfl|hy
    ·rcases h2 with rfl|h2
     ·rw [← hl];exact hx
     ·have:=jK (cd o) (cd y)
      have:=jK (cd y) s.least
      by_cases hlt:bV s.least (cd y)<0
      ·exact j4 (nX (j4 h2) hlt)
      ·have:=nY (show bV s.least (cd y)=0 by omega)
       rw [← this];exact j4 h2
    ·exact h3 y hy
   ·rcases h4 with rfl|⟨a,b,rfl,ha⟩
    ·exact .inl rfl
    ·rcases h2 with rfl|h2
     ·exact .inl rfl
     ·refine .inr ⟨x :: a,b,rfl,fun y hy=>?_⟩
      rcases aO.1 hy with rfl|hy
      ·by_cases hlt:bV s.least (cd y)<0
       ·exact nX (j4 h2) hlt
       ·have:=nY (show bV s.least (cd y)=0 by omega)
        rw [← this];exact h2
      ·exact ha y hy
structure Best (N:Nat) (cd:List Int→List Int) (o:List Int):Prop where
 mem:o∈rQ N N []
 least:∀ x∈rQ N N [],bV (cd o) (cd x)≤0
 first:∀ x∈rQ N N [],cd x=cd o→bV o x≤0
theorem FX {N : Nat} : ∀ {d : Nat} {l o : List Int}, l.Nodup → (o ∈ rQ N d l ↔ ∃ r, o = l ++ r ∧ r.length = d ∧ (∀ x ∈ r, 0 ≤ x ∧ x < N) ∧ o.Nodup)
  | 0, l, o, hl => by
    simp only [rQ, aR]
    constructor
    · rintro rfl; exact ⟨[], by simp, rfl, by simp, hl⟩
    · rintro ⟨r, rfl, h, _⟩
      rw [List.length_eq_zero_iff.1 h]; simp
  | d + 1, l, o, hl => by
    simp only [rQ, bK, dM, b7, cH, Iy]
    constructor
    · rintro ⟨k, ⟨hk, hm⟩, ho⟩
      obtain ⟨r, rfl, h1, h2, h3⟩ := (FX (by rw [mG]; simp [hl]; exact fun a ha e => hm (e ▸ ha))).1 ho
      exact ⟨(k : Int) :: r, by simp, by simp [h1], fun x hx => by
        rcases aO.1 hx with rfl | hx
        · omega
        · exact h2 x hx, h3⟩
    · rintro ⟨r, rfl, h1, h2, h3⟩
      cases r with
      | nil => cases h1
      | cons k r =>
        have hk := h2 k (by simp)
        have hn : k ∉ l := fun hc => by
          rw [mG] at h3
          exact h3.2.2 k hc k (by simp) rfl
        have e : ((k.toNat : Nat) : Int) = k := by omega
        refine ⟨k.toNat, ⟨by omega, by rw [e]; exact hn⟩, ?_⟩
        rw [e]
        refine (FX (by rw [mG]; simp [hl]; exact fun a ha e => hn (e ▸ ha))).2 ⟨r, by simp, by simpa using h1, fun x hx => h2 x (by simp [hx]), h3⟩
theorem xU {N:Nat}{o:List Int}:o∈rQ N N []↔o.length=N∧(∀ x∈o,0≤x∧x<N)∧o.Nodup:=by
 rw [FX (by simp)]
 constructor
 ·rintro ⟨r,rfl,h1,h2,h3⟩;simpa using ⟨h1,h2,h3⟩
 ·rintro ⟨h1,h2,h3⟩;exact ⟨o,rfl,h1,h2,h3⟩
theorem G8 (N:Nat):(List.range N).Pairwise (· < ·):=List.pairwise_lt_range
theorem Lo {N:Nat}:∀ (d:Nat) (l:List Int),(rQ N d l).Pairwise fun a b=>bV a b<0
 | 0,l=>by simp [rQ]
 | d+1,l=>by
  simp only [rQ]
  rw [List.pairwise_flatMap]
  refine ⟨fun k _=>Lo d _,(List.Pairwise.filter _ (G8 N)).imp fun {a b} hab x hx y hy=>?_⟩
  obtain ⟨r,rfl⟩:=Bp hx
  obtain ⟨s,rfl⟩:=Bp hy
  rw [List.append_assoc,List.append_assoc,xO]
  simp only [eY,bV]
  rw [if_pos (by omega)];omega
theorem Oz {N:Nat}{sg:List Int→Int→List Int}(hne:rQ N N []≠[]):∃ o,sN N sg N [] [] ⟨false,[],[]⟩=⟨true,o,eV sg [] o⟩∧Best N (eV sg []) o:=by
 have h0:=Nk (sg:=sg) (N:=N) N [] ⟨false,[],[]⟩
 have hp:=Lo (N:=N) N []
 have e0:eV sg [] []=[]:=rfl
 rw [e0] at h0
 rw [h0]
 cases hL:rQ N N [] with
 | nil=>exact absurd hL hne
 | cons x L =>
  rw [hL] at hp
  obtain ⟨hx,hp⟩:=CB.1 hp
  rw [c8]
  have e:r9 x (eV sg [] x) ⟨false,[],[]⟩=⟨true,x,eV sg [] x⟩:=rfl
  rw [e]
  obtain ⟨o,h1,h2,h3,h4⟩:=zZ (cd:=eV sg []) L ⟨true,x,eV sg [] x⟩ rfl rfl
  refine ⟨o,h1,by rw [hL];rcases h4 with rfl|⟨a,b,rfl,_⟩<;>simp,fun y hy=>?_,fun y hy he=>?_⟩
  ·rw [hL] at hy
   rcases aO.1 hy with rfl|hy
   ·rcases h2 with rfl|h2
    ·rw [gC];omega
    ·exact j4 h2
   ·exact h3 y hy
  ·rw [hL] at hy
   rcases aO.1 hy with rfl|hz
   ·rcases h2 with rfl|h2
    ·rw [gC];omega
    ·simp only at h2;rw [he,gC] at h2;omega
   ·rcases h4 with rfl|⟨a,b,rfl,ha⟩
    ·exact j4 (hx y hz)
    ·rcases aW.1 hz with hy|hy
     ·have:=ha y hy;rw [he,gC] at this;omega
     ·rcases aO.1 hy with rfl|hy
      ·rw [gC];omega
      ·have:=(pW.1 hp).2.1
       exact j4 ((CB.1 this).1 y hy)
def Kj (N:Nat)(tw:Nat→Nat→Bool)(l:List Int):List Int:=((List.range N).filter fun i:Nat=>!mem l i&&(List.range i).all fun k:Nat=>mem l k||!tw k i).map fun (i:Nat)=>(i:Int)
def vF (sg:List Int→Int→List Int)(st:List Int × List (List Int))(o:List Int)(k:Int):List Int × List (List Int) :=
 if (decide (st.2≠[])&&decide (0<bV (sg o k) st.1))=true then st
 else (sg o k,(if (decide (st.2≠[])&&decide (bV (sg o k) st.1<0))=true then [] else st.2)++[o++[k]])
def Uf (N:Nat)(tw:Nat→Nat→Bool)(sg:List Int→Int→List Int)(os:List (List Int)):List (List Int) :=
 (os.foldl (fun st o=>(Kj N tw o).foldl (fun st k=>vF sg st o k) st) ([],[])).2
def zW (N:Nat)(tw:Nat→Nat→Bool)(os:List (List Int)):List (List Int × Int):=os.flatMap fun o=>(Kj N tw o).map fun k=>(o,k)
theorem Sw (N:Nat)(tw:Nat→Nat→Bool)(sg:List Int→Int→List Int)(os:List (List Int)):Uf N tw sg os=((zW N tw os).foldl (fun st p=>vF sg st p.1 p.2) ([],[])).2:=by
 unfold Uf zW
 rw [List.foldl_flatMap]
 congr 2
 funext st o
 rw [List.foldl_map]
theorem yF {sg:List Int→Int→List Int}:∀ (L K:List (List Int × Int)) (b:List Int),K≠[]→(∀ p∈K,sg p.1 p.2=b)→∃ c,(c=b∨∃ p∈L,sg p.1 p.2=c)∧(∀ p∈L,bV c (sg p.1 p.2)≤0)∧bV c b≤0 ∧
  L.foldl (fun st p=>vF sg st p.1 p.2) (b,K.map fun p=>p.1++[p.2])=(c,((K++L).filter fun p=>decide (sg p.1 p.2=c)).map fun p=>p.1++[p.2])
 | [],K,b,hK,hb=>⟨b,.inl rfl,by simp,by rw [gC];omega,by rw [gJ,List.filter_eq_self.2 (by simpa using fun a c h=>hb (a,c) h)];rfl⟩
 | x :: L,K,b,hK,hb=>by
  rw [c8]
  have hne:(decide ((K.map fun p=>p.1++[p.2])≠[]))=true:=by simp [hK]
  by_cases h1:0<bV (sg x.1 x.2) b
  ·have e:vF sg (b,K.map fun p=>p.1++[p.2]) x.1 x.2=(b,K.map fun p=>p.1++[p.2]):=by unfold vF;rw [if_pos (by rw [hne];simpa using h1)]
   rw [e]
   obtain ⟨c,c0,c1,c2,c3⟩:=yF L K b hK hb
   have hn:=jK (sg x.1 x.2) b
   have hx:bV c (sg x.1 x.2)<0:=nX c2 (by omega)
   refine ⟨c,c0.imp id fun ⟨p,hp,e⟩=>⟨p,bH _ hp,e⟩,fun p hp=>?_,c2,?_⟩
   ·rcases aO.1 hp with rfl|hp
    ·exact j4 hx
    ·exact c1 p hp
   ·rw [c3]
    congr 2
    rw [eU,eU,s5 (by simp;intro e;rw [e,gC] at hx;omega)]
  ·by_cases h2:bV (sg x.1 x.2) b<0
   ·have e:vF sg (b,K.map fun p=>p.1++[p.2]) x.1 x.2=(sg x.1 x.2,[x].map fun p=>p.1++[p.2]):=by
     unfold vF;rw [if_neg (by simp [h1]),if_pos (by rw [hne];simpa using h2)];rfl
    rw [e]
    obtain ⟨c,c0,c1,c2,c3⟩:=yF (sg:=sg) L [x] (sg x.1 x.2) (by simp) (by simp)
    refine ⟨c,.inr (c0.elim (fun e=>⟨x,by simp,e.symm⟩) fun ⟨p,hp,e⟩=>⟨p,bH _ hp,e⟩),fun p hp=>?_,j4 (nX c2 h2),?_⟩
    ·rcases aO.1 hp with rfl|hp
     ·exact c2
     ·exact c1 p hp
    ·rw [c3]
     congr 2
     have hcb:bV c b<0:=nX c2 h2
     have hn:K.filter (fun p=>decide (sg p.1 p.2=c))=[]:=List.filter_eq_nil_iff.2 fun p hp=>by simp;intro e;rw [← e,hb p hp,gC] at hcb;omega
     show List.filter _ (x :: L)=_
     rw [eU,hn,eX]
   ·have he:sg x.1 x.2=b:=nY (by omega)
    have e:vF sg (b,K.map fun p=>p.1++[p.2]) x.1 x.2=(b,(K++[x]).map fun p=>p.1++[p.2]):=by
     unfold vF;rw [if_neg (by simp [h1]),if_neg (by simp [h2]),he];simp
    rw [e]
    obtain ⟨c,c0,c1,c2,c3⟩:=yF L (K++[x]) b (by simp) (fun p hp=>by
     rcases aW.1 hp with hp|hp
     ·exact hb p hp
     ·rw [aR.1 hp];exact he)
    refine ⟨c,c0.imp id fun ⟨p,hp,e⟩=>⟨p,bH _ hp,e⟩,fun p hp=>?_,c2,by rw [c3];simp⟩
    rcases aO.1 hp with rfl|hp
    ·rw [he];exact c2
    ·exact c1 p hp
theorem QR {sg:List Int→Int→List Int}{L:List (List Int × Int)}(hL:L≠[]):∃ c,(∃ p∈L,sg p.1 p.2=c)∧(∀ p∈L,bV c (sg p.1 p.2)≤0)∧(L.foldl (fun st p=>vF sg st p.1 p.2) ([],[])).2=(L.filter fun p=>decide (sg p.1 p.2=c)).map fun p=>p.1++[p.2]:=by
 cases L with
 | nil=>exact absurd rfl hL
 | cons x L =>
  rw [c8]
  have e:vF sg ([],[]) x.1 x.2=(sg x.1 x.2,[x].map fun p=>p.1++[p.2]):=by unfold vF;simp
  rw [e]
  obtain ⟨c,c0,c1,c2,c3⟩:=yF (sg:=sg) L [x] (sg x.1 x.2) (by simp) (by simp)
  exact ⟨c,c0.elim (fun e=>⟨x,by simp,e.symm⟩) fun ⟨p,hp,e⟩=>⟨p,bH _ hp,e⟩,fun p hp=>by
   rcases aO.1 hp with rfl|hp
   ·exact c2
   ·exact c1 p hp,by rw [c3];rfl⟩
def Nc (a b x:Int):Int:=if x=a then b else if x=b then a else x
theorem R4 {a b x y:Int}(h:Nc a b x=Nc a b y):x=y:=by unfold Nc at h;grind
theorem TP {N:Nat}{a b x:Int}(ha:0≤a∧a<N)(hb:0≤b∧b<N)(hx:0≤x∧x<N):0≤Nc a b x∧Nc a b x<N:=by unfold Nc;grind
theorem HJ {N:Nat}{sg:List Int→Int→List Int}{f:Int→Int}(hf:∀ (l:List Int) (x:Int),(∀ y∈l,0≤y∧y<(N:Int))→0≤x∧x<(N:Int)→sg (l.map f) (f x)=sg l x):∀ (r p:List Int),(∀ y∈p,0≤y∧y<(N:Int))→(∀ y∈r,0≤y∧y<(N:Int))→eV sg (p.map f) (r.map f)=eV sg p r
 | [],p,_,_=>rfl
 | k :: r,p,hp,hr=>by
  simp only [eV,i6]
  rw [hf p k hp (hr k (by simp))]
  have:=HJ hf r (p++[k]) (fun y hy=>by
   rcases aW.1 hy with hy|hy
   ·exact hp y hy
   ·rw [aR.1 hy];exact hr k (by simp)) fun y hy=>hr y (by simp [hy])
  rw [List.map_append] at this
  rw [← this];rfl
structure SegOk (N:Nat) (tw:Nat→Nat→Bool) (sg:List Int→Int→List Int):Prop where
 pf:∀ (l m:List Int) (x y:Int),(∀ z∈l,0≤z∧z<N)→(∀ z∈m,0≤z∧z<N)→0≤x∧x<N→0≤y∧y<N→l.length=m.length→sg l x <+: sg m y→sg l x=sg m y
 tw:∀ (k i:Nat),k<i→i<N→tw k i=true→∀ (l:List Int) (x:Int),(∀ y∈l,0≤y∧y<(N:Int))→0≤x∧x<(N:Int)→sg (l.map (Nc k i)) (Nc k i x)=sg l x
section
variable {N:Nat} {tw:Nat→Nat→Bool} {sg:List Int→Int→List Int} {o:List Int}
theorem EN {l:List Int}{x:Int}:x∈Kj N tw l↔(0≤x∧x<N)∧x∉l∧∀ k:Nat,k<x.toNat→(k:Int)∉l→tw k x.toNat=false:=by
 unfold Kj
 simp only [aS,dM,b7,aQ,cH,Iy,dJ,cK,mem_iff]
 constructor
 ·rintro ⟨i,⟨hi,hn,ha⟩,rfl⟩
  refine ⟨by omega,hn,fun k hk hkl=>?_⟩
  rcases ha k (by simpa using hk) with h|h
  ·exact absurd h hkl
  ·simpa using h
 ·rintro ⟨hr,hn,ha⟩
  have e:((x.toNat:Nat):Int)=x:=by omega
  refine ⟨x.toNat,⟨by omega,by rw [e];exact hn,fun k hk=>?_⟩,e⟩
  by_cases h:(k:Int)∈l
  ·exact .inl h
  ·exact .inr (ha k hk h)
theorem nxtR_asc {l:List Int}:(Kj N tw l).Pairwise (· < ·):=by
 unfold Kj
 rw [j7]
 exact (List.Pairwise.filter _ (G8 N)).imp fun h=>by omega
theorem Best.next (B:Best N (eV sg []) o)(S:SegOk N tw sg){j:Nat}(hj:j<o.length):o[j]∈Kj N tw (o.take j):=by
 obtain ⟨hl,hr,hn⟩:=xU.1 B.mem
 have e:o=o.take j++o[j] :: o.drop (j+1):=by rw [← List.drop_eq_getElem_cons hj,List.take_append_drop]
 have hi:=hr _ (aC hj)
 generalize o[j]=i at *
 have hd:=hn
 rw [e,mG,s4] at hd
 refine EN.2 ⟨hi,fun hc=>hd.2.2 i hc i (by simp) rfl,fun k hk hkl=>?_⟩
 cases ht:tw k i.toNat with
 | false=>rfl
 | true =>
  exfalso
  have ei:((i.toNat:Nat):Int)=i:=by omega
  have hs:=S.tw k i.toNat hk (by omega) ht
  rw [ei] at hs
  have hm:o.map (Nc k i)∈rQ N N []:=by
   refine xU.2 ⟨by simp [hl],fun x hx=>?_,?_⟩
   ·obtain ⟨y,hy,rfl⟩:=aS.1 hx
    exact TP (by omega) hi (hr y hy)
   ·exact j7.2 (hn.imp fun h hc=>h (R4 hc))
  have hc:eV sg [] (o.map (Nc k i))=eV sg [] o:=HJ hs o [] (by simp) hr
  have hf:=B.first _ hm hc
  have hp:(o.take j).map (Nc k i)=o.take j:=by
   conv=>rhs;rw [← List.map_id (o.take j)]
   refine bP fun x hx=>?_
   have h1:x≠i:=fun h=>hd.2.2 x hx i (by simp) h
   have h2:x≠k:=fun h=>hkl (h ▸ hx)
   unfold Nc;rw [if_neg h2,if_neg h1];rfl
  rw [e,List.map_append,hp,i6,xO] at hf
  have:Nc k i i=k:=by unfold Nc;rw [if_neg (by omega),if_pos rfl]
  simp only [bV,this] at hf
  rw [if_neg (by omega),if_pos (by omega)] at hf
  omega
theorem KX {l:List Int}(hn:l.Nodup)(hr:∀ x∈l,0≤x∧x<(N:Int)):∃ r,l++r∈rQ N N []:=by
 refine ⟨((List.range N).map fun (i:Nat)=>(i:Int)).filter fun x=>!mem l x,xU.2 ?_⟩
 have hnd:(l++((List.range N).map fun (i:Nat)=>(i:Int)).filter fun x=>!mem l x).Nodup:=by
  rw [mG]
  refine ⟨hn,List.Pairwise.filter _ (j7.2 (List.nodup_range.imp fun h e=>h (by omega))),fun a ha b hb e=>?_⟩
  subst e
  have:=(dM.1 hb).2
  rw [cH,Iy] at this
  exact this ha
 have hm:∀ x,x∈l++((List.range N).map fun (i:Nat)=>(i:Int)).filter (fun x=>!mem l x)↔x∈(List.range N).map fun (i:Nat)=>(i:Int):=fun x=>by
  rw [aW,dM,cH,Iy]
  constructor
  ·rintro (h|h)
   ·have:=hr x h
    exact aS.2 ⟨x.toNat,b7.2 (by omega),by omega⟩
   ·exact h.1
  ·intro h
   by_cases hx:x∈l
   ·exact .inl hx
   ·exact .inr ⟨h,hx⟩
 have hp:=(List.perm_ext_iff_of_nodup hnd (j7.2 (List.nodup_range.imp fun h e=>h (by omega)))).2 hm
 refine ⟨by rw [hp.length_eq];simp,fun x hx=>?_,hnd⟩
 obtain ⟨i,hi,rfl⟩:=aS.1 ((hm x).1 hx)
 have:=b7.1 hi
 omega
theorem T0 {a b:List Int}(h:a.length=b.length)(hp:a <+: b):a=b:=List.IsPrefix.eq_of_length hp h
structure Kept (N:Nat) (sg:List Int→Int→List Int) (o:List Int) (j:Nat) (os:List (List Int)):Prop where
 ok:∀ x∈os,x.length=j∧(∀ y∈x,0≤y∧y<(N:Int))∧x.Nodup∧eV sg [] x=eV sg [] (o.take j)
 asc:os.Pairwise fun a b=>bV a b<0
 has:o.take j∈os
theorem Kept.step (B:Best N (eV sg []) o)(S:SegOk N tw sg){j:Nat}{os:List (List Int)}(K:Kept N sg o j os)(hj:j<N):Kept N sg o (j+1) (Uf N tw sg os):=by
 obtain ⟨hl,hr,hn⟩:=xU.1 B.mem
 have hj':j<o.length:=by omega
 have hmem:∀ p,p∈zW N tw os↔p.1∈os∧p.2∈Kj N tw p.1:=fun p=>by
  unfold zW
  rw [bK]
  constructor
  ·rintro ⟨x,hx,hp⟩
   obtain ⟨y,hy,rfl⟩:=aS.1 hp
   exact ⟨hx,hy⟩
  ·rintro ⟨h1,h2⟩;exact ⟨p.1,h1,aS.2 ⟨p.2,h2,rfl⟩⟩
 have hs:(o.take j,o[j])∈zW N tw os:=(hmem _).2 ⟨K.has,B.next S hj'⟩
 have hti:o.take (j+1)=o.take j++[o[j]]:=by rw [aG hj']
 obtain ⟨c,⟨q,hq,qc⟩,cmin,ce⟩:=QR (sg:=sg) (List.ne_nil_of_mem hs)
 rw [Sw,ce]
 have hin:∀ p∈zW N tw os,(p.1++[p.2]).length=j+1∧(∀ y∈p.1++[p.2],0≤y∧y<(N:Int))∧(p.1++[p.2]).Nodup:=fun p hp=>by
  obtain ⟨h1,h2⟩:=(hmem p).1 hp
  obtain ⟨k1,k2,k3,_⟩:=K.ok _ h1
  obtain ⟨n1,n2,_⟩:=EN.1 h2
  refine ⟨by simp [k1],fun y hy=>?_,?_⟩
  ·rcases aW.1 hy with hy|hy
   ·exact k2 y hy
   ·rw [aR.1 hy];exact n1
  ·rw [mG]
   exact ⟨k3,by simp,fun a ha b hb e=>n2 (by rw [aR.1 hb] at e;rw [← e];exact ha)⟩
 have hc:sg (o.take j) o[j]=c:=by
  have h0:=cmin _ hs
  simp only at h0
  by_cases hlt:bV c (sg (o.take j) o[j])<0
  ·exfalso
   obtain ⟨q1,q2⟩:=(hmem q).1 hq
   obtain ⟨k1,k2,k3,k4⟩:=K.ok _ q1
   obtain ⟨i1,i2,i3⟩:=hin q hq
   obtain ⟨r,hr2⟩:=KX i3 i2
   have hle:=B.least _ hr2
   have e1:eV sg [] (q.1++[q.2]++r)=eV sg [] (o.take j)++(c++eV sg (q.1++[q.2]) r):=by
    rw [l7,l7,k4,← qc];simp [eV]
   have e2:eV sg [] o=eV sg [] (o.take j)++(sg (o.take j) o[j]++eV sg (o.take (j+1)) (o.drop (j+1))):=by
    conv=>lhs;rw [← List.take_append_drop (j+1) o,l7,hti,l7]
    rw [← hti];simp [eV]
   rw [e1,e2,xO] at hle
   have hpf:¬ c <+: sg (o.take j) o[j]:=fun hp=>by
    rw [← qc] at hp hlt
    have hq2:=EN.1 q2
    rw [S.pf q.1 (o.take j) q.2 o[j] k2 (fun z hz=>hr z (bN hz)) hq2.1 (hr _ (aC hj')) (by simp [k1];omega) hp,gC] at hlt
    omega
   have:=FG (eV sg (q.1++[q.2]) r) (eV sg (o.take (j+1)) (o.drop (j+1))) hlt hpf
   have:=jK (c++eV sg (q.1++[q.2]) r) (sg (o.take j) o[j]++eV sg (o.take (j+1)) (o.drop (j+1)))
   omega
  ·exact (nY (show bV c (sg (o.take j) o[j])=0 by omega)).symm
 refine ⟨fun x hx=>?_,?_,?_⟩
 ·obtain ⟨p,hp,rfl⟩:=aS.1 hx
  obtain ⟨p1,p2⟩:=dM.1 hp
  obtain ⟨i1,i2,i3⟩:=hin p p1
  obtain ⟨_,_,_,k4⟩:=K.ok _ ((hmem p).1 p1).1
  refine ⟨i1,i2,i3,?_⟩
  have p2:sg p.1 p.2=c:=by simpa using p2
  rw [hti,l7,l7,k4]
  simp [eV,p2,hc]
 ·refine j7.2 (List.Pairwise.filter _ ?_)
  unfold zW
  rw [List.pairwise_flatMap]
  refine ⟨fun x hx=>j7.2 (nxtR_asc.imp fun h=>?_),K.asc.imp_of_mem fun {x y} hx hy hxy p hp q hq=>?_⟩
  ·show bV (x++[_]) (x++[_])<0
   rw [xO];simp [bV,h]
  ·obtain ⟨a,_,rfl⟩:=aS.1 hp
   obtain ⟨b,_,rfl⟩:=aS.1 hq
   refine FG [a] [b] hxy fun hpre=>?_
   have hpre:x <+: y:=hpre
   rw [T0 (by rw [(K.ok _ hx).1,(K.ok _ hy).1]) hpre,gC] at hxy
   omega
 ·rw [hti]
  exact aS.2 ⟨(o.take j,o[j]),dM.2 ⟨hs,by simpa using hc⟩,rfl⟩
theorem S5:rQ N N []≠[]:=by
 obtain ⟨r,hr⟩:=KX (N:=N) (l:=[]) (by simp) (by simp)
 exact List.ne_nil_of_mem hr
end
structure Arr where
 rule:Int
 from_:Int
 to_:Int
 m:Mat
def Arr.c (x:Arr):List D:=[dI x.rule,dI x.from_,dI x.to_,dLI x.m.m.nodes,dLI x.m.m.edges,dLI x.m.vars]
def Arr.d (x:Arr):D:=.agg x.c
@[go_sem] theorem Arr.cl (x:Arr):D.clL x.c=true:=by simp [Arr.c,D.clL,mC,dI,D.cl]
@[go_sem] theorem N8 (l:List Arr):D.clLL (l.map Arr.c)=true:=cE _ Arr.cl l
def Arr.key (x:Arr):List Int:=[x.from_,x.rule,x.to_]
theorem MJ (a b c p q r:Int):bV [a,b,c] [p,q,r]=NA [cmp1 a p,cmp1 b q,cmp1 c r]:=by
 simp only [bV,cmp1,NA]
 repeat' split
 all_goals first|rfl|omega|simp_all
theorem qM (a b:Arr):Pure Tryz.prog 26 [a.d,b.d] (dI (bV a.key b.key)):=by
 have hE:=MJ a.from_ a.rule a.to_ b.from_ b.rule b.to_
 have hK:bV a.key b.key=bV [a.from_,a.rule,a.to_] [b.from_,b.rule,b.to_]:=rfl
 rw [hK,hE]
 refine Tz.pK ⟨fun _=>false,fun _=>[]⟩ Tryz.func26 rfl (fun Q hQ=>?_)
 have Y:=wa @Arr.c.eq_1 @Arr.d.eq_1
 refine wv (h:=bB (jJ a.from_ b.from_) wl ?_)
 refine wv (h:=bB (jJ a.rule b.rule) wl ?_)
 refine wv (h:=bB (jJ a.to_ b.to_) wl ?_)
 refine wv (h:=bB (MI [cmp1 a.from_ b.from_,cmp1 a.rule b.rule,cmp1 a.to_ b.to_]) wl ?_)
 exact wv (h:=hQ _ _ wy)
theorem Fc (xs:List Host)(g:FuncId)(caps:List D)(p:Host→Bool)(hc:D.clL caps=true)(hg:∀ x∈xs,Pure Tryz.prog g (.agg x.c :: caps) (.bool (p x))) :
  Pure Tryz.prog 40 [.list (xs.map Host.c),.fn g caps] (dI (xF xs p)):=by
 refine aU (aH (cfg:=⟨fun _=>false,fun _=>[]⟩) Tz.mixed Tryz.func40 rfl rfl (aD rfl) (by kernel_rfl) ?_)
 simp [go_sem,seval,dI,dLI]
 intro hlen
 refine f9 (ι:=Nat) (fun i e H=>H=.emp∧i≤xs.length∧e 0=.list (xs.map Host.c)∧e 1=.fn g caps∧e 7=dI xs.length∧e 8=dI i∧(∀ j x,j<i→xs[j]?=some x→p x=false)) (fun i=>xs.length - i) 0 (by simp [go_sem,seval,dI,dLI]) ?_
 intro i e H ⟨hH,hi,h0,h1,h7,h8,hn⟩
 subst hH
 simp [go_sem,seval,h0,h1,h7,h8,dI,dLI]
 refine gB (fun hlt=>?_) (fun hge=>?_)
 ·have hgx:=hg xs[i] (aC hlt)
  simp [go_sem,seval,h0,h1,h7,h8,dI,dLI,hlt,Host.c] at hgx ⊢
  refine aB hgx (by simp [go_sem,hc]) ?_
  simp [go_sem,seval,h0,h1,h7,h8,dI,dLI]
  refine aP (fun h=>?_) (fun h=>?_)
  ·simp [go_sem,seval,h0,h1,h7,h8,dI,dLI]
   rw [lX hn hlt h]
  ·simp [go_sem,seval,h0,h1,h7,h8,dI,dLI]
   refine ⟨eO (by omega) (by omega),i+1,by omega,by omega,by omega,fun j x hj hx=>?_⟩
   rcases bQ j i with hj'|hj'
   ·exact hn j x hj' hx
   ·have:j=i:=by omega
    subst this
    rw [aA hlt] at hx
    cases hx;exact h
 ·simp [go_sem,seval,h0,h1,h7,h8,dI,dLI]
  rw [lY fun j x hj=>hn j x (by omega)]
theorem Gv (xs:List Arr)(g:FuncId)(caps:List D)(p:Arr→Bool)(hc:D.clL caps=true)(hg:∀ x∈xs,Pure Tryz.prog g (.agg x.c :: caps) (.bool (p x))) :
  Pure Tryz.prog 43 [.list (xs.map Arr.c),.fn g caps] (dI (xF xs p)):=by
 refine aU (aH (cfg:=⟨fun _=>false,fun _=>[]⟩) Tz.mixed Tryz.func43 rfl rfl (aD rfl) (by kernel_rfl) ?_)
 simp [go_sem,seval,dI,dLI]
 intro hlen
 refine f9 (ι:=Nat) (fun i e H=>H=.emp∧i≤xs.length∧e 0=.list (xs.map Arr.c)∧e 1=.fn g caps∧e 7=dI xs.length∧e 8=dI i∧(∀ j x,j<i→xs[j]?=some x→p x=false)) (fun i=>xs.length - i) 0 (by simp [go_sem,seval,dI,dLI]) ?_
 intro i e H ⟨hH,hi,h0,h1,h7,h8,hn⟩
 subst hH
 simp [go_sem,seval,h0,h1,h7,h8,dI,dLI]
 refine gB (fun hlt=>?_) (fun hge=>?_)
 ·have hgx:=hg xs[i] (aC hlt)
  simp [go_sem,seval,h0,h1,h7,h8,dI,dLI,hlt,Arr.c] at hgx ⊢
  refine aB hgx (by simp [go_sem,hc]) ?_
  simp [go_sem,seval,h0,h1,h7,h8,dI,dLI]
  refine aP (fun h=>?_) (fun h=>?_)
  ·simp [go_sem,seval,h0,h1,h7,h8,dI,dLI]
   rw [lX hn hlt h]
  ·simp [go_sem,seval,h0,h1,h7,h8,dI,dLI]
   refine ⟨eO (by omega) (by omega),i+1,by omega,by omega,by omega,fun j x hj hx=>?_⟩
   rcases bQ j i with hj'|hj'
   ·exact hn j x hj' hx
   ·have:j=i:=by omega
    subst this
    rw [aA hlt] at hx
    cases hx;exact h
 ·simp [go_sem,seval,h0,h1,h7,h8,dI,dLI]
  rw [lY fun j x hj=>hn j x (by omega)]
theorem tY (xs:List Arr)(g:FuncId)(caps:List D)(p:Arr→Bool)(hc:D.clL caps=true)(hl:D.cl (.list (xs.map Arr.c))=true)(hg:∀ x∈xs,Pure Tryz.prog g (.agg x.c :: caps) (.bool (p x))) :
  Pure Tryz.prog 24 [.list (xs.map Arr.c),.fn g caps] (.bool (xs.any p)):=by
 refine aU (aH (cfg:=⟨fun _=>false,fun _=>[]⟩) Tz.mixed Tryz.func24 rfl rfl (aD rfl) (by kernel_rfl) ?_)
 simp [go_sem,seval]
 refine aB (Gv xs g caps p hc hg) (by simp only [D.clL,hl,gL];simp [D.cl,hc]) ?_
 simp [go_sem,seval,dI,pC]
@[go_sem] theorem Ho (l:List Host):D.clLL (l.map Host.c)=true:=cE _ (fun h=>by simp [Host.c,D.clL,D.cl,dLI,go_sem]) l
def Dh (l:List Host)(h:Host):Int:=xF l fun x=>decide (x=h)
theorem Az (x h:Host):Pure Tryz.prog 41 [x.d,.adr h.c] (.bool (decide (x=h))):=by
 refine Tz.pK ⟨fun _=>false,fun _=>[]⟩ Tryz.func41 rfl (fun Q hQ=>?_)
 have Y:=@Host.d.eq_1
 refine wv (h:=aB (Ms x h) wl ?_)
 exact wv (h:=hQ _ _ wy)
theorem BM (l:List Host)(h:Host):Pure Tryz.prog 23 [.list (l.map Host.c),h.d] (dI (Dh l h)):=by
 refine Tz.pK ⟨fun _=>false,fun _=>[]⟩ Tryz.func23 rfl (fun Q hQ=>?_)
 have Y:=@Host.d.eq_1
 refine wv (h:=aB (Fc l 41 [.adr h.c] (fun x=>decide (x=h)) (by simp [go_sem]) (fun x _=>Az x h)) wl ?_)
 exact wv (h:=hQ _ _ (by simp [go_sem,Dh]))
structure Mv where
 rule:Int
 m:Mat
def Mv.c (x:Mv):List D:=[dI x.rule,dLI x.m.m.nodes,dLI x.m.m.edges,dLI x.m.vars]
@[go_sem] theorem Mv.cl (x:Mv):D.clL x.c=true:=by simp [Mv.c,D.clL,mC,dI,D.cl]
@[go_sem] theorem YZ (l:List Mv):D.clLL (l.map Mv.c)=true:=cE _ Mv.cl l
structure Stp26.le (s:Stp26):Prop where
 r:s.rule.le
 m:s.mat.m.le
 t:s.track.le
 c:s.comatch.le
theorem kJ {l:List Int}{i:Nat}(h:i<l.length):iA l i=l[i]:=by simp [iA,h]
def PN (i j:Int)(x:Edge):Bool:=decide (x.from_=i)&&decide (x.to_=j)
def Al (g:Graph)(i j:Int)(k:Nat):List Int:=((g.edges.take k).filter (PN i j)).map Edge.type
def uW (g:Graph)(i j:Int):List Int:=nO (Al g i j g.edges.length)
@[go_sem] theorem VV (g:Graph)(i j:Int):Al g i j 0=[]:=by simp [Al]
theorem PM {g:Graph}{i j:Int}{k:Nat}(h:k<g.edges.length):Al g i j (k+1)=Al g i j k++if PN i j g.edges[k]=true then [g.edges[k].type] else []:=by
 unfold Al
 rw [aG h,eU,List.map_append]
 split<;>rename_i h1<;>simp [h1]
theorem uS (g:Graph)(he:g.edges.length≤1000000)(a b:Int):Pure Tryz.prog 102 [g.d,dI a,dI b] (dLI (uW g a b)):=by
 have hlen:∀ k,(Al g a b k).length≤k:=fun k=>by unfold Al;rw [bM];exact cQ (fJ _ _) (by simp;omega)
 refine Tz.pK ⟨fun t=>t==7||t==9,fun _=>[]⟩ Tryz.func102 rfl (fun Q hQ=>?_)
 have Y:=trivial
 refine wp (h:=cD (fun i e H=>(e 1=dI a∧e 2=dI b∧e 3=.adr g.c∧e 11=.list (g.edges.map Edge.c)∧e 12=dI g.edges.length∧e 7=.own 0 (Al g a b i).length∧e 13=dI i)∧(H.get 0=some ⟨3,1,(Al g a b i).map cI,false⟩)∧(0<H.next)∧(i≤g.edges.length)) (fun i=>g.edges.length - i) 0 ⟨wg,(by (simp [go_sem,Al])),wn,wi⟩ fun I0 hI0 i e H hi0=>?_)
 obtain ⟨E0,g0_0,n0_0,hii⟩:=hi0
 have Y:=wa Y (wa E0 (wa g0_0 (cO n0_0)))
 refine dU (fun h3=>?_) fun h3=>?_
 ·have hSt:=PM (i:=a) (j:=b) h3
  have hl:=hlen i
  have nx:=VD H.next
  have Y:=wa Y (wa h3 (wa nx (wa (aA h3) @Edge.c.eq_1)))
  refine qJ (fun h5=>?_) fun h5=>?_
  ·have hb:PN a b g.edges[i]=true:=by unfold PN;simpa using h5
   rw [if_pos hb] at hSt
   have hsl:(Al g a b (i+1)).length=(Al g a b i).length+1:=by rw [hSt];simp
   have Y:=wa Y hsl
   exact wp (h:=wx hI0 (i+1) ⟨wg,(by (simp [go_sem,Y,hSt,cI])),wn,wj⟩)
  ·have hb:PN a b g.edges[i]=false:=by unfold PN;simpa using h5
   rw [if_neg (by rw [hb];simp),gJ] at hSt
   have Y:=wa Y hSt
   exact wp (h:=wx hI0 (i+1) ⟨wg,(by (simp [go_sem,Y,hSt,cI])),wn,wj⟩)
 ·have hie:i=g.edges.length:=by omega
  subst hie
  refine wv (h:=?_)
  unfold dO;refine Eb (ty:=3) (xs:=Al g a b g.edges.length) (by exact g0_0) (by have:=hlen g.edges.length;omega) ?_
  exact wv (h:=hQ _ _ (by simp [go_sem,Y,uW,dLI,jN]))
def Pw (g:Graph)(k:Int):Int:=(eA g k).type
def Dj (f:Int→List Int)(x:Int)(o:List Int):Nat→Nat
 | 0=>0
 | k+1=>if bV (f x) (f (iA o k))<0 then Dj f x o k else k+1
def Pm (f:Int→List Int)(o:List Int)(x:Int):List Int:=o.take (Dj f x o o.length)++x :: o.drop (Dj f x o o.length)
def xB (f:Int→List Int)(p:Int→Bool):Nat→List Int
 | 0=>[]
 | n+1=>if p n=true then Pm f (xB f p n) n else xB f p n
def kI (f:Int→List Int)(a b:Int):Prop:=bV (f a) (f b)<0∨bV (f a) (f b)=0∧a<b
theorem IE (f:Int→List Int)(x:Int)(o:List Int):∀ k,Dj f x o k≤k
 | 0=>aL _
 | k+1=>by
  have:=IE f x o k
  simp only [Dj];split<;>omega
theorem NL {f:Int→List Int}{x:Int}{o:List Int}:∀ {k j:Nat},Dj f x o k≤j→j<k→bV (f x) (f (iA o j))<0
 | 0,j,_,h=>absurd h (Nat.not_lt_zero _)
 | k+1,j,h1,h2=>by
  simp only [Dj] at h1
  split at h1
  ·rename_i h
   by_cases hc:j<k
   ·exact NL h1 hc
   ·rw [show j=k by omega];exact h
  ·omega
theorem NK {f:Int→List Int}{x:Int}{o:List Int}:∀ {k:Nat},0<Dj f x o k→0≤bV (f x) (f (iA o ((Dj f x o k - 1:Nat):Int)))
 | 0,h=>absurd h (iX _)
 | k+1,h=>by
  simp only [Dj] at h ⊢
  split
  ·rename_i hc
   rw [if_pos hc] at h
   exact NK h
  ·rename_i hc
   rw [show k+1 - 1=k by omega];omega
theorem QX {f:Int→List Int}{o:List Int}{x y:Int}:y∈Pm f o x↔y=x∨y∈o:=by
 unfold Pm
 conv=>rhs;rw [← List.take_append_drop (Dj f x o o.length) o]
 simp only [aW,aO]
 grind
theorem w8 {f:Int→List Int}{a b c:Int}(h1:kI f a b)(h2:kI f b c):kI f a c:=by
 unfold kI at *
 rcases h1 with h1|⟨h1,h3⟩<;>rcases h2 with h2|⟨h2,h4⟩
 ·exact .inl (nX (j4 h1) h2)
 ·rw [nY h2] at h1;exact .inl h1
 ·rw [← nY h1] at h2;exact .inl h2
 ·rw [← nY h2];exact .inr ⟨h1,by omega⟩
theorem Sy {f:Int→List Int}{o:List Int}{x:Int}(ho:o.Pairwise (kI f))(hx:∀ y∈o,y<x):(Pm f o x).Pairwise (kI f):=by
 unfold Pm
 obtain ⟨k,hk⟩:∃ k,k=Dj f x o o.length:=⟨_,rfl⟩
 have hle:k≤o.length:=hk ▸ IE f x o o.length
 rw [← hk]
 have hlo:∀ y∈o.take k,kI f y x:=fun y hy=>by
  obtain ⟨p,hp,rfl⟩:=aM hy
  rw [bL] at hp
  rw [List.getElem_take]
  have h0:=NK (f:=f) (x:=x) (o:=o) (k:=o.length) (by omega)
  rw [← hk,kJ (by omega)] at h0
  have hl:kI f o[k - 1] x:=by
   have:=jK (f x) (f o[k - 1])
   by_cases hc:bV (f o[k - 1]) (f x)<0
   ·exact .inl hc
   ·exact .inr ⟨by omega,hx _ (aC _)⟩
  by_cases hc:p<k - 1
  ·exact w8 (b6.1 ho p (k - 1) (by omega) (by omega) hc) hl
  ·have e:p=k - 1:=by omega
   subst e;exact hl
 have hhi:∀ y∈o.drop k,kI f x y:=fun y hy=>by
  obtain ⟨p,hp,rfl⟩:=aM hy
  rw [dY] at hp
  rw [List.getElem_drop]
  have:=NL (f:=f) (x:=x) (o:=o) (k:=o.length) (j:=k+p) (by omega) (by omega)
  rw [kJ (by omega)] at this
  exact .inl this
 rw [pW,CB]
 refine ⟨ho.sublist (List.take_sublist k o),⟨hhi,ho.sublist (List.drop_sublist k o)⟩,fun a ha b hb=>?_⟩
 rcases aO.1 hb with rfl|hb
 ·exact hlo a ha
 ·exact w8 (hlo a ha) (hhi b hb)
theorem DI {f:Int→List Int}{p:Int→Bool}:∀ n,(xB f p n).Pairwise (kI f)∧∀ x,x∈xB f p n↔∃ k:Nat,k<n∧x=(k:Int)∧p k=true
 | 0=>by simp [xB]
 | n+1=>by
  obtain ⟨h1,h2⟩:=DI (f:=f) (p:=p) n
  simp only [xB]
  split
  ·rename_i h
   refine ⟨Sy h1 fun y hy=>?_,fun x=>?_⟩
   ·obtain ⟨k,hk,rfl,_⟩:=(h2 y).1 hy;omega
   ·rw [QX,h2]
    constructor
    ·rintro (rfl|⟨k,hk,e⟩)
     ·exact ⟨n,by omega,rfl,h⟩
     ·exact ⟨k,by omega,e⟩
    ·rintro ⟨k,hk,rfl,e⟩
     by_cases hc:k<n
     ·exact .inr ⟨k,hc,rfl,e⟩
     ·left;rw [show k=n by omega]
  ·rename_i h
   refine ⟨h1,fun x=>?_⟩
   rw [h2]
   constructor
   ·rintro ⟨k,hk,e⟩;exact ⟨k,by omega,e⟩
   ·rintro ⟨k,hk,rfl,e⟩
    by_cases hc:k<n
    ·exact ⟨k,hc,rfl,e⟩
    ·rw [show k=n by omega] at e;exact absurd e h
theorem QQ {f:Int→List Int}{l m:List Int}(hl:l.Pairwise (kI f))(hm:m.Pairwise (kI f))(h:∀ x,x∈l↔x∈m):l=m:=by
 have hne:∀ {l:List Int},l.Pairwise (kI f)→l.Nodup:=fun hl=>hl.imp fun {a b} h e=>by
  subst e
  rcases h with h|h
  ·rw [gC] at h;omega
  ·omega
 refine List.Perm.eq_of_pairwise (le:=kI f) (fun a b _ _ h1 h2=>?_) hl hm ((List.perm_ext_iff_of_nodup (hne hl) (hne hm)).2 h)
 have:=w8 h1 h2
 rcases this with h|h
 ·rw [gC] at h;omega
 ·omega
def w9 (g:Graph)(pl:List Int)(k:Int):List Int :=
 let a:=iA pl (eA g k).from_
 let b:=iA pl (eA g k).to_
 if a<b then [b,a,0,Pw g k] else if b<a then [a,b,1,Pw g k] else [b,8,0,Pw g k]
def gG (l:List Int)(a m b:Nat):List Int:=l.take a++((l.take b).drop m++((l.take m).drop a++l.drop b))
theorem iM {l:List Int}{a m b:Nat}(h1:a≤m)(h2:m≤b)(h3:b≤l.length)(p:Nat) :
  iA (gG l a m b) p=if p<a then iA l p else if p<a+(b - m) then iA l ((m+(p - a):Nat):Int) else if p<b then iA l ((p - (b - m):Nat):Int) else iA l p:=by
 unfold gG iA
 simp only [Int.toNat_natCast,List.getElem?_append,bL,dY,bI,bG]
 repeat' split
 all_goals first
  | rfl
  | (exfalso;omega)
  | (congr 2;omega)
  | (rename_i h _;rw [bA (by omega)])
theorem G4 {l:List Int}{a m b:Nat}(h1:a≤m)(h2:m≤b):(gG l a m b).Perm l:=by
 have cut:∀ {p q:Nat},p≤q→l.take q=l.take p++(l.take q).drop p:=fun {p q} h=>by
  conv=>lhs;rw [← List.take_append_drop p (l.take q),List.take_take,sX h]
 have e:l=l.take a++((l.take m).drop a++((l.take b).drop m++l.drop b)):=by
  rw [← List.append_assoc,← cut h1,← List.append_assoc,← cut h2,List.take_append_drop]
 unfold gG
 conv=>rhs;rw [e]
 refine List.Perm.append_left _ ?_
 rw [← List.append_assoc,← List.append_assoc]
 exact List.Perm.append_right _ List.perm_append_comm
def Rng (l m:List Int)(a b:Nat):Prop:=m.Perm l∧∀ i:Nat,i<a∨b≤i→iA m i=iA l i
def Srtd (f:Int→List Int)(l:List Int)(a b:Nat):Prop:=∀ i j:Nat,a≤i→i<j→j<b→kI f (iA l i) (iA l j)
def P4 (l:List Int)(a m b:Nat):Prop:=∀ i j:Nat,a≤i→i<m→m≤j→j<b→iA l i<iA l j
theorem Rng.refl (l:List Int)(a b:Nat):Rng l l a b:=⟨List.Perm.refl _,fun _ _=>rfl⟩
theorem Rng.trans {l m n:List Int}{a b:Nat}(h:Rng l m a b)(k:Rng m n a b):Rng l n a b:=⟨k.1.trans h.1,fun i hi=>by rw [k.2 i hi,h.2 i hi]⟩
theorem Rng.wide {l m:List Int}{a b c d:Nat}(h:Rng l m a b)(h1:c≤a)(h2:b≤d):Rng l m c d:=⟨h.1,fun i hi=>h.2 i (by omega)⟩
theorem Rng.len {l m:List Int}{a b:Nat}(h:Rng l m a b):m.length=l.length:=h.1.length_eq
theorem Uz {l:List Int}(hn:l.Nodup){i j:Nat}(hi:i<l.length)(hj:j<l.length)(h:iA l i=iA l j):i=j:=by
 rw [kJ hi,kJ hj] at h
 have:=b6.1 hn
 rcases Nat.lt_trichotomy i j with hc|hc|hc
 ·exact absurd h (this i j hi hj hc)
 ·exact hc
 ·exact absurd h.symm (this j i hj hi hc)
theorem Rng.from {l m:List Int}{a b:Nat}(hn:l.Nodup)(h:Rng l m a b)(hb:b≤l.length){i:Nat}(h1:a≤i)(h2:i<b):∃ j:Nat,(a≤j∧j<b)∧iA m i=iA l j:=by
 have hl:=h.len
 have hm:iA m i∈l:=h.1.mem_iff.1 (by rw [kJ (by omega)];exact aC _)
 obtain ⟨j,hj,e⟩:=aM hm
 rw [← kJ hj] at e
 refine ⟨j,?_,e.symm⟩
 by_cases hc:a≤j∧j<b
 ·exact hc
 ·exfalso
  have h3:=h.2 j (by omega)
  rw [e] at h3
  have:=Uz (h.1.nodup_iff.2 hn) (show j<m.length by omega) (show i<m.length by omega) h3
  omega
theorem Srtd.same {f:Int→List Int}{l m:List Int}{a b c d:Nat}(h:Srtd f l a b)(hs:∀ i:Nat,c≤i→i<d→∃ k:Nat,k=i+a - c∧iA m i=iA l k)(hd:d - c≤b - a):Srtd f m c d:=fun i j h1 h2 h3=>by
 obtain ⟨p,hp,e1⟩:=hs i h1 (by omega)
 obtain ⟨q,hq,e2⟩:=hs j (by omega) h3
 rw [e1,e2]
 exact h p q (by omega) (by omega) (by omega)
theorem E9 {f:Int→List Int}{a b c:Int}(h1:a=b∨kI f a b)(h2:kI f b c):kI f a c:=by
 rcases h1 with rfl|h1
 ·exact h2
 ·exact w8 h1 h2
theorem B6 {f:Int→List Int}{a b c:Int}(h1:kI f a b)(h2:b=c∨kI f b c):kI f a c:=by
 rcases h2 with rfl|h2
 ·exact h1
 ·exact w8 h1 h2
theorem B5 {f:Int→List Int}{a b:Int}(h:¬ bV (f b) (f a)<0)(hl:a<b):kI f a b:=by
 have:=jK (f a) (f b)
 unfold kI
 by_cases hc:bV (f a) (f b)<0
 ·exact .inl hc
 ·exact .inr ⟨by omega,hl⟩
theorem Srtd.le {f:Int→List Int}{l:List Int}{a b i j:Nat}(h:Srtd f l a b)(h1:a≤i)(h2:i≤j)(h3:j<b):iA l i=iA l j∨kI f (iA l i) (iA l j):=by
 rcases Nat.lt_or_eq_of_le h2 with hc|rfl
 ·exact .inr (h i j h1 hc h3)
 ·exact .inl rfl
section
variable {f:Int→List Int} {l:List Int} {a m b s e:Nat}
structure Cut (f:Int→List Int) (l:List Int) (a m b s e:Nat):Prop where
 nd:l.Nodup
 le:a≤s∧s≤m∧m≤e∧e≤b∧b≤l.length
 s1:Srtd f l a m
 s2:Srtd f l m b
 low:P4 l a m b
 c1:a<s→e<b→¬ bV (f (iA l e)) (f (iA l ((s - 1:Nat):Int)))<0
 c2:s<m→m<e→bV (f (iA l ((e - 1:Nat):Int))) (f (iA l s))<0
theorem Cut.cross (C:Cut f l a m b s e){i j:Nat}(hi:(a≤i∧i<s)∨(m≤i∧i<e))(hj:(s≤j∧j<m)∨(e≤j∧j<b)):kI f (iA l i) (iA l j):=by
 obtain ⟨h1,h2,h3,h4,h5⟩:=C.le
 rcases hi with hi|hi<;>rcases hj with hj|hj
 ·exact C.s1 i j (by omega) (by omega) (by omega)
 ·refine E9 (C.s1.le (j:=s - 1) hi.1 (by omega) (by omega)) (B6 (B5 (C.c1 (by omega) (by omega)) (C.low _ _ (by omega) (by omega) (by omega) (by omega))) (C.s2.le (by omega) hj.1 hj.2))
 ·refine E9 (C.s2.le (j:=e - 1) hi.1 (by omega) (by omega)) (B6 (.inl (C.c2 (by omega) (by omega))) (C.s1.le (by omega) hj.1 hj.2))
 ·exact C.s2 i j (by omega) (by omega) (by omega)
theorem Cut.rng (C:Cut f l a m b s e):Rng l (gG l s m e) a b:=by
 obtain ⟨h1,h2,h3,h4,h5⟩:=C.le
 refine ⟨G4 h2 h3,fun i hi=>?_⟩
 rw [iM h2 h3 (by omega)]
 repeat' split
 all_goals first|rfl|(exfalso;omega)
theorem Cut.left (C:Cut f l a m b s e):Srtd f (gG l s m e) a s∧Srtd f (gG l s m e) s (s+(e - m))∧P4 (gG l s m e) a s (s+(e - m)):=by
 obtain ⟨h1,h2,h3,h4,h5⟩:=C.le
 have at_:=iM h2 h3 (show e≤l.length by omega)
 refine ⟨C.s1.same (fun i p q=>⟨i,by omega,by rw [at_,if_pos q]⟩) (by omega),C.s2.same (fun i p q=>⟨m+(i - s),by omega,by rw [at_,if_neg (by omega),if_pos q]⟩) (by omega),fun i j p1 p2 p3 p4=>?_⟩
 rw [at_,if_pos p2,at_,if_neg (by omega),if_pos p4]
 exact C.low _ _ p1 (by omega) (by omega) (by omega)
theorem Cut.right (C:Cut f l a m b s e):Srtd f (gG l s m e) (s+(e - m)) e∧Srtd f (gG l s m e) e b∧P4 (gG l s m e) (s+(e - m)) e b:=by
 obtain ⟨h1,h2,h3,h4,h5⟩:=C.le
 have at_:=iM h2 h3 (show e≤l.length by omega)
 refine ⟨fun i j p1 p2 p3=>?_,fun i j p1 p2 p3=>?_,fun i j p1 p2 p3 p4=>?_⟩
 ·rw [at_,if_neg (by omega),if_neg (by omega),if_pos (by omega),at_,if_neg (by omega),if_neg (by omega),if_pos p3]
  exact C.s1 _ _ (by omega) (by omega) (by omega)
 ·rw [at_,if_neg (by omega),if_neg (by omega),if_neg (by omega),at_,if_neg (by omega),if_neg (by omega),if_neg (by omega)]
  exact C.s2 _ _ (by omega) p2 p3
 ·rw [at_,if_neg (by omega),if_neg (by omega),if_pos p2,at_,if_neg (by omega),if_neg (by omega),if_neg (by omega)]
  exact C.low _ _ (by omega) (by omega) (by omega) (by omega)
theorem Cut.done (C:Cut f l a m b s e){k n:List Int}(h1:Rng (gG l s m e) k a (s+(e - m)))(k1:Srtd f k a (s+(e - m)))(h2:Rng k n (s+(e - m)) b)(k2:Srtd f n (s+(e - m)) b):Rng l n a b∧Srtd f n a b:=by
 obtain ⟨c1,c2,c3,c4,c5⟩:=C.le
 have at_:=iM c2 c3 (show e≤l.length by omega)
 have R0:=C.rng
 have R1:=R0.trans (h1.wide (aL _) (by omega))
 have R2:=R1.trans (h2.wide (by omega) (aL _))
 refine ⟨R2,fun i j p1 p2 p3=>?_⟩
 have nr:(gG l s m e).Nodup:=R0.1.nodup_iff.2 C.nd
 have nk:k.Nodup:=h1.1.nodup_iff.2 nr
 have l1:=R0.len
 have l2:=h1.len
 by_cases hj:j<s+(e - m)
 ·rw [h2.2 i (by omega),h2.2 j (by omega)];exact k1 i j p1 p2 hj
 ·by_cases hi:s+(e - m)≤i
  ·exact k2 i j hi p2 p3
  ·obtain ⟨p,hp,e1⟩:=h1.from nr (by omega) p1 (show i<s+(e - m) by omega)
   obtain ⟨q,hq,e2⟩:=h2.from nk (by omega) (show s+(e - m)≤j by omega) p3
   rw [h2.2 i (by omega),e1,e2,h1.2 q (by omega),at_,at_]
   have hq1:¬ q<s:=by omega
   rw [if_neg hq1,if_neg (show ¬ q<s+(e - m) by omega)]
   by_cases ps:p<s
   ·rw [if_pos ps]
    by_cases qe:q<e
    ·rw [if_pos qe];exact C.cross (.inl ⟨hp.1,ps⟩) (.inl (by omega))
    ·rw [if_neg qe];exact C.cross (.inl ⟨hp.1,ps⟩) (.inr (by omega))
   ·rw [if_neg ps,if_pos hp.2]
    by_cases qe:q<e
    ·rw [if_pos qe];exact C.cross (.inr (by omega)) (.inl (by omega))
    ·rw [if_neg qe];exact C.cross (.inr (by omega)) (.inr (by omega))
theorem Cut.flat (C:Cut f l a m b s e)(hl:a=s∨m=e)(hr:Srtd f (gG l s m e) (s+(e - m)) b):Rng l (gG l s m e) a b∧Srtd f (gG l s m e) a b:=by
 obtain ⟨c1,c2,c3,c4,c5⟩:=C.le
 refine C.done (Rng.refl _ _ _) ?_ (Rng.refl _ _ _) hr
 obtain ⟨h1,h2,_⟩:=C.left
 rcases hl with rfl|rfl
 ·exact h2
 ·rw [rR,o4];exact h1
end
theorem II {l m:List Int}(h:l.length=m.length)(k:∀ i:Nat,i<l.length→iA l i=iA m i):l=m:=fS h fun i h1 h2=>by
 have:=k i h1;rwa [kJ h1,kJ h2] at this
theorem lG {l:List Int}{a m b:Nat}(h1:a≤m)(h2:m≤b):(gG l a m b).length=l.length:=(G4 h1 h2).length_eq
def R3 (l:List Int)(p q:Nat):List Int:=(l.set p (iA l q)).set q (iA l p)
theorem LM {l:List Int}{p q:Nat}(hp:p<l.length)(hq:q<l.length)(i:Nat):iA (R3 l p q) i=if i=q then iA l p else if i=p then iA l q else iA l i:=by
 unfold R3 iA
 simp only [Int.toNat_natCast,bR,fI]
 by_cases h1:q=i
 ·subst h1;simp [hq]
 ·rw [if_neg h1,if_neg (Ne.symm h1)]
  by_cases h2:p=i
  ·subst h2;simp [hp]
  ·rw [if_neg h2,if_neg (Ne.symm h2)]
theorem At (l:List Int)(p q:Nat):(R3 l p q).length=l.length:=by simp [R3]
theorem JU {l:List Int}{j i:Nat}(hj:0<j)(h1:j≤i)(h2:i<l.length):R3 (gG l j i (i+1)) j (j - 1)=gG l (j - 1) i (i+1):=by
 have e1:=lG (l:=l) h1 (bS i 1)
 have e2:=lG (l:=l) (show j - 1≤i by omega) (bS i 1)
 refine II (by rw [At,e1,e2]) fun p hp=>?_
 rw [At,e1] at hp
 rw [LM (by omega) (by omega),iM h1 (bS i 1) (by omega),iM h1 (bS i 1) (by omega),iM h1 (bS i 1) (by omega),iM (show j - 1≤i by omega) (bS i 1) (by omega)]
 repeat' split
 all_goals first|(exfalso;omega)|(congr 1;omega)|rfl
theorem TW {l:List Int}{a k:Nat}(h1:a≤k)(h2:k+1<l.length):R3 (gG l a (a+1) (k+1)) k (k+1)=gG l a (a+1) (k+2):=by
 have e1:=lG (l:=l) (bS a 1) (show a+1≤k+1 by omega)
 have e2:=lG (l:=l) (bS a 1) (show a+1≤k+2 by omega)
 refine II (by rw [At,e1,e2]) fun p hp=>?_
 rw [At,e1] at hp
 rw [LM (by omega) (by omega),iM (bS a 1) (show a+1≤k+1 by omega) (by omega),iM (bS a 1) (show a+1≤k+1 by omega) (by omega),iM (bS a 1) (show a+1≤k+1 by omega) (by omega),iM (bS a 1) (show a+1≤k+2 by omega) (by omega)]
 repeat' split
 all_goals first|(exfalso;omega)|(congr 1;omega)|rfl
theorem pA {l:List Int}{a b:Nat}(h:a≤b):gG l a a b=l∧gG l a b b=l:=by
 have cut:∀ {p q:Nat},p≤q→l.take q=l.take p++(l.take q).drop p:=fun {p q} h=>by
  conv=>lhs;rw [← List.take_append_drop p (l.take q),List.take_take,sX h]
 have e:∀ k,(l.take k).drop k=[]:=fun k=>List.drop_eq_nil_iff.2 (by simp;omega)
 unfold gG
 rw [e,e,eX,eX,← List.append_assoc,← cut h,List.take_append_drop]
 exact ⟨rfl,rfl⟩
def Jr (l:List Int)(a b:Nat):Nat→List Int
 | 0=>l
 | n+1=>R3 (Jr l a b n) (a+n) (b+n)
theorem BI {l:List Int}{a b:Nat}:∀ {n:Nat},a+n≤b→b+n≤l.length→(Jr l a b n).length=l.length ∧
  ∀ p:Nat,iA (Jr l a b n) p=if a≤p∧p<a+n then iA l ((p - a+b:Nat):Int) else if b≤p∧p<b+n then iA l ((p - b+a:Nat):Int) else iA l p
 | 0,_,_=>⟨rfl,fun p=>by rw [if_neg (by omega),if_neg (by omega)];rfl⟩
 | n+1,h1,h2=>by
  obtain ⟨l1,l2⟩:=BI (l:=l) (a:=a) (b:=b) (n:=n) (by omega) (by omega)
  refine ⟨by rw [Jr,At,l1],fun p=>?_⟩
  rw [Jr,LM (by omega) (by omega),l2,l2,l2]
  repeat' split
  all_goals first|(exfalso;omega)|(congr 1;omega)|rfl
theorem Sc {l:List Int}{p m j:Nat}(h1:p+j≤m)(h2:m+j≤l.length):gG (Jr l p m j) (p+j) m (m+j)=gG l p m (m+j):=by
 obtain ⟨l1,l2⟩:=BI (l:=l) h1 h2
 have e1:=lG (l:=Jr l p m j) h1 (bS m j)
 have e2:=lG (l:=l) (show p≤m by omega) (bS m j)
 refine II (by rw [e1,e2,l1]) fun q hq=>?_
 rw [e1,l1] at hq
 rw [iM h1 (bS m j) (by omega),iM (show p≤m by omega) (bS m j) (by omega),l2,l2,l2]
 repeat' split
 all_goals first|(exfalso;omega)|(congr 1;omega)|rfl
theorem G3 {l:List Int}{p m i j:Nat}(hp:p+i=m)(h1:i≤j)(h2:m+j≤l.length):gG (Jr l p (m+j - i) i) p m (m+j - i)=gG l p m (m+j):=by
 obtain ⟨l1,l2⟩:=BI (l:=l) (a:=p) (b:=m+j - i) (n:=i) (by omega) (by omega)
 have e1:=lG (l:=Jr l p (m+j - i) i) (show p≤m by omega) (show m≤m+j - i by omega)
 have e2:=lG (l:=l) (show p≤m by omega) (bS m j)
 refine II (by rw [e1,e2,l1]) fun q hq=>?_
 rw [e1,l1] at hq
 rw [iM (show p≤m by omega) (show m≤m+j - i by omega) (by omega),iM (show p≤m by omega) (bS m j) (by omega),l2,l2,l2]
 repeat' split
 all_goals first|(exfalso;omega)|(congr 1;omega)|rfl
theorem Qp {l:List Int}{p m i:Nat}(hp:p+i=m)(h2:m+i≤l.length):Jr l p m i=gG l p m (m+i):=by
 have:=G3 (l:=l) hp (aL i) h2
 rw [Nat.add_sub_cancel] at this
 rw [← this,(pA (show p≤m by omega)).2]
theorem QV {f:Int→List Int}{l:List Int}{a s m:Nat}(hn:l.Nodup)(h1:a≤s)(h2:s≤m)(h3:m<l.length)(S:Srtd f l a m)(hl:∀ p:Nat,a≤p→p<m→iA l p<iA l m)
  (k1:a<s→¬ bV (f (iA l m)) (f (iA l ((s - 1:Nat):Int)))<0) (k2:s<m→bV (f (iA l m)) (f (iA l s))<0):Rng l (gG l s m (m+1)) a (m+1)∧Srtd f (gG l s m (m+1)) a (m+1):=by
 have C:Cut f l a m (m+1) s (m+1):=⟨hn,by omega,S,fun i j p1 p2 p3=>by omega,fun i j p1 p2 p3 p4=>by
  have:j=m:=by omega
  subst this;exact hl i p1 p2,fun _ h=>by omega,fun h _=>by rw [Nat.add_sub_cancel];exact k2 h⟩
 have at_:=iM h2 (bS m 1) (show m+1≤l.length by omega)
 have hr:=C.right.1
 rw [sY] at hr
 have D:=C.done (k:=gG l s m (m+1)) (n:=gG l s m (m+1)) (Rng.refl _ _ _) (by
  rw [sY]
  intro i j p1 p2 p3
  rw [at_,if_pos (by omega),at_]
  by_cases hj:j<s
  ·rw [if_pos hj];exact S i j p1 p2 (by omega)
  ·rw [if_neg hj,if_pos (by omega),show m+(j - s)=m by omega]
   exact E9 (S.le (j:=s - 1) p1 (by omega) (by omega)) (B5 (k1 (by omega)) (hl _ (by omega) (by omega)))) (Rng.refl _ _ _) (by rw [sY];exact hr)
 exact D
theorem Ul {f:Int→List Int}{l:List Int}{a e b:Nat}(hn:l.Nodup)(h1:a+1≤e)(h2:e≤b)(h3:b≤l.length)(S:Srtd f l (a+1) b)(hl:∀ p:Nat,a<p→p<b→iA l a<iA l p)
  (k1:e<b→¬ bV (f (iA l e)) (f (iA l a))<0) (k2:a+1<e→bV (f (iA l ((e - 1:Nat):Int))) (f (iA l a))<0):Rng l (gG l a (a+1) e) a b∧Srtd f (gG l a (a+1) e) a b:=by
 have C:Cut f l a (a+1) b a e:=⟨hn,by omega,fun i j p1 p2 p3=>by omega,S,fun i j p1 p2 p3 p4=>by
  have:i=a:=by omega
  subst this;exact hl j (by omega) p4,fun h=>by omega,fun _ h=>k2 h⟩
 have at_:=iM (bS a 1) h1 (show e≤l.length by omega)
 refine C.flat (.inl rfl) fun i j p1 p2 p3=>?_
 have ej:iA (gG l a (a+1) e) j=iA l j:=by rw [at_,if_neg (by omega),if_neg (by omega),if_neg (by omega)]
 rw [ej,at_,if_neg (by omega),if_neg (by omega)]
 by_cases hi:i<e
 ·rw [if_pos hi,show i - (e - (a+1))=a by omega]
  exact B6 (B5 (k1 (by omega)) (hl _ (by omega) (by omega))) (S.le h1 (by omega) p3)
 ·rw [if_neg hi];exact S i j (by omega) p2 p3
theorem DH {l:List Int}{p q:Nat}(hp:p<l.length)(hq:q<l.length):((l.map cI).set p (cI l[q])).set q (cI l[p])=(R3 l p q).map cI:=by
 unfold R3
 rw [eF,eF,kJ hp,kJ hq]
def CmpBy (g:FuncId)(caps:List D)(f:Int→List Int)(l:List Int):Prop:=∀ x∈l,∀ y∈l,∃ c,Pure Tryz.prog g (dI x :: dI y :: caps) (dI c)∧(c<0↔bV (f x) (f y)<0)
theorem CmpBy.perm {g:FuncId}{caps:List D}{f:Int→List Int}{l m:List Int}(h:CmpBy g caps f l)(k:m.Perm l):CmpBy g caps f m:=fun x hx y hy=>h x (k.mem_iff.1 hx) y (k.mem_iff.1 hy)
theorem sM (G:AHeap)(id:Nat)(xs:List Int)(hg:G.get id=some ⟨3,1,xs.map cI,false⟩)(hl:xs.length≤100000)(g:FuncId)(caps:List D)(a b n:Nat)(h1:a+n≤b)(h2:b+n≤xs.length){N:Nat}{A B C:Int}(eN:N=xs.length)(eA:A=a)(eB:B=b)(eC:C=n)(Q:D→AHeap→Prop)
  (hQ:∀ H',H'.get id=some ⟨3,1,(Jr xs a b n).map cI,false⟩→(∀ j,j≠id→H'.get j=G.get j)→G.next≤H'.next→Q (.tup []) H'):ACalls Tryz.prog 217 [.own id N,dI A,dI B,dI C,.fn g caps] G Q:=by
 subst eN eA eB eC
 refine (aH (cfg:=⟨fun _=>false,fun _=>[]⟩) Tz.mixed Tryz.func217 rfl rfl (aD rfl) (by kernel_rfl) ?_)
 try simp [go_sem,seval,hg]
 obtain ⟨I0,hI0⟩:∃ I0:Nat→c7→AHeap→Prop,∀ (i:Nat) (e:c7) (H:AHeap),I0 i e H↔((e 0=.own id xs.length)∧(e 1=dI a)∧(e 2=dI b)∧(e 3=dI n)∧(e 10=dI i)∧(i≤n)∧(H.get id=some ⟨3,1,(Jr xs a b i).map cI,false⟩)∧(∀ j,j≠id→H.get j=G.get j)∧(G.next≤H.next)):=⟨fun i e H=>_,fun _ _ _=>Iff.rfl⟩
 refine qV I0 (fun i=>n - i) (0) ((hI0 _ _ _).2 ⟨?_,?_,?_,?_,?_,(by first|assumption|omega|(simp [go_sem,hg];done)|(simp_all;done)),(by exact hg),(by exact fun _ _=>rfl),(by exact aL _)⟩) ?_
 iterate 5 (first|omega|(simp [go_sem,seval,hg]<;>omega))
 intro i e H hi0
 obtain ⟨q0_0,q1_0,q2_0,q3_0,q10_0,hi,hH,hfr,hnx⟩:=(hI0 _ _ _).1 hi0
 have F0:=And.intro q0_0 (And.intro q1_0 (And.intro q2_0 (And.intro q3_0 q10_0)))
 try simp [go_sem,seval,hg,F0,hH]
 refine aP (fun h1=>?_) (fun h1=>?_)
 ·try simp [go_sem] at h1
  obtain ⟨ys,hy⟩:∃ ys,ys=Jr xs a b i:=⟨_,rfl⟩
  have hyl:ys.length=xs.length:=by rw [hy];exact (BI (by omega) (by omega)).1
  rw [← hy] at hH
  have p1:a+i<ys.length:=by omega
  have p2:b+i<ys.length:=by omega
  have hsw:((ys.map cI).set (a+i) (cI ys[b+i])).set (b+i) (cI ys[a+i])=(Jr xs a b (i+1)).map cI:=by rw [Jr,← hy];exact DH p1 p2
  have e1:((a:Int)+i).toNat=a+i:=by omega
  have e2:((b:Int)+i).toNat=b+i:=by omega
  have p3:(0:Int)≤(a:Int)+i∧(a:Int)+i<xs.length:=by omega
  have p4:(0:Int)≤(b:Int)+i∧(b:Int)+i<xs.length:=by omega
  have hab:¬ a=b:=by omega
  have lgs:∀ (l:List (List D)) (i j:Nat) (a:List D),(l.set i a)[j]?=if i=j then if i<l.length then some a else none else l[j]?:=fun _ _ _ _=>bR
  try simp [go_sem,seval,hg,F0,hH,h1,e1,e2,p3,p4,aA p1,aA p2,hyl,lgs,hab]
  repeat first|intro _|refine ⟨oW,?_⟩
  refine fN (i+1) (by omega) ((hI0 _ _ _).2 ⟨?_,?_,?_,?_,?_,(by first|assumption|omega|(simp [go_sem,hg,F0,hH,h1,e1,e2,p3,p4,aA p1,aA p2,hyl,lgs,hab];done)|(simp_all<;>omega)),(by (simp [go_sem,hH];exact hsw)),(by (intro j hj';simp [go_sem,hj',hfr j hj'])),(by (simp [go_sem];omega))⟩)<;>first|omega|(simp [go_sem,seval,hg,F0,hH,h1,e1,e2,p3,p4,aA p1,aA p2,hyl,lgs,hab]<;>omega)
 ·try simp [go_sem] at h1
  have hin:i=n:=by omega
  subst hin
  try simp [go_sem,seval,hg,F0,hH]
  exact hQ _ hH hfr hnx
theorem Eu (G:AHeap)(id:Nat)(xs:List Int)(hg:G.get id=some ⟨3,1,xs.map cI,false⟩)(hl:xs.length≤100000)(g:FuncId)(caps:List D)(a m b:Nat)(h1:a<m)(h2:m<b)(h3:b≤xs.length){N:Nat}{A M B:Int}(eN:N=xs.length)(eA:A=a)(eM:M=m)(eB:B=b)(Q:D→AHeap→Prop)
  (hQ:∀ H',H'.get id=some ⟨3,1,(gG xs a m b).map cI,false⟩→(∀ j,j≠id→H'.get j=G.get j)→G.next≤H'.next→Q (.tup []) H'):ACalls Tryz.prog 175 [.own id N,dI A,dI M,dI B,.fn g caps] G Q:=by
 subst eN eA eM eB
 have s1:(m:Int) - a=((m - a:Nat):Int):=by omega
 have s2:(b:Int) - m=((b - m:Nat):Int):=by omega
 have hT0:gG xs (m - (m - a)) m (m+(b - m))=gG xs a m b:=by rw [show m - (m - a)=a by omega,show m+(b - m)=b by omega]
 refine (aH (cfg:=⟨fun _=>false,fun _=>[]⟩) Tz.mixed Tryz.func175 rfl rfl (aD rfl) (by kernel_rfl) ?_)
 have Y:=wa hg (wa s1 s2)
 refine wo (h:=cD (fun c e H=>∃ i:Nat,∃ j:Nat,∃ zs:List Int,(e 1=dI a∧e 3=dI b∧e 0=.own id xs.length∧e 2=dI m∧e 4=.fn g caps∧e 10=dI i∧e 11=dI j)∧(c=i+j)∧(0<i∧i≤m)∧(0<j∧m+j≤xs.length)∧(zs.length=xs.length)∧(gG zs (m - i) m (m+j)=gG xs a m b)∧(H.get id=some ⟨3,1,zs.map cI,false⟩)∧(∀ j,j≠id→H.get j=G.get j)∧(G.next≤H.next)) (fun c=>c) ((m - a)+(b - m)) ⟨(m - a),(b - m),xs,wg,(by rfl),(by omega),(by omega),(by rfl),(by (exact hT0)),(by exact hg),(by exact fun _ _=>rfl),(by exact aL _)⟩ fun I0 hI0 c e H hi0=>?_)
 obtain ⟨i,j,zs,E0,hc,hi,hj,hzl,hT,hH,hfr,hnx⟩:=hi0
 have Y:=wa Y (wa E0 hH)
 refine dU (fun h2=>?_) fun h2=>?_
 ·have Y:=wa Y h2
  refine dU (fun h3=>?_) fun h3=>?_
  ·obtain ⟨i2,hi2⟩:∃ x,x=i - j:=⟨_,rfl⟩
   obtain ⟨j2,hj2⟩:∃ x,x=j:=⟨_,rfl⟩
   obtain ⟨z2,hz2⟩:∃ x,x=Jr zs (m - i) m j:=⟨_,rfl⟩
   have hz2l:z2.length=xs.length:=by rw [hz2,(BI (l:=zs) (a:=m - i) (b:=m) (n:=j) (by omega) (by omega)).1,hzl]
   have hT2:gG z2 (m - i2) m (m+j2)=gG xs a m b:=by
    have:=Sc (l:=zs) (p:=m - i) (m:=m) (j:=j) (by omega) (by omega)
    rw [hz2,hj2,show m - i2=m - i+j by omega,this];exact hT
   have e3:(i:Int) - j=(i2:Int):=by omega
   have Y:=wa Y (wa (Eq.symm hz2) (wa e3 hj2))
   refine wo (h:=?_)
   unfold dO;refine sM (N:=xs.length) (A:=(m:Int) - i) (B:=(m:Int)) (C:=(j:Int)) _ _ zs hH (by omega) g caps (m - i) m j (by omega) (by omega) (by omega) (by omega) rfl rfl _ fun H1 gR fR nR=>?_
   exact wo (h:=wx hI0 (i2+j2) ⟨i2,j2,z2,wg,(by rfl),(by omega),(by omega),(by (exact hz2l)),(by (exact hT2)),(by (rw [hz2];first|exact gR|(simp [go_sem];exact gR))),(by (intro j hj';first|exact (fR j hj').trans (hfr j hj')|(simp [go_sem];exact (fR j hj').trans (hfr j hj')))),(by (first|omega|(simp [go_sem];omega)))⟩)
  ·obtain ⟨i2,hi2⟩:∃ x,x=i:=⟨_,rfl⟩
   obtain ⟨j2,hj2⟩:∃ x,x=j - i:=⟨_,rfl⟩
   obtain ⟨z2,hz2⟩:∃ x,x=Jr zs (m - i) (m+j - i) i:=⟨_,rfl⟩
   have hlt:i<j:=by omega
   have hz2l:z2.length=xs.length:=by rw [hz2,(BI (l:=zs) (a:=m - i) (b:=m+j - i) (n:=i) (by omega) (by omega)).1,hzl]
   have hT2:gG z2 (m - i2) m (m+j2)=gG xs a m b:=by
    have:=G3 (l:=zs) (p:=m - i) (m:=m) (i:=i) (j:=j) (by omega) (by omega) (by omega)
    rw [hz2,hi2,show m+j2=m+j - i by omega,this];exact hT
   have e3:(j:Int) - i=(j2:Int):=by omega
   have Y:=wa Y (wa (Eq.symm hz2) (wa e3 hi2))
   refine wo (h:=?_)
   unfold dO;refine sM (N:=xs.length) (A:=(m:Int) - i) (B:=(m:Int)+j - i) (C:=(i:Int)) _ _ zs hH (by omega) g caps (m - i) (m+j - i) i (by omega) (by omega) (by omega) (by omega) (by omega) rfl _ fun H1 gR fR nR=>?_
   exact wo (h:=wx hI0 (i2+j2) ⟨i2,j2,z2,wg,(by rfl),(by omega),(by omega),(by (exact hz2l)),(by (exact hT2)),(by (rw [hz2];first|exact gR|(simp [go_sem];exact gR))),(by (intro j hj';first|exact (fR j hj').trans (hfr j hj')|(simp [go_sem];exact (fR j hj').trans (hfr j hj')))),(by (first|omega|(simp [go_sem];omega)))⟩)
 ·have hij:i=j:=by omega
  have hR:Jr zs (m - i) m i=gG xs a m b:=by rw [Qp (by omega) (by omega),← hT,hij]
  have Y:=wa Y hR
  refine wo (h:=?_)
  unfold dO;refine sM (N:=xs.length) (A:=(m:Int) - i) (B:=(m:Int)) (C:=(i:Int)) _ _ zs hH (by omega) g caps (m - i) m i (by omega) (by omega) (by omega) (by omega) rfl rfl _ fun H1 gR fR nR=>?_
  refine wo (h:=?_)
  exact hQ _ (by rw [← hR];exact gR) (fun j hj'=>(fR j hj').trans (hfr j hj')) (by omega)
def Zl (l:List Int)(a b:Nat):Prop:=∀ i j:Nat,a≤i→i<j→j<b→iA l i<iA l j
theorem Rng.low {xs ys:List Int}{a i b:Nat}(hn:xs.Nodup)(hA:Zl xs a b)(R:Rng xs ys a i)(hb:b≤xs.length)(hi:i<b):∀ p:Nat,a≤p→p<i→iA ys p<iA ys i:=fun p p1 p2=>by
 obtain ⟨q,hq,e⟩:=R.from hn (by omega) p1 p2
 rw [e,R.2 i (by omega)]
 exact hA q i hq.1 hq.2 hi
theorem zH (G:AHeap)(id:Nat)(xs:List Int)(hg:G.get id=some ⟨3,1,xs.map cI,false⟩)(hl:xs.length≤100000)(hn:xs.Nodup)(g:FuncId)(caps:List D)(hc:D.clL caps=true)(f:Int→List Int)(cg:CmpBy g caps f xs)(a b:Nat)(hab:a≤b)(hb:b≤xs.length)(hA:Zl xs a b)
  {N:Nat} {A B:Int} (eN:N=xs.length) (eA:A=a) (eB:B=b) (Q:D→AHeap→Prop)
  (hQ:∀ ys H',Rng xs ys a b→Srtd f ys a b→H'.get id=some ⟨3,1,ys.map cI,false⟩→(∀ j,j≠id→H'.get j=G.get j)→G.next≤H'.next→Q (.tup []) H'):ACalls Tryz.prog 136 [.own id N,dI A,dI B,.fn g caps] G Q:=by
 subst eN eA eB
 refine (aH (cfg:=⟨fun _=>false,fun _=>[]⟩) Tz.mixed Tryz.func136 rfl rfl (aD rfl) (by kernel_rfl) ?_)
 have Y:=hg
 refine wo (h:=cD (fun i e H=>∃ ys:List Int,(e 0=.own id xs.length∧e 1=dI a∧e 2=dI b∧e 3=.fn g caps∧e 8=dI i)∧(a+1≤i)∧(Rng xs ys a (min i b))∧(Srtd f ys a (min i b))∧(H.get id=some ⟨3,1,ys.map cI,false⟩)∧(∀ j,j≠id→H.get j=G.get j)∧(G.next≤H.next)) (fun i=>b - i) (a+1) ⟨xs,wg,(by omega),(by (exact Rng.refl _ _ _)),(by (exact fun p q p1 p2 p3=>by omega)),(by exact hg),(by exact fun _ _=>rfl),(by exact aL _)⟩ fun I0 hI0 i e H hi0=>?_)
 obtain ⟨ys,E0,hi,hR,hS,hH,hfr,hnx⟩:=hi0
 have Y:=wa Y (wa E0 hH)
 refine dU (fun h1=>?_) fun h1=>?_
 ·have hmin:min i b=i:=by omega
  rw [hmin] at hR hS
  have hyl:=hR.len
  have hyn:ys.Nodup:=hR.1.nodup_iff.2 hn
  have hlo:=hR.low hn hA hb h1
  have cy:=cg.perm hR.1
  have Y:=wa Y h1
  refine wv (h:=cD (fun k e H=>(e 0=.own id xs.length∧e 1=dI a∧e 2=dI b∧e 3=.fn g caps∧e 8=dI i∧e 9=dI k)∧(a≤k∧k≤i)∧(∀ p:Nat,k≤p→p<i→bV (f (iA ys i)) (f (iA ys p))<0)∧(H.get id=some ⟨3,1,(gG ys k i (i+1)).map cI,false⟩)∧(∀ j,j≠id→H.get j=G.get j)∧(G.next≤H.next)) (fun k=>k) i ⟨wg,(by omega),(by (exact fun p p1 p2=>by omega)),(by (rw [(pA (Nat.le_succ i)).1];first|exact hH|(simp [go_sem];exact hH))),(by (first|exact hfr|(intro j hj';simp [go_sem];exact hfr j hj'))),(by (first|exact hnx|(simp [go_sem];omega)))⟩ fun I2 hI2 k e H hi2=>?_)
  obtain ⟨E2,hk,hlow,hH2,hfr2,hnx2⟩:=hi2
  obtain ⟨zs,hz⟩:∃ z,z=gG ys k i (i+1):=⟨_,rfl⟩
  have hzl:zs.length=xs.length:=by rw [hz,lG hk.2 (bS i 1),hyl]
  rw [← hz] at hH2
  have p1:k<zs.length:=by omega
  have p2:k - 1<zs.length:=by omega
  have zat:=iM hk.2 (bS i 1) (show i+1≤ys.length by omega)
  have z1:zs[k]=iA ys i:=by rw [← kJ p1,hz,zat,if_neg (by omega),if_pos (by omega)];congr 1;omega
  have z2:a<k→zs[k - 1]=iA ys ((k - 1:Nat):Int):=fun h=>by rw [← kJ p2,hz,zat,if_pos (by omega)]
  obtain ⟨c0,hc0,hz0⟩:∃ c0,(a<k→Pure Tryz.prog g (dI zs[k] :: dI zs[k - 1] :: caps) (dI c0))∧(a<k→(c0<0↔bV (f zs[k]) (f zs[k - 1])<0)):=by
   obtain ⟨c,h1,h2⟩:=cy zs[k] (by rw [z1,kJ (show i<ys.length by omega)];exact aC _) (iA ys ((k - 1:Nat):Int)) (by rw [kJ (show k - 1<ys.length by omega)];exact aC _)
   exact ⟨c,fun h=>by rw [z2 h];exact h1,fun h=>by rw [z2 h];exact h2⟩
  have e1:((k:Int) - 1).toNat=k - 1:=by omega
  have Y:=wa Y (wa h1 (wa E2 (wa hH2 (wa e1 (wa (aA p1) (wa (aA p2) (wa hzl hc)))))))
  refine wo (h:=gW (fun hg=>(hc0 (by simpa using hg))) (fun hg=>wl) ?_)
  refine mP (fun h4=>?_) fun h4=>?_
  ·have hak:a<k:=by omega
   have hcz:=(hz0 hak).1 (by omega)
   rw [z1,z2 hak] at hcz
   have hlow2:∀ p:Nat,k - 1≤p→p<i→bV (f (iA ys i)) (f (iA ys p))<0:=fun p p1 p2=>by
    rcases bQ p k with h|h
    ·rw [show p=k - 1 by omega];exact hcz
    ·exact hlow p h p2
   have hsw:((zs.map cI).set k (cI zs[k - 1])).set (k - 1) (cI zs[k])=(gG ys (k - 1) i (i+1)).map cI:=by rw [DH p1 p2,hz,JU (by omega) hk.2 (by omega)]
   have hkk:¬ k=k - 1:=by omega
   have lgs:∀ (l:List (List D)) (i j:Nat) (a:List D),(l.set i a)[j]?=if i=j then if i<l.length then some a else none else l[j]?:=fun _ _ _ _=>bR
   have Y:=wa Y (wa h4 (wa lgs hkk))
   exact wo (h:=wx hI2 (k - 1) ⟨wg,(by omega),(by (exact hlow2)),(by (simp [go_sem,hH2];exact hsw)),(by (intro j hj';simp [go_sem,hj',hfr2 j hj'])),(by (simp [go_sem];omega))⟩)
  ·have hst:a<k→¬ bV (f (iA ys i)) (f (iA ys ((k - 1:Nat):Int)))<0:=fun h hc=>by
    rw [← z1,← z2 h] at hc
    have:=(hz0 h).2 hc
    omega
   obtain ⟨y2,hy2⟩:∃ y,y=zs:=⟨_,rfl⟩
   obtain ⟨r1,r2⟩:=QV hyn hk.1 hk.2 (by omega) hS hlo hst (fun h=>hlow k (aL k) h)
   rw [← hz,← hy2] at r1 r2
   have hR2:Rng xs y2 a (min (i+1) b):=by rw [show min (i+1) b=i+1 by omega];exact (hR.wide (aL a) (Nat.le_succ i)).trans r1
   have hS2:Srtd f y2 a (min (i+1) b):=by rw [show min (i+1) b=i+1 by omega];exact r2
   exact wo (h:=wx hI0 (i+1) ⟨y2,wg,(by omega),(by (exact hR2)),(by (exact hS2)),(by (rw [hy2];first|exact hH2|(simp [go_sem];exact hH2))),(by (first|exact hfr2|(intro j hj';simp [go_sem];exact hfr2 j hj'))),(by (first|exact hnx2|(simp [go_sem];omega)))⟩)
 ·have hmin:min i b=b:=by omega
  rw [hmin] at hR hS
  refine wv (h:=?_)
  exact hQ ys _ hR hS hH hfr hnx
end Go.Abs
end
