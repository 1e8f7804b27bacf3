/- Contracts of the functions that the law reaches, and plain laws; no conditions but those written at each. -/
import Derived.Test.YtdgippmmaponfaaGreatMg1
import Derived.ProofKit
import Derived.OpenShut
import Derived.Lib.SmallJoins
import Derived.Deep.Slices
import Derived.Deep.Fields
import Derived.IntWalk
namespace Go.Proofs.YtdgippmmaponfaaGreat
open Go.Value renaming bool->μ,slice->δ,pointer->π,agg->θ
open Go.IntKind renaming i64->ι,u8->υ,u16->φ,u32->ω,i32->χ,u64->ψ
open _root_.Go.Proofs.Tryz
set_option linter.unusedSimpArgs false
set_option maxHeartbeats 8000000
set_option linter.unusedVariables false
open Go.RowKit
set_option maxRecDepth 100000
abbrev U16 (n:Int):Prop:=0<=n/\n<=65535
theorem qK (n s:Int) (d:0<=s/\s<=8):(qy n s).length=s.toNat:=by
 rw[gQ n s d,zP]
theorem Xi (x:Int) (k:Nat) (H:0<=x) (G:k<=8) (h:x<2 ^ (8* k)):num (qy x k)=x:=by
 have d:qy x k=bys x k:=by rw[gQ _ _ τ];simp
 rw[d,uD _ (JF _ _) (by rw[zP];exact G),VA];exact Int.emod_eq_of_lt H h
theorem uM {l:List Int} {n:Int} (d:0<=n) (h:n<=l.length):l=tkB l n++tkL l n/\((tkB l n).length:Int)=n:=by
 unfold tkB tkL;rw[if_pos h];refine⟨(List.take_append_drop _ _).symm, ?_⟩;rw[List.length_take];omega
theorem gR {l:List Int} (h:Byt l) (k:Nat) (G:(l.length:Int)=k) (H:k<=8):qy (num l) k=l:=by
 have d:l.length=k:=by omega
 rw[gQ _ _ τ];simp only[Int.toNat_natCast];rw[<-d];exact Fv l h τ
abbrev RdS:=List Int×Int
def wrS (s:RdS) (x:Int):RdS:=if x=0∨ ¬s.2=0 then s else ([],x)
def tkS (s:RdS) (n:Int):RdS:=(tkL s.1 n,tkE s.1 n s.2)
theorem zo {w:World} {R:Nat} {s:RdS} {C:Nat->Prop} (h:qu w R s.1 s.2 C) (x:Int):
  Calls prog 57 #[γ R,ι x] w λd w'=>d= .returned (.tuple #[])/\qu w' R (wrS s x).1 (wrS s x).2 C/\qg (λb=>b=R) w w':=by
 obtain⟨l,e⟩:=s;simp only at h;by_cases hx:x=0
 ·refine(gf h x (Or.inl hx)).mono ?_;rintro d w' ⟨rfl,rfl⟩;have:wrS (l,e) x=(l,e):=by unfold wrS;rw[if_pos (Or.inl hx)]
  rw[this];exact⟨rfl,h,qg.refl _ _⟩
 ·by_cases he:e=0
  ·subst he;refine(Jd h x hx).mono ?_;rintro d w' ⟨rfl,H,G⟩;have:wrS (l,0) x=([],x):=by unfold wrS;rw[if_neg (by simp[hx])]
   rw[this];exact⟨rfl,H,G⟩
  ·refine(gf h x (Or.inr ⟨hx,he⟩)).mono ?_;rintro d w' ⟨rfl,rfl⟩;have:wrS (l,e) x=(l,e):=by unfold wrS;rw[if_pos (Or.inr he)]
   rw[this];exact⟨rfl,h,qg.refl _ _⟩
abbrev U32 (n:Int):Prop:=0<=n/\n<=4294967295
def adv (s:RdS) (n:Nat):RdS:=if s.2=0 then (if n<=s.1.length then (s.1.drop n,0) else ([],3)) else ([],s.2)
def Jm (s:RdS):Prop:= ¬s.2=0->s.1=[]
theorem gz {s:RdS} (n:Nat) (h:Jm s):tkS s n=adv s n:=by
 obtain⟨l,e⟩:=s;unfold tkS adv tkL tkE;simp only[Int.toNat_natCast];by_cases he:e=0
 ·subst he;rw[if_pos rfl];by_cases hn:n<=l.length
  ·rw[if_pos hn,if_neg τ]
  ·rw[if_neg hn,if_pos τ,List.drop_eq_nil_of_le τ]
 ·have d:l=[]:=h he;subst d;rw[if_neg he,if_neg (λx=>he x.2)];simp
theorem vj (s:RdS) (n:Nat):Jm (adv s n):=by
 unfold Jm adv;split
 ·split
  ·intro h;exact absurd rfl h
  ·intro _;rfl
 ·intro _;rfl
theorem gG (s:RdS) (a b:Nat):adv (adv s a) b=adv s (a+b):=by
 obtain⟨l,e⟩:=s;unfold adv;simp only;by_cases he:e=0
 ·subst he;simp only[if_true];by_cases ha:a<=l.length
  ·rw[if_pos ha];simp only[if_true,List.length_drop,List.drop_drop];by_cases hb:a+b<=l.length
   ·rw[if_pos τ,if_pos hb]
   ·rw[if_neg τ,if_neg hb]
  ·rw[if_neg ha];simp;omega
 ·rw[if_neg he,if_neg he];simp[he]
theorem xF {s:RdS} (a b:Nat):tkS (adv s a) b=adv s (a+b):=by rw[gz b (vj s a),gG]
theorem Cu {s:RdS} (h:Jm s):adv s 0=s:=by
 obtain⟨l,e⟩:=s;unfold adv;by_cases he:e=0
 ·subst he;simp
 ·have d:l=[]:=h he;subst d;simp[he]
theorem QH (x:Int):qy (x%16777216) 3=qy x 3:=by
 have h: ∀j,j<3->by8 (x%16777216) j=by8 x j:=by
  intro j d;unfold by8
  match j,d with
  | 0,_=>simp
  | 1,_=>simp;omega
  | 2,_=>simp;omega
 show [by8 (x%16777216) 2,by8 (x%16777216) 1,by8 (x%16777216) 0]=[by8 x 2,by8 x 1,by8 x 0];rw[h 0 ζ,h 1 ζ,h 2 ζ]
theorem JY (x:Int) (k:Nat) (G:k<=8) (r:List Int):tkS (qy x k++r,0) k=(r,0)/\tkB (qy x k++r) k=qy x k:=by
 have d:((qy x k).length:Int)=k:=by rw[qK _ _ τ];simp
 have a:=Eh (qy x k) r;have b:=Ef (qy x k) r;have c:=Eg (qy x k) r 0;rw[d] at a b c;unfold tkS;simp only[a,b,c,and_self]
theorem wU (k:Nat) (H:k<=8) {L:List Int} (d:Byt L) (h:k<=L.length): ∃x r,L=qy x k++r/\0<=x/\x<2 ^ (8* k)/\Byt r:=by
 obtain⟨j,q⟩:=uM (l:=L) (n:=(k:Int)) τ τ;have G:=zv (tkB L k) k (jL d k) τ H;refine⟨num (tkB L k),tkL L k, ?_,G.1,G.2,d.drop _⟩;rw[gR (jL d k) k q H];exact j
theorem xv {L:List Int} (H:Byt L) (h:4<=L.length): ∃x r,L=qy x 4++r/\U32 x/\Byt r:=by
 obtain⟨x,r,J,I,d,G⟩:=wU 4 ζ H h;have d:x<4294967296:=d;exact⟨x,r,J,⟨I,τ⟩,G⟩
structure Pk where
 mr:Bool
 ty:Int
 sq:Int
 st:Int
 sc:Int
 ss:List Int
 has:Bool
 pr:Int
 ex:List Int
 pl:List Int
def pk0:Pk:=⟨false,0,0,0,0,[],false,0,[],[]⟩
structure uf (p:Pk):Prop where
 ty:0<=p.ty/\p.ty<=255
 sq:U16 p.sq
 st:U32 p.st
 sc:U32 p.sc
 ss: ∀i,U32 (p.ss.getD i 0)
 pr:U16 p.pr
 ex:Byt p.ex
 pl:Byt p.pl
def ww (p:Pk):Int:=12+4* (p.ss.length:Int)+(p.pl.length:Int)+if p.has then 4+(p.ex.length:Int) else 0
def jJ (p:Pk):Bool:=decide (p.ty<=127)&&decide ((p.ss.length:Int)<=15)&&(p.has||(decide (p.pr=0)&&decide (p.ex=[])))&&decide ((p.ex.length:Int)%4=0)&&decide (ww p<=200)
theorem yq (p:Pk):jJ p=true↔p.ty<=127/\(p.ss.length:Int)<=15/\(p.has=false->p.pr=0/\p.ex=[])/\(p.ex.length:Int)%4=0/\ww p<=200:=by
 unfold jJ;cases h:p.has<;>simp[and_assoc]
def CT (p:Pk):Int:=128+(p.ss.length:Int)+if p.has then 16 else 0
def CN (p:Pk):Int:=p.ty+if p.mr then 128 else 0
def ssB (l:List Int):List Int:=l.flatMap λx=>qy x 4
theorem AP (l:List Int) (x:Int):ssB (l++[x])=ssB l++qy x 4:=by simp[ssB]
theorem WE (l:List Int):(ssB l).length=4* l.length:=by
 induction l with
 | nil=>rfl
 | cons x l ih=>
  show (qy x 4++ssB l).length=_;rw[List.length_append,ih,qK _ _ ζ,List.length_cons];show 4+4* l.length=_;omega
def CV (p:Pk):List Int:=qy (CT p) 1++qy (CN p) 1++qy p.sq 2++qy p.st 4++qy p.sc 4
def Hz (p:Pk):List Int:=qy p.pr 2++qy ((p.ex.length:Int)/4) 2++p.ex
def DB (p:Pk):List Int:=CV p++ssB p.ss++if p.has then Hz p else []
def pkB (p:Pk):List Int:=DB p++p.pl
def j9:Nat->RdS->List Int×RdS
 | 0,s=>([],s)
 | n+1,s=>((j9 n s).1++[num (tkB (j9 n s).2.1 4)],tkS (j9 n s).2 4)
def xL (b:List Int):List Int×Bool:=
 if b=[] then ([],false) else if b.getD (b.length-1) 0=0∨(b.length:Int)<b.getD (b.length-1) 0 then ([],false) else (b.take (b.length-(b.getD (b.length-1) 0).toNat),true)
def vB (f:Int) (s:RdS):List Int×Int:=
 if ¬s.2=0 then ([],s.2) else if f/32%2=1 then (if (xL s.1).2 then ((xL s.1).1,0) else ([],2)) else (s.1,0)
def Qj (s:RdS):(Int×List Int)×RdS:=((num (tkB s.1 2),tkB (tkS (tkS s 2) 2).1 (4* num (tkB (tkS s 2).1 2))),tkS (tkS (tkS s 2) 2) (4* num (tkB (tkS s 2).1 2)))
def yj (f:Int) (s:RdS):(List Int×Int×List Int)×RdS:=
 if f/16%2=1 then (((j9 (f%16).toNat s).1,(Qj (j9 (f%16).toNat s).2).1.1,(Qj (j9 (f%16).toNat s).2).1.2),(Qj (j9 (f%16).toNat s).2).2)
 else (((j9 (f%16).toNat s).1,0,[]),(j9 (f%16).toNat s).2)
def s1H (b:List Int):RdS:=tkS (b,0) 1
def s2H (b:List Int):RdS:=tkS (s1H b) 1
def s3H (b:List Int):RdS:=tkS (s2H b) 2
def s4H (b:List Int):RdS:=tkS (s3H b) 4
def s5H (b:List Int):RdS:=tkS (s4H b) 4
def yy (f:Int) (s:RdS):RdS:=if f<128∨191<f then wrS s 2 else s
def fH (b:List Int):Int:=num (tkB b 1)
def gH (b:List Int):Int:=num (tkB (s1H b).1 1)
def mkH (b:List Int) (x:List Int×Int×List Int) (l:List Int):Pk:=
 ⟨decide (128<=gH b),gH b%128,num (tkB (s2H b).1 2),num (tkB (s3H b).1 4),num (tkB (s4H b).1 4),x.1,decide (fH b/16%2=1),x.2.1,x.2.2,l⟩
def JJ (b:List Int) (x:(List Int×Int×List Int)×RdS):Pk×Int:=
 if (vB (fH b) x.2).2=0 then (mkH b x.1 (vB (fH b) x.2).1,0) else (pk0,(vB (fH b) x.2).2)
def jl (b:List Int):Pk×Int:=
 if (200:Int)<b.length then (pk0,4) else JJ b (yj (fH b) (yy (fH b) (s5H b)))
theorem WI (b:List Int):s5H b=adv (b,0) 12:=by
 have h:Jm (b,0):=λh=>absurd rfl h
 show tkS (tkS (tkS (tkS (tkS (b,0) (1:Nat)) (1:Nat)) (2:Nat)) (4:Nat)) (4:Nat)=_;rw[gz 1 h,xF,xF,xF,xF]
theorem gN: ∀(n:Nat) (s:RdS),(j9 n s).1.length=n
 | 0,_=>rfl
 | n+1,s=>by
  show ((j9 n s).1++[_]).length=_;rw[List.length_append,gN n];rfl
theorem WB (e n:Int) (h: ¬e=0):tkS ([],e) n=([],e):=by
 unfold tkS;rw[tkL_nil',tkE_bad h]
where
 tkL_nil':tkL ([]:List Int) n=[]:=by unfold tkL;simp
 tkE_bad (he: ¬e=0):tkE [] n e=e:=by unfold tkE;rw[if_neg (λx=>he x.2)]
theorem Xd (e:Int) (h: ¬e=0): ∀n,(j9 n ([],e)).2=([],e)
 | 0=>rfl
 | n+1=>by
  show tkS (j9 n ([],e)).2 4=_;rw[Xd e h n,WB e 4 h]
theorem GH (f e:Int) (h: ¬e=0):(yj f ([],e)).2=([],e):=by
 unfold yj Qj;split
 ·simp only[Xd e h,WB e _ h]
 ·simp only[Xd e h]
theorem VS (b:List Int) (f e:Int) (h: ¬e=0):JJ b (yj f ([],e))=(pk0,e):=by
 have d:vB (fH b) (yj f ([],e)).2=([],e):=by
  rw[GH f e h];unfold vB;rw[if_pos h]
 unfold JJ;rw[d];simp only;rw[if_neg h]
def KS (b:List Int):Pk×Int:=
 if (200:Int)<b.length then (pk0,4) else if (b.length:Int)<12 then (pk0,3) else if fH b<128∨191<fH b then (pk0,2) else JJ b (yj (fH b) (b.drop 12,0))
theorem GP (b:List Int):KS b=jl b:=by
 unfold KS jl;by_cases h1:(200:Int)<b.length
 ·rw[if_pos h1,if_pos h1]
 rw[if_neg h1,if_neg h1];have d:s5H b=if 12<=b.length then (b.drop 12,0) else ([],3):=by
  rw[WI];unfold adv;simp
 by_cases h2:(b.length:Int)<12
 ·rw[if_pos h2];rw[if_neg τ] at d;have:yy (fH b) ([],3)=([],3):=by unfold yy wrS;simp
  rw[d,this,VS b _ 3 ζ]
 rw[if_neg h2];rw[if_pos τ] at d;rw[d];by_cases h3:fH b<128∨191<fH b
 ·rw[if_pos h3];have:yy (fH b) (b.drop 12,0)=([],2):=by unfold yy wrS;rw[if_pos h3];simp
  rw[this,VS b _ 2 ζ]
 ·rw[if_neg h3];have:yy (fH b) (b.drop 12,0)=(b.drop 12,0):=by unfold yy;rw[if_neg h3]
  rw[this]
theorem Cl (p:Pk):(CV p).length=12:=by
 unfold CV;simp only[List.length_append,qK _ 1 ζ,qK _ 2 ζ,qK _ 4 ζ]
 decide
theorem Bp (p:Pk):((DB p).length:Int)=12+4* (p.ss.length:Int)+if p.has then 4+(p.ex.length:Int) else 0:=by
 unfold DB;rw[List.length_append,List.length_append,Cl,WE];cases p.has
 ·simp
 ·simp only[if_true,Hz,List.length_append,qK _ 2 ζ];show ((12+4* p.ss.length+(2+2+p.ex.length):Nat):Int)=_;omega
theorem Ey (p:Pk):((pkB p).length:Int)=ww p:=by
 unfold pkB ww;rw[List.length_append];have:=Bp p;omega
def Γh (x:Pk) (a:Option Addr) (b:Nat) (c:Option Addr) (d:Nat) (e:Option Addr) (f:Nat):Mm:=.o
instance (x:Pk) (a:Option Addr) (b:Nat) (c:Option Addr) (d:Nat) (e:Option Addr) (f:Nat):CoeDep Mm (Γh x a b c d e f) (List Value):=⟨[μ x.mr,υ x.ty,φ x.sq,ω x.st,ω x.sc,δ a x.ss.length b,μ x.has,φ x.pr,δ c x.ex.length d,δ e x.pl.length f]⟩
instance (x:Pk) (a:Option Addr) (b:Nat) (c:Option Addr) (d:Nat) (e:Option Addr) (f:Nat):CoeDep Mm (Γh x a b c d e f) (Array Value):=⟨#[μ x.mr,υ x.ty,φ x.sq,ω x.st,ω x.sc,δ a x.ss.length b,μ x.has,φ x.pr,δ c x.ex.length d,δ e x.pl.length f]⟩
instance (x:Pk) (a:Option Addr) (b:Nat) (c:Option Addr) (d:Nat) (e:Option Addr) (f:Nat):CoeDep Mm (Γh x a b c d e f) Value:=⟨θ #[μ x.mr,υ x.ty,φ x.sq,ω x.st,ω x.sc,δ a x.ss.length b,μ x.has,φ x.pr,δ c x.ex.length d,δ e x.pl.length f]⟩
def Γi (k:Int) (l:Int) (n:Int) (x:Pk) (a:Option Addr) (b:Nat) (c:Option Addr) (d:Nat) (e:Option Addr) (f:Nat):Mm:=.o
instance (k:Int) (l:Int) (n:Int) (x:Pk) (a:Option Addr) (b:Nat) (c:Option Addr) (d:Nat) (e:Option Addr) (f:Nat):CoeDep Mm (Γi k l n x a b c d e f) (List Value):=⟨[ι k,ι l,ι n,μ x.mr,υ x.ty,φ x.sq,ω x.st,ω x.sc,δ a x.ss.length b,μ x.has,φ x.pr,δ c x.ex.length d,δ e x.pl.length f]⟩
instance (k:Int) (l:Int) (n:Int) (x:Pk) (a:Option Addr) (b:Nat) (c:Option Addr) (d:Nat) (e:Option Addr) (f:Nat):CoeDep Mm (Γi k l n x a b c d e f) (Array Value):=⟨#[ι k,ι l,ι n,μ x.mr,υ x.ty,φ x.sq,ω x.st,ω x.sc,δ a x.ss.length b,μ x.has,φ x.pr,δ c x.ex.length d,δ e x.pl.length f]⟩
instance (k:Int) (l:Int) (n:Int) (x:Pk) (a:Option Addr) (b:Nat) (c:Option Addr) (d:Nat) (e:Option Addr) (f:Nat):CoeDep Mm (Γi k l n x a b c d e f) Value:=⟨θ #[ι k,ι l,ι n,μ x.mr,υ x.ty,φ x.sq,ω x.st,ω x.sc,δ a x.ss.length b,μ x.has,φ x.pr,δ c x.ex.length d,δ e x.pl.length f]⟩
def Γq (x:Pk) (a:Value) (b:Value) (c:Value):Mm:=.o
instance (x:Pk) (a:Value) (b:Value) (c:Value):CoeDep Mm (Γq x a b c) (List Value):=⟨[μ x.mr,υ x.ty,φ x.sq,ω x.st,ω x.sc,a,μ x.has,φ x.pr,b,c]⟩
instance (x:Pk) (a:Value) (b:Value) (c:Value):CoeDep Mm (Γq x a b c) (Array Value):=⟨#[μ x.mr,υ x.ty,φ x.sq,ω x.st,ω x.sc,a,μ x.has,φ x.pr,b,c]⟩
instance (x:Pk) (a:Value) (b:Value) (c:Value):CoeDep Mm (Γq x a b c) Value:=⟨θ #[μ x.mr,υ x.ty,φ x.sq,ω x.st,ω x.sc,a,μ x.has,φ x.pr,b,c]⟩
def Γr (k:Int) (l:Int) (n:Int) (x:Pk) (a:Value) (b:Value) (c:Value):Mm:=.o
instance (k:Int) (l:Int) (n:Int) (x:Pk) (a:Value) (b:Value) (c:Value):CoeDep Mm (Γr k l n x a b c) (List Value):=⟨[ι k,ι l,ι n,μ x.mr,υ x.ty,φ x.sq,ω x.st,ω x.sc,a,μ x.has,φ x.pr,b,c]⟩
instance (k:Int) (l:Int) (n:Int) (x:Pk) (a:Value) (b:Value) (c:Value):CoeDep Mm (Γr k l n x a b c) (Array Value):=⟨#[ι k,ι l,ι n,μ x.mr,υ x.ty,φ x.sq,ω x.st,ω x.sc,a,μ x.has,φ x.pr,b,c]⟩
instance (k:Int) (l:Int) (n:Int) (x:Pk) (a:Value) (b:Value) (c:Value):CoeDep Mm (Γr k l n x a b c) Value:=⟨θ #[ι k,ι l,ι n,μ x.mr,υ x.ty,φ x.sq,ω x.st,ω x.sc,a,μ x.has,φ x.pr,b,c]⟩
theorem XV {P:Program} {w:World} {o:Oper} {a:Act} {C:World->Prop} {K:Act->World->Prop} (s x:Operand) (t:TypeId)
  (ah:o.op= .call {callee:= .builtin .append,args:= #[s,x],argTypes:= #[t,t]})
  (base:Nat) (e:TypeId) (i:TypeInfo) (z:Value) (bytes:Nat) (ao:P.underlying t=some (.slice e)) (hi:P.info? e=some i) (N:i.zero=some z)
  (ai:i.size=1) (aa:i.bytes=bytes) (ad:z.cells.size=1)
  (v:Value) (k:IntKind) (l:List Int) (am:a.eval s=v) (ar:w.ownsRow base e 1 v l.length (l.map (Value.int k)))
  (G:Addr) (cap:Nat) (d:List Int) (au:a.eval x= δ (some G) d.length cap) (aq:SlI k w (δ (some G) d.length cap) d)
  (U:(l.length+d.length)* bytes<=140737488355328) (az:1<=bytes) (ab:base<=w.heap.size)
  (h: ∀v' w',w'.ownsRow base e 1 v' (l++d).length ((l++d).map (Value.int k))->w.grownBy w' v.ownBlock->(v'.ownBlock=v.ownBlock∨v'.ownBlock=some w.heap.size)->C w'/\K (a.put o.dst v') w'):jn P C o a w K:=by
 have al:l.length+d.length<=maxLen:=by
  have:=Nat.le_mul_of_pos_right (l.length+d.length) (show 0<bytes by omega);unfold maxLen;omega
 obtain⟨aD,aC,af,ax,O,aA,aB,ay⟩:=aq;cases af
 obtain⟨v',w',aj,av,ap,_,an⟩:=run_append_own_at (P:=P) w base t o.type e i z 1 bytes ao hi N ai aa ad ζ v l.length (l.map (Value.int k)) ar G d.length cap (d.map (Value.int k)) η (by
  intro j u J;rw[List.getElem?_map] at J;obtain⟨y,I,rfl⟩:=Option.map_eq_some_iff.1 J;obtain⟨Y,aw⟩:=List.getElem?_eq_some_iff.1 I;obtain⟨b,H,M,_,ag⟩:=O j Y;simp only[Option.some.injEq] at M;subst M;have ak:(⟨b,H,none⟩:Addr).add j=⟨b,H+j,none⟩:=by
   unfold Addr.add;split
   ·rename_i ae;subst ae;rfl
   ·rfl
  rw[ak,ag,List.getD_eq_getElem?_getD,I];rfl) (by
  intro u ac;obtain⟨y,_,rfl⟩:=List.mem_map.1 ac
  rfl) al U ab
 unfold jn execOp;simp only[ah,resolve,invoke,builtin,Sem.run_bind,Sem.run_pure,Result.andThen_ok,List.map_toArray,List.map_cons,List.map_nil,am,au,aj];exact h v' w' (by simpa using av) ap an
theorem XU {P:Program} {w:World} {o:Oper} {a:Act} {C:World->Prop} {K:Act->World->Prop} (s x:Operand) (t:TypeId)
  (I:o.op= .call {callee:= .builtin .append,args:= #[s,x],argTypes:= #[t,t]})
  (base:Nat) (e:TypeId) (i:TypeInfo) (z:Value) (bytes:Nat) (N:P.underlying t=some (.slice e)) (hi:P.info? e=some i) (U:i.zero=some z)
  (ah:i.size=1) (ab:i.bytes=bytes) (ac:z.cells.size=1)
  (v:Value) (k:IntKind) (l:List Int) (M:a.eval s=v) (G:w.ownsRow base e 1 v l.length (l.map (Value.int k)))
  (J:Value) (d:List Int) (H:a.eval x=J) (O:SlI k w J d)
  (Y:(l.length+d.length)* bytes<=140737488355328) (aj:1<=bytes) (aa:base<=w.heap.size)
  (h: ∀v' w',w'.ownsRow base e 1 v' (l++d).length ((l++d).map (Value.int k))->w.grownBy w' v.ownBlock->(v'.ownBlock=v.ownBlock∨v'.ownBlock=some w.heap.size)->C w'/\K (a.put o.dst v') w'):jn P C o a w K:=by
 have al:=O;obtain⟨af,cap,rfl,ao,an,ap,aq,ai⟩:=O;cases af with
 | some ad=>exact XV s x t I base e i z bytes N hi U ah ab ac v k l M G ad cap d H al Y aj aa h
 | none=>
  have ae:cap=0:=ai rfl;subst ae;have ak:d=[]:=List.eq_nil_of_length_eq_zero τ;subst ak;have ag:=run_append_owned_none (P:=P) (w:=w) base t o.type e i 1 N hi v l.length (l.map (Value.int k)) G;have am:=h v w (by simpa using G) ⟨rfl,rfl,rfl,Nat.le_refl _,λ_ _ _=>rfl⟩ (Or.inl rfl);simp only[List.length_nil] at H;unfold jn execOp;simp only[I,resolve,invoke,builtin,Sem.run_bind,Sem.run_pure,Result.andThen_ok,List.map_toArray,List.map_cons,List.map_nil,M,H,ag];exact am
inductive Tr where
 | done
 | op (k:Nat) (b:Bool) (t:Tr)
 | br (ks:List Nat) (f:Nat->Tr)
def Tr.has:Nat->Tr->Bool
 | 0,.done=>true
 | n+1,.op _ _ t=>t.has n
 | n+1,.br ks f=>ks.all λk=>(f k).has n
 | _,_=>false
section
variable {P:Program} {ops:Array Oper} {md:Region.Mode} {C:World->Prop}
def trB (md:Region.Mode) (ops:Array Oper) (T:Nat):Tr->Array Bool->Bool
 | .done,listed=>(Region.ready md ops listed).isEmpty
 | .op k true t,listed=>decide (k<ops.size)&&decide (Region.ready md ops listed=[k])&&trB md ops T t (listed.setIfInBounds k true)
 | .op k false t,listed=>decide (k<ops.size)&&(Region.ready md ops listed).contains k&&Region.free md ops listed k&&((ops[k]?).map (JU ·.op)).getD false&&Wq md ops T k&&trB md ops T t (listed.setIfInBounds k true)
 | .br ks f,listed=> !ks.isEmpty&&decide (Region.ready md ops listed=ks)&&ks.all λk=>decide (k<ops.size)&&trB md ops T (f k) (listed.setIfInBounds k true)
def zk (P:Program) (ops:Array Oper) (T:Nat) (C:World->Prop) (Q:Act->World->Prop):Tr->Act->World->Prop
 | .done,a,w=>Q a w
 | .op k true t,a,w=>if Region.wanted (ops[k]?.getD default) (yielded ops a.tmps) then jn P (Dem T C k) (ops[k]?.getD default) a w (zk P ops T C Q t) else C w/\zk P ops T C Q t (a.put (ops[k]?.getD default).dst undef) w
 | .op k false t,a,w=>C w/\if Region.wanted (ops[k]?.getD default) (yielded ops a.tmps) then (ops[k]?.getD default).quiet P a C (λa'=>zk P ops T C Q t a' w) else zk P ops T C Q t (a.put (ops[k]?.getD default).dst undef) w
 | .br ks f,a,w=> ∀k∈ks,if Region.wanted (ops[k]?.getD default) (yielded ops a.tmps) then jn P (Dem T C k) (ops[k]?.getD default) a w (zk P ops T C Q (f k)) else C w/\zk P ops T C Q (f k) (a.put (ops[k]?.getD default).dst undef) w
theorem yQ {T:Nat} {Q:Act->World->Prop} (M:Region.noSelect ops=true): ∀(n:Nat) (t:Tr) (listed:Array Bool) (a:Act) (w:World),t.has n=true->
  trB md ops T t listed=true->zk P ops T C Q t a w->Qp P md ops T C Q n listed a w
 | 0,.done,_,_,_,_,hB,h=>⟨by simpa [trB] using hB,h⟩
 | 0,.op ..,_,_,_,hh,_,_=>by simp[Tr.has] at hh
 | 0,.br ..,_,_,_,hh,_,_=>by simp[Tr.has] at hh
 | _+1,.done,_,_,_,hh,_,_=>by simp[Tr.has] at hh
 | n+1,.op k true t,listed,a,w,hh,hB,h=>by
  simp only[trB,Bool.and_eq_true,decide_eq_true_eq] at hB;obtain⟨⟨N,J⟩,I⟩:=hB;have H:ops[k]? =some (ops[k]?.getD default):=by simp[N]
  generalize ops[k]?.getD default=o at H;refine⟨λG=>(by rw[J] at G;cases G),λi hi=> ?_⟩;rw[J] at hi;obtain rfl:i=k:=by simpa using hi
  unfold yn;unfold zk at h;simp only[H,Option.getD_some] at h ⊢;split
  ·rename_i d;rw[if_pos d] at h;exact wj (λa' w' _ O=>yQ M n t _ a' w' hh I O) h
  ·rename_i d;rw[if_neg d] at h;exact⟨yF h.1,yQ M n t _ _ w hh I h.2⟩
 | n+1,.op k false t,listed,a,w,hh,hB,h=>by
  simp only[trB,Bool.and_eq_true,decide_eq_true_eq] at hB;obtain⟨⟨⟨⟨⟨N,J⟩,aa⟩,U⟩,ae⟩,I⟩:=hB;have H:ops[k]? =some (ops[k]?.getD default):=by simp[N]
  generalize ops[k]?.getD default=o at H;rw[H] at U;simp only[Option.map_some,Option.getD_some] at U;unfold zk at h;simp only[H,Option.getD_some] at h;obtain⟨ac,h⟩:=h;obtain⟨v,af,ad⟩: ∃v,gp P ops C o v a/\zk P ops T C Q t (a.put o.dst v) w:=by
   by_cases d:Region.wanted o (yielded ops a.tmps)=true
   ·rw[if_pos d] at h;exact wI U d h
   ·rw[if_neg d] at h;exact⟨undef,.inr ⟨by simpa using d,rfl⟩,h⟩
  exact gU H (Region.noSelect_spec M) (Xw ae) n listed a w ac (Region.free_spec H aa) (by simpa using J) af
   (yQ M n t _ _ w hh I ad)
 | n+1,.br ks f,listed,a,w,hh,hB,h=>by
  simp only[trB,Bool.and_eq_true,decide_eq_true_eq,List.all_eq_true] at hB;obtain⟨⟨ab,J⟩,I⟩:=hB;simp only[Tr.has,List.all_eq_true] at hh;refine⟨λG=>(by rw[J] at G;subst G;simp at ab),λi hi=> ?_⟩
  ·rw[J] at hi;have N:=(I i hi).1;have Y:=(I i hi).2;have G:=h i hi;have H:ops[i]? =some (ops[i]?.getD default):=by simp[N]
   generalize ops[i]?.getD default=o at H;unfold yn;simp only[H,Option.getD_some] at G ⊢;split
   ·rename_i d;rw[if_pos d] at G;exact wj (λa' w' _ O=>yQ M n (f i) _ a' w' (hh i hi) Y O) G
   ·rename_i d;rw[if_neg d] at G;exact⟨yF G.1,yQ M n (f i) _ _ w (hh i hi) Y G.2⟩
end
section
variable {P:Program} {C:World->Prop} {l:List Oper} {T:Nat} {Q:Act->World->Prop} {k:Nat} {b:Bool} {o:Oper} {t:Tr} {a:Act} {w:World}
theorem zg (h:Q a w):zk P l.toArray T C Q .done a w:=h
theorem qH (H:l[k]? =some o) (d:Region.wanted o (yielded l.toArray a.tmps)=true) (G:C w) (h: ∀K:Act->Prop,(∀a,zk P l.toArray T C Q t a w->K a)->o.quiet P a C K):zk P l.toArray T C Q (.op k false t) a w:=by
 unfold zk;simp only[List.getElem?_toArray,H,Option.getD_some];rw[if_pos d];exact⟨G,h _ (λa h=>h)⟩
theorem jg (H:l[k]? =some o) (d:Region.wanted o (yielded l.toArray a.tmps)=false) (G:C w) (h:zk P l.toArray T C Q t (a.put o.dst undef) w):zk P l.toArray T C Q (.op k b t) a w:=by
 cases b
 all_goals
  unfold zk;simp only[List.getElem?_toArray,H,Option.getD_some];rw[if_neg (by rw[d];exact Bool.false_ne_true)];exact⟨G,h⟩
theorem qO (G:l[k]? =some o) (d:Region.wanted o (yielded l.toArray a.tmps)=true) (h: ∀K:Act->World->Prop,(∀a w,zk P l.toArray T C Q t a w->K a w)->jn P C o a w K):zk P l.toArray T C Q (.op k true t) a w:=by
 unfold zk;simp only[List.getElem?_toArray,G,Option.getD_some];rw[if_pos d];exact zm (λ_ h=>yF h) (h _ λa w h=>h)
theorem wP {i j:Nat} {t':Tr} (G:i≠j) (hi:zk P l.toArray T C Q (.op i true t) a w) (H:zk P l.toArray T C Q (.op j true t') a w):zk P l.toArray T C Q (.br [i,j] λk=>if k=i then t else t') a w:=by
 unfold zk at *;intro k d;simp at d;rcases d with rfl | rfl
 ·simpa using hi
 ·have: ¬k=i:=λe=>G e.symm
  simpa [this] using H
end
theorem gT {P:Program} {id:Nat} {Q:Exit->Act->World->Prop} {a:Act} {w:World} {l:List Oper} {C:World->Prop} (T:Nat) (t:Tr) (I:P.follows .mixedOrders=true)
  (d:(Region.noSelect l.toArray&&trB .any l.toArray T t (Array.replicate l.length false)&&t.has l.length)=true)
  (h:zk P l.toArray T C (Q .normal) t a (w.drewN 1)):(Code.region id l.toArray true).wp P Q a w:=by
 simp only[Bool.and_eq_true] at d;obtain⟨⟨J,M⟩,G⟩:=d;refine wp_region_any I (wT (T:=T) (C:=C) (Q:=Q .normal) (λ_ _ h=>h) _ _ _ _ ?_);have H:l.toArray.size=l.length:=by simp
 rw[H];exact yQ J _ t _ a _ G M h
theorem zB {P:Program} {id:Nat} {Q:Exit->Act->World->Prop} {a:Act} {w:World} {l:List Oper} (d:World) (T:Nat) (t:Tr) (H:P.follows .mixedOrders=true)
  (G:(Region.noSelect l.toArray&&trB .any l.toArray T t (Array.replicate l.length false)&&t.has l.length)=true)
  (h:zk P l.toArray T (λw'=> ∃x:qt d,w'=x.w') (Q .normal) t a (w.drewN 1)):(Code.region id l.toArray true).wp P Q a w:=
 gT (C:=λw'=> ∃x:qt d,w'=x.w') T t H G h
theorem wC {P:Program} {id:Nat} {Q:Exit->Act->World->Prop} {a:Act} {w:World} {l:List Oper} (S:Nat->Prop) (d:World) (T:Nat) (t:Tr) (H:P.follows .mixedOrders=true)
  (G:(Region.noSelect l.toArray&&trB .any l.toArray T t (Array.replicate l.length false)&&t.has l.length)=true)
  (h:zk P l.toArray T (λw'=> ∃x:qz S d,w'=x.w') (Q .normal) t a (w.drewN 1)):(Code.region id l.toArray true).wp P Q a w:=
 gT (C:=λw'=> ∃x:qz S d,w'=x.w') T t H G h
section
open Go.ChangeShapes Go.WideShapes Go.ChangeAt Go.RowKit
theorem Gb {w:World} {a:Addr} {v:Value} (h:w.cell? a=some v):a.spot=none/\a.block<w.heap.size:=by
 unfold World.cell? at h;split at h
 ·rename_i c t f G;split at h
  ·cases h
  ·rename_i d;refine⟨by simpa using d, ?_⟩;rcases Nat.lt_or_ge a.block w.heap.size with h' | h'
   ·exact h'
   ·simp[Array.getElem?_eq_none h'] at G
 ·cases h
theorem Byt.of_wf {l:List Int} (h: ∀n∈l,(Lit.int .u8 n).wf=true):Byt l:=by
 intro i;rw[List.getD_eq_getElem?_getD];by_cases hi:i<l.length
 ·rw[List.getElem?_eq_getElem hi,Option.getD_some];exact bounds_u8 (h _ (List.getElem_mem hi))
 ·rw[List.getElem?_eq_none τ];simp
end
section
open Go.ChangeShapes Go.WideShapes Go.Deep
abbrev qL (α:Type):=World->List Value->α->Prop
def jC (P:Program) (t:TypeId) {α:Type} (R:qL α):Prop:=
 ∀(H:Type) (enc:TypeId×Value->H) (w:World) (base:Nat) (spare:Nat->Bool) (held:Bool) (fuel:Nat) (cs:List Value) (x:DataW H×List MemPlace),
  DataW.trod enc P w base spare held fuel t cs=some x-> ∃y,R w cs y
def QQ {α:Type} (R:qL α):Prop:= ∀(w w':World) (cs:List Value) (y:α),qa w w'->R w cs y->R w' cs y
def yW (k:IntKind):qL Int:=λ_ cs n=>cs=[.int k n]/\(Lit.int k n).wf=true
def DS:qL Bool:=λ_ cs b=>cs=[.bool b]
def Gp:qL Unit:=λ_ cs _=>cs=[]
def zf {α β:Type} (n:Nat) (R:qL α) (Q:qL β):qL (α×β):=λw cs y=>R w (cs.take n) y.1/\Q w (cs.drop n) y.2
def LK {α:Type} (m n:Nat) (R:qL α):qL (List α):=λw cs L=>cs.length=m* n/\L.length=m/\ ∀i (hi:i<L.length),R w ((cs.drop (i* n)).take n) L[i]
def SlP {α:Type} (n:Nat) (R:qL α) (w:World) (v:Value) (L:List α):Prop:=
 ∃oa cap,v= .slice oa L.length cap/\(L.length:Int)<=9223372036854775807/\
  (∀i (hi:i<L.length),∃b off cs,oa=some ⟨b,off,none⟩/\b<w.heap.size/\cs.length=n/\(∀j,j<n->w.cell? ⟨b,off+i* n+j,none⟩=cs[j]?)/\R w cs L[i])/\
  L.length<=cap/\cap<=maxLen/\(oa=none->cap=0)
def RSl {α:Type} (n:Nat) (R:qL α):qL (List α):=λw cs L=> ∃v,cs=[v]/\SlP n R w v L
theorem SlP.keep {α:Type} {n:Nat} {R:qL α} {w w':World} {v:Value} {L:List α} (U:QQ R) (h:SlP n R w v L) (m:qa w w'):SlP n R w' v L:=by
 obtain⟨N,cap,I,ab,J,H⟩:=h;refine⟨N,cap,I,ab,λi hi=> ?_,H⟩;obtain⟨b,G,cs,e,d,M,O,aa⟩:=J i hi;exact⟨b,G,cs,e,Nat.lt_of_lt_of_le d m.size,M,λj Y=>by rw[m.cells b _ d];exact O j Y,U _ _ _ _ m aa⟩
section
variable {P:Program} {t e:TypeId}
theorem jC.int {k:IntKind} (G:P.underlying t=some (.int k)):jC P t (yW k):=λ_ _ _ _ _ _ _ _ _ h=>by
 obtain⟨n,rfl,_,d⟩:=DataW.trod_int G h;exact⟨n,rfl,d⟩
theorem jC.bool (d:P.underlying t=some .bool):jC P t DS:=λ_ _ _ _ _ _ _ _ _ h=>by
 obtain⟨n,rfl,_⟩:=DataW.trod_bool d h;exact⟨n,rfl⟩
theorem SlP.nil {α:Type} (n:Nat) (R:qL α) (w:World):SlP n R w (δ none 0 0) []:=⟨none,0,rfl,η,λi hi=>by simp at hi,η,by unfold maxLen;omega,λ_=>rfl⟩
theorem uE {α:Type} {p:Nat->α->Prop}: ∀(n:Nat),(∀i,i<n-> ∃y,p i y)-> ∃L:List α,L.length=n/\ ∀i (hi:i<L.length),p i L[i]
 | 0,_=>⟨[],rfl,λi hi=>by simp at hi⟩
 | n+1,h=>by
  obtain⟨L,d,G⟩:=uE n (λi hi=>h i τ);obtain⟨y,H⟩:=h n τ;refine⟨L++[y],by simp[d],λi hi=> ?_⟩;simp at hi;by_cases e:i<L.length
  ·rw[List.getElem_append_left e];exact G i e
  ·obtain rfl:i=L.length:=by omega
   simp[d,H]
theorem jC.sl {α:Type} {n:Nat} {R:qL α} (ap:P.underlying t=some (.slice e)) (ao:P.cellsOf e=n) (aC:1<=n) (h:jC P e R):jC P t (RSl n R):=λam enc w base aw ae ay cs x aq=>by
 rcases open_slice ap aq with ⟨rfl,_⟩ | ⟨a,ab,cap,m,av,D,az,rfl,aD,ar,N,ag,_,hi⟩
 ·exact⟨[],_,rfl,SlP.nil n R w⟩
 ·have aB:ab<=m:=by rw[ag];split<;>omega
  rw[ao] at hi
  obtain⟨L,I,U⟩:=uE (p:=λi y=> ∃cs,w.cells? base (a.add (i* n)) n=some cs/\R w cs y) ab (λi J=>by
   obtain⟨cs',H,ax⟩:=hi i τ;obtain⟨y,ac⟩:=h am enc w base aw ae av cs' _ ax
   exact⟨y,cs',H,ac⟩)
  refine⟨L,_,rfl,some a,cap,by rw[I],by rw[I];unfold maxLen at N;omega,λi J=> ?_,by rw[I];exact ar,N,λh=>by cases h⟩;obtain⟨cs',H,ai⟩:=U i J;obtain⟨_,au,Y⟩:=World.cells?_some H;have G:=Y 0 τ;rw[List.getElem?_eq_getElem τ] at G;have aj:=Gb G;obtain⟨b,d,sp⟩:=a;have aa: ∀k,(⟨b,d,sp⟩:Addr).add k=⟨b,d+k,if k=0 then sp else none⟩:=by
   intro k;unfold Addr.add;split
   ·rename_i ak;subst ak;rfl
   ·rfl
  have af:b<w.heap.size:=by
   have:=aj.2;rw[aa] at this;unfold Addr.add at this;exact this
  have ad:sp=none:=by
   obtain⟨aE,an,_⟩:=U 0 τ;obtain⟨_,aA,al⟩:=World.cells?_some an;have M:=al 0 τ;rw[List.getElem?_eq_getElem τ] at M;have O:=(Gb M).1;simp[Addr.add] at O;exact O
  subst ad;refine⟨b,d,cs',rfl,af,au,λj ah=> ?_,ai⟩;rw[<-Y j ah,aa];have:(⟨b,d+i* n,if i* n=0 then none else none⟩:Addr)=⟨b,d+i* n,none⟩:=by split<;>rfl
  rw[this];unfold Addr.add;split
  ·rename_i G;subst G;rfl
  ·rfl
def jH (P:Program) (fs:List Field) (off:Nat) {α:Type} (R:qL α):Prop:=
 ∀(H:Type) (enc:TypeId×Value->H) (w:World) (base:Nat) (spare:Nat->Bool) (held:Bool) (n total:Nat) (cs:List Value),cs.length=total->total=off+(fs.map λf=>P.cellsOf f.type).sum->
  (∀f∈fs,∃x,DataW.trod enc P w base spare held n f.type ((cs.drop f.offset).take (P.cellsOf f.type))=some x)-> ∃y,R w (cs.drop off) y
theorem jH.nil {G:Nat}:jH P [] G Gp:=λ_ _ _ _ _ _ _ _ cs H d _=>⟨(),by
 simp at d
 exact List.drop_eq_nil_of_le τ⟩
theorem jH.cons {α β:Type} {f:Field} {O:List Field} {d n:Nat} {R:qL α} {Q:qL β} (aa:f.offset=d) (H:P.cellsOf f.type=n) (h:jC P f.type R) (k:jH P O (d+n) Q):jH P (f::O) d (zf n R Q):=λG enc w base J N m ae cs Y ac I=>by
 obtain⟨x,ad⟩:=I f η;obtain⟨y,M⟩:=h G enc w base J N m _ x ad;obtain⟨z,U⟩:=k G enc w base J N m ae cs Y (by rw[ac];simp[H];omega) (λg ab=>I g (by simp[ab]));rw[aa,H] at M;exact⟨(y,z),M,by rw[List.drop_drop];exact U⟩
theorem jC.struct {α:Type} {d:Array Field} {R:qL α} (O:P.underlying t=some (.struct d)) (N:P.cellsOf t=(d.toList.map λf=>P.cellsOf f.type).sum) (h:jH P d.toList 0 R):jC P t R:=λH enc w base M Y ac cs x I=>by
 obtain⟨xs,n,_,_,J,ad,G⟩:=DataW.trod_struct O I
 obtain⟨y,U⟩:=h H enc w base M Y n _ cs rfl (by rw[J,N];omega) (λf ab=>by
  obtain⟨i,hi,rfl⟩:=List.mem_iff_getElem.1 ab;have aa:i<d.size:=by simpa using hi
  have:=G i d[i] (by simp[aa]);rw[List.getElem?_eq_getElem τ] at this
  exact⟨_,by simpa using this⟩)
 exact⟨y,by simpa using U⟩
theorem jC.arr {α:Type} {m n:Nat} {R:qL α} (O:P.underlying t=some (.array m e)) (H:P.cellsOf e=n) (N:P.cellsOf t=m* n) (h:jC P e R):jC P t (LK m n R):=λG enc w base aa Y ac cs x I=>by
 obtain⟨xs,U,_,_,M,ad,d⟩:=DataW.trod_array O I;rw[H] at d
 obtain⟨L,ab,J⟩:=uE (p:=λi y=>R w ((cs.drop (i* n)).take n) y) m (λi hi=>by
  have:=d i hi;rw[List.getElem?_eq_getElem τ] at this
  exact h G enc w base aa Y U _ _ this)
 exact⟨L,by rw[M,N],ab,J⟩
end
theorem SlP.ints {k:IntKind} {w:World} {v:Value} {L:List Int} (h:SlP 1 (yW k) w v L):SlI k w v L/\ ∀n∈L,(Lit.int k n).wf=true:=by
 obtain⟨aa,cap,U,ab,G,O⟩:=h;refine⟨⟨aa,cap,U,ab,λi hi=> ?_,O⟩,λn N=> ?_⟩
 ·obtain⟨b,d,cs,e,I,Y,H,J,_⟩:=G i hi;refine⟨b,d,e,I, ?_⟩;have:=H 0 τ;rw[J] at this
  simpa [hi] using this
 ·obtain⟨i,hi,rfl⟩:=List.mem_iff_getElem.1 N;obtain⟨b,d,cs,e,I,Y,H,J,M⟩:=G i hi;exact M
end
def jw {α:Type} (R:qL α) (D:Nat->Prop) (w:World) (cs:List Value) (y:α):Prop:= ∀w',qg D w w'->R w' cs y
section
variable {α:Type} {R:qL α} {D D':Nat->Prop} {w w':World} {cs:List Value} {y:α}
theorem jw.read (h:jw R D w cs y):R w cs y:=h w (qg.refl D w)
theorem jw.step (h:jw R D w cs y) (a:qg D w w'):jw R D w' cs y:=λ_ b=>h _ (a.trans b)
theorem jw.on (h:jw R D w cs y) (a:qa w w'):jw R D w' cs y:=h.step (qg.of_more a)
theorem jw.other (h:jw R D w cs y) (k: ∀b,D' b->D b∨w.heap.size<=b):jw R D' w cs y:=λw' a=>
 h w' ⟨a.os,a.tape,a.output,a.size,λb G d=>a.block b G (λx=>by
  rcases k b x with e | e
  ·exact d e
  ·omega)⟩
theorem jw.old (d:QQ R) (h:R w cs y) (k: ∀b,D b->w.heap.size<=b):jw R D w cs y:=λw' a=>
 d w w' cs y ⟨a.os,a.tape,a.output,a.size,λb G=>a.block b G (λx=>by have:=k b x;omega)⟩ h
end
theorem SlI.off {k:IntKind} {D:Nat->Prop} {w w':World} {v:Value} {l:List Int} (h:SlI k w v l) (M: ∀b,v.ownBlock=some b-> ¬D b) (a:qg D w w'):SlI k w' v l:=by
 obtain⟨I,cap,rfl,N,H,G⟩:=h;refine⟨I,cap,rfl,N,λi hi=> ?_,G⟩;obtain⟨b,off,rfl,d,J⟩:=H i hi;exact⟨b,off,rfl,Nat.lt_of_lt_of_le d a.size,by rw[a.cells b _ d (M b rfl)];exact J⟩
theorem SlP.of_ints {k:IntKind} {w:World} {v:Value} {l:List Int} (h:SlI k w v l) (G: ∀n∈l,(Lit.int k n).wf=true):SlP 1 (yW k) w v l:=by
 obtain⟨M,cap,O,U,J,I⟩:=h;refine⟨M,cap,O,U,λi hi=> ?_,I⟩;obtain⟨b,H,e,N,d⟩:=J i hi;refine⟨b,H,[.int k l[i]],e,N,rfl,λj Y=> ?_,rfl,G _ (List.getElem_mem hi)⟩;obtain rfl:j=0:=by omega
 simp at d ⊢;rw[d];simp[hi]
structure je {α:Type} (n:Nat) (R:qL α) (D:Nat->Prop) (w:World) (base e:Nat) (v:Value) (L:List α):Prop where
 row: ∃xs,w.ownsRow base e n v L.length xs/\ ∀i (hi:i<L.length),jw R (λk=>D k∨v.ownBlock=some k) w ((xs.drop (i* n)).take n) L[i]
 apart: ∀b,v.ownBlock=some b-> ¬D b
section
variable {α:Type} {n:Nat} {R:qL α} {D:Nat->Prop} {w w':World} {base e:Nat} {v:Value} {L:List α}
theorem je.nil (n:Nat) (R:qL α) (D:Nat->Prop) (w:World) (base e:Nat):je n R D w base e (δ none 0 0) []:=
 ⟨⟨[],World.ownsRow_nil w base e n,λi hi=>by simp at hi⟩,λb h=>by cases h⟩
theorem je.step (h:je n R D w base e v L) (a:qg D w w'):je n R D w' base e v L:=by
 obtain⟨⟨xs,⟨J,I⟩,G⟩,d⟩:=h;refine⟨⟨xs,⟨J, ?_⟩,λi hi=>(G i hi).step (a.mono λk H=>Or.inl H)⟩,d⟩;rcases I with h | ⟨g,cap,cur,e1,hb,hg,rest⟩
 ·exact Or.inl h
 ·exact Or.inr ⟨g,cap,cur,e1,hb,a.blk hg (d g (by rw[e1];rfl)),rest⟩
theorem je.on (h:je n R D w base e v L) (a:qa w w'):je n R D w' base e v L:=h.step (qg.of_more a)
theorem je.shape (h:je n R D w base e v L): ∃oa m cap,v= δ oa m cap/\m=L.length/\L.length<=cap:=by
 obtain⟨⟨xs,G,_⟩,_⟩:=h;rcases G.2 with ⟨rfl,e⟩ | ⟨b,cap,cur,rfl,_,_,d,_⟩
 ·exact⟨none,0,0,rfl,τ,τ⟩
 ·exact⟨_,_,cap,rfl,rfl,d⟩
theorem je.lt (h:je n R D w base e v L) {b:Nat} (d:v.ownBlock=some b):b<w.heap.size:=by
 obtain⟨⟨xs,G,_⟩,_⟩:=h;rcases G.2 with ⟨rfl,_⟩ | ⟨I,cap,cur,rfl,_,H,_⟩
 ·cases d
 ·obtain rfl:I=b:=by injection d
  exact lt_of_block H
theorem je.ge (h:je n R D w base e v L) {b:Nat} (d:v.ownBlock=some b):base<=b:=by
 obtain⟨⟨xs,G,_⟩,_⟩:=h;rcases G.2 with ⟨rfl,_⟩ | ⟨I,cap,cur,rfl,H,_⟩
 ·cases d
 ·obtain rfl:I=b:=by injection d
  exact H
theorem je.sl (h:je n R D w base e v L) (aa:0<n):SlP n R w v L:=by
 obtain⟨⟨xs,⟨O,Y⟩,H⟩,_⟩:=h;rcases Y with ⟨rfl,I⟩ | ⟨g,cap,cur,rfl,ab,d,J,G,ac,U⟩
 ·obtain rfl:L=[]:=List.eq_nil_of_length_eq_zero I;exact SlP.nil n R w
 ·refine⟨_,cap,rfl,by unfold maxLen at G;omega,λi hi=>⟨g,0,_,rfl,lt_of_block d, ?_,λj M=> ?_,(H i hi).read⟩,J,G,λh=>by cases h⟩
  ·have N:i* n+n<=L.length* n:=by
    have:(i+1)* n<=L.length* n:=Nat.mul_le_mul_right n hi;rw[Nat.add_mul,Nat.one_mul] at this;exact this
   rw[List.length_take,List.length_drop,O];omega
  ·have N:i* n+n<=L.length* n:=by
    have:(i+1)* n<=L.length* n:=Nat.mul_le_mul_right n hi;rw[Nat.add_mul,Nat.one_mul] at this;exact this
   rw[Nat.zero_add,cell_of_row w g _ cur e (0,0) d,List.getElem?_take,if_pos M,List.getElem?_drop,<-U,List.getElem?_take,if_pos τ];simp
end
theorem uI {P:Program} (w:World) (base:Nat) (t Y e:TypeId) (i:TypeInfo) (z:Value) (n bytes:Nat) (aw:P.underlying t=some (.slice e)) (hi:P.info? e=some i) (aa:i.zero=some z)
  (al:i.size=n) (ad:i.bytes=bytes) (ai:z.cells.size=n) (av:0<n)
  {α:Type} {R:qL α} {D:Nat->Prop} (v:Value) (L:List α) (ay:je n R D w base e v L)
  (B:Nat) (cs:List Value) (y:α) (ax:cs.length=n) (ap: ∀j u,cs[j]? =some u->w.cell? ⟨B,j,none⟩=some u) (ar: ∀u∈cs,u.oneCell'=true)
  (ae:jw R (λk=>D k∨v.ownBlock=some k) w cs y) (ao: ∀b,D b->b<w.heap.size)
  (aA:1<=bytes) (ac:(L.length+1)* bytes<=140737488355328) (ag:base<=w.heap.size):
  ∃v' w',(Builtin.append_ #[t,t] Y #[v,δ (some ⟨B,0,none⟩) 1 1]).run P w= .ok v' w'/\je n R D w' base e v' (L++[y])/\w.grownBy w' v.ownBlock/\(v'.ownBlock=v.ownBlock∨v'.ownBlock=some w.heap.size):=by
 obtain⟨⟨xs,J,ab⟩,au⟩:=ay;have an:L.length+1<=maxLen:=by
  have:=Nat.le_mul_of_pos_right (L.length+1) (show 0<bytes by omega);unfold maxLen;omega
 obtain⟨v',w',ak,ah,G,_,d⟩:=run_append_own_at (P:=P) w base t Y e i z n bytes aw hi aa al ad ai av v L.length xs J ⟨B,0,none⟩ 1 1 cs (by rw[ax,Nat.one_mul]) (by
  intro j u am;have aq:(⟨B,0,none⟩:Addr).add j=⟨B,j,none⟩:=by
   unfold Addr.add;split
   ·rename_i aj;subst aj;rfl
   ·simp
  rw[aq];exact ap j u am) ar an ac ag
 have af: ∀k (M:k<(L++[y]).length),jw R (λk=>D k∨v.ownBlock=some k) w (((xs++cs).drop (k* n)).take n) (L++[y])[k]:=by
  intro k M;simp at M;by_cases e:k<L.length
  ·have aB:k* n+n<=L.length* n:=by
    have:(k+1)* n<=L.length* n:=Nat.mul_le_mul_right n e;rw[Nat.add_mul,Nat.one_mul] at this;exact this
   have az:=J.1;have O:((xs++cs).drop (k* n)).take n=(xs.drop (k* n)).take n:=by
    rw[List.drop_append_of_le_length τ,List.take_append_of_le_length (by rw[List.length_drop];omega)]
   rw[O,List.getElem_append_left e];exact ab k e
  ·obtain rfl:k=L.length:=by omega
   have O:((xs++cs).drop (L.length* n)).take n=cs:=by
    rw[List.drop_append_of_le_length (by rw[J.1];exact Nat.le_refl _),List.drop_eq_nil_of_le (by rw[J.1];exact Nat.le_refl _),List.nil_append];exact List.take_of_length_le τ
   rw[O]
   simpa using ae
 refine⟨v',w',ak,⟨⟨xs++cs,by simpa using ah,λk M w'' a'=> ?_⟩, ?_⟩,G,d⟩
 ·refine af k M w'' ⟨a'.os.trans G.os,a'.tape.trans G.tape,a'.output.trans G.output,Nat.le_trans G.size a'.size,λb H N=> ?_⟩;rw[a'.block b (Nat.lt_of_lt_of_le H G.size) ?_]
  ·exact G.block b H (λe=>N (Or.inr e.symm))
  ·rintro(I | I)
   ·exact N (Or.inl I)
   ·rcases d with d | d
    ·exact N (Or.inr (by rw[<-d];exact I))
    ·rw[d] at I;have:w.heap.size=b:=by injection I
     omega
 ·intro b H U;rcases d with d | d
  ·exact au b (by rw[<-d];exact H) U
  ·rw[d] at H;have:w.heap.size=b:=by injection H
   have:=ao b U;omega
theorem jN {P:Program} (w:World) {ops:Array Oper} {rest:List Oper} {o:Oper} {a:Act} {Q:Exit->Act->World->Prop} (H:o.guard=none) (s x:Operand) (t:TypeId)
  (U:o.op= .call {callee:= .builtin .append,args:= #[s,x],argTypes:= #[t,t]})
  (base:Nat) (e:TypeId) (i:TypeInfo) (z:Value) (n bytes:Nat) (ai:P.underlying t=some (.slice e)) (hi:P.info? e=some i) (d:i.zero=some z)
  (Y:i.size=n) (J:i.bytes=bytes) (O:z.cells.size=n) (ag:0<n)
  {α:Type} {R:qL α} {D:Nat->Prop} (v:Value) (L:List α) (ad:a.eval s=v) (al:je n R D w base e v L)
  (B:Nat) (cs:List Value) (y:α) (am:a.eval x= δ (some ⟨B,0,none⟩) 1 1) (ak:cs.length=n) (ab: ∀j u,cs[j]? =some u->w.cell? ⟨B,j,none⟩=some u) (af: ∀u∈cs,u.oneCell'=true)
  (M:jw R (λk=>D k∨v.ownBlock=some k) w cs y) (aa: ∀b,D b->b<w.heap.size)
  (ae:1<=bytes) (I:(L.length+1)* bytes<=140737488355328) (N:base<=w.heap.size)
  (h: ∀v' w',je n R D w' base e v' (L++[y])->w.grownBy w' v.ownBlock->(v'.ownBlock=v.ownBlock∨v'.ownBlock=some w.heap.size)->wpList P ops Q rest (a.put o.dst v') w'):wpList P ops Q (o::rest) a w:=by
 refine wpList_plain H λK G=> ?_
 obtain⟨v',w',ac,an,aj,ah⟩:=uI (P:=P) w base t o.type e i z n bytes ai hi d Y J O ag v L al B cs y ak ab af M aa ae I N;unfold Oper.wp execOp;simp only[U,resolve,invoke,builtin,Sem.run_bind,Sem.run_pure,Result.andThen_ok,List.map_toArray,List.map_cons,List.map_nil,ad,am,ac];exact G _ _ (h v' w' an aj ah)
theorem zK {P:Program} {w:World} {o:Oper} {a:Act} {C:World->Prop} {K:Act->World->Prop} (s x:Operand) (t:TypeId)
  (N:o.op= .call {callee:= .builtin .append,args:= #[s,x],argTypes:= #[t,t]})
  (base:Nat) (e:TypeId) (i:TypeInfo) (z:Value) (n bytes:Nat) (ag:P.underlying t=some (.slice e)) (hi:P.info? e=some i) (d:i.zero=some z)
  (O:i.size=n) (J:i.bytes=bytes) (M:z.cells.size=n) (ae:0<n)
  {α:Type} {R:qL α} {D:Nat->Prop} (v:Value) (L:List α) (ab:a.eval s=v) (aj:je n R D w base e v L)
  (B:Nat) (cs:List Value) (y:α) (ak:a.eval x= δ (some ⟨B,0,none⟩) 1 1) (ai:cs.length=n) (Y: ∀j u,cs[j]? =some u->w.cell? ⟨B,j,none⟩=some u) (ad: ∀u∈cs,u.oneCell'=true)
  (I:jw R (λk=>D k∨v.ownBlock=some k) w cs y) (U: ∀b,D b->b<w.heap.size)
  (ac:1<=bytes) (G:(L.length+1)* bytes<=140737488355328) (H:base<=w.heap.size)
  (h: ∀v' w',je n R D w' base e v' (L++[y])->w.grownBy w' v.ownBlock->(v'.ownBlock=v.ownBlock∨v'.ownBlock=some w.heap.size)->C w'/\K (a.put o.dst v') w'):jn P C o a w K:=by
 obtain⟨v',w',aa,al,ah,af⟩:=uI (P:=P) w base t o.type e i z n bytes ag hi d O J M ae v L aj B cs y ai Y ad I U ac G H;unfold jn execOp;simp only[N,resolve,invoke,builtin,Sem.run_bind,Sem.run_pure,Result.andThen_ok,List.map_toArray,List.map_cons,List.map_nil,ab,ak,aa];exact h v' w' al ah af
section
open Go.RowKit Go.ChangeShapes
structure PkS (w:World) (vs ve vp:Value) (p:Pk):Prop where
 s:SlI .u32 w vs p.ss
 e:SlI .u8 w ve p.ex
 l:SlI .u8 w vp p.pl
theorem PkS.keep {w w':World} {G d vp:Value} {p:Pk} (h:PkS w G d vp p) (m:qa w w'):PkS w' G d vp p:=⟨h.s.keep m,h.e.keep m,h.l.keep m⟩
structure uj (p:Pk):Prop where
 s:p.ss.length<=1000000
 e:p.ex.length<=1000000
 l:p.pl.length<=1000000
theorem Do (p:Pk) (H G vp:Value) (w:World) (h:PkS w H G vp p) (I:uj p):
  Calls prog 94 #[(Γq p H G vp)] w λe w'=>e= .returned (ι (ww p))/\qa w w':=by
 obtain⟨⟨os,ad,rfl,_⟩,⟨ac,ke,rfl,_⟩,⟨aa,J,rfl,_⟩⟩:=h;obtain⟨U,ab,N⟩:=I;have d:ww p=12+4* (p.ss.length:Int)+(p.pl.length:Int)+if p.has then 4+(p.ex.length:Int) else 0:=rfl
 rw[d];clear d;obtain⟨Y,M,sq,st,sc,ss,has,O,ex,pl⟩:=p;simp only at *;generalize ss.length=a at *;generalize ex.length=b at *;generalize pl.length=c at *;cases has with
 | true=>
  go_enter func94,ntmps94
  go_wp2;go_ret;exact⟨xV (by simp only[if_true];try omega),qa.alloc _ _⟩
 | false=>
  go_enter func94,ntmps94
  go_wp2;go_ret;exact⟨xV (by simp only[Bool.false_eq_true,if_false];try omega),qa.alloc _ _⟩
theorem gc (p:Pk) (af ad vp:Value) (w:World) (h:PkS w af ad vp p) (ah:uj p):
  Calls prog 47 #[(Γq p af ad vp)] w λe w'=>e= .returned (μ (jJ p))/\qa w w':=by
 have aa:=κ h;have H:=yq p;have Y:=κ (λw' am=>Do p af ad vp w' am ah);obtain⟨⟨os,ay,rfl,_⟩,⟨au,ke,rfl,al⟩,⟨aq,ao,rfl,_⟩⟩:=h;clear al;obtain⟨ar,d,aw⟩:=ah;obtain⟨aj,ae⟩:=ν (ww p);rw[ae] at H;have U:=κ ae;clear ae;obtain⟨R,ag⟩:=ν (jJ p);rw[ag] at H ⊢;clear ag;obtain⟨ap,ak,sq,st,sc,ss,ab,O,M,ax⟩:=p;simp only at *;have ai:M=[]↔M.length=0:=List.length_eq_zero_iff.symm;rw[ai] at H;clear ai;by_cases h1:ak<=127
 ·by_cases h2:(ss.length:Int)<=15
  ·by_cases I:ab=false/\ ¬(O=0)
   ·obtain⟨rfl,I⟩:=I
    have J:Hid (R=false):=κ (by
     cases R with
     | false=>rfl
     | true=>exact absurd ((H.1 rfl).2.2.1 rfl).1 I)
    have ac:(O != 0)=true:=by simpa using I
    clear H I
    go_enter func47,ntmps47
    go_wp2_with (go_at_call 94;(go_call Y.o _ (aa.o.keep (qa.alloc _ _)) as e w2 ⟨rfl,d⟩;rw[U.o];have G:=κ d;clear d))
    go_ret;exact⟨by rw[J.o];first | rfl | (simp;omega),by first | exact qa.alloc _ _ | exact(qa.alloc _ _).trans G.o⟩
   ·by_cases N:ab=false/\ ¬(M.length=0)
    ·obtain⟨rfl,N⟩:=N
     have J:Hid (R=false):=κ (by
      cases R with
      | false=>rfl
      | true=>exact absurd ((H.1 rfl).2.2.1 rfl).2 N)
     obtain rfl:O=0:=by
      by_cases e:O=0
      ·exact e
      ·exact absurd ⟨rfl,e⟩ I
     have ac:(0:Int)<(M.length:Int):=by omega
     clear H I N
     go_enter func47,ntmps47
     go_wp2_with (go_at_call 94;(go_call Y.o _ (aa.o.keep (qa.alloc _ _)) as e w2 ⟨rfl,d⟩;rw[U.o];have G:=κ d;clear d))
     go_ret;exact⟨by rw[J.o];first | rfl | (simp;omega),by first | exact qa.alloc _ _ | exact(qa.alloc _ _).trans G.o⟩
    ·by_cases h5:(M.length:Int)%4=0
     ·have an:((M.length:Int)).tmod 4=0:=by rw[Int.tmod_eq_emod_of_nonneg τ];exact h5
      by_cases h6:aj<=200
      ·have J:Hid (R=true):=κ (H.2 ⟨h1,h2,λe=>⟨by
        by_cases z:O=0
        ·exact z
        ·exact absurd ⟨e,z⟩ I,by
        by_cases z:M.length=0
        ·exact z
        ·exact absurd ⟨e,z⟩ N⟩,h5,h6⟩)
       clear H h5;cases ab with
       | true=>
        clear I N
        go_enter func47,ntmps47
        go_wp2_with (go_at_call 94;(go_call Y.o _ (aa.o.keep (qa.alloc _ _)) as e w2 ⟨rfl,d⟩;rw[U.o];have G:=κ d;clear d))
        go_ret;exact⟨by rw[J.o];first | rfl | (simp;omega),by first | exact qa.alloc _ _ | exact(qa.alloc _ _).trans G.o⟩
       | false=>
        obtain rfl:O=0:=by
         by_cases e:O=0
         ·exact e
         ·exact absurd ⟨rfl,e⟩ I
        have ac: ¬(0:Int)<(M.length:Int):=by
         by_cases e:M.length=0
         ·omega
         ·exact absurd ⟨rfl,e⟩ N
        clear I N
        go_enter func47,ntmps47
        go_wp2_with (go_at_call 94;(go_call Y.o _ (aa.o.keep (qa.alloc _ _)) as e w2 ⟨rfl,d⟩;rw[U.o];have G:=κ d;clear d))
        go_ret;exact⟨by rw[J.o];first | rfl | (simp;omega),by first | exact qa.alloc _ _ | exact(qa.alloc _ _).trans G.o⟩
      ·have J:Hid (R=false):=κ (by
        cases R with
        | false=>rfl
        | true=>exact absurd (H.1 rfl).2.2.2.2 h6)
       clear H h5;cases ab with
       | true=>
        clear I N
        go_enter func47,ntmps47
        go_wp2_with (go_at_call 94;(go_call Y.o _ (aa.o.keep (qa.alloc _ _)) as e w2 ⟨rfl,d⟩;rw[U.o];have G:=κ d;clear d))
        go_ret;exact⟨by rw[J.o];first | rfl | (simp;omega),by first | exact qa.alloc _ _ | exact(qa.alloc _ _).trans G.o⟩
       | false=>
        obtain rfl:O=0:=by
         by_cases e:O=0
         ·exact e
         ·exact absurd ⟨rfl,e⟩ I
        have ac: ¬(0:Int)<(M.length:Int):=by
         by_cases e:M.length=0
         ·omega
         ·exact absurd ⟨rfl,e⟩ N
        clear I N
        go_enter func47,ntmps47
        go_wp2_with (go_at_call 94;(go_call Y.o _ (aa.o.keep (qa.alloc _ _)) as e w2 ⟨rfl,d⟩;rw[U.o];have G:=κ d;clear d))
        go_ret;exact⟨by rw[J.o];first | rfl | (simp;omega),by first | exact qa.alloc _ _ | exact(qa.alloc _ _).trans G.o⟩
     ·have an:(((M.length:Int)).tmod 4==0)=false:=by
       rw[beq_eq_false_iff_ne,Int.tmod_eq_emod_of_nonneg τ];exact h5
      have av:((M.length:Int)%4==0)=false:=by rw[beq_eq_false_iff_ne];exact h5
      have J:Hid (R=false):=κ (by
       cases R with
       | false=>rfl
       | true=>exact absurd (H.1 rfl).2.2.2.1 h5)
      clear H h5;cases ab with
      | true=>
       clear I N
       go_enter func47,ntmps47
       go_wp2_with (go_at_call 94;(go_call Y.o _ (aa.o.keep (qa.alloc _ _)) as e w2 ⟨rfl,d⟩;rw[U.o];have G:=κ d;clear d))
       go_ret;exact⟨by rw[J.o];first | rfl | (simp;omega),by first | exact qa.alloc _ _ | exact(qa.alloc _ _).trans G.o⟩
      | false=>
       obtain rfl:O=0:=by
        by_cases e:O=0
        ·exact e
        ·exact absurd ⟨rfl,e⟩ I
       have ac: ¬(0:Int)<(M.length:Int):=by
        by_cases e:M.length=0
        ·omega
        ·exact absurd ⟨rfl,e⟩ N
       clear I N
       go_enter func47,ntmps47
       go_wp2_with (go_at_call 94;(go_call Y.o _ (aa.o.keep (qa.alloc _ _)) as e w2 ⟨rfl,d⟩;rw[U.o];have G:=κ d;clear d))
       go_ret;exact⟨by rw[J.o];first | rfl | (simp;omega),by first | exact qa.alloc _ _ | exact(qa.alloc _ _).trans G.o⟩
  ·have J:Hid (R=false):=κ (by
    cases R with
    | false=>rfl
    | true=>exact absurd (H.1 rfl).2.1 h2)
   have ac:(15:Int)<(ss.length:Int):=by omega
   clear H
   go_enter func47,ntmps47
   go_wp2_with (go_at_call 94;(go_call Y.o _ (aa.o.keep (qa.alloc _ _)) as e w2 ⟨rfl,d⟩;rw[U.o];have G:=κ d;clear d))
   go_ret;exact⟨by rw[J.o];first | rfl | (simp;omega),by first | exact qa.alloc _ _ | exact(qa.alloc _ _).trans G.o⟩
 ·have J:Hid (R=false):=κ (by
   cases R with
   | false=>rfl
   | true=>exact absurd (H.1 rfl).1 h1)
  clear H
  go_enter func47,ntmps47
  go_wp2_with (go_at_call 94;(go_call Y.o _ (aa.o.keep (qa.alloc _ _)) as e w2 ⟨rfl,d⟩;rw[U.o];have G:=κ d;clear d))
  go_ret;exact⟨by rw[J.o];first | rfl | (simp;omega),by first | exact qa.alloc _ _ | exact(qa.alloc _ _).trans G.o⟩
def Zd (b:List Int):Bool:=decide (2<=b.length)&&decide (192<=b.getD 1 0)&&decide (b.getD 1 0<=223)
theorem V3 (v:Value) (b:List Int) (w:World) (H:SlI .u8 w v b):
  Calls prog 15 #[v] w λe w'=>e= .returned (μ (Zd b))/\w=w':=by
 obtain⟨O,U,rfl,N,d,_⟩:=H;have G:Zd b=(decide (2<=b.length)&&decide (192<=b.getD 1 0)&&decide (b.getD 1 0<=223)):=rfl;rw[G];clear G;by_cases h2:2<=b.length
 ·obtain⟨J,M,rfl,aa,Y⟩:=d 1 τ;have I:(2:Int)<=(b.length:Int):=by omega
  rw[decide_eq_true h2];clear d;generalize b.getD 1 0=x at *;by_cases h3:192<=x
  ·by_cases h4:x<=223
   ·go_enter func15,ntmps15
    go_wp2;go_ret;simp[h3,h4]
   ·go_enter func15,ntmps15
    go_wp2;go_ret;simp[h3,h4]
  ·go_enter func15,ntmps15
   go_wp2;go_ret;simp[h3]
   try omega
 ·have I: ¬(2:Int)<=(b.length:Int):=by omega
  rw[decide_eq_false h2];clear d
  go_enter func15,ntmps15
  go_wp2;go_ret;simp
end
end Go.Proofs.YtdgippmmaponfaaGreat
