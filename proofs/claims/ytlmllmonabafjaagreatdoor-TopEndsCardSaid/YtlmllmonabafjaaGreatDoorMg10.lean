/- Contracts of the functions that the law reaches, and plain laws; no conditions but those written at each. -/
import Derived.Test.YtlmllmonabafjaaGreatDoorMg9
namespace Go.Proofs.YtlmllmonabafjaaGreatDoor
open Go.Value renaming bool->μ,slice->δ,pointer->π,agg->θ
open Go.IntKind renaming i64->ι,u8->υ,u16->φ,u32->ω,i32->χ,u64->ψ
set_option linter.unusedSimpArgs false
set_option maxHeartbeats 8000000
set_option linter.unusedVariables false
open Go.RowKit
set_option maxRecDepth 100000
theorem kf {l:List Int} {n e:Int} (h:tkE l n e=0):e=0/\n<=l.length:=by
 unfold tkE at h;split at h
 ·cases h
 ·rename_i x;refine⟨h, ?_⟩;rcases Int.lt_or_le (l.length:Int) n with y | y
  ·exact absurd ⟨y,h⟩ x
  ·exact y
theorem Ym (s:RdS): ¬(wrS s 2).2=0:=by
 unfold wrS;split
 ·rename_i h;rcases h with h | h
  ·cases h
  ·exact h
 ·decide
theorem Gy {b:List Int} (G:Byt b) (h:(xg b).2=true):(xg b).1.length<b.length/\(b.length%4=0->(xg b).1.length%4=0):=by
 unfold xg at h ⊢;split at h
 ·cases h
 ·rename_i d;rw[if_neg d];simp only at h ⊢;have H:=G (b.length-1);generalize b.getD (b.length-1) 0=n at *;split at h
  ·cases h
  ·rename_i x;rw[if_neg x];have I:=List.length_pos_iff.2 d;simp only[List.length_take];omega
theorem Xy (L:List Int) (E:Int) (O:Byt L) (h:(qP (L,E)).2.2=0):
  E=0/\(qP (L,E)).1.1<=31/\(qP (L,E)).1.2.2.1.length%4=0/\(chB (qP (L,E)).1).length+(qP (L,E)).2.1.length<=L.length/\((chB (qP (L,E)).1).length+(qP (L,E)).2.1.length=L.length->chB (qP (L,E)).1++(qP (L,E)).2.1=L):=by
 have J:Byt (tkL L 1):=O.drop _;have H:Byt (tkL (tkL L 1) 1):=J.drop _;have af:Byt (tkL (tkL (tkL L 1) 1) 2):=H.drop _;have al:ze (L,E)=((num (tkB L 1),num (tkB (tkL L 1) 1),num (tkB (tkL (tkL L 1) 1) 2)),(tkL (tkL (tkL L 1) 1) 2,tkE (tkL (tkL L 1) 1) 2 (tkE (tkL L 1) 1 (tkE L 1 E)))):=rfl;have ai:qP (L,E)=vG (ze (L,E)).1.1 (ze (L,E)).1.2.1 (ze (L,E)).1.2.2 (ua (ze (L,E)).1.1 (ze (L,E)).2):=rfl;rw[ai] at h ⊢;rw[al] at h ⊢;simp only at h ⊢;generalize ah:tkL (tkL (tkL L 1) 1) 2=L3 at *;generalize ag:tkE (tkL (tkL L 1) 1) 2 (tkE (tkL L 1) 1 (tkE L 1 E))=E3 at *;generalize aj:num (tkB L 1)=f at *;generalize ar:num (tkB (tkL L 1) 1)=t at *;generalize U:num (tkB (tkL (tkL L 1) 1) 2)=n at *;have ak:ua f (L3,E3)=(L3,E3)/\128<=f/\f<=191:=by
  by_cases x:f<128∨191<f
  ·exfalso;have e:ua f (L3,E3)=wrS (L3,E3) 2:=by unfold ua;rw[if_pos x]
   rw[e] at h;have Y:=Ym (L3,E3);generalize wrS (L3,E3) 2=s at *;unfold vG at h;split at h
   ·exact Y (kf h).1
   ·simp only at h;split at h
    ·exact Ym _ h
    ·exact Y (kf h).1
  ·exact⟨by unfold ua;rw[if_neg x],τ,τ⟩
 obtain⟨ae,aG,aH⟩:=ak;rw[ae] at h ⊢;have av:tkE L3 (4* n) E3=0:=by
  unfold vG at h;split at h
  ·exact h
  ·simp only at h;split at h
   ·exact absurd h (Ym _)
   ·exact h
 obtain⟨aa,ap⟩:=kf av;rw[<-ag] at aa;obtain⟨ay,ao⟩:=kf aa;obtain⟨ax,an⟩:=kf ay;obtain⟨aw,am⟩:=kf ax;subst aw;obtain⟨az,aC⟩:=uM ζ am;obtain⟨aA,aD⟩:=uM ζ an;obtain⟨ab,ac⟩:=uM ζ ao;have aq:=zv _ 2 (jL H 2) (by rw[ac];decide) ζ;rw[U] at aq;obtain⟨aB,aE⟩:=uM (l:=L3) (n:=4* n) τ ap;have w1:=gR (jL O 1) 1 aC ζ;have w2:=gR (jL J 1) 1 aD ζ;have ad:=gR (jL H 2) 2 ac ζ;rw[aj] at w1;rw[ar] at w2;rw[U] at ad;rw[ah] at ab;have N:L=qy f 1++(qy t 1++(qy n 2++(tkB L3 (4* n)++tkL L3 (4* n)))):=by
  conv=>lhs;rw[az,aA,ab,aB]
  rw[show qy f 1=tkB L 1 from w1,show qy t 1=tkB (tkL L 1) 1 from w2,show qy n 2=tkB (tkL (tkL L 1) 1) 2 from ad]
 have aI:L.length=4+(tkB L3 (4* n)).length+(tkL L3 (4* n)).length:=by
  conv=>lhs;rw[N]
  simp only[List.length_append,qK _ _ (show (0:Int)<=1/\(1:Int)<=8 by decide),qK _ _ (show (0:Int)<=2/\(2:Int)<=8 by decide)];simp;omega
 refine⟨rfl, ?_⟩;unfold vG at h ⊢;by_cases hp:f%64<32
 ·rw[if_pos hp];have G:tkS (L3,E3) (4* n)=(tkL L3 (4* n),tkE L3 (4* n) E3):=rfl;rw[G];simp only;have d:chB (f%32,t,tkB L3 (4* n),())=qy f 1++(qy t 1++(qy n 2++tkB L3 (4* n))):=by
   unfold chB;simp only;rw[show 128+f%32=f by omega,aE,show 4* n/4=n by omega]
  have I:=YJ (f%32,t,tkB L3 (4* n),());simp only at I;refine⟨τ,τ,τ,λ_=> ?_⟩;rw[d]
  conv=>rhs;rw[N]
  simp only[List.append_assoc]
 ·rw[if_neg hp] at h ⊢;simp only at h ⊢;have G:tkS (L3,E3) (4* n)=(tkL L3 (4* n),tkE L3 (4* n) E3):=rfl;rw[G] at h ⊢;by_cases d:(xg (tkB L3 (4* n))).2=false∨ ¬(tkL L3 (4* n),tkE L3 (4* n) E3).1=[]
  ·rw[if_pos d] at h;exact absurd h (Ym _)
  ·rw[if_neg d];have au:(xg (tkB L3 (4* n))).2=true:=by
    cases x:(xg (tkB L3 (4* n))).2 with
    | true=>rfl
    | false=>exact absurd (Or.inl x) d
   obtain⟨aJ,aF⟩:=Gy (jL af (4* n)) au;have I:=YJ (f%32,t,(xg (tkB L3 (4* n))).1,());simp only at I ⊢;refine⟨τ,aF τ,τ,λx=>by omega⟩
theorem jK {s:RdS} (h:Byt s.1) (n:Int):Byt (tkS s n).1:=h.drop _
theorem gu {s:RdS} (h:Byt s.1) (x:Int):Byt (wrS s x).1:=by
 unfold wrS;split
 ·exact h
 ·exact xh
theorem GQ {s:RdS} (h:Byt s.1):Byt (qP s).2.1:=by
 have G:Byt (ze s).2.1:=jK (jK (jK h 1) 1) 2;have d:Byt (ua (ze s).1.1 (ze s).2).1:=by
  unfold ua;split
  ·exact gu G 2
  ·exact G
 show Byt (vG _ _ _ _).2.1;unfold vG;split
 ·exact jK d _
 ·simp only;split
  ·exact gu (jK d _) 2
  ·exact jK d _
theorem uv (c:qQ) (l:List qQ):flC (c::l)=chB c++flC l:=rfl
theorem QX: ∀(n:Nat) (acc:List qQ) (L:List Int) (E:Int),Byt L->L.length<n->(vd n acc (L,E)).2.2=0->
  ∃k,(vd n acc (L,E)).1=acc++k/\E=0/\(∀c∈k,c.1<=31/\c.2.2.1.length%4=0)/\(flC k).length<=L.length/\((flC k).length=L.length->flC k=L)
 | 0,_,_,_,_,h,_=>by omega
 | n+1,acc,L,E,hb,hn,h=>by
  have U:=ZC (L,E);rw[vd] at h ⊢;by_cases e:(qP (L,E)).2.1=[]
  ·rw[if_pos e] at h ⊢;obtain⟨H,I,J,N,G⟩:=Xy L E hb h;rw[e] at N G;refine⟨[(qP (L,E)).1],rfl,H,λc d=> ?_, ?_, ?_⟩
   ·simp at d;subst d;exact⟨I,J⟩
   ·rw[uv];simpa [flC] using N
   ·rw[uv];simpa [flC] using G
  ·rw[if_neg e] at h ⊢;have ad:=List.length_pos_iff.2 e;have O:Byt (qP (L,E)).2.1:=GQ hb;obtain⟨k,Y,aa,ab,ae,ac⟩:=QX n (acc++[(qP (L,E)).1]) (qP (L,E)).2.1 (qP (L,E)).2.2 O (by simp only at U;omega) h;obtain⟨H,I,J,N,G⟩:=Xy L E hb aa;refine⟨(qP (L,E)).1::k,by rw[Y];simp,H,λc d=> ?_, ?_,λx=> ?_⟩
   ·simp at d;rcases d with rfl | d
    ·exact⟨I,J⟩
    ·exact ab c d
   ·rw[uv,List.length_append];omega
   ·rw[uv,List.length_append] at x;rw[uv,ac τ];exact G τ
theorem D9: ∀(l:List Nat) (x:Nat),x∈l->x<=l.sum
 | y::l,x,h=>by
  simp at h;rcases h with rfl | h
  ·simp
  ·have:=D9 l x h;simp;omega
theorem QY {b:List Int} {k:List qQ} (I:Byt b) (h:jI b=(k,0)):vW k=(flC k,0)/\(flC k).length<=b.length/\((flC k).length=b.length->flC k=b)/\szC k<=200:=by
 unfold jI at h;split at h
 ·cases h
 ·rename_i aa;split at h
  ·rename_i N;obtain⟨k',O,_,G,U,Y⟩:=QX (b.length+1) [] b 0 I τ N;rw[O] at h;obtain rfl:k'=k:=by injection h
   have J:szC k'<=200:=by rw[<-YH];omega
   refine⟨?_,U,Y,J⟩;have H:k'.all jx=true:=by
    rw[List.all_eq_true];intro c d;have ab:4+c.2.2.1.length<=szC k':=by
     unfold szC;exact D9 _ _ (List.mem_map.2 ⟨c,d,rfl⟩)
    rw[zO];exact⟨(G c d).1,(G c d).2,τ⟩
   unfold vW;rw[if_neg (by rw[H];simp),if_neg τ]
  ·rename_i x;exact absurd (congrArg Prod.snd h) x
theorem Cc {l:List qQ} {x:List Int} (h:vW l=(x,0)):x=flC l/\(∀c∈l,jx c=true)/\szC l<=200:=by
 unfold vW at h;split at h
 ·cases h
 ·rename_i d;split at h
  ·cases h
  ·rename_i H;have G:flC l=x:=by injection h
   refine⟨G.symm, ?_,τ⟩;have:l.all jx=true:=by
    cases y:l.all jx with
    | true=>rfl
    | false=>exact absurd y d
   exact List.all_eq_true.1 this
section
open Go.RowKit Go.ChangeShapes
structure Blk where
 src:Int
 part:Int
 miss:Int
 high:Int
 jit:Int
 last:Int
 dly:Int
def Blk.tup (b:Blk):Int×Int×Int×Int×Int×Int×Int:=(b.src,b.part,b.miss,b.high,b.jit,b.last,b.dly)
theorem Blk.tup_inj {a b:Blk} (h:a.tup=b.tup):a=b:=by
 obtain⟨⟩:=a;obtain⟨⟩:=b;simp only[Blk.tup,Prod.mk.injEq] at h;simp[h]
instance:DecidableEq Blk:=λ_ _=>decidable_of_iff _ ⟨Blk.tup_inj,λh=>by rw[h]⟩
structure Inf where
 sec:Int
 frac:Int
 stamp:Int
 pkts:Int
 octs:Int
def Inf.tup (b:Inf):Int×Int×Int×Int×Int:=(b.sec,b.frac,b.stamp,b.pkts,b.octs)
theorem Inf.tup_inj {a b:Inf} (h:a.tup=b.tup):a=b:=by
 obtain⟨⟩:=a;obtain⟨⟩:=b;simp only[Inf.tup,Prod.mk.injEq] at h;simp[h]
instance:DecidableEq Inf:=λ_ _=>decidable_of_iff _ ⟨Inf.tup_inj,λh=>by rw[h]⟩
structure Rep where
 snd:Bool
 src:Int
 inf:Inf
 bl:List Blk
def Rep.tup (b:Rep):Bool×Int×Inf×List Blk:=(b.snd,b.src,b.inf,b.bl)
theorem Rep.tup_inj {a b:Rep} (h:a.tup=b.tup):a=b:=by
 obtain⟨⟩:=a;obtain⟨⟩:=b;simp only[Rep.tup,Prod.mk.injEq] at h;simp[h]
instance:DecidableEq Rep:=λ_ _=>decidable_of_iff _ ⟨Rep.tup_inj,λh=>by rw[h]⟩
structure QS (b:Blk):Prop where
 src:U32 b.src
 part:0<=b.part/\b.part<=255
 miss: -2147483648<=b.miss/\b.miss<=2147483647
 high:U32 b.high
 jit:U32 b.jit
 last:U32 b.last
 dly:U32 b.dly
structure Wv (b:Inf):Prop where
 sec:U32 b.sec
 frac:U32 b.frac
 stamp:U32 b.stamp
 pkts:U32 b.pkts
 octs:U32 b.octs
structure Zx (r:Rep):Prop where
 src:U32 r.src
 inf:Wv r.inf
 bl: ∀b∈r.bl,QS b
def Blk.cells (b:Blk):List Value:=[.int .u32 b.src,.int .u8 b.part,.int .i32 b.miss,.int .u32 b.high,.int .u32 b.jit,.int .u32 b.last,.int .u32 b.dly]
def Yj:qL Blk:=λ_ cs b=>cs=b.cells/\QS b
theorem Ca:QQ Yj:=λ_ _ _ _ _ h=>h
theorem Ei {α:Type} {n:Nat} {R:qL α} {w:World} {v:Value} {L:List α} (h:SlP n R w v L) {p:α->Prop} (H: ∀cs y,R w cs y->p y): ∀b∈L,p b:=by
 obtain⟨_,_,_,_,d,_⟩:=h;intro b G;obtain⟨i,hi,rfl⟩:=List.mem_iff_getElem.1 G;obtain⟨_,_,_,_,_,_,_,I⟩:=d i hi;exact H _ _ I
def Γm (x:Rep) (a:Option Addr) (b:Nat):Mm:=.o
instance (x:Rep) (a:Option Addr) (b:Nat):CoeDep Mm (Γm x a b) (List Value):=⟨[μ x.snd,ω x.src,ω x.inf.sec,ω x.inf.frac,ω x.inf.stamp,ω x.inf.pkts,ω x.inf.octs,δ a x.bl.length b]⟩
instance (x:Rep) (a:Option Addr) (b:Nat):CoeDep Mm (Γm x a b) (Array Value):=⟨#[μ x.snd,ω x.src,ω x.inf.sec,ω x.inf.frac,ω x.inf.stamp,ω x.inf.pkts,ω x.inf.octs,δ a x.bl.length b]⟩
instance (x:Rep) (a:Option Addr) (b:Nat):CoeDep Mm (Γm x a b) Value:=⟨θ #[μ x.snd,ω x.src,ω x.inf.sec,ω x.inf.frac,ω x.inf.stamp,ω x.inf.pkts,ω x.inf.octs,δ a x.bl.length b]⟩
def Γn (s:Bool) (r:Int) (x:Inf) (a:Option Addr) (l:List Blk) (b:Nat):Mm:=.o
instance (s:Bool) (r:Int) (x:Inf) (a:Option Addr) (l:List Blk) (b:Nat):CoeDep Mm (Γn s r x a l b) (List Value):=⟨[μ s,ω r,ω x.sec,ω x.frac,ω x.stamp,ω x.pkts,ω x.octs,δ a l.length b]⟩
instance (s:Bool) (r:Int) (x:Inf) (a:Option Addr) (l:List Blk) (b:Nat):CoeDep Mm (Γn s r x a l b) (Array Value):=⟨#[μ s,ω r,ω x.sec,ω x.frac,ω x.stamp,ω x.pkts,ω x.octs,δ a l.length b]⟩
instance (s:Bool) (r:Int) (x:Inf) (a:Option Addr) (l:List Blk) (b:Nat):CoeDep Mm (Γn s r x a l b) Value:=⟨θ #[μ s,ω r,ω x.sec,ω x.frac,ω x.stamp,ω x.pkts,ω x.octs,δ a l.length b]⟩
end
def Jj:Inf:=⟨0,0,0,0,0⟩
def Qh:Rep:=⟨false,0,Jj,[]⟩
def kD (b:Blk):Bool:=decide (-8388608<=b.miss/\b.miss<=8388607)
def vN (r:Rep):Bool:=(r.snd||decide (r.inf=Jj))&&r.bl.all kD&&decide (r.bl.length<=if r.snd then 7 else 8)
def JK (b:Blk):List Int:=qy b.src 4++(qy b.part 1++(qy (b.miss%4294967296) 3++(qy b.high 4++(qy b.jit 4++(qy b.last 4++qy b.dly 4)))))
def flR (l:List Blk):List Int:=l.flatMap JK
def Yf (i:Inf):List Int:=qy i.sec 4++(qy i.frac 4++(qy i.stamp 4++(qy i.pkts 4++qy i.octs 4)))
def Zu (r:Rep):List Int:=qy r.src 4++(if r.snd then Yf r.inf else [])
def Za (r:Rep):List Int:=Zu r++flR r.bl
def Qm (r:Rep):qQ×Int:=if vN r then (((r.bl.length:Int),(if r.snd then 200 else 201),Za r,()),0) else ((0,0,[],()),1)
def xP (s:RdS):Int:=num (tkB s.1 4)
def jA (s:RdS):Inf×RdS:=
 (⟨xP s,xP (tkS s 4),xP (tkS (tkS s 4) 4),xP (tkS (tkS (tkS s 4) 4) 4),xP (tkS (tkS (tkS (tkS s 4) 4) 4) 4)⟩,tkS (tkS (tkS (tkS (tkS s 4) 4) 4) 4) 4)
def qM (s:RdS):Blk×RdS:=
 (⟨xP s,num (tkB (tkS s 4).1 1),sgd (num (tkB (tkS (tkS s 4) 1).1 3)) 24,xP (tkS (tkS (tkS s 4) 1) 3),xP (tkS (tkS (tkS (tkS s 4) 1) 3) 4),xP (tkS (tkS (tkS (tkS (tkS s 4) 1) 3) 4) 4),xP (tkS (tkS (tkS (tkS (tkS (tkS s 4) 1) 3) 4) 4) 4)⟩,tkS (tkS (tkS (tkS (tkS (tkS (tkS s 4) 1) 3) 4) 4) 4) 4)
def js:Nat->RdS->List Blk×RdS
 | 0,s=>([],s)
 | n+1,s=>((qM s).1::(js n (qM s).2).1,(js n (qM s).2).2)
def wM (s:RdS):Int:=if ¬s.2=0 then s.2 else if 0<s.1.length then 4 else 0
def yZ (r:Rep) (s:RdS):Rep×Int:=if wM s=0 then (r,0) else (Qh,wM s)
def qG (c:qQ):Rep×Int:=
 if jx c=false then (Qh,1)
 else if c.2.1=200 then yZ ⟨true,xP (c.2.2.1,0),(jA (tkS (c.2.2.1,0) 4)).1,(js c.1.toNat (jA (tkS (c.2.2.1,0) 4)).2).1⟩ (js c.1.toNat (jA (tkS (c.2.2.1,0) 4)).2).2
 else if c.2.1=201 then yZ ⟨false,xP (c.2.2.1,0),Jj,(js c.1.toNat (tkS (c.2.2.1,0) 4)).1⟩ (js c.1.toNat (tkS (c.2.2.1,0) 4)).2
 else (Qh,5)
theorem Q5 {s:RdS} (h:Jm s):(jA s).2=adv s 20:=by
 show tkS (tkS (tkS (tkS (tkS s (4:Nat)) (4:Nat)) (4:Nat)) (4:Nat)) (4:Nat)=_;rw[gz 4 h,xF,xF,xF,xF]
theorem Q6 {s:RdS} (h:Jm s):(qM s).2=adv s 24:=by
 show tkS (tkS (tkS (tkS (tkS (tkS (tkS s (4:Nat)) (1:Nat)) (3:Nat)) (4:Nat)) (4:Nat)) (4:Nat)) (4:Nat)=_;rw[gz 4 h,xF,xF,xF,xF,xF,xF]
theorem uB: ∀(n:Nat) {s:RdS},Jm s->(js n s).2=adv s (24* n)
 | 0,s,h=>by rw[Nat.mul_zero,Cu h];rfl
 | n+1,s,h=>by
  show (js n (qM s).2).2=_;rw[uB n (by rw[Q6 h];exact vj _ _),Q6 h,gG]
  congr 1
  omega
theorem uz: ∀(n:Nat) (s:RdS),(js n s).1.length=n
 | 0,_=>rfl
 | n+1,s=>by
  show ((qM s).1::(js n (qM s).2).1).length=_;rw[List.length_cons,uz n]
def QM (c:qQ):Nat:=4+(if c.2.1=200 then 20 else 0)+24* c.1.toNat
theorem II (l:List Int):wM (l,0)=if 0<l.length then 4 else 0:=by unfold wM;rw[if_neg η]
theorem IH:wM ([],3)=3:=by decide
theorem Fo (r:Rep) (s:RdS):(yZ r s).2=wM s:=by
 unfold yZ;split
 ·rename_i h;exact h.symm
 ·rfl
theorem GJ (c:qQ) (H:jx c=true) (d:c.2.1=200∨c.2.1=201):(qG c).2=if c.2.2.1.length<QM c then 3 else if QM c<c.2.2.1.length then 4 else 0:=by
 have I:Jm (c.2.2.1,0):=λh=>absurd rfl h
 have key: ∀(r:Rep) (s:RdS) (k:Nat),s=adv (c.2.2.1,0) k->(yZ r s).2=if c.2.2.1.length<k then 3 else if k<c.2.2.1.length then 4 else 0:=by
  rintro r s k rfl;rw[Fo];unfold adv;simp only[if_true];by_cases h:k<=c.2.2.1.length
  ·rw[if_pos h,II,List.length_drop];by_cases h2:k<c.2.2.1.length
   ·rw[if_pos τ,if_neg τ,if_pos h2]
   ·rw[if_neg τ,if_neg τ,if_neg h2]
  ·rw[if_neg h,IH,if_pos τ]
 unfold qG;rw[if_neg (by rw[H];simp)];have G:tkS (c.2.2.1,0) 4=adv (c.2.2.1,0) 4:=gz 4 I;rcases d with d | d
 ·rw[if_pos d];refine key _ _ _ ?_;rw[uB _ (by rw[Q5 (by rw[G];exact vj _ _)];exact vj _ _),Q5 (by rw[G];exact vj _ _),G,gG,gG];unfold QM;rw[if_pos d,Nat.add_assoc]
 ·rw[if_neg (by rw[d];decide),if_pos d];refine key _ _ _ ?_;rw[uB _ (by rw[G];exact vj _ _),G,gG];unfold QM;rw[if_neg (by rw[d];decide),Nat.add_zero]
theorem xd (x:Int) (d:U32 x) (r:List Int):xP (qy x 4++r,0)=x/\tkS (qy x 4++r,0) 4=(r,0):=by
 obtain⟨G,H⟩:=JY x 4 ζ r;refine⟨?_,G⟩;unfold xP;simp only;rw[show tkB (qy x 4++r) 4=qy x 4 from H];exact Xi x 4 d.1 ζ (by have:=d.2;show x<4294967296;omega)
theorem YX (i:Inf) (h:Wv i) (r:List Int):jA (Yf i++r,0)=(i,(r,0)):=by
 unfold Yf;simp only[List.append_assoc];obtain⟨d,H⟩:=xd i.sec h.sec (qy i.frac 4++(qy i.stamp 4++(qy i.pkts 4++(qy i.octs 4++r))));obtain⟨G,I⟩:=xd i.frac h.frac (qy i.stamp 4++(qy i.pkts 4++(qy i.octs 4++r)));obtain⟨a3,J⟩:=xd i.stamp h.stamp (qy i.pkts 4++(qy i.octs 4++r));obtain⟨a4,N⟩:=xd i.pkts h.pkts (qy i.octs 4++r);obtain⟨a5,O⟩:=xd i.octs h.octs r;unfold jA;simp only[d,H,G,I,a3,J,a4,N,a5,O]
theorem LT (x:Int) (h: -8388608<=x/\x<=8388607):sgd (x%16777216) 24=x:=by
 have d:two 24=16777216:=by decide
 have G:two (24-1)=8388608:=by decide
 unfold sgd;rw[d,G,if_neg ζ];split<;>omega
theorem YZ (b:Blk) (h:QS b) (ad:kD b=true) (r:List Int):qM (JK b++r,0)=(b,(r,0)):=by
 have ae: -8388608<=b.miss/\b.miss<=8388607:=by simpa [kD] using ad
 unfold JK;simp only[List.append_assoc];obtain⟨J,U⟩:=xd b.src h.src (qy b.part 1++(qy (b.miss%4294967296) 3++(qy b.high 4++(qy b.jit 4++(qy b.last 4++(qy b.dly 4++r))))));obtain⟨G,d⟩:=JY b.part 1 ζ (qy (b.miss%4294967296) 3++(qy b.high 4++(qy b.jit 4++(qy b.last 4++(qy b.dly 4++r)))));obtain⟨H,a3⟩:=JY (b.miss%4294967296) 3 ζ (qy b.high 4++(qy b.jit 4++(qy b.last 4++(qy b.dly 4++r))));obtain⟨a4,Y⟩:=xd b.high h.high (qy b.jit 4++(qy b.last 4++(qy b.dly 4++r)));obtain⟨a5,aa⟩:=xd b.jit h.jit (qy b.last 4++(qy b.dly 4++r));obtain⟨N,ab⟩:=xd b.last h.last (qy b.dly 4++r);obtain⟨O,ac⟩:=xd b.dly h.dly r;have n2:num (qy b.part (1:Nat))=b.part:=Xi _ 1 h.part.1 ζ (by have:=h.part.2;show b.part<256;omega);have I:sgd (num (qy (b.miss%4294967296) (3:Nat))) 24=b.miss:=by
  have e:qy (b.miss%4294967296) (3:Nat)=qy (b.miss%4294967296%16777216) (3:Nat):=(QH _).symm;rw[e,Xi _ 3 τ ζ (by show _<16777216;omega),show b.miss%4294967296%16777216=b.miss%16777216 by omega];exact LT _ ae
 unfold qM;have G:tkS (qy b.part 1++(qy (b.miss%4294967296) 3++(qy b.high 4++(qy b.jit 4++(qy b.last 4++(qy b.dly 4++r))))),0) 1=(qy (b.miss%4294967296) 3++(qy b.high 4++(qy b.jit 4++(qy b.last 4++(qy b.dly 4++r)))),0):=G;have d:tkB (qy b.part 1++(qy (b.miss%4294967296) 3++(qy b.high 4++(qy b.jit 4++(qy b.last 4++(qy b.dly 4++r)))))) 1=qy b.part 1:=d;have H:tkS (qy (b.miss%4294967296) 3++(qy b.high 4++(qy b.jit 4++(qy b.last 4++(qy b.dly 4++r)))),0) 3=(qy b.high 4++(qy b.jit 4++(qy b.last 4++(qy b.dly 4++r))),0):=H;have a3:tkB (qy (b.miss%4294967296) 3++(qy b.high 4++(qy b.jit 4++(qy b.last 4++(qy b.dly 4++r))))) 3=qy (b.miss%4294967296) 3:=a3;have n2:num (qy b.part 1)=b.part:=n2;have I:sgd (num (qy (b.miss%4294967296) 3)) 24=b.miss:=I;simp only[J,U,d,G,a3,H,a4,Y,a5,aa,N,ab,O,ac,n2,I]
theorem Xm (b:Blk) (l:List Blk):flR (b::l)=JK b++flR l:=rfl
theorem uA: ∀(l:List Blk) (r:List Int),(∀b∈l,QS b/\kD b=true)->js l.length (flR l++r,0)=(l,(r,0))
 | [],r,_=>rfl
 | b::l,r,h=>by
  have d:=h b η;rw[Xm,List.append_assoc];show ((qM (JK b++(flR l++r),0)).1::(js l.length (qM (JK b++(flR l++r),0)).2).1,(js l.length (qM (JK b++(flR l++r),0)).2).2)=_;rw[YZ b d.1 d.2,uA l r (λc G=>h c (by simp[G]))]
theorem kM (r:Rep):vN r=true↔(r.snd=false->r.inf=Jj)/\(∀b∈r.bl,kD b=true)/\r.bl.length<=if r.snd then 7 else 8:=by
 unfold vN;simp only[Bool.and_eq_true,Bool.or_eq_true,decide_eq_true_eq,List.all_eq_true];constructor
 ·rintro⟨⟨d,G⟩,H⟩;refine⟨λh=> ?_,G,H⟩;rcases d with d | d
  ·rw[h] at d;cases d
  ·exact d
 ·rintro⟨d,G,H⟩;refine⟨⟨?_,G⟩,H⟩;cases hs:r.snd with
  | true=>exact Or.inl rfl
  | false=>exact Or.inr (d hs)
theorem VW (b:Blk):(JK b).length=24:=by
 unfold JK;simp only[List.length_append,qK _ _ (show (0:Int)<=4/\(4:Int)<=8 by decide),qK _ _ (show (0:Int)<=1/\(1:Int)<=8 by decide),qK _ _ (show (0:Int)<=3/\(3:Int)<=8 by decide)]
 decide
theorem VN (i:Inf):(Yf i).length=20:=by
 unfold Yf;simp only[List.length_append,qK _ _ (show (0:Int)<=4/\(4:Int)<=8 by decide)]
 decide
theorem YG (l:List Blk):(flR l).length=24* l.length:=by
 induction l with
 | nil=>rfl
 | cons b l ih=>rw[Xm,List.length_append,VW,ih,List.length_cons];omega
theorem Bc (r:Rep):(Za r).length=4+(if r.snd then 20 else 0)+24* r.bl.length:=by
 unfold Za Zu;rw[List.length_append,List.length_append,YG,qK _ _ ζ];cases r.snd with
 | true=>simp[VN]
 | false=>simp
theorem kK {r:Rep} (h:vN r=true):Qm r=(((r.bl.length:Int),(if r.snd then 200 else 201),Za r,()),0):=by unfold Qm;rw[if_pos h]
theorem YO {r:Rep} (h:vN r=true):jx (Qm r).1=true:=by
 obtain⟨_,_,d⟩:=(kM r).1 h;rw[kK h,zO];have G:=Bc r;simp only;cases hs:r.snd with
 | true=>rw[hs] at d G;simp at d G;omega
 | false=>rw[hs] at d G;simp at d G;omega
theorem YW {r:Rep} (G:Zx r) (h:vN r=true):qG (Qm r).1=(r,0):=by
 have U:=YO h;obtain⟨N,O,Y⟩:=(kM r).1 h;unfold qG;rw[if_neg (by rw[U];simp),kK h];obtain⟨s,src,i,bl⟩:=r;simp only at *;have d: ∀b∈bl,QS b/\kD b=true:=λb d=>⟨G.bl b d,O b d⟩
 have J:yZ ⟨s,src,i,bl⟩ ([],0)=(⟨s,src,i,bl⟩,0):=rfl;cases s with
 | true=>
  have e:Za ⟨true,src,i,bl⟩=qy src 4++(Yf i++(flR bl++[])):=by unfold Za Zu;simp[List.append_assoc]
  rw[e];obtain⟨H,I⟩:=xd src G.src (Yf i++(flR bl++[]));simp only[if_true,H,I,YX i G.inf,Int.toNat_natCast,uA bl [] d,J]
 | false=>
  have hi:i=Jj:=N rfl;subst hi;have e:Za ⟨false,src,Jj,bl⟩=qy src 4++(flR bl++[]):=by unfold Za Zu;simp[List.append_assoc]
  rw[e];obtain⟨H,I⟩:=xd src G.src (flR bl++[]);simp only[H,I,Int.toNat_natCast,uA bl [] d];exact J
abbrev U8 (n:Int):Prop:=0<=n/\n<=255
def ahd (a b:Int):Int:=(b-a+32768)%65536-32768
def tb (m:Int) (k:Nat):Bool:=m.toNat.testBit k
def prN (p:Int×Int):List Int:=p.1::((List.range 16).filter (tb p.2)).map λk:Nat=>(p.1+k+1)%65536
def prJ (l:List (Int×Int)) (n:Int):Prop:= ¬l=[]/\1<=ahd (l.getLastD (0,0)).1 n/\ahd (l.getLastD (0,0)).1 n<=16
instance (l:List (Int×Int)) (n:Int):Decidable (prJ l n):=by unfold prJ;infer_instance
theorem WM (p:Int×Int):1<=(prN p).length/\(prN p).length<=17:=by
 unfold prN;rw[List.length_cons,List.length_map];have:=List.length_filter_le (tb p.2) (List.range 16);rw[List.length_range] at this;omega
theorem Kn {l:List Int} (h:l≠[]):l.getLastD 0=l.getD (l.length-1) 0:=by
 rw[List.getLastD_eq_getLast?,List.getLast?_eq_getElem?,List.getD_eq_getElem?_getD]
structure Msg where
 kind:Int
 snd:Int
 med:Int
 asks:List (Int×Int)
 lost:List Int
def Msg.tup (b:Msg):Int×Int×Int×List (Int×Int)×List Int:=(b.kind,b.snd,b.med,b.asks,b.lost)
theorem Msg.tup_inj {a b:Msg} (h:a.tup=b.tup):a=b:=by
 obtain⟨⟩:=a;obtain⟨⟩:=b;simp only[Msg.tup,Prod.mk.injEq] at h;simp[h]
instance:DecidableEq Msg:=λ_ _=>decidable_of_iff _ ⟨Msg.tup_inj,λh=>by rw[h]⟩
structure Zz (m:Msg):Prop where
 snd:U32 m.snd
 med:U32 m.med
 asks: ∀a∈m.asks,U32 a.1/\U8 a.2
 lost: ∀x∈m.lost,U16 x
def JI:Msg:=⟨0,0,0,[],[]⟩
theorem gC:Zz JI:=⟨ζ,ζ,(λa h=>by cases h),(λa h=>by cases h)⟩
def Zv (k:Int):Int×Int:=if k=1 then (206,1) else if k=2 then (206,4) else (205,1)
def zy (c:qQ):Int:=if c.2.1=206/\c.1=1 then 1 else if c.2.1=206/\c.1=4 then 2 else if c.2.1=205/\c.1=1 then 3 else 0
def wu (s:RdS):(Int×Int)×RdS:=((xP s,num (tkB (tkS s 4).1 1)),tkS (tkS (tkS s 4) 1) 3)
def jm:Nat->List (Int×Int)->RdS->List (Int×Int)×RdS
 | 0,acc,s=>(acc,s)
 | n+1,acc,s=>if s.1=[] then (acc,s) else jm n (acc++[(wu s).1]) (wu s).2
def prS (s:RdS):(Int×Int)×RdS:=((num (tkB s.1 2),num (tkB (tkS s 2).1 2)),tkS (tkS s 2) 2)
def gm (acc:List Int) (p:Int×Int) (s:RdS):RdS:=if ¬acc=[]/\ ¬0<ahd (acc.getLastD 0) p.1 then wrS s 2 else s
def jc:Nat->List Int->RdS->List Int×RdS
 | 0,acc,s=>(acc,s)
 | n+1,acc,s=>if s.1=[] then (acc,s) else jc n (acc++prN (prS s).1) (gm acc (prS s).1 (prS s).2)
def zz (b:Int) (s:RdS):RdS:=if ¬b=0∨s.1.length=0∨ ¬s.1.length%8=0 then wrS s 2 else s
def xK (s:RdS):RdS:=if s.1.length=0 then wrS s 2 else s
def vX (m:Msg) (s:RdS):Msg×Int:=if wM s=0 then (m,0) else (JI,wM s)
def vD (k a b:Int) (s:RdS):Msg×Int:=
 if k=2 then vX ⟨2,a,b,(jm s.1.length [] (zz b s)).1,[]⟩ (jm s.1.length [] (zz b s)).2
 else if k=3 then vX ⟨3,a,b,[],(jc s.1.length [] (xK s)).1⟩ (jc s.1.length [] (xK s)).2
 else vX ⟨k,a,b,[],[]⟩ s
def qJ (c:qQ):Msg×Int:=
 if jx c=false then (JI,1)
 else if zy c=0 then (JI,5)
 else vD (zy c) (xP (c.2.2.1,0)) (xP (tkS (c.2.2.1,0) 4)) (tkS (tkS (c.2.2.1,0) 4) 4)
theorem zE (n:Nat) (acc:List (Int×Int)) (e:Int):jm n acc ([],e)=(acc,([],e)):=by
 cases n with
 | zero=>rfl
 | succ n=>unfold jm;rw[if_pos rfl]
theorem wE (n:Nat) (acc:List Int) (e:Int):jc n acc ([],e)=(acc,([],e)):=by
 cases n with
 | zero=>rfl
 | succ n=>unfold jc;rw[if_pos rfl]
theorem WR {s:RdS} (h:Byt s.1):U16 (num (tkB s.1 2)):=by
 have:=zv (tkB s.1 2) 2 (jL h 2) (zh s.1 2 ζ) ζ;exact⟨this.1,τ⟩
theorem Iq {s:RdS} (h:Byt s.1):U8 (num (tkB s.1 1)):=by
 have:=zv (tkB s.1 1) 1 (jL h 1) (zh s.1 1 ζ) ζ;exact⟨this.1,τ⟩
theorem Jx {s:RdS} (h:Byt s.1):U32 (xP s):=by
 have:=zv (tkB s.1 4) 4 (jL h 4) (zh s.1 4 ζ) ζ;exact⟨this.1,by show num (tkB s.1 4)<=4294967295;omega⟩
theorem Gc {s:RdS} (h:Byt s.1):U32 (wu s).1.1/\U8 (wu s).1.2/\Byt (wu s).2.1:=⟨Jx h,Iq (jK h 4),jK (jK (jK h 4) 1) 3⟩
theorem DZ {s:RdS} (h:Byt s.1):U16 (prS s).1.1/\U16 (prS s).1.2/\Byt (prS s).2.1:=⟨WR h,WR (jK h 2),jK (jK h 2) 2⟩
theorem BM {acc:List Int} {p:Int×Int} {s:RdS} (h:Byt s.1):Byt (gm acc p s).1:=by
 unfold gm;split
 ·exact gu h 2
 ·exact h
theorem Jw {p:Int×Int} (h:U16 p.1): ∀x∈prN p,U16 x:=by
 intro x d;unfold prN at d;rcases List.mem_cons.1 d with rfl | d
 ·exact h
 ·obtain⟨k,_,rfl⟩:=List.mem_map.1 d;constructor<;>omega
theorem gY: ∀(n:Nat) (acc:List (Int×Int)) (s:RdS),Byt s.1->(∀a∈acc,U32 a.1/\U8 a.2)-> ∀a∈(jm n acc s).1,U32 a.1/\U8 a.2
 | 0,_,_,_,h=>h
 | n+1,acc,s,hb,h=>by
  unfold jm;split
  ·exact h
  ·obtain⟨G,H,a3⟩:=Gc hb;refine gY n _ _ a3 λa d=> ?_
   rcases List.mem_append.1 d with d | d
   ·exact h a d
   ·rw[List.mem_singleton] at d;subst d;exact⟨G,H⟩
theorem gX: ∀(n:Nat) (acc:List Int) (s:RdS),Byt s.1->(∀a∈acc,U16 a)-> ∀a∈(jc n acc s).1,U16 a
 | 0,_,_,_,h=>h
 | n+1,acc,s,hb,h=>by
  unfold jc;split
  ·exact h
  ·obtain⟨G,H,a3⟩:=DZ hb;refine gX n _ _ (BM a3) λa d=> ?_
   rcases List.mem_append.1 d with d | d
   ·exact h a d
   ·exact Jw G a d
theorem QF {m:Msg} {s:RdS} (h:Zz m):Zz (vX m s).1:=by
 unfold vX;split
 ·exact h
 ·exact gC
theorem Dk {b:Int} {s:RdS} (h:Byt s.1):Byt (zz b s).1:=by
 unfold zz;split
 ·exact gu h 2
 ·exact h
theorem Pt {s:RdS} (h:Byt s.1):Byt (xK s).1:=by
 unfold xK;split
 ·exact gu h 2
 ·exact h
theorem Bb {k a b:Int} {s:RdS} (I:Byt s.1) (G:U32 a) (H:U32 b):Zz (vD k a b s).1:=by
 unfold vD;split
 ·exact QF ⟨G,H,gY _ _ _ (Dk I) (λx d=>by cases d),(λx d=>by cases d)⟩
 ·split
  ·exact QF ⟨G,H,(λx d=>by cases d),gX _ _ _ (Pt I) (λx d=>by cases d)⟩
  ·exact QF ⟨G,H,(λx d=>by cases d),(λx d=>by cases d)⟩
theorem Bg {c:qQ} (G:xk c):Zz (qJ c).1:=by
 have d:Byt ((c.2.2.1,0):RdS).1:=G.byt;unfold qJ;split
 ·exact gC
 ·split
  ·exact gC
  ·exact Bb (jK (jK d 4) 4) (Jx d) (Jx (jK d 4))
theorem UP {c:qQ} (h: ¬zy c=0):Zv (zy c)=(c.2.1,c.1)/\(zy c=1∨zy c=2∨zy c=3):=by
 unfold zy at h ⊢;unfold Zv;split
 ·rename_i e;exact⟨by rw[e.1,e.2];rfl,η⟩
 ·split
  ·rename_i e;exact⟨by rw[e.1,e.2];rfl,η⟩
  ·split
   ·rename_i e;exact⟨by rw[e.1,e.2];rfl,η⟩
   ·rename_i d G H;rw[if_neg d,if_neg G,if_neg H] at h;exact absurd rfl h
def Γp (x:Msg) (a:Option Addr) (b:Nat) (c:Option Addr) (d:Nat):Mm:=.o
instance (x:Msg) (a:Option Addr) (b:Nat) (c:Option Addr) (d:Nat):CoeDep Mm (Γp x a b c d) (List Value):=⟨[ι x.kind,ω x.snd,ω x.med,δ a x.asks.length b,δ c x.lost.length d]⟩
instance (x:Msg) (a:Option Addr) (b:Nat) (c:Option Addr) (d:Nat):CoeDep Mm (Γp x a b c d) (Array Value):=⟨#[ι x.kind,ω x.snd,ω x.med,δ a x.asks.length b,δ c x.lost.length d]⟩
instance (x:Msg) (a:Option Addr) (b:Nat) (c:Option Addr) (d:Nat):CoeDep Mm (Γp x a b c d) Value:=⟨θ #[ι x.kind,ω x.snd,ω x.med,δ a x.asks.length b,δ c x.lost.length d]⟩
theorem UR {L:List Int} (N:Byt L) (h:20<=L.length): ∃i r,L=Yf i++r/\Wv i/\Byt r:=by
 obtain⟨ad,ai,rfl,U,d⟩:=xv N τ;rw[List.length_append,qK _ _ ζ] at h;obtain⟨ae,aj,rfl,Y,G⟩:=xv d (by simp at h;omega);rw[List.length_append,qK _ _ ζ] at h;obtain⟨af,ak,rfl,aa,H⟩:=xv G (by simp at h;omega);rw[List.length_append,qK _ _ ζ] at h;obtain⟨ag,al,rfl,ab,I⟩:=xv H (by simp at h;omega);rw[List.length_append,qK _ _ ζ] at h;obtain⟨ah,O,rfl,ac,J⟩:=xv I (by simp at h;omega);exact⟨⟨ad,ae,af,ag,ah⟩,O,by unfold Yf;simp only[List.append_assoc],⟨U,Y,aa,ab,ac⟩,J⟩
theorem U4 {L:List Int} (af:Byt L) (h:24<=L.length): ∃b r,L=JK b++r/\QS b/\kD b=true/\Byt r:=by
 obtain⟨ap,ax,rfl,ak,J⟩:=xv af τ;rw[List.length_append,qK _ _ ζ] at h;obtain⟨I,ay,rfl,ai,G,N⟩:=wU 1 ζ J (by simp at h;omega);rw[List.length_append,qK _ _ ζ] at h;obtain⟨d,az,rfl,aw,H,O⟩:=wU 3 ζ N (by simp at h;omega);rw[List.length_append,qK _ _ ζ] at h;obtain⟨aq,aA,rfl,al,U⟩:=xv O (by simp at h;omega);rw[List.length_append,qK _ _ ζ] at h;obtain⟨ar,aB,rfl,am,Y⟩:=xv U (by simp at h;omega);rw[List.length_append,qK _ _ ζ] at h;obtain⟨au,aC,rfl,an,aa⟩:=xv Y (by simp at h;omega);rw[List.length_append,qK _ _ ζ] at h;obtain⟨av,aj,rfl,ao,ab⟩:=xv aa (by simp at h;omega);have G:I<256:=G;have H:d<16777216:=H;have ah:=KR d 24 ζ ζ;have ag:=Ej d 24 ζ ζ;have ac:two 24=16777216:=by decide
 have ad:two (24-1)=8388608:=by decide
 rw[ad] at ah;rw[ac] at ag;have ae:qy (sgd d 24%4294967296) 3=qy d 3:=by
  rw[<-QH,<-QH d]
  congr 1
  omega
 refine⟨⟨ap,I,sgd d 24,aq,ar,au,av⟩,aj, ?_,⟨ak,⟨ai,by simp only;omega⟩,⟨by simp only;omega,by simp only;omega⟩,al,am,an,ao⟩, ?_,ab⟩
 ·unfold JK;simp only[List.append_assoc,ae];rfl
 ·unfold kD;simp only[decide_eq_true_eq];omega
theorem wX: ∀(n:Nat) {L:List Int},Byt L->24* n<=L.length-> ∃l r,l.length=n/\L=flR l++r/\(∀b∈l,QS b/\kD b=true)/\Byt r
 | 0,L,hb,_=>⟨[],L,rfl,rfl,(λb h=>by cases h),hb⟩
 | n+1,L,hb,h=>by
  obtain⟨b,r,rfl,N,O,J⟩:=U4 hb τ;rw[List.length_append,VW] at h;obtain⟨l,U,G,rfl,H,I⟩:=wX n J τ;refine⟨b::l,U,by rw[List.length_cons,G],by rw[Xm,List.append_assoc],λc d=> ?_,I⟩;simp at d;rcases d with rfl | d
  ·exact⟨N,O⟩
  ·exact H c d
theorem WY:Wv Jj:=⟨ζ,ζ,ζ,ζ,ζ⟩
theorem Zk {c:qQ} (ah:xk c) (h:(qG c).2=0): ∃r,Zx r/\vN r=true/\Qm r=(c,0):=by
 have aa:jx c=true:=by
  cases x:jx c with
  | true=>rfl
  | false=>unfold qG at h;rw[if_pos x] at h;cases h
 have ab:c.2.1=200∨c.2.1=201:=by
  by_cases h1:c.2.1=200
  ·exact Or.inl h1
  ·by_cases h2:c.2.1=201
   ·exact Or.inr h2
   ·unfold qG at h;rw[if_neg (by rw[aa];simp),if_neg h1,if_neg h2] at h;cases h
 have J:=GJ c aa ab;rw[h] at J;have G:c.2.2.1.length=QM c:=by
  by_cases h1:c.2.2.1.length<QM c
  ·rw[if_pos h1] at J;cases J
  ·by_cases h2:QM c<c.2.2.1.length
   ·rw[if_neg h1,if_pos h2] at J;cases J
   ·omega
 obtain⟨al,am,H⟩:=(zO c).1 aa;obtain⟨k,t,B,⟨⟩⟩:=c;obtain⟨⟨ai,aj⟩,_,d⟩:=ah;simp only at G al am H ai aj d ab;unfold QM at G;simp only at G;obtain⟨O,ao,rfl,ae,ad⟩:=xv d τ;rw[List.length_append,qK _ _ ζ] at G H;have ag:(4:Int).toNat=4:=rfl;rw[ag] at G H;rcases ab with rfl | rfl
 ·rw[if_pos rfl] at G;obtain⟨i,ap,rfl,an,af⟩:=UR ad τ;rw[List.length_append,VN] at G H;obtain⟨l,ac,ak,rfl,N,_⟩:=wX k.toNat af τ;rw[List.length_append,YG] at G H;have Y:ac=[]:=List.eq_nil_of_length_eq_zero τ;subst Y;have I:vN ⟨true,O,i,l⟩=true:=(kM _).2 ⟨(λh=>by cases h),λb d=>(N b d).2,by simp;omega⟩;refine⟨⟨true,O,i,l⟩,⟨ae,an,λb d=>(N b d).1⟩,I, ?_⟩;rw[kK I];have U:((l.length:Int))=k:=by omega
  simp only[U,if_true]
  congr 4
  unfold Za Zu;simp
 ·rw[if_neg ζ] at G;obtain⟨l,ac,ak,rfl,N,_⟩:=wX k.toNat ad τ;rw[List.length_append,YG] at G H;have Y:ac=[]:=List.eq_nil_of_length_eq_zero τ;subst Y;have I:vN ⟨false,O,Jj,l⟩=true:=(kM _).2 ⟨λh=>rfl,λb d=>(N b d).2,by simp;omega⟩;refine⟨⟨false,O,Jj,l⟩,⟨ae,WY,λb d=>(N b d).1⟩,I, ?_⟩;rw[kK I];have U:((l.length:Int))=k:=by omega
  simp only[U];unfold Za Zu;simp
theorem YP {c:qQ} {r:Rep} (J:xk c) (h:qG c=(r,0)):Qm r=(c,0)/\Zx r/\vN r=true:=by
 obtain⟨N,d,G,H⟩:=Zk J (by rw[h]);have I:=YW d G;rw[H,h] at I;obtain rfl:r=N:=by injection I
 exact⟨H,d,G⟩
structure Itm where
 kind:Int
 rep:Rep
 msg:Msg
 oth:qQ
instance:DecidableEq Itm:=λa b=>decidable_of_iff (a.kind=b.kind/\a.rep=b.rep/\a.msg=b.msg/\(a.oth.1=b.oth.1/\a.oth.2.1=b.oth.2.1/\a.oth.2.2.1=b.oth.2.2.1)) (by
 obtain⟨ka,ra,ma,o1,o2,o3,⟨⟩⟩:=a;obtain⟨kb,rb,mb,p1,p2,p3,⟨⟩⟩:=b
 simp)
structure Wu (x:Itm):Prop where
 rep:Zx x.rep
 msg:Zz x.msg
 oth:xk x.oth
def Gj:qQ:=(0,0,[],())
def wL:Itm:=⟨0,Qh,JI,Gj⟩
def vg:List Int->Int
 | []=>0
 | e::l=>if e=0 then vg l else e
def qv (c:qQ):Itm×Int:=
 if c.2.1=200∨c.2.1=201 then (⟨1,(qG c).1,JI,Gj⟩,(qG c).2)
 else if (qJ c).2=5 then (⟨3,Qh,JI,c⟩,0) else (⟨2,Qh,(qJ c).1,Gj⟩,(qJ c).2)
def zx (b:List Int):List Itm×Int:=
 if (jI b).2=0 then (if vg ((jI b).1.map λc=>(qv c).2)=0 then ((jI b).1.map λc=>(qv c).1,0) else ([],vg ((jI b).1.map λc=>(qv c).2))) else ([],(jI b).2)
theorem WJ:Zx Qh:=⟨ζ,by constructor<;>decide,(λb h=>by cases h)⟩
theorem WQ:xk Gj:=⟨ζ,ζ,Byt.of_all (l:=[]) rfl⟩
def Γo (x:Itm) (a:Option Addr) (b:Nat) (c:Option Addr) (d:Nat) (e:Option Addr) (f:Nat) (g:Option Addr) (h:Nat):Mm:=.o
instance (x:Itm) (a:Option Addr) (b:Nat) (c:Option Addr) (d:Nat) (e:Option Addr) (f:Nat) (g:Option Addr) (h:Nat):CoeDep Mm (Γo x a b c d e f g h) (List Value):=⟨[ι x.kind,μ x.rep.snd,ω x.rep.src,ω x.rep.inf.sec,ω x.rep.inf.frac,ω x.rep.inf.stamp,ω x.rep.inf.pkts,ω x.rep.inf.octs,δ a x.rep.bl.length b,ι x.msg.kind,ω x.msg.snd,ω x.msg.med,δ c x.msg.asks.length d,δ e x.msg.lost.length f,υ x.oth.1,υ x.oth.2.1,δ g x.oth.2.2.1.length h]⟩
instance (x:Itm) (a:Option Addr) (b:Nat) (c:Option Addr) (d:Nat) (e:Option Addr) (f:Nat) (g:Option Addr) (h:Nat):CoeDep Mm (Γo x a b c d e f g h) (Array Value):=⟨#[ι x.kind,μ x.rep.snd,ω x.rep.src,ω x.rep.inf.sec,ω x.rep.inf.frac,ω x.rep.inf.stamp,ω x.rep.inf.pkts,ω x.rep.inf.octs,δ a x.rep.bl.length b,ι x.msg.kind,ω x.msg.snd,ω x.msg.med,δ c x.msg.asks.length d,δ e x.msg.lost.length f,υ x.oth.1,υ x.oth.2.1,δ g x.oth.2.2.1.length h]⟩
instance (x:Itm) (a:Option Addr) (b:Nat) (c:Option Addr) (d:Nat) (e:Option Addr) (f:Nat) (g:Option Addr) (h:Nat):CoeDep Mm (Γo x a b c d e f g h) Value:=⟨θ #[ι x.kind,μ x.rep.snd,ω x.rep.src,ω x.rep.inf.sec,ω x.rep.inf.frac,ω x.rep.inf.stamp,ω x.rep.inf.pkts,ω x.rep.inf.octs,δ a x.rep.bl.length b,ι x.msg.kind,ω x.msg.snd,ω x.msg.med,δ c x.msg.asks.length d,δ e x.msg.lost.length f,υ x.oth.1,υ x.oth.2.1,δ g x.oth.2.2.1.length h]⟩
section
open _root_.Go.Proofs.Tryz
def Vf:qL (Int×Int):=λ_ cs a=>cs=[.int .u32 a.1,.int .u8 a.2]/\U32 a.1/\U8 a.2
theorem Cb:QQ Vf:=λ_ _ _ _ _ h=>h
theorem Au (q:Int):IntKind.i16.wrap q=(q+32768)%65536-32768:=by
 simp only[IntKind.wrap,IntKind.bits,IntKind.signed];simp;split<;>omega
theorem Ct (a b:Int):wrap64 (IntKind.i16.wrap (IntKind.u16.wrap (b-a)))=ahd a b:=by
 rw[Au,IntKind.wrap_u16];unfold ahd wrap64;omega
theorem Dl (a b:Int) (w:World) (d:U16 a) (G:U16 b):
  Calls prog 282 #[φ a,φ b] w λe w'=>e= .returned (ι (ahd a b))/\w=w':=by
 obtain⟨a0,H⟩:=d;obtain⟨I,J⟩:=G
 go_enter func282,ntmps282
 go_wp2;go_ret;refine⟨xV ?_,rfl⟩;exact Ct a b
theorem Yd (a b:Int) (w:World) (d:U16 a) (G:U16 b):
  Calls prog 244 #[φ a,φ b] w λe w'=>e= .returned (ι (ahd a b))/\w=w':=by
 go_enter func244,ntmps244
 go_wp2_with (go_at_call 282;(go_call Dl a b _ d G as e w1 ⟨rfl,rfl⟩))
 go_ret;exact⟨rfl,rfl⟩
theorem Dx (a b:Int) (w:World) (d:U16 a) (G:U16 b):
  Calls prog 329 #[φ a,φ b] w λe w'=>e= .returned (μ (decide (0<ahd a b)))/\w=w':=by
 go_enter func329,ntmps329
 go_wp2_with (go_at_call 244;(go_call Yd a b _ d G as e w1 ⟨rfl,rfl⟩))
 go_ret;exact⟨rfl,rfl⟩
theorem Xu (k:Int) (w:World):
  Calls prog 318 #[ι k] w λe w'=>e= .returned (.tuple #[υ (Zv k).1,υ (Zv k).2])/\w=w':=by
 by_cases h1:k=1
 ·subst h1
  go_enter func318,ntmps318
  go_wp2
  go_ret2
  exact⟨rfl,rfl⟩
 by_cases h2:k=2
 ·subst h2
  go_enter func318,ntmps318
  go_wp2
  go_ret2
  exact⟨rfl,rfl⟩
 have d:Zv k=(205,1):=by unfold Zv;rw[if_neg h1,if_neg h2]
 have G:=κ d;have H:(k==1)=false:=by simpa using h1
 have I:(k==2)=false:=by simpa using h2
 clear d h1 h2
 go_enter func318,ntmps318
 go_wp2
 go_ret2
 exact⟨by rw[G.o];rfl,rfl⟩
end
section
open _root_.Go.Proofs.Tryz
theorem Ci {l:List Int} {i:Nat} (h:i<l.length):l.getD i 0∈l:=by
 rw[List.getD_eq_getElem?_getD,List.getElem?_eq_getElem h];exact List.getElem_mem h
theorem Bw {w:World} {n base e size d:Nat} {cs:Array Value} (H:n=w.heap.size) (G:base<=n) (J:d<=1000000) (I:cs.size=d* size):(w.alloc (.cells cs e)).ownsRow base e size (δ (some ⟨n,0,none⟩) d d) d cs.toList:=by
 subst H;exact World.ownsRow_lit w cs d G (by unfold maxLen;omega) I
theorem Fw {m:Int} (h:U16 m) (k:Nat):bits .and .u16 (m/2 ^ k) 1=if tb m k then 1 else 0:=by
 obtain⟨G,H⟩:=h;obtain⟨d,rfl⟩:=Int.eq_ofNat_of_zero_le G;have I:d/2 ^ k<=d:=Nat.div_le_self _ _;have e:((d:Int)/2 ^ k)=((d/2 ^ k:Nat):Int):=by simp
 rw[e,show (1:Int)=((1:Nat):Int) from rfl,u16_and_nat (d/2 ^ k) 1 τ ζ];unfold tb;rw[Int.toNat_natCast,Nat.testBit_eq_decide_div_mod_eq,Nat.and_one_is_mod];rcases Nat.mod_two_eq_zero_or_one (d/2 ^ k) with h | h<;>simp[h]
def Qi (p:Int×Int) (j:Nat):List Int:=p.1::((List.range j).filter (tb p.2)).map λk:Nat=>(p.1+k+1)%65536
theorem Il (p:Int×Int):Qi p 0=[p.1]:=rfl
theorem Pe (p:Int×Int) (j:Nat):Qi p (j+1)=Qi p j++(if tb p.2 j then [(p.1+j+1)%65536] else []):=by
 unfold Qi;rw[List.range_succ,List.filter_append,List.map_append];by_cases h:tb p.2 j=true
 ·simp[h]
 ·simp[h]
theorem Bs (p:Int×Int) (j:Nat) (h:j<=16):(Qi p j).length<=17:=by
 unfold Qi;rw[List.length_cons,List.length_map];have:=List.length_filter_le (tb p.2) (List.range j);rw[List.length_range] at this;omega
theorem QJ (p:Int×Int) (w:World) (ag:U16 p.1) (U:U16 p.2):
  Calls prog 330 #[θ #[φ p.1,φ p.2]] w λe w'=> ∃v,e= .returned v/\w'.ownsRow w.heap.size 39 1 v (prN p).length ((prN p).map (Value.int .u16))/\qa w w':=by
 obtain⟨q,m⟩:=p;simp only at ag U;obtain⟨ao,hi,ak,am,an⟩:=info_parts (P:=prog) (e:=39) (z:= φ 0) (size:=1) (bytes:=2) ξ
 go_enter func330,ntmps330
 go_wp2
 go_loopw [3,8] (λv O wr=> ∃j:Nat,j<=16/\O= ι j/\wr.ownsRow (w.heap.size+1) 39 1 v (Qi (q,m) j).length ((Qi (q,m) j).map (Value.int .u16))/\qa (w.alloc (.cells #[φ q,φ m] 483)) wr) (λ_ O _=>16-(intOf O).toNat)
 case atStart=>
  refine⟨0,τ,rfl, ?_,qa.alloc _ _⟩;rw[Il];exact Bw (cs:= #[φ q]) η (Nat.le_refl _) ζ rfl
 case round=>
  obtain⟨j,ai,rfl,ac,G⟩:=hrel;have ap:=G.new 0 (v:= φ q) rfl;have aq:=G.new 1 (v:= φ m) rfl;have af:=κ ((qa.alloc w (.cells #[φ q,φ m] 483)).trans G);have J:=κ G;have H:=κ ac;have au:=Bs (q,m) j ai;by_cases hlt:j<16
  ·have ar:(j:Int)<16:=by omega
   have d:=Fw U j;have I:=κ (Pe (q,m) j);by_cases ht:tb m j=true
   ·rw[if_pos ht] at d;have ah:(bits .and .u16 (m/2 ^ j) 1==1)=true:=by rw[d];rfl
    obtain⟨n,aa⟩:=ν ((q+j+1)%65536);have av:IntKind.u16.wrap (IntKind.u16.wrap (q+(j:Int))+1)=n:=by rw[IntKind.wrap_u16,IntKind.wrap_u16];omega
    have N:Hid (Qi (q,m) (j+1)=Qi (q,m) j++[n]):=κ (by rw[I.o];simp only;rw[if_pos ht,aa]);clear d ht aa I G;generalize Qi (q,m) j=L at *;clear ac
    go_wp2_with (at_builtin;refine qU _ rfl (.tmp 17) (.tmp 24) 281 rfl (w.heap.size+1) 39 ao (φ 0) 2 underlying281 hi ak am an rfl _ .u16 L rfl (jE H.o (qa.alloc _ _)) _ [n] rfl (SlI.lit .u16 wr [n] 39 _ 1 _ rfl rfl rfl η) (by simp only[List.length_cons,List.length_nil];omega) ζ (Nat.le_trans η (J.o.al _).size) ?_;intro v5 w5 ab Y _;have ae:=κ ab;have ad:=κ ((J.o.al (.cells #[φ n] 39)).grown Y (J.o.al (.cells #[φ n] 39)).size (λz aj=>by have:=jG H.o aj;simpa using this));clear ab Y)
    go_roundw
    case rel=>exact⟨j+1,τ,by go_num,by rw[N.o];exact ae.o,ad.o⟩
    case measure=>simp[intOf];omega
   ·rw[if_neg ht] at d;have ah:(bits .and .u16 (m/2 ^ j) 1==1)=false:=by rw[d];rfl
    have N:Hid (Qi (q,m) (j+1)=Qi (q,m) j):=κ (by rw[I.o];simp only;rw[if_neg ht,List.append_nil]);clear d ht I;go_wp2;go_roundw
    case rel=>exact⟨j+1,τ,by go_num,by rw[N.o];exact H.o,J.o⟩
    case measure=>simp[intOf];omega
  ·obtain rfl:j=16:=by omega
   go_wp2;go_ret;exact⟨_,rfl,kq H.o (Nat.le_succ _),af.o⟩
end
theorem GG {w:World} {base e size n:Nat} {v:Value} {xs:List Value} (h:w.ownsRow base e size v n xs): ∃oa cap,v= δ oa n cap/\(n:Int)<=9223372036854775807:=by
 rcases h.2 with ⟨rfl,d⟩ | ⟨g,cap,cur,rfl,_,_,H,G,_⟩
 ·exact⟨none,0,by rw[d],τ⟩
 ·exact⟨_,cap,rfl,by unfold maxLen at G;omega⟩
theorem AY {w:World} {base e size n:Nat} {v:Value} {xs:List Value} (h:w.ownsRow base e size v n xs) (J:0<n): ∃g cap,v= δ (some ⟨g,0,none⟩) n cap/\base<=g/\g<w.heap.size/\(n:Int)<=9223372036854775807:=by
 rcases h.2 with ⟨rfl,I⟩ | ⟨g,cap,cur,rfl,d,G,N,H,_⟩
 ·omega
 ·exact⟨g,cap,rfl,d,lt_of_block G,by unfold maxLen at H;omega⟩
section
open _root_.Go.Proofs.Tryz
theorem Fc {n t:Int} {b:List Int} (h:t=206/\n=1):zy (n,t,b,())=1:=by unfold zy;rw[if_pos h]
theorem EZ {n t:Int} {b:List Int} (h:t=206/\n=4):zy (n,t,b,())=2:=by unfold zy;rw[if_neg (by simp only;omega),if_pos h]
theorem EY {n t:Int} {b:List Int} (h:t=205/\n=1):zy (n,t,b,())=3:=by unfold zy;rw[if_neg (by simp only;omega),if_neg (by simp only;omega),if_pos h]
theorem Fd {n t:Int} {b:List Int} (d: ¬(t=206/\n=1)) (G: ¬(t=206/\n=4)) (H: ¬(t=205/\n=1)):zy (n,t,b,())=0:=by unfold zy;rw[if_neg d,if_neg G,if_neg H]
theorem Ue (w:World):Calls prog 318 #[ι 1] w λe w'=>e= .returned (.tuple #[υ 206,υ 1])/\w=w':=Xu 1 w
theorem Ud (w:World):Calls prog 318 #[ι 2] w λe w'=>e= .returned (.tuple #[υ 206,υ 4])/\w=w':=Xu 2 w
theorem Uc (w:World):Calls prog 318 #[ι 3] w λe w'=>e= .returned (.tuple #[υ 205,υ 1])/\w=w':=Xu 3 w
theorem eqB {a b:Int} (h:a=b):(a==b)=true:=by simpa using h
theorem neB {a b:Int} (h: ¬a=b):(a==b)=false:=by simpa using h
theorem XN (n t:Int) (B:List Int) (I:Option Addr) (G:Nat) (w:World):
  Calls prog 306 #[θ #[υ n,υ t,δ I B.length G]] w λe w'=>e= .returned (ι (zy (n,t,B,())))/\qa w w':=by
 go_enter func306,ntmps306
 go_wp2
 go_loopw [9] (λad wr=> ∃j:Nat,j<=3/\ad= ι j/\(1<=j-> ¬(t=206/\n=1))/\(2<=j-> ¬(t=206/\n=4))/\(3<=j-> ¬(t=205/\n=1))/\qa ((w.alloc (.cells #[υ n,υ t,δ I B.length G] 291)).alloc (.cells #[ι 1,ι 2,ι 3] 3)) wr) (λad _=>3-(intOf ad).toNat)
 case atStart=>exact⟨0,τ,rfl,(λh=>by omega),(λh=>by omega),(λh=>by omega),qa.refl _⟩
 case round=>
  obtain⟨j,ak,rfl,ae,af,ag,H⟩:=hrel;have U:=κ ae;have ac:=κ af;have ah:=κ ag;clear ae af ag;have ab:=κ (((qa.alloc w (.cells #[υ n,υ t,δ I B.length G] 291)).al (.cells #[ι 1,ι 2,ι 3] 3)).trans H);have ai:=β0 (qc H (qs (qj w (.cells #[υ n,υ t,δ I B.length G] 291)) (.cells #[ι 1,ι 2,ι 3] 3)));have aj:=β1 (qc H (qs (qj w (.cells #[υ n,υ t,δ I B.length G] 291)) (.cells #[ι 1,ι 2,ι 3] 3)));have am:=β0 (qc H (qC (w:=w.alloc (.cells #[υ n,υ t,δ I B.length G] 291)) (o:=(.cells #[ι 1,ι 2,ι 3] 3)) (n:=w.heap.size+1) η));have an:=β1 (qc H (qC (w:=w.alloc (.cells #[υ n,υ t,δ I B.length G] 291)) (o:=(.cells #[ι 1,ι 2,ι 3] 3)) (n:=w.heap.size+1) η));have ao:=β2 (qc H (qC (w:=w.alloc (.cells #[υ n,υ t,δ I B.length G] 291)) (o:=(.cells #[ι 1,ι 2,ι 3] 3)) (n:=w.heap.size+1) η));have O:=κ H;clear H;by_cases e0:j=0
  ·subst e0;by_cases ht:t=206
   ·have aa:=eqB ht;by_cases hn:n=1
    ·have Y:=eqB hn;have N:=κ (Fc (b:=B) ⟨ht,hn⟩);clear ht hn
     go_wp2_with (go_at_call 318;(go_call Ue _ as e J ⟨rfl,rfl⟩))
     go_ret;exact⟨by rw[N.o];rfl,ab.o⟩
    ·have Y:=neB hn;have d:=κ hn;clear ht hn
     go_wp2_with (go_at_call 318;(go_call Ue _ as e J ⟨rfl,rfl⟩))
     go_roundw
     case rel=>exact⟨1,τ,by first | rfl | go_num,(λ_=>(λh=>d.o h.2)),(λh=>by omega),(λh=>by omega),O.o⟩
     case measure=>simp[intOf]
   ·have aa:=neB ht;have d:=κ ht;clear ht
    go_wp2_with (go_at_call 318;(go_call Ue _ as e J ⟨rfl,rfl⟩))
    go_roundw
    case rel=>exact⟨1,τ,by first | rfl | go_num,(λ_=>(λh=>d.o h.1)),(λh=>by omega),(λh=>by omega),O.o⟩
    case measure=>simp[intOf]
  by_cases e1:j=1
  ·subst e1;clear e0;by_cases ht:t=206
   ·have aa:=eqB ht;by_cases hn:n=4
    ·have Y:=eqB hn;have N:=κ (EZ (b:=B) ⟨ht,hn⟩);clear ht hn
     go_wp2_with (go_at_call 318;(go_call Ud _ as e J ⟨rfl,rfl⟩))
     go_ret;exact⟨by rw[N.o];rfl,ab.o⟩
    ·have Y:=neB hn;have d:=κ hn;clear ht hn
     go_wp2_with (go_at_call 318;(go_call Ud _ as e J ⟨rfl,rfl⟩))
     go_roundw
     case rel=>exact⟨2,τ,by first | rfl | go_num,(λ_=>U.o τ),(λ_=>(λh=>d.o h.2)),(λh=>by omega),O.o⟩
     case measure=>simp[intOf]
   ·have aa:=neB ht;have d:=κ ht;clear ht
    go_wp2_with (go_at_call 318;(go_call Ud _ as e J ⟨rfl,rfl⟩))
    go_roundw
    case rel=>exact⟨2,τ,by first | rfl | go_num,(λ_=>U.o τ),(λ_=>(λh=>d.o h.1)),(λh=>by omega),O.o⟩
    case measure=>simp[intOf]
  by_cases e2:j=2
  ·subst e2;clear e0 e1;by_cases ht:t=205
   ·have aa:=eqB ht;by_cases hn:n=1
    ·have Y:=eqB hn;have N:=κ (EY (b:=B) ⟨ht,hn⟩);clear ht hn
     go_wp2_with (go_at_call 318;(go_call Uc _ as e J ⟨rfl,rfl⟩))
     go_ret;exact⟨by rw[N.o];rfl,ab.o⟩
    ·have Y:=neB hn;have d:=κ hn;clear ht hn
     go_wp2_with (go_at_call 318;(go_call Uc _ as e J ⟨rfl,rfl⟩))
     go_roundw
     case rel=>exact⟨3,τ,by first | rfl | go_num,(λ_=>U.o τ),(λ_=>ac.o τ),(λ_=>(λh=>d.o h.2)),O.o⟩
     case measure=>simp[intOf]
   ·have aa:=neB ht;have d:=κ ht;clear ht
    go_wp2_with (go_at_call 318;(go_call Uc _ as e J ⟨rfl,rfl⟩))
    go_roundw
    case rel=>exact⟨3,τ,by first | rfl | go_num,(λ_=>U.o τ),(λ_=>ac.o τ),(λ_=>(λh=>d.o h.1)),O.o⟩
    case measure=>simp[intOf]
  ·obtain rfl:j=3:=by omega
   have N:=κ (Fd (b:=B) (U.o τ) (ac.o τ) (ah.o τ));clear e0 e1 e2;go_wp2;go_ret;exact⟨by rw[N.o];rfl,ab.o⟩
end
structure DG (w:World) (va vl:Value) (m:Msg):Prop where
 asks:SlP 2 Vf w va m.asks
 lost:SlI .u16 w vl m.lost
def jX (w:World) (v:Value):Prop:= ∀g,v.ownBlock=some g->w.heap.size<=g
theorem jX.nil (w:World):jX w (δ none 0 0):=λg h=>by cases h
theorem Hw (x:Int):(qy x 4).length=4:=qK x 4 ζ
theorem Gk (x:Int):(qy x 1).length=1:=qK x 1 ζ
theorem XC {S:Nat->Prop} {w w':World} {base e size n:Nat} {v:Value} {xs:List Value} (h:w.ownsRow base e size v n xs) (m:qg S w w') (H: ∀b,v.ownBlock=some b-> ¬S b):w'.ownsRow base e size v n xs:=by
 obtain⟨d,G⟩:=h;refine⟨d, ?_⟩;rcases G with h | ⟨g,cap,cur,e1,hb,hg,rest⟩
 ·exact Or.inl h
 ·exact Or.inr ⟨g,cap,cur,e1,hb,m.blk hg (H g (by rw[e1];rfl)),rest⟩
theorem Ou {w:World} {b:Nat} {t:TypeId} {a0 d G:Value} (h:w.heap[b]? =some (.cells #[a0,d,G] t (0,0))) (v0 v1 v2:Value):(((w.setCell ⟨b,0,none⟩ v0).setCell ⟨b,1,none⟩ v1).setCell ⟨b,2,none⟩ v2).heap[b]? =some (.cells #[v0,v1,v2] t (0,0)):=
 qB (qp (qp (qp h 0 v0) 1 v1) 2 v2) rfl
theorem qa.st3 {w w':World} (h:qa w w') (b:Nat) (d:w.heap.size<=b) (v0 v1 v2:Value):qa w (((w'.setCell ⟨b,0,none⟩ v0).setCell ⟨b,1,none⟩ v1).setCell ⟨b,2,none⟩ v2):=
 ((h.st (p:=⟨b,0,none⟩) d v0).st (p:=⟨b,1,none⟩) d v1).st (p:=⟨b,2,none⟩) d v2
theorem Dj {w:World} {I:Option Addr} {n c:Nat} {l:List (Int×Int)} (h:SlP 2 Vf w (δ I n c) l) (i:Nat) (hi:i<l.length): ∃b d,I=some ⟨b,d,none⟩/\b<w.heap.size/\
  (∀x,qa w x->x.cell? ⟨b,d+i* 2,none⟩=some (ω (l.getD i (0,0)).1)/\x.cell? ⟨b,d+i* 2+1,none⟩=some (υ (l.getD i (0,0)).2))/\U32 (l.getD i (0,0)).1/\U8 (l.getD i (0,0)).2:=by
 obtain⟨ab,Y,e,_,N,_⟩:=h;cases e;obtain⟨b,d,cs,e,G,aa,H,rfl,O,U⟩:=N i hi;have J:l.getD i (0,0)=l[i]:=by rw[List.getD_eq_getElem?_getD,List.getElem?_eq_getElem hi];rfl
 rw[J];refine⟨b,d,e,G,λx m=>⟨?_, ?_⟩,O,U⟩
 ·rw[m.cells b _ G];exact H 0 ζ
 ·rw[m.cells b _ G];exact H 1 ζ
theorem Sj (x:Int):(qy x 2).length=2:=qK x 2 ζ
section
open _root_.Go.Proofs.Tryz
structure AkJ (w0 w:World) (R:Nat) (C:Nat->Prop) (v:Value) (acc:List (Int×Int)) (s:RdS):Prop where
 rd:qu w R s.1 s.2 C
 row:je 2 Vf (λb=>b=R) w w0.heap.size 421 v acc
 away:qg (λb=>b=R) w0 w
 hC: ∀g,C g->g<w0.heap.size
 hR:R<w0.heap.size
section
variable {w0 w w':World} {R:Nat} {C:Nat->Prop} {v v':Value} {acc acc':List (Int×Int)} {s s':RdS}
theorem AkJ.read (h:AkJ w0 w R C v acc s) (r:qu w' R s'.1 s'.2 C) (a:qg (λb=>b=R) w w'):AkJ w0 w' R C v acc s':=⟨r,h.row.step a,h.away.trans a,h.hC,h.hR⟩
theorem AkJ.on (h:AkJ w0 w R C v acc s) (m:qa w w'):AkJ w0 w' R C v acc s:=⟨h.rd.more m,h.row.on m,h.away.more m,h.hC,h.hR⟩
theorem AkJ.put (h:AkJ w0 w R C v acc s) (O:je 2 Vf (λb=>b=R) w' w0.heap.size 421 v' acc') (d:w.grownBy w' v.ownBlock):AkJ w0 w' R C v' acc' s:=by
 have I: ∀g,v.ownBlock=some g->w0.heap.size<=g:=λg e=>h.row.ge e
 have H:=h.away.size;have a:qg (λb=>v.ownBlock=some b) w w':=⟨d.os,d.tape,d.output,d.size,λk G H=>d.block k G (λe=>H e.symm)⟩;refine⟨h.rd.off a (λe=>by have:=I R e;have:=h.hR;omega) (λg J e=>by have:=I g e;have:=h.hC g J;omega),O, ?_,h.hC,h.hR⟩
 exact⟨a.os.trans h.away.os,a.tape.trans h.away.tape,a.output.trans h.away.output,Nat.le_trans H a.size,λk G N=>by
  rw[a.block k (Nat.lt_of_lt_of_le G H) (λe=>by have:=I k e;omega)]
  exact h.away.block k G N⟩
end
theorem yg {n:Nat} {acc:List (Int×Int)} {s:RdS} (h: ¬s.1=[]):jm (n+1) acc s=jm n (acc++[(wu s).1]) (wu s).2:=by
 show (if s.1=[] then _ else _)=_;rw[if_neg h]
theorem Xo {s:RdS} (h: ¬s.1=[]):(wu s).2.1.length+1<=s.1.length:=by
 have d:=List.length_pos_iff.2 h;have e:(wu s).2.1=((s.1.drop 4).drop 1).drop 3:=rfl;rw[e,List.length_drop,List.length_drop,List.length_drop];omega
theorem VK {s:RdS} (h: ¬s.1=[]):(0:Int)<(s.1.length:Int):=by
 have:=List.length_pos_iff.2 h;omega
theorem Y7 {w:World} {R:Nat} {s0:RdS} {N:Nat->Prop} (h:qu w R s0.1 s0.2 N) (hR:R<w.heap.size):
  Calls prog 307 #[γ R] w λe w'=> ∃v',e= .returned v'/\AkJ w w' R (λg=>N g/\g<w.heap.size) v' (jm s0.1.length [] s0).1 (jm s0.1.length [] s0).2:=by
 obtain⟨aN,hi,aI,aJ,aK⟩:=info_parts (P:=prog) (e:=421) (z:= θ #[ω 0,υ 0]) (size:=2) (bytes:=8) ξ;obtain⟨C,aa⟩: ∃C:Nat->Prop,C=λg=>N g/\g<w.heap.size:=⟨_,rfl⟩
 have aw:Hid (AkJ w w R C (δ none 0 0) [] s0):=κ (by rw[aa];exact⟨h.old,je.nil _ _ _ _ _ _,qg.refl _ _,λg h=>h.2,hR⟩);rw[<-aa];have aT:=h.small;clear aa h
 go_enter func307,ntmps307
 go_wp2
 go_loopw [3] (λv wr=> ∃acc s n,AkJ w wr R C v acc s/\s.1.length<=n/\jm n acc s=jm s0.1.length [] s0/\acc.length+s.1.length<=s0.1.length) (λv _=>s0.1.length-QO v)
 case atStart=>exact⟨[],s0,s0.1.length,aw.o,Nat.le_refl _,rfl,η⟩
 case round=>
  obtain⟨acc,s,n,ab,aR,I,aQ⟩:=hrel;have H:=κ ab;have aj:=κ I;obtain⟨aX,aV,aP,rfl,ap,aM⟩:=ab.row.shape;have az:=κ ap;clear ab I ap aM;by_cases hs:s.1=[]
  ·have I:=aj.o;obtain⟨l,e⟩:=s;simp only at hs;subst hs;rw[zE] at I;have ax:=κ I;clear I
   go_wp2_with (go_at_call 57;(go_call zn H.o.rd as e w9 ⟨rfl,rfl⟩))
   go_ret;exact⟨_,rfl,by rw[<-ax.o];exact H.o⟩
  ·have aS:=VK hs;have al:=Xo hs;have ae:=H.o.rd.byt;have an:=κ (Gc ae);obtain⟨n,rfl⟩: ∃k,n=k+1:=⟨n-1,by have:=List.length_pos_iff.2 hs;omega⟩;have ay:Hid (jm n (acc++[(wu s).1]) (wu s).2=jm s0.1.length [] s0):=κ (by rw[<-yg hs];exact aj.o);have ai:=κ al;obtain⟨d,ac⟩: ∃X,num (tkB s.1 4)=X:=⟨_,rfl⟩;obtain⟨G,ad⟩: ∃X,num (tkB (tkS s 4).1 1)=X:=⟨_,rfl⟩;have aC:=κ ac;have aD:=κ ad;have O:Hid ((wu s).1=(d,G)):=κ (by rw[<-ac,<-ad];rfl);clear ae hs al ac ad
   go_wp2_with (first | (go_at_call 57;(go_call zn H.o.rd as e w9 ⟨rfl,rfl⟩)) | (go_at_call 54;(go_call jD H.o.rd as e w2 ⟨rfl,aq,ak⟩;rw[aC.o];have U:=κ (H.o.read (s':=tkS s 4) aq ak);clear aq ak)) | (go_at_call 52;(go_call jT U.o.rd as e au ⟨rfl,ag,a3⟩;rw[aD.o];have aB:=κ ((U.o.read (s':=tkS (tkS s 4) 1) ag a3).away.size);have Y:=κ ((U.o.read (s':=tkS (tkS s 4) 1) ag a3).on (qa.alloc au (.cells #[ω d,υ G] 421)));have av:=κ (qj au (.cells #[ω d,υ G] 421));clear ag a3)) | (go_at_call 328;(go_call Je Y.o.rd as e w4 ⟨rfl,ar,a4⟩;have aE:=κ (Y.o.read (s':=(wu s).2) ar a4);have ah:=κ (a4.blk av.o (λe=>by have:=Y.o.hR;have:=aB.o;omega));clear ar a4;have aG:=β0 ah.o;have aH:=β1 ah.o;have J:=κ (aE.o.on (qa.alloc w4 (.cells #[ω d,υ G] 421))))) | (at_builtin;refine jN _ rfl (.tmp 15) (.tmp 17) 280 rfl w.heap.size 421 aN (θ #[ω 0,υ 0]) 2 8 underlying280 hi aI aJ aK rfl ζ _ acc rfl J.o.row w4.heap.size [ω d,υ G] (d,G) rfl rfl (zS rfl) (by simp[Value.oneCell']) (λ_ _=>⟨rfl,by have:=an.o.1;rw[O.o] at this;exact this,by have:=an.o.2.1;rw[O.o] at this;exact this⟩) (λb ae=>by have:=J.o.hR;have:=J.o.away.size;omega) ζ τ J.o.away.size ?_;intro v6 w6 af am _;have aF:=κ (J.o.put af am);obtain⟨aW,aU,aO,rfl,ao,aL⟩:=af.shape;have aA:=κ ao;clear af am ao aL aG aH))
   go_roundw
   case rel=>exact⟨acc++[(d,G)],(wu s).2,n,aF.o,by have:=ai.o;omega,by have:=ay.o;rw[O.o] at this;exact this,by have:=ai.o;simp only[List.length_append,List.length_cons,List.length_nil];omega⟩
   case measure=>have:=aA.o;have:=az.o;simp[QO] at *;omega
end
end Go.Proofs.YtlmllmonabafjaaGreatDoor
