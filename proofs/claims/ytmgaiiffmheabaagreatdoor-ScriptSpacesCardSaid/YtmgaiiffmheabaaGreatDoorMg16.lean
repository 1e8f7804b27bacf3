/- x -/
import Derived.Test.YtmgaiiffmheabaaGreatDoorMg12
namespace Go.Proofs.YtmgaiiffmheabaaGreatDoor
open Option renaming some->ϊ,none->ϋ
open Bool renaming true->ό,false->ύ
open Go.Value renaming bool->μ,slice->δ,pointer->π,agg->θ
open Go.IntKind renaming i64->ι,u8->υ,u16->φ,u32->ω,i32->χ,u64->ψ
set_option linter.all false
set_option maxHeartbeats 8000000
open Go.RowKit
set_option maxRecDepth 100000
open _root_.Go.Proofs.Tryz
variable {L:List (List UInt8)} {l a r:List UInt8} {w:World} {c:UInt8} {F:List Nat} {n:Nat}
def qgF (u:Nat):(10:UInt8)∉Lib.decDigits u:=by
 rw[Lib.decDigits_eq];intro h;obtain⟨t,_,e⟩:=ο.1 h;have k: ∀k<10,UInt8.ofNat (48+k)≠10:=by decide
 exact k _ (I2 _ ζ) e
def qgm (n:Int):(10:UInt8)∉Lib.itoa n:=by
 unfold Lib.itoa;split
 ·intro h;rcases Ϟ.1 h with e | e
  ·exact ϧ e ζ
  ·exact qgF _ e
 ·exact qgF _
def qgl {sep:List UInt8} (G:c∉sep) (h: ∀x∈L,c∉x):c∉Lib.join L sep:=by
 cases L with
 | nil=>rw[Lib.join_nil];exact Ϻ
 | cons x r=>
  rw[Lib.join_cons];intro k;rcases Ϫ.1 k with k | k
  ·exact h x η k
  ·unfold Lib.joinTail at k;obtain⟨l,d,k⟩:=List.mem_flatten.1 k;obtain⟨y,H,rfl⟩:=ο.1 d;rcases Ϫ.1 k with k | k
   ·exact G k
   ·exact h y (ϛ _ H) k
def qgq (d:c≠10) (L:List Int):(10:UInt8)∉Lib.join (L.map Lib.itoa) [c]:=
 qgl (by simp[C4 d]) λx G=>by
  obtain⟨n,_,rfl⟩:=ο.1 G;exact qgm n
def qgJ (h: ∀x∈L,(10:UInt8)∉x):(10:UInt8)∉qcb L:=by
 unfold qcb;split
 ·decide
 ·exact qgl ζ h
def qgY (b:Bool):(10:UInt8)∉qbS b:=by cases b<;>decide
def qgO:Res->Prop
 | .told l=>(10:UInt8)∉l
 | .err _=>True
def qgB (a:Int):qgO (kx a):=by
 unfold kx;split
 ·exact Ϻ
 ·trivial
def qgT (i:Nat) (ns:List Int) (s:RmS):qgO (qdM i ns s).2:=by
 unfold qdM;split<;>first
  | exact qgB _
  | exact qgY _
  | exact qgq ζ _
  | exact qgm _
  | exact Ϻ
  | (refine qgJ λx d=> ?_;obtain⟨q,_,rfl⟩:=ο.1 d;exact qgq ζ _)
def qgn (k:Int):(10:UInt8)∉qbT k:=by
 unfold qbT;intro h;rcases Ϫ.1 h with h | h
 ·exact ϧ h ζ
 ·exact qgm k h
def qgW {r:Res} (h:qgO r):(10:UInt8)∉qd2 r:=by
 cases r with
 | told l=>
  show (10:UInt8)∉Sk l;unfold Sk;split
  ·decide
  ·intro k;rcases Ϫ.1 k with k | k
   ·exact ϧ k ζ
   ·exact h k
 | err k=>exact qgn k
def qg0 (o:Option RmS) (d:ByteArray) (ns:List Int):qgO (stS o d ns).2:=by
 unfold stS;split
 ·exact qgB _
 ·split
  ·trivial
  ·exact qgT _ _ _
def qgK (o:Option RmS) (ws:List ByteArray):(10:UInt8)∉(kc o ws).2:=by
 unfold kc;split
 ·exact Ϻ
 ·split
  ·exact qgn _
  ·split
   ·exact qgn _
   ·exact qgW (qg0 _ _ _)
def qfW: ∀l:List UInt8,c∉l->gt c l=[l]
 | [],_=>rfl
 | b::l,h=>by
  rw[qc4,Ϗ (λe=>h (by simp[e])),qfW l λk=>h (ϛ _ k)];rfl
def qgw: ∀l:List UInt8,∀p∈gt c l,c∉p/\ ∀x∈p,x∈l
 | [],p,h=>by
  have e:p=[]:=by simpa [gt] using h
  subst e;exact⟨Ϻ,λx d=>ϧ d Ϻ⟩
 | b::l,p,h=>by
  have G:=qgw l;rw[qc4] at h;split at h
  ·rcases Ϟ.1 h with rfl | h
   ·exact⟨Ϻ,λx d=>ϧ d Ϻ⟩
   ·exact⟨(G p h).1,λx d=>ϛ _ ((G p h).2 x d)⟩
  ·rename_i H;rw[<-qfe l] at G;rcases Ϟ.1 h with rfl | h
   ·have k:=G _ (ϟ ..);refine⟨λe=> ?_,λx d=> ?_⟩
    ·rcases Ϟ.1 e with e | e
     ·exact H e.symm
     ·exact k.1 e
    ·rcases Ϟ.1 d with e | e
     ·rw[e];exact ϟ ..
     ·exact ϛ _ (k.2 x e)
   ·have k:=G p (ϛ _ h);exact⟨k.1,λx d=>ϛ _ (k.2 x d)⟩
def qfP (l:List UInt8):List (List UInt8):=(gt 32 l).filter λp=> !(p==[])
def qfX (l:List UInt8):qc (ofL l)=(qfP l).map ofL:=by
 rw[qd];show ((gt 32 l).map ofL).filter qcr=_;unfold qfP;rw[List.filter_map]
 congr 1
 refine List.filter_congr λp _=> ?_
 show qcr (ofL p)=_;unfold qcr;rw[ByteArray.toList_eq];rfl
def qfR (a b:List UInt8):qfP (a++32::b)=qfP a++qfP b:=by
 unfold qfP;rw[qdI,G0]
def qf0:qfP []=[]:=rfl
def qgg {x:List UInt8} (h:x≠[]) (k:(32:UInt8)∉x):qfP x=[x]:=by
 unfold qfP;rw[qfW x k,G2];simp[h]
def qgi (l:List UInt8): ∀x∈qfP l,x≠[]/\(32:UInt8)∉x/\ ∀y∈x,y∈l:=by
 intro x h;unfold qfP at h;obtain⟨d,G⟩:=E8.1 h;have k:=qgw l x d;exact⟨λe=>(by subst e;cases G),k.1,k.2⟩
def qge: ∀r:List (List UInt8),(∀x∈r,x≠[]/\(32:UInt8)∉x)-> ∀a:List UInt8,qfP (a++(Lib.joinTail [32,32,32] r++[32]))=qfP a++r
 | [],_,a=>by
  show qfP (a++32::[])=_;rw[qfR,qf0]
 | y::r,h,a=>by
  have I:=qge r (λx H=>h x (ϛ _ H)) y;have e:a++(Lib.joinTail [32,32,32] (y::r)++[32])=a++32::([]++32::([]++32::(y++(Lib.joinTail [32,32,32] r++[32])))):=by
   simp[Lib.joinTail]
  obtain⟨d,G⟩:=h y (ϟ ..);rw[e,qfR,qfR,qfR,I,qf0,qgg d G];rfl
def qga (ws:List (List UInt8)):List UInt8:=[32,32]++(Lib.join ws [32,32,32]++[32])
def qgx (l:List UInt8):qfP (qga (qfP l))=qfP l:=by
 have h:=qgi l;generalize qfP l=ws at h;have e: ∀x:List UInt8,qfP ([32,32]++x)=qfP x:=λx=>by
  show qfP ([]++32::([]++32::x))=_;rw[qfR,qfR,qf0];rfl
 unfold qga;rw[e];cases ws with
 | nil=>rfl
 | cons y r=>
  rw[Lib.join_cons,ϭ,qge r (λx d=>⟨(h x (ϛ _ d)).1,(h x (ϛ _ d)).2.1⟩),qgg (h y (ϟ ..)).1 (h y (ϟ ..)).2.1];rfl
def qgS (h:(10:UInt8)∉l):(10:UInt8)∉qga (qfP l):=by
 unfold qga;intro k;rcases Ϫ.1 k with k | k
 ·exact ϧ k ζ
 ·rcases Ϫ.1 k with k | k
  ·exact qgl ζ (λx d e=>h ((qgi l x d).2.2 _ e)) k
  ·exact ϧ k ζ
def qgp (l:List UInt8):List UInt8:=[32,32]++Lib.join (qfP l) [32,32,32]++[32,10,32,10]
def bT (L:List (List UInt8)):List UInt8:=L.flatMap qgp
def qgG: ∀L:List (List UInt8),(∀l∈L,(10:UInt8)∉l)->gt 10 (bT L)=(L.flatMap λl=>[qga (qfP l),[32]])++[[]]
 | [],_=>rfl
 | l::L,h=>by
  have e:bT (l::L)=qga (qfP l)++10::([32]++10::bT L):=by
   unfold bT qgp qga;simp
  rw[e,qdI,qdI,qgG L λx d=>h x (ϛ _ d),qfW _ (qgS (h l (ϟ ..))),qfW [32] ζ];rfl
def qfU (L:List (List UInt8)):List (List ByteArray):=L.map λl=>qc (ofL l)
def qfT (a:List UInt8):(qg (ofL a)).map qc=qfU (gt 10 a):=by
 rw[BO,G4];rfl
def qgr (h: ∀l∈L,(10:UInt8)∉l):(qg (ofL (bT L))).map qc=((qfU L).flatMap λws=>[ws,[]])++[[]]:=by
 rw[qfT,qgG L h];unfold qfU;rw[ϩ,List.map_flatMap,List.flatMap_map];have e0:qfP []=[]:=rfl;have d:qfP [32]=[]:=rfl;simp only[Ϛ,C6,e0,d,qfX,qgx]
def qgc: ∀(L:List (List ByteArray)) (o:Option RmS),qdo o ((L.flatMap λws=>[ws,[]])++[[]])=qdo o L
 | [],o=>rfl
 | []::L,o=>qgc L o
 | (nm::args)::L,o=>by
  show ((qdo (kc o (nm::args)).1 ((L.flatMap λws=>[ws,[]])++[[]])).1,(kc o (nm::args)).2++10::(qdo (kc o (nm::args)).1 ((L.flatMap λws=>[ws,[]])++[[]])).2)=((qdo (kc o (nm::args)).1 L).1,(kc o (nm::args)).2++10::(qdo (kc o (nm::args)).1 L).2);rw[qgc L]
def qgz: ∀L:List (List ByteArray),wtS ((L.flatMap λws=>[ws,[]])++[[]])=wtS L
 | []=>rfl
 | ws::L=>by
  have d:=qgz L;rw[R4,ϭ,qcu,d,qbV,qbV,qbV];show wtL ws+(0+0)+wtS L=_;omega
def qgN:List UInt8:=[99,111,117,110,116,115]
def qgM:List UInt8:=[101,110,100,101,100]
def qgj:List ByteArray:=[⟨#[99,111,117,110,116,115]⟩]
def qgo:List ByteArray:=[⟨#[101,110,100,101,100]⟩]
def chQ (l:List UInt8):List UInt8:=if qfP l=[] then [] else l++[10,99,111,117,110,116,115,10,101,110,100,101,100,10]
def qT (L:List (List UInt8)):List UInt8:=L.flatMap chQ
def qfY:List (List ByteArray)->List (List ByteArray):=List.filter λws=> !(ws==[])
def qfZ (L:List (List ByteArray)):List (List ByteArray):=L.flatMap λws=>[ws,qgj,qgo]
def qf3: ∀L:List (List UInt8),(∀l∈L,(10:UInt8)∉l)->(qg (ofL (qT L))).map qc=qfZ (qfY (qfU L))++[[]]
 | [],_=>by
  rw[qfT];show qfU [[]]=[[]];show [qc (ofL [])]=_;rw[qfB]
 | l::L,h=>by
  have d:=qf3 L λx I=>h x (ϛ _ I)
  rw[qfT] at d ⊢;have H:qfU (l::L)=qc (ofL l)::qfU L:=rfl;by_cases hw:qfP l=[]
  ·have e:qT (l::L)=qT L:=by
    show chQ l++qT L=_;unfold chQ;rw[ϓ hw];rfl
   have G:qc (ofL l)=[]:=by rw[qfX,hw];rfl
   rw[e,H,G,d];rfl
  ·have e:qT (l::L)=l++10::(qgN++10::(qgM++10::qT L)):=by
    show chQ l++qT L=_;unfold chQ;rw[Ϗ hw];simp[qgN,qgM]
   have G:(qc (ofL l)==[])=ύ:=by
    rw[qfX];cases hq:qfP l with
    | nil=>exact ϧ hq hw
    | cons x xs=>rfl
   rw[e,qdI,qdI,qdI,qfW l (h l (ϟ ..)),qfW qgN ζ,qfW qgM ζ,H];unfold qfU at d ⊢;simp only[ϩ,Ϛ,C6];rw[d];unfold qfY qfZ;rw[G2,G];have J:qc (ofL qgN)=qgj:=qfx;have N:qc (ofL qgM)=qgo:=qfG;rw[J,N];rfl
def qf9: ∀L:List (List ByteArray),wtS (qfZ (qfY L))=wtS L
 | []=>rfl
 | []::L=>by
  have d:=qf9 L;rw[qbV];show wtS (qfZ (qfY L))=0+_;omega
 | (nm::args)::L=>by
  have d:=qf9 L;have e:qfZ (qfY ((nm::args)::L))=(nm::args)::qgj::qgo::qfZ (qfY L):=rfl;have G:wtL qgj=0:=by decide
  have H:wtL qgo=0:=by decide
  rw[e,qbV,qbV,qbV,qbV,d,G,H];omega
def qfS:Option RmS->List (List ByteArray)->List (List UInt8)
 | _,[]=>[]
 | o,[]::L=>qfS o L
 | o,(nm::args)::L=>(kc o (nm::args)).2::qfS (kc o (nm::args)).1 L
def qf2: ∀(L:List (List ByteArray)) (o:Option RmS),gt 10 (qdo o L).2=qfS o L++[[]]
 | [],o=>rfl
 | []::L,o=>qf2 L o
 | (nm::args)::L,o=>by
  show gt 10 ((kc o (nm::args)).2++10::(qdo (kc o (nm::args)).1 L).2)=_;rw[qdI,qf2 L,qfW _ (qgK o (nm::args))];rfl
def qgd: ∀(L:List (List ByteArray)) (o:Option RmS),qfS o (qfY L)=qfS o L
 | [],o=>rfl
 | []::L,o=>qgd L o
 | (nm::args)::L,o=>by
  show (kc o (nm::args)).2::qfS (kc o (nm::args)).1 (qfY L)=_;rw[qgd L];rfl
def qgh {o:Option RmS} {ws:List ByteArray} (h:ws=qgj∨ws=qgo):(kc o ws).1=o:=by
 rcases h with rfl | rfl
 ·cases o<;>rfl
 ·cases o<;>rfl
def qgs: ∀(L:List (List ByteArray)) (o:Option RmS),(∀ws∈L,ws≠[])->(qfS o (qfZ L++[[]])).length=3* (qfS o L).length/\ ∀i,(qfS o L)[i]? =if i<(qfS o L).length then (qfS o (qfZ L++[[]]))[3* i]? else ϋ
 | [],o,_=>⟨rfl,λi=>by simp[qfS]⟩
 | []::L,o,h=>ϧ rfl (h [] (ϟ ..))
 | (nm::args)::L,o,h=>by
  obtain⟨H,I⟩:=qgs L (kc o (nm::args)).1 λx G=>h x (ϛ _ G)
  have e:qfS o (qfZ ((nm::args)::L)++[[]])=(kc o (nm::args)).2::(kc (kc o (nm::args)).1 qgj).2::(kc (kc o (nm::args)).1 qgo).2::qfS (kc o (nm::args)).1 (qfZ L++[[]]):=by
   show (kc o (nm::args)).2::(kc (kc o (nm::args)).1 qgj).2::(kc (kc (kc o (nm::args)).1 qgj).1 qgo).2::qfS (kc (kc (kc o (nm::args)).1 qgj).1 qgo).1 (qfZ L++[[]])=_;rw[qgh (ϑ rfl),qgh (ϕ rfl)]
  have d:qfS o ((nm::args)::L)=(kc o (nm::args)).2::qfS (kc o (nm::args)).1 L:=rfl;rw[e,d];refine⟨by simp only[Ϙ,H];omega,λi=> ?_⟩
  match i with
  | 0=>simp
  | i+1=>
   rw[show 3* (i+1)=3* i+1+1+1 by omega,List.getElem?_cons_succ,List.getElem?_cons_succ,List.getElem?_cons_succ,List.getElem?_cons_succ,I i];simp
def qgk (a:List UInt8):qbZ (ofL a)=(qdo ϋ ((qg (ofL a)).map qc)).2:=by
 unfold qbZ;rw[qd8]
def qf1 (a:List UInt8): ∀l∈gt 10 a,(10:UInt8)∉l:=λl h=>(qgw a l h).1
def qg1 (a:List UInt8):qbZ (ofL (bT (gt 10 a)))=qbZ (ofL a):=by
 rw[qgk,qgk,qgr (qf1 a),qgc,qfT]
def qgu (a:List UInt8):wtS (qfU (gt 10 a))<=a.length+1:=by
 have h:=qcQ a;rw[qfT] at h;exact h
def qg7 (h:a.length<=1000):okL ((qg (ofL (bT (gt 10 a)))).map qc):=by
 refine qcA _ ?_;rw[qgr (qf1 a),qgz];have:=qgu a;omega
def qg6 (h:a.length<=1000):okL ((qg (ofL (qT (gt 10 a)))).map qc):=by
 refine qcA _ ?_;have e:wtS (qfZ (qfY (qfU (gt 10 a)))++[[]])=wtS (qfU (gt 10 a))+0:=by rw[qcu,qf9];rfl
 rw[qf3 _ (qf1 a),e];have:=qgu a;omega
def qgy (a:List UInt8):
  (qg (ofL (qbZ (ofL (qT (gt 10 a)))))).length+2=3* (qg (ofL (qbZ (ofL a)))).length/\1<=(qg (ofL (qbZ (ofL a)))).length/\
   ∀i,i+1<(qg (ofL (qbZ (ofL a)))).length->(qg (ofL (qbZ (ofL (qT (gt 10 a))))))[3* i]? =(qg (ofL (qbZ (ofL a))))[i]? :=by
 have I: ∀ws∈qfY (qfU (gt 10 a)),ws≠[]:=λws h=>by
  have k:=(E8.1 h).2;intro e;subst e;cases k
 obtain⟨J,H⟩:=qgs (qfY (qfU (gt 10 a))) ϋ I;have d:qg (ofL (qbZ (ofL a)))=(qfS ϋ (qfY (qfU (gt 10 a)))++[[]]).map ofL:=by
  rw[BO];show (gt 10 (qbZ (ofL a))).map ofL=_;rw[qgk,qf2,qfT,qgd]
 have G:qg (ofL (qbZ (ofL (qT (gt 10 a)))))=(qfS ϋ (qfZ (qfY (qfU (gt 10 a)))++[[]])++[[]]).map ofL:=by
  rw[BO];show (gt 10 (qbZ (ofL (qT (gt 10 a))))).map ofL=_;rw[qgk,qf2,qf3 _ (qf1 a)]
 rw[d,G];generalize qfS ϋ (qfY (qfU (gt 10 a)))=A at *;generalize qfS ϋ (qfZ (qfY (qfU (gt 10 a)))++[[]])=A3 at *;simp only[ϱ,ώ,I1];refine⟨τ,τ,λi hi=> ?_⟩;rw[B6,B6,Ψ τ,Ψ τ,H i,ϓ τ]
def qgb: ∀L:List (List UInt8),(L.map λp=>p.length+1).sum=Lib.lens L+L.length
 | []=>rfl
 | x::L=>by
  have d:=qgb L;simp only[Lib.lens,Ϛ,G3,Ϙ] at d ⊢;omega
def qgf (l:List UInt8):Lib.lens (qfP l)+(qfP l).length<=l.length+1:=by
 have h:=qcN (λp:List UInt8=>p.length+1) (λp=> !(p==[])) (gt 32 l);rw[qcx,qgb] at h;exact h
def qf5 (l:List UInt8):(Lib.join (qfP l) [32,32,32]).length<=3* (l.length+1):=by
 have h:=qgf l;generalize qfP l=ws at h;cases ws with
 | nil=>exact ϫ _
 | cons x r=>
  rw[Lib.join_length];simp only[Ϙ,Ϣ] at h ⊢;omega
def qf6 {α:Type} (f:α->List UInt8) (m:Nat): ∀L:List α,(∀l∈L,(f l).length<=m)->(L.flatMap f).length<=L.length* m
 | [],_=>ϫ _
 | l::L,h=>by
  have G:=qf6 f m L λx d=>h x (ϛ _ d)
  have k:=h l (ϟ ..);rw[R4,ώ,Ϙ,Nat.succ_mul];omega
def qgL (h:l.length<=1000):(qgp l).length<=4000:=by
 have:=qf5 l;unfold qgp;simp only[ώ,Ϙ,Ϣ];omega
def qgU (h:l.length<=1000):(chQ l).length<=4000:=by
 unfold chQ;split
 ·exact ϫ _
 ·simp only[ώ,Ϙ,Ϣ];omega
def qgR (a:List UInt8):(gt 10 a).length<=a.length+1:=by
 have h:=qcx 10 a;rw[qgb] at h;omega
def qgH (h: ∀l∈L,l.length<=1000) (I:L.length<=1001) (j:Nat):(bT (L.take j)).length<=1001* 4000/\(qT (L.take j)).length<=1001* 4000:=by
 have G:(L.take j).length<=1001:=by rw[Ϥ];omega
 have H: ∀l∈L.take j,l.length<=1000:=λl d=>h l (V7 d)
 exact⟨ϙ (qf6 qgp 4000 _ λl d=>qgL (H l d)) (A0 _ G),ϙ (qf6 chQ 4000 _ λl d=>qgU (H l d)) (A0 _ G)⟩
def qgV (L:List (List UInt8)) (j:Nat) (h:j<L.length):bT (L.take (j+1))=bT (L.take j)++qgp L[j]:=by
 rw[ϡ h];unfold bT;rw[M9];simp
def qgP (L:List (List UInt8)) (j:Nat) (h:j<L.length):qT (L.take (j+1))=qT (L.take j)++chQ L[j]:=by
 rw[ϡ h];unfold qT;rw[M9];simp
def qg3 (a:List UInt8):bT (gt 10 a)≠[]:=by
 cases h:gt 10 a with
 | nil=>exact ϧ h (qdJ 10 a)
 | cons x xs=>simp[bT,qgp]
structure qfV (w0:World) (b1 b2 S:Nat) (x:Obj) (F1 F2:List Nat) (w:World) (l1 l2:List UInt8):Prop where
 more:ql w0 w
 d1:Bd w0.heap.size F1 w b1 l1
 d2:Bd w0.heap.size F2 w b2 l2
 r1: ∀b∈F1,w0.heap.size<=b/\b<w.heap.size
 r2: ∀b∈F2,w0.heap.size<=b/\b<w.heap.size
 dj: ∀b∈F1,b∉F2
 bs:w.heap[S]? =ϊ x
 n1:S∉F1
 n2:S∉F2
section
variable {w0 w w':World} {b1 b2 S:Nat} {x:Obj} {F1 F2:List Nat} {l1 l2 l1' l2':List UInt8}
def qgA {F':List Nat} (a:jt (λb=>b∈F) w w') (h: ∀b∈F',b∉F) (r: ∀b∈F',b<w.heap.size):qw F' w w':=⟨a.size,λb d=>a.block b (r b d) (h b d)⟩
def qfV.on (h:qfV w0 b1 b2 S x F1 F2 w l1 l2) (m:ql w w'):qfV w0 b1 b2 S x F1 F2 w' l1 l2:=
 have z:=m.size
 ⟨h.more.trans m,h.d1.more ⟨z,λb d=>m.block b (h.r1 b d).2⟩,h.d2.more ⟨z,λb d=>m.block b (h.r2 b d).2⟩,λb d=>⟨(h.r1 b d).1,by have:=(h.r1 b d).2;omega⟩,λb d=>⟨(h.r2 b d).1,by have:=(h.r2 b d).2;omega⟩,h.dj,qq m h.bs,h.n1,h.n2⟩
def qfV.put1 (h:qfV w0 b1 b2 S x F1 F2 w l1 l2) {g:Nat} (a:jt (λb=>b∈F1) w w') (G:g∈F1∨w.heap.size<=g/\g<w'.heap.size) (H:Bd w0.heap.size (g::F1) w' b1 l1'):qfV w0 b1 b2 S x (g::F1) F2 w' l1' l2:=by
 have z:=a.size;have J:=h.more.size;have I:S<w.heap.size:=lt_of_block h.bs;refine⟨a.to_more h.more λb d=>(h.r1 b d).1,H,h.d2.more (qgA a (λb d k=>h.dj b k d) λb d=>(h.r2 b d).2),λb d=> ?_,λb d=>⟨(h.r2 b d).1,by have:=(h.r2 b d).2;omega⟩,λb d k=> ?_,a.blk h.bs h.n1,λk=> ?_,h.n2⟩
 ·rcases Ϟ.1 d with rfl | d
  ·rcases G with e | e
   ·exact⟨(h.r1 _ e).1,by have:=(h.r1 _ e).2;omega⟩
   ·exact⟨τ,e.2⟩
  ·exact⟨(h.r1 b d).1,by have:=(h.r1 b d).2;omega⟩
 ·rcases Ϟ.1 d with rfl | d
  ·rcases G with e | e
   ·exact h.dj _ e k
   ·have:=(h.r2 _ k).2;omega
  ·exact h.dj b d k
 ·rcases Ϟ.1 k with rfl | k
  ·rcases G with e | e
   ·exact h.n1 e
   ·omega
  ·exact h.n1 k
def qfV.flip (h:qfV w0 b1 b2 S x F1 F2 w l1 l2):qfV w0 b2 b1 S x F2 F1 w l2 l1:=⟨h.more,h.d2,h.d1,h.r2,h.r1,λb d k=>h.dj b k d,h.bs,h.n2,h.n1⟩
def qfV.put2 (h:qfV w0 b1 b2 S x F1 F2 w l1 l2) {g:Nat} (a:jt (λb=>b∈F2) w w') (G:g∈F2∨w.heap.size<=g/\g<w'.heap.size) (d:Bd w0.heap.size (g::F2) w' b2 l2'):qfV w0 b1 b2 S x F1 (g::F2) w' l1 l2':=(h.flip.put1 a G d).flip
end
def qgQ (L:List (List UInt8)):(L.map ofL).map (·.data.toList)=L:=by
 rw[G4]
 conv=>rhs;rw[<-List.map_id L]
 exact G9 λs _=>rfl
def qgX (d:Option Addr) (cap:Nat) (sep:ByteArray) (w:World):Calls prog 8 #[δ d 0 cap,.string sep] w λe w'=>e= .returned (.string ⟨#[]⟩)/\ql w w':=by
 go_enter func8,ntmps8
 go_wp2;go_ret;exact⟨rfl,ql.refl _⟩
def qg5 {d:Option Addr} {cap:Nat} (h:SlP 1 RTx w (δ d (L.map ofL).length cap) (L.map ofL)) (ag:L.length<=10000) (I:Lib.join L [32,32,32]=r) (ae:r.length<=1000000):
  Calls prog 8 #[δ d (L.map ofL).length cap,.string ⟨#[32,32,32]⟩] w λe w'=>e= .returned (.string ⟨r.toArray⟩)/\ql w w':=by
 cases L with
 | nil=>
  subst I;exact qgX d cap _ w
 | cons y L=>
  obtain⟨ah,ac,e,_,H,J,_⟩:=h;injection e with e1 e2 e3
  subst e1 e3;obtain⟨b,off,cs,rfl,N,_⟩:=H 0 η;refine qfp b off cap _ ⟨#[32,32,32]⟩ w (λj x aa=> ?_) N (by rw[ϱ];omega) J (by rw[qgQ];exact I) τ;obtain⟨U,rfl⟩:=ϣ.1 aa;obtain⟨ab,ai,cs',e,ad,af,O,Y⟩:=H j U;injection e with e
  injection e with ea eb
  subst ea eb;have G:=O 0 ζ;rw[show cs'=[.string _] from Y] at G
  simpa using G
def qgD {B:Nat} {b:Nat} (h:Bd B F w b l):
  Calls prog 11 #[γ b] w λe w'=>e= .returned (ι l.length)/\w'=w:=by
 obtain⟨_,_,p,v,_,d,G,_⟩:=h;obtain⟨H,I,rfl⟩:=xl G;have c1:w.cell? ⟨b,1,ϋ⟩=ϊ (δ H l.length I):=by rw[Lib.cell_of_heap d];rfl
 go_enter func11,ntmps11
 go_wp2;go_ret;exact⟨rfl,rfl⟩
def qgt {S:Nat->Prop} {p:Addr} (G:S p.block) (n:Nat):jt S w (w.freeze p n):=by
 unfold World.freeze;split
 ·exact jt.refl _ _
 ·exact⟨rfl,rfl,rfl,η,λk H d=>by
   simp only[F8]
   rw[Ϗ (λe:p.block=k=>d (e▸G))]⟩
def qg4 {B:Nat} {b:Nat} (h:Bd B F w b l) (G:l≠[]):
  Calls prog 12 #[γ b] w λe w'=>e= .returned (.string ⟨l.toArray⟩)/\jt (λx=>x∈F) w w':=by
 obtain⟨hF,af,p,v,al,H,d,ak,N⟩:=h;have aa:l.length≠0:=by simpa using G
 obtain⟨g,cap,cur,rfl,ai,J,aj,I,O,ab⟩: ∃g cap cur,v= δ (ϊ ⟨g,0,ϋ⟩) l.length cap/\B<=g/\w.heap[g]? =ϊ (.cells cur 5 (0,0))/\l.length<=cap/\cap<=maxLen/\cur.size=cap* 1/\cur.toList.take (l.length* 1)=Lib.byteCells l:=by
  rcases d.2 with ⟨_,ae⟩ | ⟨g,cap,cur,ac,r⟩
  ·exact ϧ ae aa
  ·exact⟨g,cap,cur,ac,r⟩
 have c1:w.drew.cell? ⟨b,1,ϋ⟩=ϊ (δ (ϊ ⟨g,0,ϋ⟩) l.length cap):=by
  have:w.drew.heap[b]? =ϊ (.cells #[p,δ (ϊ ⟨g,0,ϋ⟩) l.length cap] 26 (0,0)):=H;rw[Lib.cell_of_heap this];rfl
 have ag:(Builtin.unsafeSliceData_ #[24] 49 #[δ (ϊ ⟨g,0,ϋ⟩) l.length cap]).run prog w.drew= .ok (γ g) w.drew:=
  Lib.run_unsafeSliceData_row _ _ _ _ _ _ τ
 have ah:(Builtin.unsafeString_ #[49,3] 9 #[γ g,ι l.length]).run prog w.drew= .ok (.string ⟨l.toArray⟩) (w.drew.freeze ⟨g,0,ϋ⟩ l.length):=by
  refine Lib.run_unsafeString_row w.drew 49 3 9 5 underlying49 bldX.cellsByte g cur.size (by have U:w.drew.heap[g]? =ϊ (.cells cur 5 (0,0)):=J;simp[World.shape?,U]) l G τ (by unfold maxLen at I;omega) ?_;intro j x ad;have:=d.cells (g:=g) rfl j (υ x.toNat) (by simp[Lib.byteCells,ad]);exact this
 have Y:g∈F:=N g rfl;have A:jt (λx=>x∈F) w (w.drew.freeze ⟨g,0,ϋ⟩ l.length):=(jt.of_more (Below.drew (Below.refl _ w))).trans (qgt Y _);clear d N O ab I J H;have mixed:prog.follows .mixedOrders=ό:=by kernel_rfl
 go_enter func12,ntmps12
 go_wp2
 go_region_o
 all_goals (go_wp2;go_ret;exact⟨rfl,A⟩)
def qfV.dead {H w':World} {N J S:Nat} {x:Obj} {I G:List Nat} {l1 l2:List UInt8} (h:qfV H N J S x I G w l1 l2) (a:jt (λb=>b∈I) w w'):ql H w'/\Bd H.heap.size G w' J l2/\ ∀b∈G,b<w'.heap.size:=
 ⟨a.to_more h.more λb d=>(h.r1 b d).1,h.d2.more (qgA a (λb d k=>h.dj b k d) λb d=>(h.r2 b d).2),λb d=>ϗ (h.r2 b d).2 a.size⟩
def qfV.start {w1 W1 W2 J:World} {cs:Array Value} (G:w1.alloc (.cells #[π ϋ,()] 26)=W1) (H:W1.alloc (.cells #[π ϋ,()] 26)=W2) (Y:J=W2.alloc (.cells cs 9)):
  qfV w1 w1.heap.size W1.heap.size W2.heap.size (.cells cs 9 (0,0)) [w1.heap.size] [W1.heap.size] J [] []:=by
 subst Y;have s1:W1.heap.size=w1.heap.size+1:=by rw[<-G];simp
 have s2:W2.heap.size=w1.heap.size+2:=by rw[<-H];simp[s1]
 have aa:ql w1 W1:=by rw[<-G];exact ql.alloc _ _
 have N:ql W1 W2:=by rw[<-H];exact ql.alloc _ _
 have I:ql W2 (W2.alloc (.cells cs 9)):=ql.alloc _ _;have O:W1.heap[w1.heap.size]? =ϊ (.cells #[π ϋ,()] 26 (0,0)):=by rw[<-G];exact qj _ _
 have U:W2.heap[W1.heap.size]? =ϊ (.cells #[π ϋ,()] 26 (0,0)):=by rw[<-H];exact qj _ _
 have z4:=qn (qj W2 (.cells cs 9));refine⟨aa.trans (N.trans I),⟨η,ϔ _,_,_,ϑ rfl,qq (N.trans I) O,World.ownsRow_nil _ _ _ _,by simp[Value.ownBlock],λg h=>by cases h⟩,⟨η,τ,_,_,ϑ rfl,qq I U,World.ownsRow_nil _ _ _ _,by simp[Value.ownBlock],λg h=>by cases h⟩,λb d=> ?_,λb d=> ?_,λb d k=> ?_,qj _ _,λk=> ?_,λk=> ?_⟩
 ·simp at d;omega
 ·simp at d;omega
 ·simp at d k;omega
 ·simp at k;omega
 ·simp at k;omega
def qf8 (a:List UInt8) (w:World) {N:Int} (d:w.cell? ⟨OQ,0,ϋ⟩=ϊ (ι N)) (G:Lib.TabIs prog w N9 .u64 Lib.pow10Tab) (h:1000<a.length):
  Calls prog 3 #[.string ⟨a.toArray⟩] w λe w'=>e= .returned (μ ό)/\ql w w':=by
 have I:=κ (qdK w d G);have O:(1000:Int)<(a.length:Int):=by omega
 clear d G h
 go_enter func3,ntmps3
 go_wp2_with ((go_at_call 5;(go_call I.o as e w1 ⟨rfl,H⟩;have J:=κ H;clear H)))
 go_ret;exact⟨rfl,J.o⟩
def qgv (l:List UInt8) (I:l.length<=4000000000) {H:Int} (w:World) (d:w.cell? ⟨OQ,0,ϋ⟩=ϊ (ι H)) (G:(qg (ofL l)).length=n):
  Calls prog 6 #[.string ⟨l.toArray⟩,.string ⟨#[10]⟩] w λe w'=>e= .returned (δ (ϊ ⟨w.heap.size,0,ϋ⟩) n n)/\w'=w.alloc (.cells ((qg (ofL l)).map Value.string).toArray 9):=by
 have h:=So ⟨l.toArray⟩ ⟨#[10]⟩ w (by show (ofL l).size<_;rw[qbQ];omega) d ζ;rw[show Lib.splitB ⟨#[10]⟩ 0 (Lib.countB ⟨l.toArray⟩ ⟨#[10]⟩) ⟨l.toArray⟩=qg (ofL l) from rfl,show Lib.countB ⟨l.toArray⟩ ⟨#[10]⟩+1=n by rw[<-G,qcM];rfl] at h;exact h
def qgZ (l:List UInt8) (d:l.length<=100000) {I:Int} (w:World) (G:w.cell? ⟨OQ,0,ϋ⟩=ϊ (ι I)) (H:(qfP l).length=n):
  Calls prog 9 #[.string ⟨l.toArray⟩] w λe w'=>(∃oa cap,e= .returned (δ oa n cap)/\SlP 1 RTx w' (δ oa n cap) ((qfP l).map ofL))/\ql w w':=by
 have h:=qc7 ⟨l.toArray⟩ (by show (ofL l).size<=_;rw[qbQ];exact d) w G;rw[show qc ⟨l.toArray⟩=(qfP l).map ofL from qfX l,ϱ,H] at h;exact h
def qg2 (l:List UInt8) (I:l.length<=1000) (H:(qfP l).length=n) (d:Lib.join (qfP l) [32,32,32]=r) (w:World) (G:Option Addr) (cap:Nat) (h:SlP 1 RTx w (δ G n cap) ((qfP l).map ofL)):
  Calls prog 8 #[δ G n cap,.string ⟨#[32,32,32]⟩] w λe w'=>e= .returned (.string ⟨r.toArray⟩)/\ql w w':=by
 have k:=qf5 l;have q:=qgf l;rw[d] at k;have e:((qfP l).map ofL).length=n:=by rw[ϱ,H]
 subst e;exact qg5 h τ d τ
def qgC (H:a.length<=1000):1001* (qg (ofL a)).length+1700000* wtS ((qg (ofL a)).map qc)<=2000000000:=by
 have G:=qcQ a;have d:=qdv (ofL a);rw[qbQ] at d;omega
def qgI (H:a.length<=1000) (I:(qT (gt 10 a)).length<=3000):1001* (qg (ofL (qT (gt 10 a)))).length+1700000* wtS ((qg (ofL (qT (gt 10 a)))).map qc)<=2000000000:=by
 have G:=qgu a;have d:=qdv (ofL (qT (gt 10 a)));rw[qbQ] at d;have e:wtS (qfZ (qfY (qfU (gt 10 a)))++[[]])=wtS (qfU (gt 10 a))+0:=by rw[qcu,qf9];rfl
 rw[qf3 _ (qf1 a),e];omega
def qf4 (a:List UInt8) (w:World) {bx:Int} (al:w.cell? ⟨OQ,0,ϋ⟩=ϊ (ι bx)) (aM:Lib.TabIs prog w N9 .u64 Lib.pow10Tab) (bn:a.length<=1000):
  Calls prog 3 #[.string ⟨a.toArray⟩] w λe w'=>e= .returned (μ ό)/\ql w w':=by
 have aT:=κ (qdK w al aM);have ac:=κ (λw' (m:ql w w')=>show w'.cell? ⟨OQ,0,ϋ⟩=ϊ (ι bx) from by rw[m.cells _ _ (Gb al).2];exact al);have bN:=κ (λw' (m:ql w w')=>NK aM m);have cw: ¬(1000:Int)<(a.length:Int):=by omega
 have H:Hid (a.length<=1000):=κ bn;clear al aM bn
 go_enter func3,ntmps3
 go_upto_region 5 with ((go_at_call 5;(go_call aT.o as e w1 ⟨rfl,bq⟩;have I:=κ bq;clear bq)))
 obtain⟨W1,bl⟩:=ν (w1.alloc (.cells #[π ϋ,()] 26));obtain⟨W2,bm⟩:=ν (W1.alloc (.cells #[π ϋ,()] 26));obtain⟨L,Y⟩:=ν (gt 10 a);have bK:=κ Y;have bv:ql w1 W2:=by
  have cj:ql w1 W1:=by rw[<-bl];exact ql.alloc _ _
  have ck:ql W1 W2:=by rw[<-bm];exact ql.alloc _ _
  exact cj.trans ck
 have aw:=κ (qgv a (by have:=H.o;omega) W2 (ac.o _ (I.o.trans bv)) (n:=L.length) (by rw[BO,<-Y,ϱ];rfl));rw[show qg (ofL a)=L.map ofL by rw[BO,<-Y];rfl] at aw;have aZ:=κ (λ(aF:World) (ae:aF=W2.alloc (.cells ((L.map ofL).map Value.string).toArray 9))=>qfV.start bl bm ae);have ar:Hid (∀l∈L,l.length<=1000):=κ (λl h=>by rw[<-Y] at h;exact ϙ (qfd 10 a l h) H.o);have aq:Hid (L.length<=1001):=κ (by have:=qgR a;have:=H.o;rw[<-Y];omega);clear bv Y aT
 go_wp2_with ((go_at_call 6;(go_call aw.o as e aF ⟨rfl,ad⟩;have G:=κ (aZ.o aF ad);clear ad)))
 clear aw aZ
 go_loopw [24] (λO wr=> ∃j:Nat,j<=L.length/\O= ι j/\ ∃ao ap,qfV w1 w1.heap.size W1.heap.size W2.heap.size (.cells ((L.map ofL).map Value.string).toArray 9 (0,0)) ao ap wr (bT (L.take j)) (qT (L.take j))) (λO _=>L.length-(intOf O).toNat)
 case atStart=>exact⟨0,τ,rfl,_,_,G.o⟩
 case round=>
  obtain⟨j,bX,rfl,ao,ap,aa⟩:=hrel;clear G;have G:=κ aa;have bZ:=aq.o;by_cases hlt:j<L.length
  ·have bY:(j:Int)<(L.length:Int):=by omega
   have bh:wr.cell? ⟨W2.heap.size,j,ϋ⟩=ϊ (.string ⟨L[j].toArray⟩):=qa aa.bs j (by simp[ϖ hlt];rfl);have bo:=ar.o L[j] (ϥ hlt);obtain⟨cm,co⟩:=qgH ar.o aq.o j;have aI:=qgV L j hlt;have ak:=qgP L j hlt;have cd:=qf5 L[j];unfold qgp at aI;unfold chQ at ak;have az:=κ (λw' (m:ql w1 w')=>qgZ L[j] τ w' (ac.o _ (I.o.trans m)) rfl);have bJ:=κ (λ(w':World) (aO:Option Addr) (cap:Nat) (h:SlP 1 RTx w' (δ aO (qfP L[j]).length cap) ((qfP L[j]).map ofL))=>qg2 L[j] bo (n:=(qfP L[j]).length) rfl rfl w' aO cap h);have bp:qfP L[j]=[]↔(qfP L[j]).length=0:=List.length_eq_zero_iff.symm;simp only[bp] at ak;generalize (qfP L[j]).length=n at *;generalize Lib.join (qfP L[j]) [32,32,32]=r at *;generalize qfP L[j]=ws at *;generalize L[j]=l at *;have bD:=λw=>run_string_add_lists (P:=prog) w [32,32] r ζ τ
   have bE:=λw=>run_string_add_lists (P:=prog) w (32::32::r) [32,10,32,10] (by simp;omega) ζ
   have bF:=λw=>run_string_add_lists (P:=prog) w l [10,99,111,117,110,116,115,10,101,110,100,101,100,10] τ ζ
   have ba:Hid ((bT (L.take j)).length+(⟨(32::32::(r++[32,10,32,10])).toArray⟩:ByteArray).size<=100000000000/\(qT (L.take j)).length+(⟨(l++[10,99,111,117,110,116,115,10,101,110,100,101,100,10]).toArray⟩:ByteArray).size<=100000000000):=κ ⟨by show _+(32::32::(r++[32,10,32,10])).length<=_;simp only[ώ,Ϙ,Ϣ];omega,by show _+(l++[10,99,111,117,110,116,115,10,101,110,100,101,100,10]).length<=_;simp only[ώ,Ϙ,Ϣ];omega⟩;have bI:=κ aI;have aV:=κ ak;clear aa bo cm co aI ak cd bp
   go_upto_region 10 with (first | (go_at_call 9;(go_call az.o _ G.o.more as e w4 ⟨⟨aO,cap,rfl,bB⟩,bw⟩;have bd:=κ (G.o.on bw);have aU:=κ (bJ.o _ _ _ bB);clear bB bw)) | (go_at_call 8;(go_call aU.o as e w5 ⟨rfl,af⟩;have d:=κ (bd.o.on af);clear af)) | (go_at_call 7;(go_call qay d.o.d1 ⟨(32::32::(r++[32,10,32,10])).toArray⟩ ba.o.1 as e w6 ⟨rfl,bf,bS,bz,bi⟩;have ah:Hid (qfV w1 w1.heap.size W1.heap.size W2.heap.size (.cells ((L.map ofL).map Value.string).toArray 9 (0,0)) (bS::ao) ap w6 (bT (L.take (j+1))) (qT (L.take j))):=κ (by rw[bI.o];exact d.o.put1 bf bz bi);clear bf bz bi)))
   clear G bd aU d bh bD bE;by_cases N:n=0
   ·have cg: ¬(0:Int)<(n:Int):=by omega
    have au:Hid (qT (L.take (j+1))=qT (L.take j)):=κ (by have:=aV.o;rw[ϓ N,Θ] at this;exact this);clear bF N
    go_wp2_with ((go_at_call 9;(go_call az.o _ ah.o.more as e w7 ⟨⟨ci,bR,rfl,aP⟩,ag⟩;have ai:=κ (ah.o.on ag);clear aP ag)))
    go_roundw
    case rel=>exact⟨j+1,τ,by go_num,_,_,by rw[au.o];exact ai.o⟩
    case measure=>simp[intOf];omega
   ·have cg:(0:Int)<(n:Int):=by omega
    have au:Hid (qT (L.take (j+1))=qT (L.take j)++(l++[10,99,111,117,110,116,115,10,101,110,100,101,100,10])):=κ (by have:=aV.o;rw[Ϗ N] at this;exact this);clear N
    go_wp2_with (first | (go_at_call 9;(go_call az.o _ ah.o.more as e w7 ⟨⟨ci,bR,rfl,aP⟩,ag⟩;have ai:=κ (ah.o.on ag);clear aP ag)) | (go_at_call 7;(go_call qay ai.o.d2 ⟨(l++[10,99,111,117,110,116,115,10,101,110,100,101,100,10]).toArray⟩ ba.o.2 as e w8 ⟨rfl,bg,cp,bA,bj⟩;have bQ:=κ (ai.o.put2 bg bA bj);clear bg bA bj)))
    go_roundw
    case rel=>exact⟨j+1,τ,by go_num,_,_,by rw[au.o];exact bQ.o⟩
    case measure=>simp[intOf];omega
  ·obtain rfl:j=L.length:=by omega
   have bY: ¬((L.length:Nat):Int)<(L.length:Int):=by omega
   rw[Ϩ] at aa;clear G bX hlt;have G:=κ aa;clear aa ar aq bZ;have U: ∀T:List UInt8,T.length<=3000->okL ((qg (ofL T)).map qc)-> ∀w',ql w1 w'->Calls prog 10 #[.string ⟨T.toArray⟩] w' λe w''=>e= .returned (.tuple #[.string ⟨(qbZ (ofL T)).toArray⟩,ι 0])/\ql w' w''/\(qbZ (ofL T)).length<=1001* (qg (ofL T)).length+1700000* wtS ((qg (ofL T)).map qc):=λT bU cc w' m=>
    qeZ (ofL T) (by rw[qbQ];exact bU) cc w' (ac.o _ (I.o.trans m)) (bN.o _ (I.o.trans m))
   have aW:=κ (U a (by have:=H.o;omega) (qfL H.o))
   go_upto_region 14 with ((go_at_call 10;(go_call aW.o _ G.o.more as e w5 ⟨rfl,af,z5⟩;have d:=κ (G.o.on af);have aj:=κ z5;clear af z5)))
   clear G aW;by_cases hb3:3000<(bT L).length
   ·have cf:(3000:Int)<((bT L).length:Int):=by omega
    clear hb3 U aj
    go_wp2_with ((go_at_call 11;(go_call qgD d.o.d1 as e w6 ⟨rfl,rfl⟩)))
    go_ret;exact⟨rfl,I.o.trans d.o.more⟩
   ·have cf: ¬(3000:Int)<((bT L).length:Int):=by omega
    by_cases hq3:3000<(qT L).length
    ·have ch:(3000:Int)<((qT L).length:Int):=by omega
     clear hb3 hq3 U aj
     go_wp2_with (first | (go_at_call 11;((with_reducible refine(qgD d.o.d1).mono ?_);rintro e w6 ⟨rfl,rfl⟩)) | (go_at_call 11;((with_reducible refine(qgD d.o.d2).mono ?_);rintro e w7 ⟨rfl,rfl⟩)))
     go_ret;exact⟨rfl,I.o.trans d.o.more⟩
    ·have ch: ¬(3000:Int)<((qT L).length:Int):=by omega
     have J:=bK.o;have av:=κ (U (bT L) τ (by rw[<-J];exact qg7 H.o));have aX:=κ (U (qT L) τ (by rw[<-J];exact qg6 H.o));have bk:qbZ (ofL (bT L))=qbZ (ofL a):=by rw[<-J];exact qg1 a
     obtain⟨t1,t2,t3⟩:=qgy a;have aA:Hid ((qbZ (ofL a)).length<=4000000000):=κ (by have:=aj.o;have:=qgC H.o;omega);have bb:Hid (1001* (qg (ofL (qT L))).length+1700000* wtS ((qg (ofL (qT L))).map qc)<=4000000000):=κ (by have:=qgI H.o (by rw[J];omega);rw[J] at this;omega);have aY:=κ (qg4 d.o.d1 (by rw[<-J];exact qg3 a));rw[bk] at av;rw[J] at t1 t3;generalize qbZ (ofL a)=X at *;generalize qbZ (ofL (qT L))=Z at *;have ax:=κ (λw' (m:ql w1 w')=>qgv X aA.o w' (ac.o _ (I.o.trans m)) rfl);have ay:=κ (λw' (m:ql w1 w') (hz:Z.length<=4000000000)=>qgv Z hz w' (ac.o _ (I.o.trans m)) rfl);have bM:Hid ((qg (ofL X)).length<=X.length+1):=κ (by have:=qdv (ofL X);rw[qbQ] at this;exact this);generalize qg (ofL X)=own at *;generalize qg (ofL Z)=all at *;obtain⟨n,N⟩: ∃n,own.length=n+1:=⟨own.length-1,τ⟩;have aJ:all.length=3* n+1:=by omega
     have cv:n<=4000000000:=by have:=bM.o;have:=aA.o;omega
     have bL:Hid (own.length=n+1/\all.length=3* n+1):=κ ⟨N,aJ⟩;have bO:=κ t3;rw[N] at ax;rw[aJ] at ay;have cy:(0:Int)<=(n:Int):=by omega
     have cz:(n:Int)<=(n:Int)+1:=by omega
     have cx:3* ((n:Int)+1)-2=3* (n:Int)+1:=by omega
     clear J t1 t2 t3 N aJ hb3 hq3 U bk aj
     go_wp2_with (first | (go_at_call 11;((with_reducible refine(qgD d.o.d1).mono ?_);rintro e w6 ⟨rfl,rfl⟩)) | (go_at_call 11;((with_reducible refine(qgD d.o.d2).mono ?_);rintro e w7 ⟨rfl,rfl⟩)) | (go_at_call 12;((with_reducible refine(aY.o).mono ?_);rintro e w9 ⟨rfl,a9⟩;have ab:=κ (d.o.dead a9);clear a9 aY)) | (go_at_call 10;((with_reducible refine(av.o _ ab.o.1).mono ?_);rintro e w10 ⟨rfl,am,cn⟩;have aB:=κ (ab.o.1.trans am);have aS:=κ (ab.o.2.1.more (w':=w10) ⟨am.size,λb bV=>am.block b (ab.o.2.2 b bV)⟩);clear am cn av)) | (go_at_call 12;((with_reducible refine(Ts w1.heap.size W1.heap.size (qT L) w10 aS.o.is aB.o.size).mono ?_);rintro e cl ⟨rfl,br⟩;have aC:Hid (ql w1 cl):=κ (Below.trans aB.o br);clear br)) | (go_at_call 10;((with_reducible refine(aX.o _ aC.o).mono ?_);rintro e aQ ⟨rfl,bt,bC⟩;have aD:=κ (aC.o.trans bt);have be:=κ (ϙ bC bb.o);clear bt bC aX)) | (go_at_call 6;((with_reducible refine(ax.o _ aD.o).mono ?_);rintro e w13 ⟨rfl,aG⟩;have bu:ql aQ w13:=(by rw[aG];exact ql.alloc _ _);have aE:=κ (aD.o.trans bu);have aR:Hid (w13.heap[aQ.heap.size]? =ϊ (.cells (own.map Value.string).toArray 9 (0,0))):=κ (by rw[aG];exact qj _ _);clear aG bu ax)) | (go_at_call 6;((with_reducible refine(ay.o _ aE.o be.o).mono ?_);rintro e w14 ⟨rfl,aH⟩;have aN:ql w13 w14:=(by rw[aH];exact ql.alloc _ _);have bP:=κ (aE.o.trans aN);have bG:Hid (w14.heap[w13.heap.size]? =ϊ (.cells (all.map Value.string).toArray 9 (0,0))):=κ (by rw[aH];exact qj _ _);have bH:=κ (qq aN aR.o);clear aH aN ay)))
     clear aR aE be aD aC aS aB ab aA bb d
     go_loopw [90] (λO wr=> ∃i:Nat,i<=n/\O= ι i/\ql w14 wr) (λO _=>n-(intOf O).toNat)
     case atStart=>exact⟨0,τ,rfl,ql.refl _⟩
     case round=>
      obtain⟨i,hi,rfl,an⟩:=hrel;have bc:=κ an;by_cases hlt:i<n
      ·have bW:(i:Int)<(n:Int):=by omega
       obtain⟨ca,cb⟩:=bL.o;have aK:i<own.length:=by omega
       have aL:3* i<all.length:=by omega
       have ae:=bO.o i τ;rw[ϖ aK,ϖ aL] at ae;have ad:=I8 ae;have bh:wr.cell? ⟨aQ.heap.size,i,ϋ⟩=ϊ (.string own[i]):=qa (qq an bH.o) i (by simp[ϖ aK]);have c1:wr.cell? ⟨w13.heap.size,3* i,ϋ⟩=ϊ (.string own[i]):=qa (qq an bG.o) (3* i) (by rw[<-ad];simp[ϖ aL]);have cq:decide (3* (n:Int)+1<=3* (i:Int))=ύ:=ϯ τ;have cr:(3* (i:Int)).toNat=3* i:=by omega
       have ct:3* (i:Int)<3* (n:Int)+1:=by omega
       have cu:(0:Int)<=3* (i:Int):=by omega
       generalize own[i]=t at *;clear ca cb aK aL ae ad an;go_wp2;have ce:IntKind.i64.wrap (3* (i:Int))=3* (i:Int):=IntWalk.i64_in _ τ
       go_quiet (fail)
       clear ce;go_wp2;go_roundw
       case rel=>exact⟨i+1,τ,by go_num,bc.o.trans (ql.drewN _ _)⟩
       case measure=>simp[intOf];omega
      ·have bW: ¬(i:Int)<(n:Int):=by omega
       go_wp2;go_ret;exact⟨rfl,(I.o.trans bP.o).trans bc.o⟩
def qf7 (s0:ByteArray) (w:World) {H:Int} (d:w.cell? ⟨OQ,0,ϋ⟩=ϊ (ι H)) (G:Lib.TabIs prog w N9 .u64 Lib.pow10Tab):
  Calls prog 3 #[.string s0] w λe w'=>e= .returned (μ ό)/\ql w w':=by
 rw[<-qds s0];by_cases h1:1000<s0.data.toList.length
 ·exact qf8 _ w d G h1
 ·exact qf4 _ w d G τ
end Go.Proofs.YtmgaiiffmheabaaGreatDoor
